/- Contracts of functions without a body that the program calls. -/
import Derived.Test.YtgchjlbhmfbgaaaGreatDoorTxT
namespace Go.TX
set_option linter.unusedSectionVars false
variable [Globals]
variable {P:Program}
def add64_sp:Spec:=fun _ args H k=>
 match args with
 |[.lit (.int .u64 x), .lit (.int .u64 y), .lit (.int .u64 c)]=>
  cond (decide (0≤x∧0≤y∧0≤c∧c≤1)) (k (.tup [.lit (.int .u64 ((x+y+c)%18446744073709551616)), .lit (.int .u64 ((x+y+c)/18446744073709551616))]) H) none
 |_=>none
def add64_e:Array Value→Sem Value:=fun args=>do
 let(x,y,c) ←Extern.MathBitsCarry.three "Add64" args
 pure (Extern.MathBitsCarry.pair ((x+y+c)%Extern.MathBitsCarry.m64) ((x+y+c)/Extern.MathBitsCarry.m64))
theorem add64_three (k1 k2 k3:IntKind)(x y c:Int)(h: ¬c.toNat>1):Extern.MathBitsCarry.three "Add64" #[.int k1 x, .int k2 y, .int k3 c]=pure (x.toNat,y.toNat,c.toNat):=by
 show(do
  if c.toNat>1 then
   unsupported (.noEntry ("extern/math/bits." ++ "Add64" ++ ": a carry that is neither 0 nor 1"))
  pure (x.toNat,y.toNat,c.toNat):Sem (Nat×Nat×Nat))=_
 rw[if_neg h]
theorem add64_run (x y c:Int)(hx:0≤x)(hy:0≤y)(hc:0≤c)(hc1:c≤1)(w:World):(add64_e #[.int .u64 x, .int .u64 y, .int .u64 c]).run P w=
  .ok (.tuple #[.int .u64 ((x+y+c)%18446744073709551616), .int .u64 ((x+y+c)/18446744073709551616)]) w:=by
 unfold add64_e
 rw[add64_three _ _ _ _ _ _ (by omega)]
 show Result.ok (Extern.MathBitsCarry.pair ((x.toNat+y.toNat+c.toNat)%18446744073709551616) ((x.toNat+y.toNat+c.toNat)/18446744073709551616)) w=_
 unfold Extern.MathBitsCarry.pair
 have h1:((((x.toNat+y.toNat+c.toNat)%18446744073709551616:Nat)):Int)=(x+y+c)%18446744073709551616:=by omega
 have h2:((((x.toNat+y.toNat+c.toNat)/18446744073709551616:Nat)):Int)=(x+y+c)/18446744073709551616:=by omega
 rw[← h1,← h2]
 rfl
theorem add64_good {f:FuncId}{fn:Func}(hf:P.funcs[f]? =some fn)(hname:(fn.name== "runtime.NumGoroutine")=false)(hb:fn.body.isNone=true)(hn:Extern.findNext fn=none)(he:Extern.find fn=some add64_e):Good P f add64_sp:=
 good_extern hf hname hb hn he fun α args H k r h=>by
  unfold add64_sp at h
  split at h
  ·rename_i x y c
   rcases cond_some h with ⟨hb,h⟩|⟨_,h⟩
   ·refine⟨_,h, ?_⟩
    have hb:=of_decide_eq_true hb
    rintro cx vs ⟨_,_,rfl,rfl,_,_,rfl,rfl,_,_,rfl,rfl,h4⟩
    have h4:_=[]:=h4
    subst h4
    exact⟨_,add64_run x y c hb.1 hb.2.1 hb.2.2.1 hb.2.2.2 _,_,rfl, .cons rfl (.cons rfl .nil)⟩
   ·cases h
  ·cases h
end Go.TX
