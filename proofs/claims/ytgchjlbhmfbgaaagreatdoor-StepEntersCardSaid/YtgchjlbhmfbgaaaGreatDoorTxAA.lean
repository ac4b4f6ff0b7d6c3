/- Contracts of functions without a body that lay new memory: internal/bytealg.MakeNoZero. -/
import Derived.Test.YtgchjlbhmfbgaaaGreatDoorTxU
import Derived.Lib.MakeNoZero
namespace Go.TX
set_option linter.unusedSectionVars false
variable [Globals]
variable {P:Program}
theorem good_extern_new {f:FuncId}{fn:Func}{e:Array Value→Sem Value}(hf:P.funcs[f]? =some fn)(hname:(fn.name== "runtime.NumGoroutine")=false)(hb:fn.body.isNone=true)(hn:Extern.findNext fn=none)(he:Extern.find fn=some e)
  {sp:Spec} (hs: ∀(α:Type) (args:List AV) (H:Heap) (k:Kont α) (r:α),sp α args H k=some r→
   ∃v H',k v H'=some r∧ ∀c vs,RepL c args vs→HRel c H.at→Fresh c H.length→SemRes P (e vs.toArray) c H v H'):Good P f sp:=fun α args H k r hr=>by
 obtain⟨v,H',h1,h2⟩:=hs α args H k r hr
 refine⟨v,H',h1,fun c vs hv hh hfr o a next Q hk=> ?_⟩
 obtain⟨v',c',h3,h4,h5,h6,h7,h8⟩:=h2 c vs hv hh hfr
 rw[run_callFunc_extern hf hname hb hn he,h3]
 exact hk v' c' h4 h5 h6 h7 h8
def mkNoZero_sp:Spec:=fun _ args H k=>
 match args with
 |[.lit (.int .i64 n)]=>cond (decide (1≤n∧n≤(mostLen:Int))) (k (.msl H.length 0 n.toNat) (H++[.raw (.int .u8) [] n.toNat])) none
 |_=>none
theorem digits_u8: ∀(n t:Nat) (acc:Array Value),(∀ v∈acc.toList,∃ x,v= .int .u8 x)→ ∀v∈(Extern.BytealgMakeNoZero.digits n t acc).toList,∃ x,v= .int .u8 x
 |0,_,_,h=>h
 |n+1,t,acc,h=>by
  rw[Extern.BytealgMakeNoZero.digits]
  refine digits_u8 n _ _ fun v hv=> ?_
  simp only[Array.toList_push,List.mem_append,List.mem_singleton] at hv
  rcases hv with hv|rfl
  ·exact h v hv
  ·exact⟨_,rfl⟩
theorem mkNoZero_run (w:World)(ps:Array TypeId)(t e:TypeId)(ht:P.underlying t=some (.slice e))(n:Nat)(hn:n≤281474976710656):
  ∃cs:Array Value,(Extern.BytealgMakeNoZero.makeNoZero ps #[t] #[.int .i64 n]).run P w= .ok (.slice (some ⟨w.heap.size,0,none⟩) n cs.size) (w.drew.drew.alloc (.cells cs e))∧n≤cs.size∧ ∀v∈cs.toList,∃ x,v= .int .u8 x:=by
 refine⟨Extern.BytealgMakeNoZero.digits (grownCap w n 0 e) ((Question.extern "internal/bytealg.MakeNoZero.bytes" 0).cut (w.tape (w.drawn+1) (.extern "internal/bytealg.MakeNoZero.bytes" 0))) #[], ?_, ?_, ?_⟩
 ·have h1: ¬(n:Int)<0:=by omega
  have h2: ¬(281474976710656:Int)<(n:Int):=by omega
  change ((underlying t:Sem TypeDesc) >>= _).run P w=_
  simp[run_underlying ht,h1,h2,Question.forced,newRow,Lib.size_digits,grownCap]
 ·rw[Lib.size_digits]
  simpa using grownCap_ge w n 0 e
 ·exact digits_u8 _ _ _ fun v hv=>by simp at hv
theorem mkNoZero_good {f:FuncId}{fn:Func}{t e:TypeId}{ps:Array TypeId}(hf:P.funcs[f]? =some fn)(hname:(fn.name== "runtime.NumGoroutine")=false)(hb:fn.body.isNone=true)(hn:Extern.findNext fn=none)
  (he:Extern.find fn=some (Extern.BytealgMakeNoZero.makeNoZero ps #[t])) (ht:P.underlying t=some (.slice e)):Good P f mkNoZero_sp:=
 good_extern_new hf hname hb hn he fun α args H k r h=>by
  unfold mkNoZero_sp at h
  split at h
  case h_2=>cases h
  rename_i n
  obtain⟨hb,h⟩:=cond_none h
  obtain⟨b1,b2⟩:=of_decide_eq_true hb
  have b2:n≤2147483648:=b2
  refine⟨_,_,h, ?_⟩
  rintro c vs ⟨_,_,rfl,rfl,h4⟩ hh hfr
  have h4:_=[]:=h4
  subst h4
  obtain⟨m,rfl⟩: ∃m:Nat,n=m:=⟨n.toNat,by omega⟩
  obtain⟨cs,g1,g2,g3⟩:=mkNoZero_run (P:=P) c.w ps t e ht m (by omega)
  obtain⟨hh1,st1,sy1⟩:=drew_rel hh
  obtain⟨hh2,st2,sy2⟩:=drew_rel hh1
  have hf2:Fresh (drewC (drewC c)) H.length:=hfr
  
  have hx: ∀i:Nat,∃ x:Int,i<cs.size→cs[i]? =some (.int .u8 x):=fun i=>by
   by_cases hi:i<cs.size
   ·obtain⟨x,hx⟩:=g3 cs[i] (by simp)
    exact⟨x,fun _=>by rw[Array.getElem?_eq_getElem hi,hx]⟩
   ·exact⟨0,fun h=>absurd h hi⟩
  let x:Nat→Int:=fun i=>(hx i).choose
  have hxs: ∀i,i<cs.size→cs[i]? =some (.int .u8 (x i)):=fun i=>(hx i).choose_spec
  obtain⟨q1,q2,q3,q4⟩:=move_alloc hh2 hf2 (.cells cs e) (.raw (.int .u8) [] m) 0 1 m cs.size (fun hl=>by
   refine⟨(List.range m).map x,by simp, .inr ⟨c.w.heap.size,0,cs,e,(0,0), ?_, ?_,noFz0 _,fun j hj=> ?_⟩⟩
   ·show upd _ _ _ _=_
    rw[upd_eq];simp[Sh.width];rfl
   ·show(c.w.heap.push _)[_]? =_;simp
   ·simp only[List.nil_append,List.length_map,List.length_range] at hj
    refine⟨[.int .u8 (x j)], ?_,rfl,fun q hq=> ?_⟩
    ·simp only[List.nil_append,List.getElem_map,List.getElem_range]
     rfl
    ·have hq0:q=0:=by have:q<1:=hq;omega
     subst hq0
     show cs[0+j*1+0]? =_
     rw[Nat.zero_add,Nat.mul_one,Nat.add_zero,hxs j (by omega)]
     rfl)
  have hw:Int.toNat (m:Int)=m:=rfl
  refine⟨_,_,g1, ?_,q1,q4,(st1.trans st2).trans q2,(sy1.trans sy2).trans q3⟩
  refine .inr ⟨c.w.heap.size,0,1,m,_,cs.size,upd_eq,by simp,g2,by simp,by simp⟩
end Go.TX
