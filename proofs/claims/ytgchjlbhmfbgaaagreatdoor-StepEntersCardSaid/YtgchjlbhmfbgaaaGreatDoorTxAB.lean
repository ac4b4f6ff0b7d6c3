/- Shorter forms: a function, a piece of code, a loop in one step each. -/
import Derived.Test.YtgchjlbhmfbgaaaGreatDoorTxW
namespace Go.TX
set_option linter.unusedSectionVars false
variable [Globals]
variable {P:Program}
theorem tre {α:Type}{a b c:α}(h2:b=c)(h1:a=b):a=c:=h1.trans h2
theorem gf {E:Env}(hE:E.OK P)(hmix:P.follows .mixedOrders=true){f:FuncId}{fn:Func}{code:Code}(hf:P.funcs[f]? =some fn)(hb:fn.body=some code)(hname:(fn.name== "runtime.NumGoroutine")=false)
  (own:Bool) {A:List SD} {Hs:List HD} {sp:(α:Type)→DenS A→DenH Hs→Kont α→Option α} {h:Hints} (hh:h.OK P code) (fuel:Nat) (hn:h.n0=Hs.length)
  (hs: ∀(α:Type) (a:DenS A) (m:DenH Hs) (k:Kont α),evFun P E h own fn code fuel (mkS A a) (mkH Hs m) k=sp α a m k):Good P f (specD A Hs sp):=
 good_form hE hmix hf hb hname own fun α a m k r hr=>⟨h,fuel,hh,hn,(hs α a m k).trans hr⟩
theorem gw {E:Env}(hE:E.OK P)(hmix:P.follows .mixedOrders=true){f:FuncId}{fn:Func}{code:Code}(hf:P.funcs[f]? =some fn)(hb:fn.body=some code)(hname:(fn.name== "runtime.NumGoroutine")=false)
  (own:Bool) {A:List SD} {Hs:List HD} {sp:(α:Type)→DenS A→DenH Hs→Kont α→Option α} {h:Hints} (hh:h.OK P code) (fuel:Nat) (hn:h.n0=Hs.length)
  (hs: ∀(α:Type) (a:DenS A) (m:DenH Hs) (k:Kont α),evFun P E h own fn code fuel (mkS A a) (mkH Hs m) (fun v H=>k (weakF v) H)=sp α a m k):Good P f (specD A Hs sp):=
 good_form_weak hE hmix hf hb hname own h fuel hh hn fun α a m k _ hr=>(hs α a m k).trans hr
def cS {D X:Type}(n0:Nat)(N:Norm)(A:List SD)(Hs:List HD)(toD:DenS A→DenH Hs→D)(M:D→Option X)(f:(β:Type)→D→X→(Exit→St→β)→β):CSpec:=fun α st k=>
 reNorm n0 N A Hs st fun a m=>outOf (M (toD a m)) fun x=>f (Option α) (toD a m) x k
theorem onc {E:Env}(hE:E.OK P)(hmix:P.follows .mixedOrders=true){root:Code}{h:Hints}(hh:h.OK P root){p:List Nat}(hp:codeAt root p=some ((codeAt root p).getD .skip)){N:Norm}(Nx:Exit→Norm){A:List SD}{Hs:List HD}
  {D X:Type} {toD:DenS A→DenH Hs→D} (ofA:D→DenS A) (ofH:D→DenH Hs) (hA: ∀a m,ofA (toD a m)=a) (hH: ∀a m,ofH (toD a m)=m) {M:D→Option X} {f:(β:Type)→D→X→(Exit→St→β)→β}
  (hn: ∀d x (β:Type) (k:Exit→St→β),f β d x k=k (f (Exit×St) d x Prod.mk).1 (f (Exit×St) d x Prod.mk).2) (fuel:Nat)
  (hev: ∀(α:Type) (d:D) (k:Exit→St→Option α),
   ev P E h fuel p ((codeAt root p).getD .skip) ⟨mkS A (ofA d),mkH Hs (ofH d)⟩ (exitN h.n0 Nx k)=outOf (M d) fun x=>f (Option α) d x k):
  (h.add p (cS h.n0 N A Hs toD M f)).OK P root:=
 hh.add hp ((SumOK.once hE hmix hh hp (N:=N) hA hH (M:=M) (fin:=fun d x=>f (Exit×St) d x Prod.mk) fuel fun α d k=>(hev α d k).trans (outOf_congr fun x=>hn d x _ k)).mono fun α st k r hr=>by
  refine Eq.trans (congrArg (reNorm h.n0 N A Hs st) ?_) hr
  funext a m
  exact outOf_congr fun x=>(hn _ x _ k).symm)
theorem PassOf_congr {α D X:Type}{v:Option (D ⊕ X)}{next:D→Option α}{f g:X→Option α}(h: ∀x,f x=g x):PassOf v next f=PassOf v next g:=by
 match v with
 |none=>rfl
 |some (.inl _)=>rfl
 |some (.inr x)=>exact h x
theorem lop {E:Env}(hE:E.OK P)(hmix:P.follows .mixedOrders=true){root:Code}{h:Hints}(hh:h.OK P root){p:List Nat}(hp:codeAt root p=some (.loop ((codeAt root (0::p)).getD .skip))){N:Norm}(Nx:Exit→Norm){A:List SD}{Hs:List HD}
  {D X:Type} {toD:DenS A→DenH Hs→D} (ofA:D→DenS A) (ofH:D→DenH Hs) (hA: ∀a m,ofA (toD a m)=a) (hH: ∀a m,ofH (toD a m)=m) (pass:D→Option (D ⊕ X)) {f:(β:Type)→X→(Exit→St→β)→β}
  (hn: ∀x (β:Type) (k:Exit→St→β),f β x k=k (f (Exit×St) x Prod.mk).1 (f (Exit×St) x Prod.mk).2) (fuel:Nat)
  (hev: ∀(α:Type) (d:D) (next:D→Option α) (k:Exit→St→Option α),
   ev P E h fuel (0::p) ((codeAt root (0::p)).getD .skip) ⟨mkS A (ofA d),mkH Hs (ofH d)⟩ (passK h.n0 N A Hs Nx (fun a m=>next (toD a m)) k)=PassOf (pass d) next fun x=>f (Option α) x k):
  (h.add p (cS h.n0 N A Hs toD (runs pass) fun β _=>f β)).OK P root:=
 hh.add hp ((SumOK.loop hE hmix hh hp hA hH (pass:=pass) (fin:=fun x=>f (Exit×St) x Prod.mk) fuel (fun α d next k=>(hev α d next k).trans (PassOf_congr fun x=>hn x _ k)) (steps pass)).mono fun α st k r hr=>by
  refine Eq.trans (congrArg (reNorm h.n0 N A Hs st) ?_) hr
  funext a m
  exact outOf_congr fun x=>(hn x _ k).symm)
def an:Nat→List SD→List SD
 |0,l=>l
 |n+1,l=> .any::an n l
def av:Nat→List AV→List AV
 |0,l=>l
 |n+1,l=> .any::av n l
def un {l:List SD}:(n:Nat)→DenS l→DenS (an n l)
 |0,d=>d
 |n+1,d=>((),un n d)
theorem tN {α X:Type}{Y Z:Option α}{b:Bool}{v w:Option X}{k:X→Option α}(h1:Tr Y v k)(h2:Tr Z w k):Tr (cond b Y Z) (cond b v w) k:=Tr.nd h1 h2
theorem tL {α X:Type}{x:X}{k:X→Option α}:Tr (k x) (some x) k:=rfl
theorem tO {α X:Type}{k:X→Option α}:Tr none none k:=rfl
theorem tB {α X W:Type}{r:Option W}{Y:W→Option α}{v:W→Option X}{k:X→Option α}(h: ∀x,Tr (Y x) (v x) k):Tr (outOf r Y) (outOf r v) k:=Tr.bd h
theorem tC {α X A B:Type}{s:A ⊕ B}{Y:A→Option α}{Z:B→Option α}{v:A→Option X}{w:B→Option X}{k:X→Option α}(h1: ∀x,Tr (Y x) (v x) k)(h2: ∀x,Tr (Z x) (w x) k):Tr (sumOf s Y Z) (sumOf s v w) k:=Tr.cs h1 h2
theorem pN {α D X:Type}{Y Z:Option α}{b:Bool}{v w:Option (D ⊕ X)}{next:D→Option α}{out:X→Option α}(h1:Ps Y v next out)(h2:Ps Z w next out):Ps (cond b Y Z) (cond b v w) next out:=Ps.nd h1 h2
theorem pX {α D X:Type}{d:D}{next:D→Option α}{out:X→Option α}:Ps (next d) (some (.inl d)) next out:=rfl
theorem pU {α D X:Type}{x:X}{next:D→Option α}{out:X→Option α}:Ps (out x) (some (.inr x)) next out:=rfl
theorem pO {α D X:Type}{next:D→Option α}{out:X→Option α}:Ps none none next out:=rfl
theorem pB {α D X W:Type}{r:Option W}{Y:W→Option α}{v:W→Option (D ⊕ X)}{next:D→Option α}{out:X→Option α}(h: ∀x,Ps (Y x) (v x) next out):Ps (outOf r Y) (outOf r v) next out:=Ps.bd h
theorem pC {α D X A B:Type}{s:A ⊕ B}{Y:A→Option α}{Z:B→Option α}{v:A→Option (D ⊕ X)}{w:B→Option (D ⊕ X)}{next:D→Option α}{out:X→Option α}(h1: ∀x,Ps (Y x) (v x) next out)(h2: ∀x,Ps (Z x) (w x) next out):
  Ps (sumOf s Y Z) (sumOf s v w) next out:=Ps.cs h1 h2
def orE {X:Type}(x y:Option X):Option X:=match x with|some v=>some v|none=>y
theorem orE_out {α X:Type}{x y:Option X}{f:X→Option α}{r:α}(h:outOf (orE x y) f=some r):outOf x f=some r∨outOf y f=some r:=by
 unfold orE at h
 cases x with
 |none=>exact .inr h
 |some v=>exact .inl h
theorem Good.orD {f:FuncId}{A:List SD}{Hs:List HD}{b b1 b2:(α:Type)→DenS A→DenH Hs→Kont α→Option α}(h1:Good P f (specD A Hs b1))(h2:Good P f (specD A Hs b2))
  (h: ∀(α:Type) (a:DenS A) (m:DenH Hs) (k:Kont α) (r:α),b α a m k=some r→b1 α a m k=some r∨b2 α a m k=some r):Good P f (specD A Hs b):=fun α args H k r hr=>by
 unfold specD at hr
 split at hr
 ·cases hr
 rename_i a ha
 split at hr
 ·cases hr
 rename_i m hm
 rcases h α a m k r hr with h|h
 ·exact h1 α args H k r (by unfold specD;rw[ha];simp only;rw[hm];exact h)
 ·exact h2 α args H k r (by unfold specD;rw[ha];simp only;rw[hm];exact h)
end Go.TX
