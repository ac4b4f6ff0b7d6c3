/- Trees of results: what an evaluation comes to, written once, with its continuation left open; summaries of pieces of code where branches come together. -/
import Derived.Test.YtgchjlbhmfbgaaaGreatDoorTxV
namespace Go.TX
set_option linter.unusedSectionVars false
variable [Globals]
variable {P:Program}
def sumOf {A B C:Type}(s:A ⊕ B)(f:A→C)(g:B→C):C:=
 match s with
 | .inl a=>f a
 | .inr b=>g b
@[simp] theorem outOf_some {α X : Type} (x : X) (f : X → Option α) : outOf (some x) f = f x := rfl
@[simp] theorem outOf_none {α X : Type} (f : X → Option α) : outOf none f = none := rfl
@[simp] theorem sumOf_inl {A B C : Type} (a : A) (f : A → C) (g : B → C) : sumOf (.inl a) f g = f a := rfl
@[simp] theorem sumOf_inr {A B C : Type} (b : B) (f : A → C) (g : B → C) : sumOf (.inr b) f g = g b := rfl
theorem outOf_congr {α X:Type}{r:Option X}{f g:X→Option α}(h: ∀x,f x=g x):outOf r f=outOf r g:=by
 cases r
 ·rfl
 ·exact h _
def Tr {α X:Type}(Y:Option α)(v:Option X)(k:X→Option α):Prop:=Y=outOf v k
theorem Tr.no {α X:Type}{k:X→Option α}:Tr none none k:=rfl
theorem Tr.nd {α X:Type}{Y Z:Option α}{b:Bool}{v w:Option X}{k:X→Option α}(h1:Tr Y v k)(h2:Tr Z w k):Tr (cond b Y Z) (cond b v w) k:=by
 cases b
 ·exact h2
 ·exact h1
theorem Tr.bd {α X W:Type}{r:Option W}{Y:W→Option α}{v:W→Option X}{k:X→Option α}(h: ∀x,Tr (Y x) (v x) k):Tr (outOf r Y) (outOf r v) k:=by
 cases r
 ·exact Tr.no
 ·exact h _
theorem Tr.cs {α X A B:Type}{s:A ⊕ B}{Y:A→Option α}{Z:B→Option α}{v:A→Option X}{w:B→Option X}{k:X→Option α}(h1: ∀x,Tr (Y x) (v x) k)(h2: ∀x,Tr (Z x) (w x) k):Tr (sumOf s Y Z) (sumOf s v w) k:=by
 cases s
 ·exact h1 _
 ·exact h2 _
def Ps {α D X:Type}(Y:Option α)(v:Option (D ⊕ X))(next:D→Option α)(out:X→Option α):Prop:=Y=PassOf v next out
theorem Ps.no {α D X:Type}{next:D→Option α}{out:X→Option α}:Ps none none next out:=rfl
theorem Ps.nd {α D X:Type}{Y Z:Option α}{b:Bool}{v w:Option (D ⊕ X)}{next:D→Option α}{out:X→Option α}(h1:Ps Y v next out)(h2:Ps Z w next out):Ps (cond b Y Z) (cond b v w) next out:=by
 cases b
 ·exact h2
 ·exact h1
theorem Ps.bd {α D X W:Type}{r:Option W}{Y:W→Option α}{v:W→Option (D ⊕ X)}{next:D→Option α}{out:X→Option α}(h: ∀x,Ps (Y x) (v x) next out):Ps (outOf r Y) (outOf r v) next out:=by
 cases r
 ·exact Ps.no
 ·exact h _
theorem Ps.cs {α D X A B:Type}{s:A ⊕ B}{Y:A→Option α}{Z:B→Option α}{v:A→Option (D ⊕ X)}{w:B→Option (D ⊕ X)}{next:D→Option α}{out:X→Option α}(h1: ∀x,Ps (Y x) (v x) next out)(h2: ∀x,Ps (Z x) (w x) next out):
  Ps (sumOf s Y Z) (sumOf s v w) next out:=by
 cases s
 ·exact h1 _
 ·exact h2 _
def exitN {α:Type}(n0:Nat)(Nx:Exit→Norm)(k:Exit→St→Option α):Exit→St→Option α:=fun e st=>normA n0 (Nx e) st (k e)
theorem SumOK.once {E:Env}(hE:E.OK P)(hmix:P.follows .mixedOrders=true){root code:Code}{h:Hints}(hh:h.OK P root){p:List Nat}(hp:codeAt root p=some code){N:Norm}{Nx:Exit→Norm}{A:List SD}{Hs:List HD}
  {D X:Type} {toD:DenS A→DenH Hs→D} {ofA:D→DenS A} {ofH:D→DenH Hs} (hA: ∀a m,ofA (toD a m)=a) (hH: ∀a m,ofH (toD a m)=m) {M:D→Option X} {fin:D→X→Exit×St} (fuel:Nat)
  (hev: ∀(α:Type) (d:D) (k:Exit→St→Option α),
   ev P E h fuel p code ⟨mkS A (ofA d),mkH Hs (ofH d)⟩ (exitN h.n0 Nx k)=outOf (M d) fun x=>k (fin d x).1 (fin d x).2):
  SumOK P h.n0 code fun _ st k=>reNorm h.n0 N A Hs st fun a m=>outOf (M (toD a m)) fun x=>k (fin (toD a m) x).1 (fin (toD a m) x).2:=by
 intro α st k r hr
 obtain⟨a,m,h1,h2⟩:=reNorm_sound hr
 have hq:=hev α (toD a m) k
 rw[h1,hA,hH] at hq
 obtain⟨e,st1,g1,g2⟩:=ev_sound hE hmix hh _ _ _ _ _ _ hp hq
 obtain⟨st',e1,e2⟩:=normA_sound g1
 exact⟨e,st',e1,(g2.after e2).norm h2⟩
open Classical in
noncomputable def steps {D X:Type}(pass:D→Option (D ⊕ X))(d:D):Nat:=
 if h: ∃n x,iter pass n d=some x then h.choose else 0
noncomputable def runs {D X:Type}(pass:D→Option (D ⊕ X))(d:D):Option X:=iter pass (steps pass d) d
theorem iter_det {D X:Type}{pass:D→Option (D ⊕ X)}{n m:Nat}{d:D}{x y:X}(h:iter pass n d=some x)(h':iter pass m d=some y):x=y:=by
 rcases Nat.le_total n m with g|g
 ·have:=iter_more h g;rw[this] at h';cases h';rfl
 ·have:=iter_more h' g;rw[this] at h;cases h;rfl
theorem runs_of {D X:Type}{pass:D→Option (D ⊕ X)}{n:Nat}{d:D}{x:X}(h:iter pass n d=some x):runs pass d=some x:=by
 have e: ∃n x,iter pass n d=some x:=⟨n,x,h⟩
 unfold runs steps
 rw[dif_pos e]
 obtain⟨y,hy⟩:=e.choose_spec
 rw[hy,iter_det hy h]
theorem runs_some {D X:Type}{pass:D→Option (D ⊕ X)}{d:D}{x:X}(h:runs pass d=some x): ∃n,iter pass n d=some x:=⟨_,h⟩
theorem runs_out {D X:Type}{pass:D→Option (D ⊕ X)}{d:D}{x:X}(h:pass d=some (.inr x)):runs pass d=some x:=
 runs_of (n:=1) (by unfold iter;rw[h])
theorem runs_next {D X:Type}{pass:D→Option (D ⊕ X)}{d d':D}(h:pass d=some (.inl d')):runs pass d=runs pass d':=by
 cases hr:runs pass d' with
 |some x=>
  obtain⟨n,hn⟩:=runs_some hr
  exact runs_of (n:=n+1) (by unfold iter;rw[h];exact hn)
 |none=>
  cases hl:runs pass d with
  |none=>rfl
  |some y=>
   obtain⟨n,hn⟩:=runs_some hl
   cases n with
   |zero=>simp[iter] at hn
   |succ n=>
    unfold iter at hn
    rw[h] at hn
    rw[runs_of hn] at hr
    cases hr
mutual
def weakF:AV→AV
 | .sl s l _=> .sl s l false
 | .agg l=> .agg (weakL l)
 | .tup l=> .tup (weakL l)
 |a=>a
def weakL:List AV→List AV
 |[]=>[]
 |a::l=>weakF a::weakL l
end
mutual
theorem weakF_rep {c:Ctx}:(a:AV)→{v:Value}→Rep c a v→Rep c (weakF a) v
 | .any,_,_=>trivial
 | .lit _,_,hv=>hv
 | .agg l,_,⟨vs,h1,h2⟩=>⟨vs,h1,weakL_rep l h2⟩
 | .tup l,_,⟨vs,h1,h2⟩=>⟨vs,h1,weakL_rep l h2⟩
 | .sl _ _ _,_,⟨a,cap,h1,h2,_,h4⟩=>⟨a,cap,h1,h2,fun h=>absurd h (by decide),h4⟩
 | .ptr _ _ _,_,hv=>hv
 | .pel _ _ _ _,_,hv=>hv
 | .msl _ _ _,_,hv=>hv
 | .clo _ _ _,_,hv=>hv
 | .mp _,_,hv=>hv
theorem weakL_rep {c:Ctx}:(l:List AV)→{vs:List Value}→RepL c l vs→RepL c (weakL l) vs
 |[],_,hv=>hv
 |a::l,_,⟨v,vs',h1,h2,h3⟩=>⟨v,vs',h1,weakF_rep a h2,weakL_rep l h3⟩
end
theorem Good.weak {f:FuncId}{sp:Spec}(h:Good P f sp):Good P f fun α args H k=>sp α args H fun v H'=>k (weakF v) H':=fun α args H k r hr=>by
 obtain⟨v,H',h1,h2⟩:=h α args H _ r hr
 refine⟨weakF v,H',h1,fun c vs hv hh hfr o ac next Q hk=> ?_⟩
 exact h2 c vs hv hh hfr o ac next Q fun v' c' e1 e2 e3 e4 e5=>hk v' c' (weakF_rep _ e1) e2 e3 e4 e5
theorem good_form_weak {E:Env}(hE:E.OK P)(hmix:P.follows .mixedOrders=true){f:FuncId}{fn:Func}{code:Code}(hf:P.funcs[f]? =some fn)(hb:fn.body=some code)(hname:(fn.name== "runtime.NumGoroutine")=false)
  (own:Bool) {A:List SD} {Hs:List HD} {sp:(α:Type)→DenS A→DenH Hs→Kont α→Option α} (h:Hints) (fuel:Nat) (hh:h.OK P code) (hn:h.n0=Hs.length)
  (hs: ∀(α:Type) (a:DenS A) (m:DenH Hs) (k:Kont α) (r:α),sp α a m k=some r→evFun P E h own fn code fuel (mkS A a) (mkH Hs m) (fun v H=>k (weakF v) H)=some r):Good P f (specD A Hs sp):=by
 have g:Good P f (specD A Hs fun α a m k=>evFun P E h own fn code fuel (mkS A a) (mkH Hs m) k):=
  good_form hE hmix hf hb hname own fun α a m k r hr=>⟨h,fuel,hh,hn,hr⟩
 refine g.weak.mono fun α args H k r hr=> ?_
 unfold specD at hr⊢
 split at hr
 ·cases hr
 rename_i a ha
 split at hr
 ·cases hr
 rename_i m hm
 exact hs α a m k r hr
theorem good_form_weak2 {E:Env}(hE:E.OK P)(hmix:P.follows .mixedOrders=true){f:FuncId}{fn:Func}{code:Code}(hf:P.funcs[f]? =some fn)(hb:fn.body=some code)(hname:(fn.name== "runtime.NumGoroutine")=false)
  (own:Bool) {A:List SD} {Hs:List HD} {sp:(α:Type)→DenS A→DenH Hs→Kont α→Option α}
  (hs: ∀(α:Type) (a:DenS A) (m:DenH Hs) (k:Kont α) (r:α),sp α a m k=some r→ ∃(h:Hints) (fuel:Nat),h.OK P code∧h.n0=Hs.length∧evFun P E h own fn code fuel (mkS A a) (mkH Hs m) (fun v H=>k (weakF v) H)=some r):
  Good P f (specD A Hs sp):=fun α args H k r hr=>by
 unfold specD at hr
 split at hr
 ·cases hr
 rename_i a ha
 split at hr
 ·cases hr
 rename_i m hm
 obtain⟨h,fuel,h1,h2,h3⟩:=hs α a m k r hr
 exact good_form_weak (sp:=fun α a m k=>evFun P E h own fn code fuel (mkS A a) (mkH Hs m) (fun v H=>k (weakF v) H)) hE hmix hf hb hname own h fuel h1 h2 (fun _ _ _ _ _ h=>h) α args H k r (by
  unfold specD;rw[ha,hm];exact h3)
def noSp:CSpec:=fun _ _ _=>none
theorem noSp_ok {n0:Nat}{c:Code}:SumOK P n0 c noSp:=fun _ _ _ _ h=>by cases h
theorem runs_count {D X:Type}{pass:D→Option (D ⊕ X)}(f:Nat→D)(x:X): ∀(N:Nat),(∀ i,i<N→pass (f i)=some (.inl (f (i+1))))→pass (f N)=some (.inr x)→ ∀k,k≤N→runs pass (f (N-k))=some x
 |N,hs,he,0,_=>runs_out he
 |N,hs,he,k+1,hk=>by
  have h1:=hs (N-(k+1)) (by omega)
  rw[show N-(k+1)+1=N-k from by omega] at h1
  rw[runs_next h1]
  exact runs_count f x N hs he k (by omega)
theorem runs_all {D X:Type}{pass:D→Option (D ⊕ X)}(f:Nat→D)(N:Nat){x:X}(hs: ∀i,i<N→pass (f i)=some (.inl (f (i+1))))(he:pass (f N)=some (.inr x)):runs pass (f 0)=some x:=by
 have:=runs_count f x N hs he N (Nat.le_refl _)
 rwa[Nat.sub_self] at this
def inl (P:Program)(E:Env)(own:Bool)(fn:Func)(fuel:Nat):Spec:=fun _ args H k=>evFun P E (Hints.nil H.length) own fn (bodyOf fn) fuel args H k
theorem inl_good {E:Env}(hE:E.OK P)(hmix:P.follows .mixedOrders=true){f:FuncId}{fn:Func}(hf:P.funcs[f]? =some fn)(hb:fn.body=some (bodyOf fn))(hname:(fn.name== "runtime.NumGoroutine")=false)
  (own:Bool) (fuel:Nat):Good P f (inl P E own fn fuel):=
 good_of hE hmix hf hb hname own fun _ _ H _ _ h=>⟨Hints.nil H.length,fuel,Hints.nil_ok,rfl,h⟩
def bytesOf (l:List Nat):ByteArray:=⟨(l.map UInt8.ofNat).toArray⟩
end Go.TX
