/- Forms of states: reading typed data off abstract values and memory, and contracts by such forms. -/
import Derived.Test.YtgchjlbhmfbgaaaGreatDoorTxS
namespace Go.TX
set_option linter.unusedSectionVars false
variable [Globals]
variable {P:Program}
inductive SD where
 |any
 |val (s:Sh)
 |agg (s:Sh)
 |msl
 |ptr
 |mp
 |pel (s:Sh)
 |fn (f:FuncId)
 |loc (r i o:Nat)
 |row (r:Nat)
 |rowz (r:Nat)
 |mpl (r:Nat)
 |con (v:Value)
@[reducible] def SD.Den : SD → Type
 | .any=>Unit
 | .val s=>s.Den
 | .agg s=>s.Den
 | .msl=>Nat×Nat×Nat
 | .ptr=>Nat×Nat×Nat
 | .mp=>Nat
 | .pel s=>List s.Den×Nat×Nat
 | .fn _=>Unit
 | .loc .. =>Unit
 | .row _=>Nat×Nat
 | .rowz _=>Nat
 | .mpl _=>Unit
 | .con _=>Unit
def one:List AV→AV
 |[a]=>a
 |_=> .any
def SD.mk:(s:SD)→s.Den→AV
 | .any,_=> .any
 | .val s,d=>one (up s d)
 | .agg s,d=> .agg (up s d)
 | .msl,d=> .msl d.1 d.2.1 d.2.2
 | .ptr,d=> .ptr d.1 d.2.1 d.2.2
 | .mp,d=> .mp d
 | .pel s,d=> .pel s d.1 d.2.1 d.2.2
 | .fn f,_=> .clo (.func f) [] []
 | .loc r i o,_=> .ptr r i o
 | .row r,d=> .msl r d.1 d.2
 | .rowz r,d=> .msl r 0 d
 | .mpl r,_=> .mp r
 | .con v,_=> .lit v
def litEq:Value→Value→Bool
 | .nilFunc, .nilFunc=>true
 | .map none, .map none=>true
 | .pointer none, .pointer none=>true
 | .nilIface, .nilIface=>true
 | .bool true, .bool true=>true
 | .bool false, .bool false=>true
 |_,_=>false
theorem litEq_eq {v u:Value}(h:litEq v u=true):v=u:=by
 unfold litEq at h
 split at h<;>first|rfl|cases h
def SD.rd:(s:SD)→AV→Option s.Den
 | .any,_=>some ()
 | .val s,a=>match down s [a] with|some (d,[])=>some d|_=>none
 | .agg s, .agg l=>match down s l with|some (d,[])=>some d|_=>none
 | .msl, .msl r i n=>some (r,i,n)
 | .ptr, .ptr r i o=>some (r,i,o)
 | .mp, .mp r=>some r
 | .pel s, .pel s' l i o=>if h:s'=s then some (h▸l,i,o) else none
 | .fn f, .clo (.func g) [] []=>if g=f then some () else none
 | .loc r i o, .ptr r' i' o'=>if r'=r∧i'=i∧o'=o then some () else none
 | .row r, .msl r' i n=>if r'=r then some (i,n) else none
 | .rowz r, .msl r' i n=>if r'=r∧i=0 then some n else none
 | .mpl r, .mp r'=>if r'=r then some () else none
 | .con v, .lit u=>if litEq v u then some () else none
 |_,_=>none
theorem SD.rd_rep {c:Ctx}{s:SD}{a:AV}{d:s.Den}{v:Value}(h:s.rd a=some d)(hv:Rep c a v):Rep c (s.mk d) v:=by
 cases s with
 |any=>exact trivial
 |val s=>
  simp only[SD.rd] at h
  split at h
  ·rename_i d' hd
   cases h
   have h1:=up_rep s (down_all (RepL.one hv) hd)
   show Rep c (one (up s d)) v
   generalize up s d=l at h1
   match l,h1 with
   |[a],⟨_,_,e,h3,_⟩=>cases e;exact h3
   |[],_=>exact trivial
   |_::_::_,_=>exact trivial
  ·cases h
 |agg s=>
  cases a with
  |agg l=>
   simp only[SD.rd] at h
   split at h
   ·rename_i d' hd
    cases h
    obtain⟨vs,rfl,h2⟩:=hv
    exact⟨vs,rfl,up_rep s (down_all h2 hd)⟩
   ·cases h
  |_=>simp[SD.rd] at h
 |msl=>cases a<;>simp[SD.rd] at h;subst h;exact hv
 |ptr=>cases a<;>simp[SD.rd] at h;subst h;exact hv
 |mp=>cases a<;>simp[SD.rd] at h;subst h;exact hv
 |pel s=>
  cases a with
  |pel s' l i o=>
   simp only[SD.rd] at h
   split at h
   ·rename_i e;subst e;cases h;exact hv
   ·cases h
  |_=>simp[SD.rd] at h
 |fn f=>
  cases a with
  |clo g x y=>
   cases g<;>cases x<;>cases y<;>simp[SD.rd] at h
   subst h;exact hv
  |_=>simp[SD.rd] at h
 |loc r i o=>
  cases a with
  |ptr r' i' o'=>
   simp only[SD.rd] at h
   split at h
   ·rename_i e;obtain⟨rfl,rfl,rfl⟩:=e;exact hv
   ·cases h
  |_=>simp[SD.rd] at h
 |row r=>
  cases a with
  |msl r' i n=>
   simp only[SD.rd] at h
   split at h
   ·rename_i e;subst e;cases h;exact hv
   ·cases h
  |_=>simp[SD.rd] at h
 |rowz r=>
  cases a with
  |msl r' i n=>
   simp only[SD.rd] at h
   split at h
   ·rename_i e;obtain⟨rfl,rfl⟩:=e;cases h;exact hv
   ·cases h
  |_=>simp[SD.rd] at h
 |mpl r=>
  cases a with
  |mp r'=>
   simp only[SD.rd] at h
   split at h
   ·rename_i e;subst e;exact hv
   ·cases h
  |_=>simp[SD.rd] at h
 |con u=>
  cases a with
  |lit u'=>
   simp only[SD.rd] at h
   split at h
   ·rename_i e;rw[litEq_eq e];exact hv
   ·cases h
  |_=>simp[SD.rd] at h
@[reducible] def DenS : List SD → Type
 |[]=>Unit
 |s::l=>s.Den×DenS l
def mkS:(l:List SD)→DenS l→List AV
 |[],_=>[]
 |s::l,d=>s.mk d.1::mkS l d.2
def rdS:(l:List SD)→List AV→Option (DenS l)
 |[],[]=>some ()
 |s::l,a::as=>
  match s.rd a with
  |none=>none
  |some d=>match rdS l as with|none=>none|some r=>some (d,r)
 |_,_=>none
theorem rdS_rep {c:Ctx}: ∀{l:List SD} {as:List AV} {d:DenS l} {vs:List Value},rdS l as=some d→RepL c as vs→RepL c (mkS l d) vs
 |[],[],_,_,_,hv=>hv
 |[],_::_,_,_,h,_=>by simp[rdS] at h
 |_::_,[],_,_,h,_=>by simp[rdS] at h
 |s::l,a::as,d,_,h,⟨v,vs,e,h1,h2⟩=>by
  simp only[rdS] at h
  split at h
  ·cases h
  ·rename_i d1 hd1
   split at h
   ·cases h
   ·rename_i r hr
    cases h
    exact⟨v,vs,e,SD.rd_rep hd1 h1,rdS_rep hr h2⟩
theorem rdS_len: ∀{l:List SD} {as:List AV} {d:DenS l},rdS l as=some d→as.length=l.length
 |[],[],_,_=>rfl
 |[],_::_,_,h=>by simp[rdS] at h
 |_::_,[],_,h=>by simp[rdS] at h
 |s::l,a::as,d,h=>by
  simp only[rdS] at h
  split at h
  ·cases h
  ·split at h
   ·cases h
   ·rename_i r hr
    simp[rdS_len hr]
theorem mkS_len: ∀(l:List SD) (d:DenS l),(mkS l d).length=l.length
 |[],_=>rfl
 |s::l,d=>by simp[mkS,mkS_len l d.2]
inductive HD where
 |gone
 |box (l:List SD)
 |row (s:Sh)
 |fz (s:Sh)
 |mapo (ks vs:Sh)
 |it
 |raw (s:Sh)
@[reducible] def HD.Den : HD → Type
 | .gone=>Unit
 | .box l=>DenS l
 | .row s=>List s.Den
 | .fz s=>List s.Den
 | .mapo ks vs=>List (ks.Den×vs.Den)
 | .it=>ByteArray×Nat
 | .raw s=>List s.Den×Nat
def HD.mk:(h:HD)→h.Den→AObj
 | .gone,_=> .gone
 | .box l,d=> .box (mkS l d)
 | .row s,d=> .row s d
 | .fz s,d=> .fz s d
 | .mapo ks vs,d=> .mapo ks vs d
 | .it,d=> .it d.1 d.2
 | .raw s,d=> .raw s d.1 d.2
def HD.rd:(h:HD)→AObj→Option h.Den
 | .gone, .gone=>some ()
 | .box l, .box as=>rdS l as
 | .row s, .row s' l=>if h:s'=s then some (h▸l) else none
 | .fz s, .fz s' l=>if h:s'=s then some (h▸l) else none
 | .mapo ks vs, .mapo ks' vs' l=>if h:ks'=ks∧vs'=vs then some (h.1▸h.2▸l) else none
 | .it, .it x p=>some (x,p)
 | .raw s, .raw s' l n=>if h:s'=s then some (h▸l,n) else none
 |_,_=>none
theorem HD.rd_rel {c:Ctx}{h:HD}{x:AObj}{d:h.Den}{r:Nat}(hr:h.rd x=some d)(ho:ObjRel c r x):ObjRel c r (h.mk d)∧(h.mk d).owns=x.owns:=by
 cases h with
 |gone=>cases x<;>simp[HD.rd] at hr;exact⟨trivial,rfl⟩
 |box l=>
  cases x with
  |box as=>
   simp only[HD.rd] at hr
   obtain⟨b,cs,ty,fr,h1,h2,h3,h4⟩:=ho
   exact⟨⟨b,cs,ty,fr,h1,h2,h3,rdS_rep hr h4⟩,rfl⟩
  |_=>simp[HD.rd] at hr
 |row s=>
  cases x with
  |row s' l=>
   simp only[HD.rd] at hr
   split at hr
   ·rename_i e;subst e;cases hr;exact⟨ho,rfl⟩
   ·cases hr
  |_=>simp[HD.rd] at hr
 |fz s=>
  cases x with
  |fz s' l=>
   simp only[HD.rd] at hr
   split at hr
   ·rename_i e;subst e;cases hr;exact⟨ho,rfl⟩
   ·cases hr
  |_=>simp[HD.rd] at hr
 |mapo ks vs=>
  cases x with
  |mapo ks' vs' l=>
   simp only[HD.rd] at hr
   split at hr
   ·rename_i e;obtain⟨e1,e2⟩:=e;subst e1 e2;cases hr;exact⟨ho,rfl⟩
   ·cases hr
  |_=>simp[HD.rd] at hr
 |it=>
  cases x with
  |it x p=>simp[HD.rd] at hr;subst hr;exact⟨ho,rfl⟩
  |_=>simp[HD.rd] at hr
 |raw s=>
  cases x with
  |raw s' l n=>
   simp only[HD.rd] at hr
   split at hr
   ·rename_i e;subst e;cases hr;exact⟨ho,rfl⟩
   ·cases hr
  |_=>simp[HD.rd] at hr
@[reducible] def DenH : List HD → Type
 |[]=>Unit
 |h::l=>h.Den×DenH l
def mkH:(l:List HD)→DenH l→Heap
 |[],_=>[]
 |h::l,d=>h.mk d.1::mkH l d.2
def rdH:(l:List HD)→Heap→Option (DenH l)
 |[],[]=>some ()
 |h::l,x::xs=>
  match h.rd x with
  |none=>none
  |some d=>match rdH l xs with|none=>none|some r=>some (d,r)
 |_,_=>none
theorem rdH_len: ∀{l:List HD} {H:Heap} {d:DenH l},rdH l H=some d→H.length=(mkH l d).length
 |[],[],_,_=>rfl
 |[],_::_,_,h=>by simp[rdH] at h
 |_::_,[],_,h=>by simp[rdH] at h
 |s::l,a::as,d,h=>by
  simp only[rdH] at h
  split at h
  ·cases h
  ·split at h
   ·cases h
   ·rename_i r hr
    cases h
    simp[mkH,rdH_len hr]
theorem rdH_at {c:Ctx}: ∀{l:List HD} {H:Heap} {d:DenH l},rdH l H=some d→ ∀(i r:Nat),ObjRel c r (H.at i)→ObjRel c r ((mkH l d).at i)∧((mkH l d).at i).owns=(H.at i).owns
 |[],[],_,_,_,_,h=>⟨h,rfl⟩
 |[],_::_,_,h,_,_,_=>by simp[rdH] at h
 |_::_,[],_,h,_,_,_=>by simp[rdH] at h
 |s::l,a::as,d,h,i,r,ho=>by
  simp only[rdH] at h
  split at h
  ·cases h
  ·rename_i d1 hd1
   split at h
   ·cases h
   ·rename_i dr hr
    cases h
    cases i with
    |zero=>exact HD.rd_rel hd1 ho
    |succ i=>exact rdH_at hr i r ho
theorem rdH_rel {c:Ctx}{l:List HD}{H:Heap}{d:DenH l}(h:rdH l H=some d)(hh:HRel c H.at):HRel c (mkH l d).at∧Step c H.at c (mkH l d).at:=by
 have how: ∀k,((mkH l d).at k).owns=(H.at k).owns:=fun k=>(rdH_at h k k (hh.obj k)).2
 have hown: ∀b,Own c (mkH l d).at b→Own c H.at b:=fun b ⟨k,o,w,n,z,h1,h2⟩=>⟨k,o,w,n,z,h1,by rwa[how] at h2⟩
 exact⟨⟨fun k=>(rdH_at h k k (hh.obj k)).1,fun k k' b o w n z o' w' n' z' h1 h2 h3 h4=>hh.uniq k k' b _ _ _ _ _ _ _ _ h1 h2 (by rwa[how] at h3) (by rwa[how] at h4),hh.imm,fun b hb=>hh.sep b (hown b hb),hh.glob⟩,
  ⟨rfl,rfl,rfl,Nat.le_refl _,fun _ _ _=>rfl,fun b hb=> .inl (hown b hb),fun _ h=>h,fun _ h=> .inl h⟩⟩
def specD (A:List SD)(Hs:List HD)(sp:(α:Type)→DenS A→DenH Hs→Kont α→Option α):Spec:=fun α args H k=>
 match rdS A args with
 |none=>none
 |some a=>match rdH Hs H with|none=>none|some m=>sp α a m k
open Classical in
theorem good_form {E:Env}(hE:E.OK P)(hmix:P.follows .mixedOrders=true){f:FuncId}{fn:Func}{code:Code}(hf:P.funcs[f]? =some fn)(hb:fn.body=some code)(hname:(fn.name== "runtime.NumGoroutine")=false)
  (own:Bool) {A:List SD} {Hs:List HD} {sp:(α:Type)→DenS A→DenH Hs→Kont α→Option α}
  (hs: ∀(α:Type) (a:DenS A) (m:DenH Hs) (k:Kont α) (r:α),sp α a m k=some r→
   ∃(h:Hints) (fuel:Nat),h.OK P code∧h.n0=Hs.length∧evFun P E h own fn code fuel (mkS A a) (mkH Hs m) k=some r):Good P f (specD A Hs sp):=fun α args H k r hr=>by
 unfold specD at hr
 split at hr
 ·cases hr
 rename_i a ha
 split at hr
 ·cases hr
 rename_i m hm
 have mkH_len: ∀(l:List HD) (d:DenH l),(mkH l d).length=l.length:=by
  intro l
  induction l with
  |nil=>intro d;rfl
  |cons s l ih=>intro d;simp[mkH,ih]
 have good:Good P f fun α args H k=>if args=mkS A a∧H=mkH Hs m then sp α a m k else none:=
  good_of hE hmix hf hb hname own fun α args H k r hr=>by
   split at hr
   ·rename_i e
    obtain⟨rfl,rfl⟩:=e
    obtain⟨h,fuel,h1,h2,h3⟩:=hs α a m k r hr
    exact⟨h,fuel,h1,by rw[h2,mkH_len],h3⟩
   ·cases hr
 obtain⟨v,H',h1,h2⟩:=good α (mkS A a) (mkH Hs m) k r (by
  show(if mkS A a=mkS A a∧mkH Hs m=mkH Hs m then sp α a m k else none)=some r
  rw[if_pos ⟨rfl,rfl⟩];exact hr)
 refine⟨v,H',h1,fun c vs hv hh hfr o ac next Q hk=> ?_⟩
 obtain⟨g1,g2⟩:=rdH_rel hm hh
 have hl:=rdH_len hm
 exact h2 c vs (rdS_rep ha hv) g1 (by rw[← hl];exact hfr) o ac next Q fun v' c' e1 e2 e3 e4 e5=>hk v' c' e1 e2 e3 (g2.trans e4) e5
def sumD (A:List SD)(Hs:List HD)(sp:(α:Type)→DenS A→DenH Hs→(Exit→St→Option α)→Option α):CSpec:=fun α st k=>
 match rdS A st.s with
 |none=>none
 |some a=>match rdH Hs st.h with|none=>none|some m=>sp α a m k
theorem norm_form {n0:Nat}{A:List SD}{Hs:List HD}{st:St}{a:DenS A}{m:DenH Hs}(ha:rdS A st.s=some a)(hm:rdH Hs st.h=some m):NormRes n0 st ⟨mkS A a,mkH Hs m⟩:=fun ac c hs=>by
 obtain⟨g1,g2⟩:=rdH_rel hm hs.heap
 refine⟨c,rfl,⟨⟨?_,fun t v ht=> ?_⟩,g1, ?_⟩,g2,fun _ _ _ h=>h,rfl⟩
 ·rw[hs.slots.size,rdS_len ha];exact(mkS_len _ _).symm
 ·have hrep:RepL c st.s ac.tmps.toList:=RepL.of_getElem (by simpa using hs.slots.size) fun i x hx=>by
   have h1:=hs.slots.rep i x hx
   have hlt:i<ac.tmps.size:=by rw[hs.slots.size];exact(List.getElem?_eq_some_iff.1 hx).1
   rw[Array.getD_eq_getD_getElem?,Array.getElem?_eq_getElem hlt] at h1
   exact⟨_,by simp[hlt],h1⟩
  obtain⟨v',h1,h2⟩:=(rdS_rep ha hrep).get t ht
  have:ac.tmps.getD t undef=v':=by
   rw[Array.getD_eq_getD_getElem?,← Array.getElem?_toList,h1];rfl
  rw[this];exact h2
 ·show Fresh c (mkH Hs m).length
  rw[← rdH_len hm];exact hs.fresh
theorem SumOK.form {E:Env}(hE:E.OK P)(hmix:P.follows .mixedOrders=true){root code:Code}{h:Hints}(hh:h.OK P root){p:List Nat}(hp:codeAt root p=some code){A:List SD}{Hs:List HD}
  {sp:(α:Type)→DenS A→DenH Hs→(Exit→St→Option α)→Option α}
  (hs: ∀(α:Type) (a:DenS A) (m:DenH Hs) (k:Exit→St→Option α) (r:α),sp α a m k=some r→ ∃n,ev P E h n p code ⟨mkS A a,mkH Hs m⟩ k=some r):SumOK P h.n0 code (sumD A Hs sp):=fun α st k r hr=>by
 unfold sumD at hr
 split at hr
 ·cases hr
 rename_i a ha
 split at hr
 ·cases hr
 rename_i m hm
 obtain⟨n,hn⟩:=hs α a m k r hr
 obtain⟨e,st',h1,h2⟩:=ev_sound hE hmix hh n p code _ k r hp hn
 exact⟨e,st',h1,h2.norm (norm_form ha hm)⟩
def Env.nil:Env:=⟨fun _=>none⟩
def Env.add (E:Env)(f:FuncId)(b:Bool)(sp:Spec):Env:=⟨fun g=>if g=f then some (b,sp) else E.calls g⟩
theorem Env.nil_ok:Env.nil.OK P:=fun _ _ _ h=>by simp[Env.nil] at h
theorem Env.OK.add_ok {E:Env}{f:FuncId}{b:Bool}{sp:Spec}(hE:E.OK P)(h:Good P f sp):(E.add f b sp).OK P:=fun g b' sp' hg=>by
 unfold Env.add at hg
 dsimp only at hg
 split at hg
 ·rename_i e;subst e;cases hg;exact h
 ·exact hE g b' sp' hg
def Hints.nil (n0:Nat):Hints:=⟨n0,fun _=>none,fun _=>none,fun _=>none⟩
theorem Hints.nil_ok {root:Code}{n0:Nat}:(Hints.nil n0).OK P root:=⟨fun _ _ h=>by simp[Hints.nil] at h,fun _ _ _ h=>by simp[Hints.nil] at h⟩
def Mg {α β:Type}(X:Option α)(ok:Bool)(v:β)(k:β→Option α):Prop:=X=cond ok (k v) none
theorem Mg.no {α β:Type}{v:β}{k:β→Option α}:Mg none false v k:=rfl
theorem Mg.nd {α β:Type}{X Y:Option α}{b o1 o2:Bool}{v1 v2:β}{k:β→Option α}(h1:Mg X o1 v1 k)(h2:Mg Y o2 v2 k):Mg (cond b X Y) (cond b o1 o2) (cond b v1 v2) k:=by
 cases b
 ·exact h2
 ·exact h1
theorem Mg.nt {α β:Type}{X Y:Option α}{b:Bool}{v1 v2:β}{k:β→Option α}(h1:Mg X true v1 k)(h2:Mg Y true v2 k):Mg (cond b X Y) true (cond b v1 v2) k:=by
 cases b
 ·exact h2
 ·exact h1
def bodyOf (f:Func):Code:=f.body.getD .skip
theorem body_of {f:Func}(h:f.body.isSome=true):f.body=some (bodyOf f):=by
 unfold bodyOf
 cases hb:f.body with
 |none=>rw[hb] at h;cases h
 |some c=>rfl
end Go.TX
