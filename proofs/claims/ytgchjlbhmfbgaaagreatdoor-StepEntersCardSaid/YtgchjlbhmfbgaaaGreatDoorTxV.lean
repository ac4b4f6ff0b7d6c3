/- Loops: a summary from one pass. -/
import Derived.Test.YtgchjlbhmfbgaaaGreatDoorTxU
namespace Go.TX
set_option linter.unusedSectionVars false
variable [Globals]
variable {P:Program}
def iter {D X:Type}(pass:D→Option (D ⊕ X)):Nat→D→Option X
 |0,_=>none
 |n+1,d=>match pass d with|none=>none|some (.inl d')=>iter pass n d'|some (.inr x)=>some x
theorem iter_more {D X:Type}{pass:D→Option (D ⊕ X)}: ∀{n m:Nat} {d:D} {x:X},iter pass n d=some x→n≤m→iter pass m d=some x
 |0,_,_,_,h,_=>by simp[iter] at h
 |n+1,0,_,_,_,hm=>by omega
 |n+1,m+1,d,x,h,hm=>by
  simp only[iter] at h⊢
  cases hp:pass d with
  |none=>rw[hp] at h;cases h
  |some y=>
   rw[hp] at h
   cases y with
   |inl d'=>exact iter_more h (by omega)
   |inr x'=>exact h
def reNorm {α:Type}(n0:Nat)(N:Norm)(A:List SD)(Hs:List HD)(st:St)(next:DenS A→DenH Hs→Option α):Option α:=
 normA n0 N st fun st=>
  match rdS A st.s with
  |none=>none
  |some a=>match rdH Hs st.h with|none=>none|some m=>next a m
theorem reNorm_sound {α:Type}{n0:Nat}{N:Norm}{A:List SD}{Hs:List HD}{st:St}{next:DenS A→DenH Hs→Option α}{r:α}(h:reNorm n0 N A Hs st next=some r):
  ∃a m,next a m=some r∧NormRes n0 st ⟨mkS A a,mkH Hs m⟩:=by
 unfold reNorm at h
 obtain⟨st1,h1,h2⟩:=normA_sound h
 split at h1
 ·cases h1
 rename_i a ha
 split at h1
 ·cases h1
 rename_i m hm
 exact⟨a,m,h1,h2.trans (norm_form ha hm)⟩
def passK {α:Type}(n0:Nat)(N:Norm)(A:List SD)(Hs:List HD)(Nx:Exit→Norm)(next:DenS A→DenH Hs→Option α)(k:Exit→St→Option α):Exit→St→Option α:=fun e st=>
 match e with
 | .normal=>reNorm n0 N A Hs st next
 |e=>normA n0 (Nx e) st (k e)
def PassOf {α D X:Type}(v:Option (D ⊕ X))(next:D→Option α)(out:X→Option α):Option α:=
 match v with
 |none=>none
 |some (.inl d)=>next d
 |some (.inr x)=>out x
theorem passK_out {α:Type}{n0:Nat}{N:Norm}{A:List SD}{Hs:List HD}{Nx:Exit→Norm}{next:DenS A→DenH Hs→Option α}{k:Exit→St→Option α}{e:Exit}{st:St}{r:α}(h:passK n0 N A Hs Nx next k e st=some r):
  (e= .normal∧ ∃a m,next a m=some r∧NormRes n0 st ⟨mkS A a,mkH Hs m⟩)∨(e≠ .normal∧ ∃st',k e st'=some r∧NormRes n0 st st'):=by
 unfold passK at h
 cases e with
 |normal=>exact .inl ⟨rfl,reNorm_sound h⟩
 |exit i=>exact .inr ⟨by simp,normA_sound h⟩
 |goto i=>exact .inr ⟨by simp,normA_sound h⟩
 |ret=>exact .inr ⟨by simp,normA_sound h⟩
 |panic c=>exact .inr ⟨by simp,normA_sound h⟩
 |outgrown=>exact .inr ⟨by simp,normA_sound h⟩
def outOf {α X:Type}(r:Option X)(f:X→Option α):Option α:=
 match r with
 |none=>none
 |some x=>f x
theorem CodeRes.after {n0:Nat}{code:Code}{e:Exit}{st st1 st':St}(h:CodeRes P n0 code e st st1)(hn:NormRes n0 st1 st'):CodeRes P n0 code e st st':=fun a c hs Q hQ=>
 h a c hs Q fun a' c' hm=>by
  obtain⟨c2,e1,e2⟩:=hn a' c' hm.sim
  have:=hQ a' c2 (hm.trans e2)
  rwa[e1] at this
theorem CodeRes.round {n0:Nat}{body:Code}{e:Exit}{st st1 st':St}(h:CodeRes P n0 body .normal st st1)(h2:CodeRes P n0 (.loop body) e st1 st'):CodeRes P n0 (.loop body) e st st':=fun _ _ hs Q hQ=>
 loop_of (h.wp hs fun a' c' hm=>h2 a' c' hm.sim Q fun a2 c2 hm2=>hQ a2 c2 (hm.trans hm2))
theorem CodeRes.out {n0:Nat}{body:Code}{e:Exit}{st st':St}(h:CodeRes P n0 body e st st')(he:e≠ .normal):CodeRes P n0 (.loop body) e st st':=fun _ _ hs _ hQ=>
 loop_of (h.wp hs fun a' c' hm=>by
  have:=hQ a' c' hm
  cases e with
  |normal=>exact absurd rfl he
  |_=>exact this)
theorem SumOK.loop {E:Env}(hE:E.OK P)(hmix:P.follows .mixedOrders=true){root body:Code}{h:Hints}(hh:h.OK P root){p:List Nat}(hp:codeAt root p=some (.loop body)){N:Norm}{Nx:Exit→Norm}{A:List SD}{Hs:List HD}
  {D X:Type} {toD:DenS A→DenH Hs→D} {ofA:D→DenS A} {ofH:D→DenH Hs} (hA: ∀a m,ofA (toD a m)=a) (hH: ∀a m,ofH (toD a m)=m) {pass:D→Option (D ⊕ X)} {fin:X→Exit×St} (fuel:Nat)
  (hpass: ∀(α:Type) (d:D) (next:D→Option α) (k:Exit→St→Option α),
   ev P E h fuel (0::p) body ⟨mkS A (ofA d),mkH Hs (ofH d)⟩ (passK h.n0 N A Hs Nx (fun a m=>next (toD a m)) k)=PassOf (pass d) next fun x=>k (fin x).1 (fin x).2)
  (N0:D→Nat):
  SumOK P h.n0 (.loop body) fun _ st k=>reNorm h.n0 N A Hs st fun a m=>outOf (iter pass (N0 (toD a m)) (toD a m)) fun x=>k (fin x).1 (fin x).2:=by
 have key: ∀(n:Nat) (d:D) (x:X),iter pass n d=some x→CodeRes P h.n0 (.loop body) (fin x).1 ⟨mkS A (ofA d),mkH Hs (ofH d)⟩ (fin x).2:=by
  intro n
  induction n with
  |zero=>intro d x hx;simp[iter] at hx
  |succ n ih=>
   intro d x hx
   have hb:codeAt root (0::p)=some body:=by simp[codeAt,hp,child]
   have hq:=hpass (D ⊕ (Exit×St)) d (fun d=>some (.inl d)) fun e st=>some (.inr (e,st))
   simp only[iter] at hx
   cases hpd:pass d with
   |none=>rw[hpd] at hx;cases hx
   |some y=>
    rw[hpd] at hx hq
    cases y with
    |inl d'=>
     obtain⟨e,st1,g1,g2⟩:=ev_sound hE hmix hh _ _ _ _ _ _ hb hq
     rcases passK_out g1 with ⟨rfl,a,m,e1,e2⟩|⟨_,st',e1,_⟩
     ·have:d'=toD a m:=by simp only[Option.some.injEq,Sum.inl.injEq] at e1;exact e1.symm
      subst this
      have:=ih _ x hx
      rw[hA,hH] at this
      exact(g2.after e2).round this
     ·cases e1
    |inr x'=>
     cases hx
     obtain⟨e,st1,g1,g2⟩:=ev_sound hE hmix hh _ _ _ _ _ _ hb hq
     rcases passK_out g1 with ⟨_,a,m,e1,_⟩|⟨he,st',e1,e2⟩
     ·cases e1
     ·simp only[Option.some.injEq,Sum.inr.injEq,Prod.mk.injEq] at e1
      rw[← e1.1,← e1.2]
      exact(g2.after e2).out he
 intro α st k r hr
 obtain⟨a,m,h1,h2⟩:=reNorm_sound hr
 unfold outOf at h1
 split at h1
 ·cases h1
 ·rename_i x hx
  have:=key _ _ _ hx
  rw[hA,hH] at this
  exact⟨_,_,h1,this.norm h2⟩
theorem SumOK.mono {n0:Nat}{code:Code}{sp sp':CSpec}(h:SumOK P n0 code sp)(hm: ∀(α:Type) (st:St) (k:Exit→St→Option α) (r:α),sp' α st k=some r→sp α st k=some r):SumOK P n0 code sp':=
 fun α st k r hr=>h α st k r (hm α st k r hr)
def Hints.add (h:Hints)(p:List Nat)(sp:CSpec):Hints:=⟨h.n0,h.norm,fun q=>if q=p then some sp else h.sum q,h.jump⟩
def Hints.addJ (h:Hints)(p:List Nat)(sp:CSpec):Hints:=⟨h.n0,h.norm,h.sum,fun q=>if q=p then some sp else h.jump q⟩
theorem Hints.OK.add {root code:Code}{h:Hints}(hh:h.OK P root){p:List Nat}{sp:CSpec}(hp:codeAt root p=some code)(hs:SumOK P h.n0 code sp):(h.add p sp).OK P root:=⟨fun q sp' hq=>by
 unfold Hints.add at hq
 dsimp only at hq
 split at hq
 ·rename_i e;subst e;cases hq;exact⟨code,hp,hs⟩
 ·exact hh.sum q sp' hq,hh.jump⟩
theorem Hints.OK.addJ {root b c:Code}{h:Hints}(hh:h.OK P root){p:List Nat}{q:Nat}{sp:CSpec}(hp:codeAt root p=some (.scope b))(hc:codeAt root (q::p)=some c)(hs:JumpOK P h.n0 b c sp):(h.addJ (q::p) sp).OK P root:=
 ⟨hh.sum,fun q' p' sp' hq=>by
  unfold Hints.addJ at hq
  dsimp only at hq
  split at hq
  ·rename_i e;cases e;cases hq;exact⟨b,c,hp,hc,hs⟩
  ·exact hh.jump q' p' sp' hq⟩
theorem Good.mono {f:FuncId}{sp sp':Spec}(h:Good P f sp)(hm: ∀(α:Type) (args:List AV) (H:Heap) (k:Kont α) (r:α),sp' α args H k=some r→sp α args H k=some r):Good P f sp':=
 fun α args H k r hr=>h α args H k r (hm α args H k r hr)
def Pg {α D X:Type}(Y:Option α)(v:Option (D ⊕ X))(next:D→Option α)(out:X→Option α):Prop:=Y=PassOf v next out
theorem Pg.no {α D X:Type}{next:D→Option α}{out:X→Option α}:Pg none none next out:=rfl
theorem Pg.r {α D X:Type}{Y:Option α}{v:Option (D ⊕ X)}{next:D→Option α}{out:X→Option α}(h:Y=PassOf v next out):Pg Y v next out:=h
theorem Pg.nd {α D X:Type}{Y Z:Option α}{b:Bool}{v w:Option (D ⊕ X)}{next:D→Option α}{out:X→Option α}(h1:Pg Y v next out)(h2:Pg Z w next out):Pg (cond b Y Z) (cond b v w) next out:=by
 cases b
 ·exact h2
 ·exact h1
def big:Nat:=18446744073709551616
def passJ {α:Type}(n0:Nat)(l:Nat)(N:Norm)(A:List SD)(Hs:List HD)(Nx:Exit→Norm)(next:DenS A→DenH Hs→Option α)(k:Exit→St→Option α):Exit→St→Option α:=fun e st=>
 match e with
 | .goto l'=>if l'=l then reNorm n0 N A Hs st next else none
 |e=>normA n0 (Nx e) st (k e)
theorem passJ_out {α:Type}{n0 l:Nat}{N:Norm}{A:List SD}{Hs:List HD}{Nx:Exit→Norm}{next:DenS A→DenH Hs→Option α}{k:Exit→St→Option α}{e:Exit}{st:St}{r:α}(h:passJ n0 l N A Hs Nx next k e st=some r):
  (e= .goto l∧ ∃a m,next a m=some r∧NormRes n0 st ⟨mkS A a,mkH Hs m⟩)∨((∀ l',e≠ .goto l')∧ ∃st',k e st'=some r∧NormRes n0 st st'):=by
 unfold passJ at h
 cases e with
 |goto l'=>
  dsimp only at h
  split at h
  ·rename_i e;subst e;exact .inl ⟨rfl,reNorm_sound h⟩
  ·cases h
 |normal=>exact .inr ⟨by simp,normA_sound h⟩
 |exit i=>exact .inr ⟨by simp,normA_sound h⟩
 |ret=>exact .inr ⟨by simp,normA_sound h⟩
 |panic c=>exact .inr ⟨by simp,normA_sound h⟩
 |outgrown=>exact .inr ⟨by simp,normA_sound h⟩
theorem JumpOK.loop {E:Env}(hE:E.OK P)(hmix:P.follows .mixedOrders=true){root b rest:Code}{h:Hints}(hh:h.OK P root){p:List Nat}{l:Nat}(hp:codeAt root ((l+1)::p)=some rest)(hf:findLabel b l=some rest){N:Norm}{Nx:Exit→Norm}{A:List SD}{Hs:List HD}
  {D X:Type} {toD:DenS A→DenH Hs→D} {ofA:D→DenS A} {ofH:D→DenH Hs} (hA: ∀a m,ofA (toD a m)=a) (hH: ∀a m,ofH (toD a m)=m) {pass:D→Option (D ⊕ X)} {fin:X→Exit×St} (fuel:Nat)
  (hpass: ∀(α:Type) (d:D) (next:D→Option α) (k:Exit→St→Option α),
   ev P E h fuel ((l+1)::p) rest ⟨mkS A (ofA d),mkH Hs (ofH d)⟩ (passJ h.n0 l N A Hs Nx (fun a m=>next (toD a m)) k)=PassOf (pass d) next fun x=>k (fin x).1 (fin x).2)
  (N0:D→Nat):
  JumpOK P h.n0 b rest fun _ st k=>reNorm h.n0 N A Hs st fun a m=>outOf (iter pass (N0 (toD a m)) (toD a m)) fun x=>k (fin x).1 (fin x).2:=by
 have key: ∀(n:Nat) (d:D) (x:X),iter pass n d=some x→ ∀a cx,Sim a cx ⟨mkS A (ofA d),mkH Hs (ofH d)⟩→ ∀Q:Exit→Act→World→Prop,
   (∀ a' c',Moved h.n0 a cx ⟨mkS A (ofA d),mkH Hs (ofH d)⟩ a' c' (fin x).2→Q (fin x).1 a' c'.w)→ScopeWp P b rest Q a cx.w:=by
  intro n
  induction n with
  |zero=>intro d x hx;simp[iter] at hx
  |succ n ih=>
   intro d x hx a cx hs Q hQ
   have hq:=hpass (D ⊕ (Exit×St)) d (fun d=>some (.inl d)) fun e st=>some (.inr (e,st))
   simp only[iter] at hx
   cases hpd:pass d with
   |none=>rw[hpd] at hx;cases hx
   |some y=>
    rw[hpd] at hx hq
    cases y with
    |inl d'=>
     obtain⟨e,st1,g1,g2⟩:=ev_sound hE hmix hh _ _ _ _ _ _ hp hq
     rcases passJ_out g1 with ⟨rfl,a1,m1,e1,e2⟩|⟨_,st',e1,_⟩
     ·have:d'=toD a1 m1:=by simp only[Option.some.injEq,Sum.inl.injEq] at e1;exact e1.symm
      subst this
      refine scope_of ((g2.after e2).wp hs fun a' c' hm=> ?_)
      simp only[Exit.jumps]
      rw[hf]
      have:=ih _ x hx a' c' (by rw[hA,hH];exact hm.sim) Q fun a2 c2 hm2=>hQ a2 c2 (hm.trans (by rw[hA,hH] at hm2;exact hm2))
      exact this
     ·cases e1
    |inr x'=>
     cases hx
     obtain⟨e,st1,g1,g2⟩:=ev_sound hE hmix hh _ _ _ _ _ _ hp hq
     rcases passJ_out g1 with ⟨_,a1,m1,e1,_⟩|⟨he,st',e1,e2⟩
     ·cases e1
     ·simp only[Option.some.injEq,Sum.inr.injEq,Prod.mk.injEq] at e1
      rw[← e1.1,← e1.2] at hQ
      refine scope_of ((g2.after e2).wp hs fun a' c' hm=> ?_)
      have:=hQ a' c' hm
      cases e with
      |goto l'=>exact absurd rfl (he l')
      |_=>exact this
 intro α st k r hr
 obtain⟨a,m,h1,h2⟩:=reNorm_sound hr
 unfold outOf at h1
 split at h1
 ·cases h1
 ·rename_i x hx
  refine⟨_,_,h1,fun ac cx hs Q hQ=> ?_⟩
  obtain⟨c1,e1,e2⟩:=h2 ac cx hs
  rw[← e1]
  have:=key _ _ _ hx ac c1 (by rw[hA,hH];exact e2.sim) Q fun a' c' hm=>hQ a' c' (e2.trans (by rw[hA,hH] at hm;exact hm))
  exact this
theorem JumpOK.mono {n0:Nat}{b c:Code}{sp sp':CSpec}(h:JumpOK P n0 b c sp)(hm: ∀(α:Type) (st:St) (k:Exit→St→Option α) (r:α),sp' α st k=some r→sp α st k=some r):JumpOK P n0 b c sp':=
 fun α st k r hr=>h α st k r (hm α st k r hr)
end Go.TX
