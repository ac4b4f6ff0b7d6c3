/- Code, loops, scopes: the machine does what the evaluator says. -/
import Derived.Test.YtgchjlbhmfbgaaaGreatDoorTxP
import Derived.ScopeJumps
namespace Go.TX
set_option linter.unusedSectionVars false
variable [Globals]
variable {P:Program}
def LoopWp (P:Program)(c:Code)(Q:Exit→Act→World→Prop)(a:Act)(w:World):Prop:=
 ∀(b:Frame) (k:List Item) (cs:List Frame),∃ e a' w',Q e a' w'∧Arrives P (lone (b.at a (.code c:: .inLoop c::k)) cs w) b k cs e a' w'
theorem loop_of {c:Code}{Q:Exit→Act→World→Prop}{a:Act}{w:World}(h:c.wp P (Exit.then (LoopWp P c Q) Q) a w):LoopWp P c Q a w:=by
 intro b k cs
 obtain⟨e,a₁,w₁,hq,harr⟩:=h b (.inLoop c::k) cs
 cases e with
 |normal=>
  obtain⟨e₂,a₂,w₂,hq₂,harr₂⟩:=hq b k cs
  exact⟨e₂,a₂,w₂,hq₂, .of_steps (Steps.trans harr (.one step_inLoop)) harr₂⟩
 |exit id=>exact⟨_,a₁,w₁,hq, .pass (x:= .inLoop c) rfl (fun _ _=> .inl (by simp)) harr⟩
 |goto l=>exact⟨_,a₁,w₁,hq, .pass (x:= .inLoop c) rfl (fun _ _=> .inl (by simp)) harr⟩
 |ret=>exact⟨_,a₁,w₁,hq, .pass (x:= .inLoop c) rfl (fun _ _=> .inl (by simp)) harr⟩
 |panic ch=>exact⟨_,a₁,w₁,hq, .pass (x:= .inLoop c) rfl (fun _ _=> .inl (by simp)) harr⟩
 |outgrown=>exact⟨_,a₁,w₁,hq, .pass (x:= .inLoop c) rfl (fun _ _=> .inl (by simp)) harr⟩
theorem wp_of_loop {c:Code}{Q:Exit→Act→World→Prop}{a:Act}{w:World}(h:LoopWp P c Q a w):(Code.loop c).wp P Q a w:=by
 intro b k cs
 obtain⟨e,a₁,w₁,hq,harr⟩:=h b k cs
 exact⟨e,a₁,w₁,hq, .of_steps (.one step_loop) harr⟩
def ScopeWp (P:Program)(b c:Code)(Q:Exit→Act→World→Prop)(a:Act)(w:World):Prop:=
 ∀(fr:Frame) (k:List Item) (cs:List Frame),∃ e a' w',Q e a' w'∧Arrives P (lone (fr.at a (.code c:: .inScope b::k)) cs w) fr k cs e a' w'
def Exit.jumps (P:Program)(b:Code)(Q:Exit→Act→World→Prop):Exit→Act→World→Prop
 | .goto l,a,w=>match findLabel b l with|some rest=>ScopeWp P b rest Q a w|none=>Q (.goto l) a w
 |e,a,w=>Q e a w
theorem scope_of {b c:Code}{Q:Exit→Act→World→Prop}{a:Act}{w:World}(h:c.wp P (Exit.jumps P b Q) a w):ScopeWp P b c Q a w:=by
 intro fr k cs
 obtain⟨e,a₁,w₁,hq,harr⟩:=h fr (.inScope b::k) cs
 cases e with
 |normal=>exact⟨.normal,a₁,w₁,hq,Steps.trans harr (.one step_inScope)⟩
 |exit id=>exact⟨.exit id,a₁,w₁,hq,fun k' hk=>harr k' (by simp[exitTo,hk])⟩
 |goto l=>
  simp only[Exit.jumps] at hq
  split at hq
  ·rename_i rest hf
   obtain⟨e₂,a₂,w₂,hq₂,harr₂⟩:=hq fr k cs
   exact⟨e₂,a₂,w₂,hq₂, .of_steps (harr _ (by simp[gotoIn,hf])) harr₂⟩
  ·rename_i hf
   exact⟨.goto l,a₁,w₁,hq,fun k' hk=>harr k' (by simp[gotoIn,hf,hk])⟩
 |ret=>exact⟨_,a₁,w₁,hq,harr⟩
 |panic ch=>exact⟨_,a₁,w₁,hq,harr⟩
 |outgrown=>exact⟨_,a₁,w₁,hq,harr⟩
theorem wp_of_scope {b:Code}{Q:Exit→Act→World→Prop}{a:Act}{w:World}(h:ScopeWp P b b Q a w):(Code.scope b).wp P Q a w:=by
 intro fr k cs
 obtain⟨e,a₁,w₁,hq,harr⟩:=h fr k cs
 exact⟨e,a₁,w₁,hq, .of_steps (.one step_scope) harr⟩
def wpL (P:Program):Code→(Exit→Act→World→Prop)→Act→World→Prop
 | .loop c=>LoopWp P c
 |c=>c.wp P
theorem wp_of_wpL {c:Code}{Q:Exit→Act→World→Prop}{a:Act}{w:World}(h:wpL P c Q a w):c.wp P Q a w:=by
 cases c with
 |loop c=>exact wp_of_loop h
 |_=>exact h
structure Moved (n0:Nat)(a:Act)(c:Ctx)(st:St)(a':Act)(c':Ctx)(st':St):Prop where
 sim:Sim a' c' st'
 step:Step c st.h.at c' st'.h.at
 stay: ∀r,r<n0→ ∀l,c.js r=some l→c'.js r=some l
 defers:a'.defers=a.defers
theorem Moved.trans {n0:Nat}{a a' a'':Act}{c c' c'':Ctx}{st st' st'':St}(h:Moved n0 a c st a' c' st')(k:Moved n0 a' c' st' a'' c'' st''):Moved n0 a c st a'' c'' st'':=
 ⟨k.sim,h.step.trans k.step,fun r hr l hl=>k.stay r hr l (h.stay r hr l hl),k.defers.trans h.defers⟩
theorem Moved.refl {n0:Nat}{a:Act}{c:Ctx}{st:St}(h:Sim a c st):Moved n0 a c st a c st:=⟨h, .refl _ _,fun _ _ _ h=>h,rfl⟩
def CodeRes (P:Program)(n0:Nat)(code:Code)(e:Exit)(st st':St):Prop:=
 ∀a c,Sim a c st→ ∀Q:Exit→Act→World→Prop,(∀ a' c',Moved n0 a c st a' c' st'→Q e a' c'.w)→wpL P code Q a c.w
def SumOK (P:Program)(n0:Nat)(code:Code)(sp:CSpec):Prop:=
 ∀(α:Type) (st:St) (k:Exit→St→Option α) (r:α),sp α st k=some r→ ∃e st',k e st'=some r∧CodeRes P n0 code e st st'
def NormRes (n0:Nat)(st st':St):Prop:= ∀a c,Sim a c st→ ∃c',c'.w=c.w∧Moved n0 a c st a c' st'
theorem NormRes.refl (n0:Nat)(st:St):NormRes n0 st st:=fun _ c h=>⟨c,rfl, .refl h⟩
theorem NormRes.trans {n0:Nat}{st st' st'':St}(h:NormRes n0 st st')(k:NormRes n0 st' st''):NormRes n0 st st'':=fun a c hs=>by
 obtain⟨c',h1,h2⟩:=h a c hs
 obtain⟨c'',h3,h4⟩:=k a c' h2.sim
 exact⟨c'',h3.trans h1,h2.trans h4⟩
theorem keepS_len (ks:List Nat): ∀(i:Nat) (s:List AV),(keepS ks i s).length=s.length
 |_,[]=>rfl
 |i,_::s=>by simp[keepS,keepS_len ks (i+1) s]
theorem keepS_get (ks:List Nat): ∀(i:Nat) (s:List AV) (t:Nat) (v:AV),(keepS ks i s)[t]? =some v→v= .any∨s[t]? =some v
 |_,[],t,v,h=>by simp[keepS] at h
 |i,a::s,0,v,h=>by
  simp only[keepS,List.getElem?_cons_zero,Option.some.injEq] at h⊢
  split at h
  ·exact .inr h
  ·exact .inl h.symm
 |i,a::s,t+1,v,h=>by simpa using keepS_get ks (i+1) s t v (by simpa [keepS] using h)
theorem keepS_res (n0:Nat)(ks:List Nat)(i:Nat)(s:List AV)(H:Heap):NormRes n0 ⟨s,H⟩ ⟨keepS ks i s,H⟩:=fun a c h=>
 ⟨c,rfl,⟨⟨h.slots.size.trans (keepS_len ks i s).symm,fun t v ht=>by
  rcases keepS_get ks i s t v ht with rfl|h1
  ·exact trivial
  ·exact h.slots.rep t v h1⟩,h.heap,h.fresh⟩, .refl _ _,fun _ _ _ h=>h,rfl⟩
theorem ownAll_sound {α:Type}{n0:Nat}: ∀(ts:List Nat) (st:St) (k:St→Option α) (r:α),ownAll ts st k=some r→ ∃st',k st'=some r∧NormRes n0 st st'
 |[],st,k,r,h=>⟨st,h, .refl _ _⟩
 |t::ts,st,k,r,h=>by
  unfold ownAll at h
  split at h
  ·rename_i s x hsl
   rcases cond_some h with ⟨rfl,h⟩|⟨_,h⟩
   ·obtain⟨st',h1,h2⟩:=ownAll_sound (n0:=n0) ts _ k r h
    refine⟨st',h1, .trans (fun a c hs=> ?_) h2⟩
    obtain⟨m1,m2,m3,m4⟩:=move_virt hs.heap hs.fresh s
    refine⟨⟨c.w,c.I,upd c.js st.h.length .virt⟩,rfl,⟨⟨by simpa using hs.slots.size,fun u v hu=> ?_⟩,m1,m4⟩,m2,fun r _ l hl=>m3 r l hl,rfl⟩
    have hl:=Later.of_step hs.heap m2 m3
    simp only[List.getElem?_set] at hu
    split at hu
    ·rename_i htu;subst htu
     split at hu
     ·rename_i hlt
      cases hu
      have hget:st.s[t]? =some (.sl s [] true):=by
       rw[List.getD_eq_getElem?_getD,List.getElem?_eq_getElem hlt,Option.getD_some] at hsl
       rw[List.getElem?_eq_getElem hlt,hsl]
      obtain⟨ad,cap,e1,_,e3,_⟩:=hs.slots.rep t _ hget
      have:=e3 rfl
      simp only[List.length_nil] at this
      subst this
      exact .inl ⟨rfl,ad,e1⟩
     ·cases hu
    ·exact Rep.mono hl _ (hs.slots.rep u v hu)
   ·cases h
  ·exact ownAll_sound ts st k r h
theorem ownCells_sound {α:Type}{n0:Nat}: ∀(ts:List Nat) (st:St) (k:St→Option α) (r:α),ownCells ts st k=some r→ ∃st',k st'=some r∧NormRes n0 st st'
 |[],st,k,r,h=>⟨st,h, .refl _ _⟩
 |t::ts,st,k,r,h=>by
  unfold ownCells at h
  split at h
  ·exact ownCells_sound ts st k r h
  generalize (t-1000000)/1000=q at h
  generalize (t-1000000)%1000=i at h
  split at h
  ·rename_i cells hbox
   split at h
   ·rename_i s x hsl
    rcases cond_some h with ⟨rfl,h⟩|⟨_,h⟩
    ·obtain⟨st',h1,h2⟩:=ownCells_sound (n0:=n0) ts _ k r h
     refine⟨st',h1, .trans (fun a c hs=> ?_) h2⟩
     have hlt:q<st.h.length:=lt_of_at hbox (by simp)
     obtain⟨m1,m2,m3,m4⟩:=move_virt hs.heap hs.fresh s
     let c':Ctx:=⟨c.w,c.I,upd c.js st.h.length .virt⟩
     have hl:=Later.of_step hs.heap m2 m3
     have hbox':Heap.at (st.h++[.row s []]) q= .box cells:=by rw[at_append,if_neg (by omega),hbox]
     have hat: ∀k,Heap.at ((st.h.set q (.box (cells.set i (.msl st.h.length 0 0))))++[.row s []]) k=if k=q then .box (cells.set i (.msl st.h.length 0 0)) else Heap.at (st.h++[.row s []]) k:=fun k=>by
      rw[at_append,List.length_set,at_append]
      by_cases hk:k=st.h.length
      ·rw[if_pos hk,if_pos hk,if_neg (by omega)]
      ·rw[if_neg hk,if_neg hk,at_set _ hlt]
     have how: ∀k,(Heap.at ((st.h.set q (.box (cells.set i (.msl st.h.length 0 0))))++[.row s []]) k).owns=(Heap.at (st.h++[.row s []]) k).owns:=fun k=>by
      rw[hat];split
      ·rename_i e;subst e;rw[hbox'];rfl
      ·rfl
     have hown: ∀b,Own c' (Heap.at ((st.h.set q (.box (cells.set i (.msl st.h.length 0 0))))++[.row s []])) b→Own c' (Heap.at (st.h++[.row s []])) b:=fun b ⟨k,o,w,n,z,h1,h2⟩=>⟨k,o,w,n,z,h1,by rwa[how] at h2⟩
     have hobj: ∀k,ObjRel c' k (Heap.at ((st.h.set q (.box (cells.set i (.msl st.h.length 0 0))))++[.row s []]) k):=fun k=>by
      rw[hat];split
      ·rename_i e;subst e
       have ho:=m1.obj k
       rw[hbox'] at ho
       obtain⟨b,cs,ty,fr,e1,e2,e3,e4⟩:=ho
       refine⟨b,cs,ty,fr,e1,e2,e3, ?_⟩
       apply RepL.of_getElem
       ·rw[List.length_set];exact e4.length
       ·intro j u hj
        rw[List.getElem?_set] at hj
        split at hj
        ·rename_i hij
         subst hij
         split at hj
         ·rename_i hlt2
          cases hj
          have hget:cells[i]? =some (.sl s [] true):=by
           rw[List.getD_eq_getElem?_getD,List.getElem?_eq_getElem hlt2,Option.getD_some] at hsl
           rw[List.getElem?_eq_getElem hlt2,hsl]
          obtain⟨v,f1,ad,cap,f2,_,f3,_⟩:=e4.get i hget
          have:=f3 rfl
          simp only[List.length_nil] at this
          subst this
          exact⟨v,f1, .inl ⟨rfl,ad,f2⟩⟩
         ·cases hj
        ·exact e4.get j hj
      ·exact m1.obj k
     refine⟨c',rfl,⟨⟨hs.slots.size,fun u v hu=>Rep.mono hl _ (hs.slots.rep u v hu)⟩,⟨hobj,fun k k' b o w n z o' w' n' z' h1 h2 h3 h4=>m1.uniq k k' b _ _ _ _ _ _ _ _ h1 h2 (by rwa[how] at h3) (by rwa[how] at h4),m1.imm,fun b hb=>m1.sep b (hown b hb),m1.glob⟩,by simpa using m4⟩,
      ⟨m2.os,m2.tape,m2.output,m2.size,m2.keep,fun b hb=>m2.own b (hown b hb),m2.imm,m2.imm'⟩,fun r _ l hl=>m3 r l hl,rfl⟩
    ·cases h
   ·exact ownCells_sound ts st k r h
  ·exact ownCells_sound ts st k r h
theorem frzAll_res (n0:Nat): ∀(ts:List Nat) (st:St),NormRes n0 st (frzAll ts st)
 |[],st=> .refl _ _
 |t::ts,st=>by
  have e:frzAll (t::ts) st=frzAll ts ⟨st.s.set t (freezeV st.h (st.s.getD t .any)).1,(freezeV st.h (st.s.getD t .any)).2⟩:=rfl
  rw[e]
  refine .trans (fun a c hs=> ?_) (frzAll_res n0 ts _)
  have hv:Rep c (st.s.getD t .any) (a.tmps.getD t undef):=by
   rw[List.getD_eq_getElem?_getD]
   cases ht:st.s[t]? with
   |none=>exact trivial
   |some v=>exact hs.slots.rep t v ht
  obtain⟨c1,e1,e2,e3,e4,e5,e6,e7⟩:=freezeV_sound hv hs.heap hs.fresh
  refine⟨c1,e1,⟨⟨by simpa using hs.slots.size,fun u v hu=> ?_⟩,e4,by rw[e5];intro r hr;rw[e2];exact hs.fresh r hr⟩,e6,fun r _ l hl=>e7 r l hl,rfl⟩
  simp only[List.getElem?_set] at hu
  split at hu
  ·rename_i htu;subst htu
   split at hu
   ·cases hu;exact e3
   ·cases hu
  ·exact Rep.mono (Later.of_step hs.heap e6 e7) _ (hs.slots.rep u v hu)
theorem gc_step {c:Ctx}{H:Heap}{F:List Nat}(hc:ClosedL H F)(hh:HRel c H.at):
  HRel (ctxL c F) (local_ H F).at∧Fresh (ctxL c F) (local_ H F).length∧RenRel F.idxOf (· ∈F) c (ctxL c F)∧Step c H.at (ctxL c F) (local_ H F).at:=by
 obtain⟨h1,h2,h3,h4⟩:=local_rel hc hh (fun _ _=>rfl)
 refine⟨h1,h2,h3,rfl,rfl,rfl,Nat.le_refl _,fun _ _ _=>rfl,fun b hb=> ?_,fun _ h=>h,fun _ h=> .inl h⟩
 obtain⟨i,o,w,n,z,e1,e2⟩:=hb
 obtain⟨r,_,_,e3,e4⟩:=h4 _ _ _ _ _ _ e1 e2
 exact .inl ⟨r,_,_,_,_,e3,e4⟩
theorem gc_stay {c:Ctx}{F:List Nat}{n0:Nat}(h:F.take n0=List.range n0): ∀r,r<n0→ ∀l,c.js r=some l→(ctxL c F).js r=some l:=fun r hr l hl=>by
 have h1:(F.take n0)[r]? =(List.range n0)[r]? :=by rw[h]
 rw[List.getElem?_take,if_pos hr,List.getElem?_range hr] at h1
 show(match F[r]? with|some r=>c.js r|none=>none)=some l
 rw[h1];exact hl
theorem gcA_ok {α:Type}{n0:Nat}{s:List AV}{H:Heap}{k:List AV→Heap→Option α}{r:α}(h:gcA n0 s H k=some r):
  ∃F,ClosedL H F∧(∀ q∈refsL s,q∈F)∧F.take n0=List.range n0∧k (renL F.idxOf s) (local_ H F)=some r:=by
 unfold gcA at h
 dsimp only at h
 generalize reach H (H.length+1) (addNew (List.range n0) (refsL s))=F at h
 split at h
 case isFalse=>simp at h
 rename_i hok
 simp only[Bool.and_eq_true,List.all_eq_true,List.contains_iff_mem,decide_eq_true_eq] at hok
 exact⟨F, .of hok.1.1,hok.1.2,hok.2,h⟩
theorem renL_get (f:Nat→Nat): ∀(l:List AV) (t:Nat),(renL f l)[t]? =(l[t]?).map (ren f)
 |[],t=>by simp[renL]
 |a::l,0=>rfl
 |a::l,t+1=>by simpa [renL] using renL_get f l t
theorem renL_len (f:Nat→Nat): ∀(l:List AV),(renL f l).length=l.length
 |[]=>rfl
 |a::l=>by simp[renL,renL_len f l]
theorem refsL_get: ∀(l:List AV) (t:Nat) (v:AV),l[t]? =some v→ ∀q∈refs v,q∈refsL l
 |a::l,0,v,h,q,hq=>by
  simp at h;subst h;simp[refsL,hq]
 |a::l,t+1,v,h,q,hq=>by
  simp only[refsL,List.mem_append]
  exact .inr (refsL_get l t v (by simpa using h) q hq)
theorem gc_res {n0:Nat}{s:List AV}{H:Heap}{F:List Nat}(hc:ClosedL H F)(hs: ∀q∈refsL s,q∈F)(hn:F.take n0=List.range n0):NormRes n0 ⟨s,H⟩ ⟨renL F.idxOf s,local_ H F⟩:=fun a c h=>by
 obtain⟨h1,h2,h3,h4⟩:=gc_step hc h.heap
 refine⟨ctxL c F,rfl,⟨⟨h.slots.size.trans (renL_len _ _).symm,fun t v ht=> ?_⟩,h1,h2⟩,h4,gc_stay hn,rfl⟩
 rw[renL_get] at ht
 cases hg:s[t]? with
 |none=>rw[hg] at ht;cases ht
 |some u=>
  rw[hg] at ht
  cases ht
  exact rep_ren h3 u (fun q hq=>hs q (refsL_get s t u hg q hq)) (h.slots.rep t u hg)
theorem normA_sound {α:Type}{n0:Nat}{N:Norm}{st:St}{k:St→Option α}{r:α}(h:normA n0 N st k=some r): ∃st',k st'=some r∧NormRes n0 st st':=by
 unfold normA at h
 obtain⟨st0,h0,h2⟩:=ownAll_sound (n0:=n0) _ _ _ _ h
 obtain⟨st1,h1,h3⟩:=ownCells_sound (n0:=n0) _ _ _ _ h0
 dsimp only at h1
 obtain⟨F,g1,g2,g3,g4⟩:=gcA_ok h1
 exact⟨_,g4, .trans (.trans (.trans (keepS_res n0 _ 0 st.s st.h) h2) h3) (.trans (frzAll_res n0 _ _) (gc_res g1 g2 g3))⟩
def child:Code→Nat→Option Code
 | .seq a b,i=>if i=0 then some a else some b
 | .cond _ a b,i=>if i=0 then some a else some b
 | .block _ b,_=>some b
 | .loop b,_=>some b
 | .scope b,i=>match i with|0=>some b|l+1=>findLabel b l
 |_,_=>none
def codeAt (root:Code):List Nat→Option Code
 |[]=>some root
 |i::p=>(codeAt root p).bind (child · i)
def JumpOK (P:Program)(n0:Nat)(b c:Code)(sp:CSpec):Prop:=
 ∀(α:Type) (st:St) (k:Exit→St→Option α) (r:α),sp α st k=some r→ ∃e st',k e st'=some r∧
  ∀a cx,Sim a cx st→ ∀Q:Exit→Act→World→Prop,(∀ a' c',Moved n0 a cx st a' c' st'→Q e a' c'.w)→ScopeWp P b c Q a cx.w
structure Hints.OK (P:Program)(root:Code)(h:Hints):Prop where
 sum: ∀p sp,h.sum p=some sp→ ∃code,codeAt root p=some code∧SumOK P h.n0 code sp
 jump: ∀q p sp,h.jump (q::p)=some sp→ ∃b c,codeAt root p=some (.scope b)∧codeAt root (q::p)=some c∧JumpOK P h.n0 b c sp
theorem CodeRes.norm {n0:Nat}{code:Code}{e:Exit}{st st1 st':St}(hn:NormRes n0 st st1)(h:CodeRes P n0 code e st1 st'):CodeRes P n0 code e st st':=fun a c hs Q hQ=>by
 obtain⟨c1,e1,e2⟩:=hn a c hs
 rw[← e1]
 exact h a c1 e2.sim Q fun a' c' hm=>hQ a' c' (e2.trans hm)
theorem CodeRes.wp {n0:Nat}{code:Code}{e:Exit}{st st':St}(h:CodeRes P n0 code e st st'){a:Act}{c:Ctx}(hs:Sim a c st){Q:Exit→Act→World→Prop}
  (hQ: ∀a' c',Moved n0 a c st a' c' st'→Q e a' c'.w):code.wp P Q a c.w:=wp_of_wpL (h a c hs Q hQ)
theorem evS_sound {α:Type}{n0:Nat}{b:Code}{J:Nat→Option CSpec}{B:Nat→Code→St→(Exit→St→Option α)→Option α}{ok:Nat→Code→Prop}
  (hB: ∀q c st k r,ok q c→B q c st k=some r→ ∃e st',k e st'=some r∧CodeRes P n0 c e st st') (hok: ∀l rest,findLabel b l=some rest→ok (l+1) rest) (hJ: ∀q c sp,ok q c→J q=some sp→JumpOK P n0 b c sp):
  ∀(n q:Nat) (c:Code) (st:St) (k:Exit→St→Option α) (r:α),ok q c→evS J B b n q c st k=some r→
   ∃e st',k e st'=some r∧ ∀a cx,Sim a cx st→ ∀Q:Exit→Act→World→Prop,(∀ a' c',Moved n0 a cx st a' c' st'→Q e a' c'.w)→ScopeWp P b c Q a cx.w
 |0,_,_,_,_,_,_,h=>by simp[evS] at h
 |n+1,q,c,st,k,r,hq,h=>by
  unfold evS at h
  split at h
  ·rename_i sp hsp
   exact hJ q c sp hq hsp α st k r h
  obtain⟨e,st1,h1,h2⟩:=hB q c st _ r hq h
  have plain: ∀e,(∀ l,e= .goto l→findLabel b l=none)→k e st1=some r→CodeRes P n0 c e st st1→
    ∃e st',k e st'=some r∧ ∀a cx,Sim a cx st→ ∀Q:Exit→Act→World→Prop,(∀ a' c',Moved n0 a cx st a' c' st'→Q e a' c'.w)→ScopeWp P b c Q a cx.w:=fun e he hk hr=>
   ⟨e,st1,hk,fun a cx hs Q hQ=>scope_of (hr.wp hs fun a' c' hm=>by
    have:=hQ a' c' hm
    cases e with
    |goto l=>simp only[Exit.jumps];rw[he l rfl];exact this
    |_=>exact this)⟩
  cases e with
  |goto l=>
   dsimp only at h1
   cases hf:findLabel b l with
   |none=>
    rw[hf] at h1
    exact plain _ (fun l' e=>by cases e;exact hf) h1 h2
   |some rest=>
    rw[hf] at h1
    obtain⟨e2,st2,g1,g2⟩:=evS_sound hB hok hJ n (l+1) rest st1 k r (hok l rest hf) h1
    refine⟨e2,st2,g1,fun a cx hs Q hQ=>scope_of (h2.wp hs fun a' c' hm=> ?_)⟩
    simp only[Exit.jumps]
    rw[hf]
    exact g2 a' c' hm.sim Q fun a2 c2 hm2=>hQ a2 c2 (hm.trans hm2)
  |normal=>exact plain _ (by simp) h1 h2
  |exit id=>exact plain _ (by simp) h1 h2
  |ret=>exact plain _ (by simp) h1 h2
  |panic ch=>exact plain _ (by simp) h1 h2
  |outgrown=>exact plain _ (by simp) h1 h2
theorem ev_sound {E:Env}(hE:E.OK P)(hmix:P.follows .mixedOrders=true){root:Code}{h:Hints}(hh:h.OK P root){α:Type}:
  ∀(n:Nat) (p:List Nat) (code:Code) (st:St) (k:Exit→St→Option α) (r:α),codeAt root p=some code→ev P E h n p code st k=some r→
   ∃e st',k e st'=some r∧CodeRes P h.n0 code e st st'
 |0,_,_,_,_,_,_,hv=>by simp[ev] at hv
 |n+1,p,code,st,k,r,hp,hv=>by
  have ih:=fun p code st k r=>ev_sound hE hmix hh (α:=α) n p code st k r
  unfold ev at hv
  split at hv
  ·rename_i sp hsp
   obtain⟨code',h1,h2⟩:=hh.sum p sp hsp
   rw[hp] at h1;cases h1
   exact h2 α st k r hv
  split at hv
  ·exact⟨_,st,hv,fun a c hs Q hQ=>wp_skip (hQ a c (.refl hs))⟩
  ·exact⟨_,st,hv,fun a c hs Q hQ=>wp_label (hQ a c (.refl hs))⟩
  ·obtain⟨st',h1,h2⟩:=evRegion_sound hE hmix hv
   exact⟨_,st',h1,fun a c hs Q hQ=>h2 a c hs Q fun a' c' g1 g2 g3 g4=>hQ a' c' ⟨g1,g2,fun r _ l hl=>g3 r l hl,g4⟩⟩
  ·-- seq
   rename_i x y
   obtain⟨e,st1,h1,h2⟩:=ih (0::p) x st _ r (by simp[codeAt,hp,child]) hv
   cases e with
   |normal=>
    obtain⟨e2,st2,h3,h4⟩:=ih (1::p) y st1 k r (by simp[codeAt,hp,child]) h1
    exact⟨e2,st2,h3,fun a c hs Q hQ=>wp_seq (h2.wp hs fun a' c' hm=>h4.wp hm.sim fun a2 c2 hm2=>hQ a2 c2 (hm.trans hm2))⟩
   |exit id=>exact⟨_,st1,h1,fun a c hs Q hQ=>wp_seq (h2.wp hs hQ)⟩
   |goto l=>exact⟨_,st1,h1,fun a c hs Q hQ=>wp_seq (h2.wp hs hQ)⟩
   |ret=>exact⟨_,st1,h1,fun a c hs Q hQ=>wp_seq (h2.wp hs hQ)⟩
   |panic ch=>exact⟨_,st1,h1,fun a c hs Q hQ=>wp_seq (h2.wp hs hQ)⟩
   |outgrown=>exact⟨_,st1,h1,fun a c hs Q hQ=>wp_seq (h2.wp hs hQ)⟩
  ·-- cond
   rename_i c0 x y
   split at hv
   ·rename_i b hb
    rcases cond_some hv with ⟨rfl,hv⟩|⟨rfl,hv⟩
    ·obtain⟨e,st1,h1,h2⟩:=ih (0::p) x st _ r (by simp[codeAt,hp,child]) hv
     exact⟨e,st1,h1,fun a c hs Q hQ=>wp_cond_true (by have:=hs.slots.eval hs.heap.glob c0;rw[hb] at this;exact this) (h2.wp hs hQ)⟩
    ·obtain⟨e,st1,h1,h2⟩:=ih (1::p) y st _ r (by simp[codeAt,hp,child]) hv
     exact⟨e,st1,h1,fun a c hs Q hQ=>wp_cond_false (by have:=hs.slots.eval hs.heap.glob c0;rw[hb] at this;exact this) (h2.wp hs hQ)⟩
   ·cases hv
  ·-- block
   rename_i id b
   obtain⟨e,st1,h1,h2⟩:=ih (0::p) b st _ r (by simp[codeAt,hp,child]) hv
   cases e with
   |normal=>exact⟨_,st1,h1,fun a c hs Q hQ=>wp_block (h2.wp hs hQ)⟩
   |exit i=>
    dsimp only at h1
    split at h1
    ·rename_i hi
     exact⟨_,st1,h1,fun a c hs Q hQ=>wp_block (h2.wp hs fun a' c' hm=>by simp only[Exit.inBlock,hi,if_true];exact hQ a' c' hm)⟩
    ·rename_i hi
     exact⟨_,st1,h1,fun a c hs Q hQ=>wp_block (h2.wp hs fun a' c' hm=>by simp only[Exit.inBlock,hi,if_false];exact hQ a' c' hm)⟩
   |goto l=>exact⟨_,st1,h1,fun a c hs Q hQ=>wp_block (h2.wp hs hQ)⟩
   |ret=>exact⟨_,st1,h1,fun a c hs Q hQ=>wp_block (h2.wp hs hQ)⟩
   |panic ch=>exact⟨_,st1,h1,fun a c hs Q hQ=>wp_block (h2.wp hs hQ)⟩
   |outgrown=>exact⟨_,st1,h1,fun a c hs Q hQ=>wp_block (h2.wp hs hQ)⟩
  ·-- loop
   rename_i b
   have round: ∀st0,ev P E h n (0::p) b st0 (fun e st'=>match e with| .normal=>ev P E h n p (.loop b) st' k|e=>k e st')=some r→ ∃e st',k e st'=some r∧CodeRes P h.n0 (.loop b) e st0 st':=by
    intro st0 hv
    obtain⟨e,st1,h1,h2⟩:=ih (0::p) b st0 _ r (by simp[codeAt,hp,child]) hv
    cases e with
    |normal=>
     obtain⟨e2,st2,h3,h4⟩:=ih p (.loop b) st1 k r hp h1
     exact⟨e2,st2,h3,fun a c hs Q hQ=>loop_of (h2.wp hs fun a' c' hm=>h4 a' c' hm.sim Q fun a2 c2 hm2=>hQ a2 c2 (hm.trans hm2))⟩
    |exit id=>exact⟨_,st1,h1,fun a c hs Q hQ=>loop_of (h2.wp hs hQ)⟩
    |goto l=>exact⟨_,st1,h1,fun a c hs Q hQ=>loop_of (h2.wp hs hQ)⟩
    |ret=>exact⟨_,st1,h1,fun a c hs Q hQ=>loop_of (h2.wp hs hQ)⟩
    |panic ch=>exact⟨_,st1,h1,fun a c hs Q hQ=>loop_of (h2.wp hs hQ)⟩
    |outgrown=>exact⟨_,st1,h1,fun a c hs Q hQ=>loop_of (h2.wp hs hQ)⟩
   split at hv
   ·exact round st hv
   ·obtain⟨st0,h1,h2⟩:=normA_sound hv
    obtain⟨e,st',h3,h4⟩:=round st0 h1
    exact⟨e,st',h3,h4.norm h2⟩
  ·exact⟨_,st,hv,fun a c hs Q hQ=>wp_exit (hQ a c (.refl hs))⟩
  ·exact⟨_,st,hv,fun a c hs Q hQ=>wp_goto (hQ a c (.refl hs))⟩
  ·exact⟨_,st,hv,fun a c hs Q hQ=>wp_ret (hQ a c (.refl hs))⟩
  ·-- scope
   rename_i b
   obtain⟨e,st',h1,h2⟩:=evS_sound (P:=P) (n0:=h.n0) (ok:=fun q c=>codeAt root (q::p)=some c)
    (B:=fun q c st k=>match h.norm (q::p) with|none=>ev P E h n (q::p) c st k|some N=>normA h.n0 N st fun st=>ev P E h n (q::p) c st k)
    (fun q c st k r hq hv=>by
     split at hv
     ·exact ih _ c st k r hq hv
     ·obtain⟨st0,h1,h2⟩:=normA_sound hv
      obtain⟨e,st',h3,h4⟩:=ih _ c st0 k r hq h1
      exact⟨e,st',h3,h4.norm h2⟩)
    (fun l rest hf=>by simp[codeAt,hp,child,hf]) (J:=fun q=>h.jump (q::p)) (fun q c sp hq hJ=>by
     obtain⟨b',c',e1,e2,e3⟩:=hh.jump q p sp hJ
     rw[hp] at e1;cases e1
     rw[hq] at e2;cases e2
     exact e3) n 0 b st k r (by simp[codeAt,hp,child]) hv
   exact⟨e,st',h1,fun a c hs Q hQ=>wp_of_scope (h2 a c hs Q hQ)⟩
  ·cases hv
  ·cases hv
end Go.TX
