/- Contracts, and each operation: the machine does what the evaluator says. -/
import Derived.Test.YtgchjlbhmfbgaaaGreatDoorTxJ
namespace Go.TX
set_option linter.unusedSectionVars false
variable [Globals]
variable {P:Program}
abbrev Goes (c:Ctx)(H:Heap)(o:Oper)(a:Act)(v:AV)(H':Heap)(next:Act→World→Prop):Prop:=
 ∀v' c',Rep c' v v'→HRel c' H'.at→Fresh c' H'.length→Step c H.at c' H'.at→Stay c c'→next (a.put o.dst v') c'.w
def CallRes (P:Program)(f:FuncId)(args:List AV)(H:Heap)(v:AV)(H':Heap):Prop:=
 ∀(c:Ctx) (vs:List Value),RepL c args vs→HRel c H.at→Fresh c H.length→
  ∀(o:Oper) (a:Act) (next:Act→World→Prop) (Q:Exit→Act→World→Prop),Goes c H o a v H' next→o.upon P a next Q ((callFunc f vs.toArray).run P c.w)
def Good (P:Program)(f:FuncId)(sp:Spec):Prop:=
 ∀(α:Type) (args:List AV) (H:Heap) (k:Kont α) (r:α),sp α args H k=some r→ ∃v H',k v H'=some r∧CallRes P f args H v H'
def Env.OK (P:Program)(E:Env):Prop:= ∀f b (sp:Spec),E.calls f=some (b,sp)→Good P f sp
def OpRes (P:Program)(o:Oper)(ρ:Operand→AV)(H:Heap)(v:AV)(H':Heap):Prop:=
 ∀(a:Act) (c:Ctx),(∀ x∈o.op.operands,Rep c (ρ x) (a.eval x))→HRel c H.at→Fresh c H.length→
  ∀(next:Act→World→Prop) (Q:Exit→Act→World→Prop),Goes c H o a v H' next→o.wp P a c.w next Q
theorem wp_of_sem {o:Oper}{a:Act}{c:Ctx}{H H':Heap}{v:AV}{m:Sem Value}{next:Act→World→Prop}{Q:Exit→Act→World→Prop}
  (he:execOp a.eval o=(do pure (.value (← m)))) (h:SemRes P m c H v H') (hk:Goes c H o a v H' next):o.wp P a c.w next Q:=by
 obtain⟨v',c',h1,h2,h3,h4,h5,h6⟩:=h
 unfold Oper.wp
 rw[he]
 simp only[Sem.run_bind,h1,Result.andThen_ok,Sem.run_pure]
 exact hk v' c' h2 h3 h4 h5 h6
theorem wp_same {o:Oper}{a:Act}{c:Ctx}{H:Heap}{v:AV}{v':Value}{next:Act→World→Prop}{Q:Exit→Act→World→Prop}
  (he:(execOp a.eval o).run P c.w= .ok (.value v') c.w) (hv:Rep c v v') (hh:HRel c H.at) (hf:Fresh c H.length) (hk:Goes c H o a v H next):o.wp P a c.w next Q:=by
 unfold Oper.wp
 rw[he]
 exact hk v' c hv hh hf (.refl _ _) (.refl _)
mutual
theorem rep_noref {c:Ctx}{js:Nat→Option Loc}:(a:AV)→{v:Value}→refs a=[]→Rep c a v→Rep ⟨c.w,c.I,js⟩ a v
 | .any,_,_,_=>trivial
 | .lit _,_,_,h=>h
 | .agg l,_,hr,⟨vs,h1,h2⟩=>⟨vs,h1,repL_noref l hr h2⟩
 | .tup l,_,hr,⟨vs,h1,h2⟩=>⟨vs,h1,repL_noref l hr h2⟩
 | .sl s l x,_,_,h=>by
  have e: ∀(s:Sh) (d:s.Den) (vs:List Value),RepD c s d vs→RepD ⟨c.w,c.I,js⟩ s d vs:=repD_js
  obtain⟨a,cap,h1,h2,h3,h4⟩:=h
  refine⟨a,cap,h1,h2,h3,h4.imp id ?_⟩
  rintro ⟨b,o,g1,g2,g3⟩
  exact⟨b,o,g1,g2,g3.mono rfl fun x vs=>e s x vs⟩
 | .ptr _ _ _,_,hr,_=>by simp[refs] at hr
 | .pel s l i off,_,_,⟨b,o,h1,h2,h3,h4⟩=>⟨b,o,h1,h2.mono rfl fun x vs=>repD_js s x vs,h3,h4⟩
 | .msl _ _ _,_,hr,_=>by simp[refs] at hr
 | .clo f a b,_,hr,⟨x,y,h1,h2,h3⟩=>by
  simp only[refs,List.append_eq_nil_iff] at hr
  exact⟨x,y,h1,repL_noref a hr.1 h2,repL_noref b hr.2 h3⟩
 | .mp _,_,hr,_=>by simp[refs] at hr
theorem repL_noref {c:Ctx}{js:Nat→Option Loc}:(l:List AV)→{vs:List Value}→refsL l=[]→RepL c l vs→RepL ⟨c.w,c.I,js⟩ l vs
 |[],_,_,h=>h
 |a::l,_,hr,⟨v,vs',h1,h2,h3⟩=>by
  simp only[refsL,List.append_eq_nil_iff] at hr
  exact⟨v,vs',h1,rep_noref a hr.1 h2,repL_noref l hr.2 h3⟩
end
theorem freezeA_sound {c:Ctx}{H:Heap}{a:AV}{v:Value}(hv:Rep c a v)(hh:HRel c H.at)(_hf:Fresh c H.length):
  ∃c1:Ctx,c1.w=c.w∧c1.js=c.js∧Rep c1 (freezeA H a).1 v∧HRel c1 (freezeA H a).2.at∧(freezeA H a).2.length=H.length∧Step c H.at c1 (freezeA H a).2.at∧Stay c c1:=by
 have same:(∃ c1:Ctx,c1.w=c.w∧c1.js=c.js∧Rep c1 a v∧HRel c1 H.at∧H.length=H.length∧Step c H.at c1 H.at∧Stay c c1):=
  ⟨c,rfl,rfl,hv,hh,rfl, .refl _ _, .refl _⟩
 unfold freezeA
 split
 ·rename_i r i n
  split
  ·rename_i s l hat
   have hlt:r<H.length:=lt_of_at hat (by simp)
   have ho:=hh.obj r
   rw[hat] at ho
   rcases ho with ⟨rfl,hj⟩|⟨b,o,cs,ty,fr,h1,h2,h3,h4⟩
   ·-- it lies nowhere
    obtain⟨g1,g2⟩:HRel c (Heap.at (H.set r (.fz s [])))∧Step c H.at c (Heap.at (H.set r (.fz s []))):=by
     have how: ∀k,(Heap.at (H.set r (.fz s [])) k).owns=true→(H.at k).owns=true∧k≠r:=fun k h=>by
      rw[at_set _ hlt] at h;split at h
      ·simp[AObj.owns] at h
      ·rename_i hk;exact⟨h,hk⟩
     have hown: ∀b,Own c (Heap.at (H.set r (.fz s []))) b→Own c H.at b:=fun b ⟨k,o,w,n,z,h1,h2⟩=>⟨k,o,w,n,z,h1,(how k h2).1⟩
     refine⟨⟨fun k=> ?_,fun k k' b' o1 w1 n1 z1 o2 w2 n2 z2 h1 h2 h3 h4=>hh.uniq k k' b' _ _ _ _ _ _ _ _ h1 h2 (how _ h3).1 (how _ h4).1,hh.imm,fun b hb=>hh.sep b (hown b hb),hh.glob⟩,
      ⟨rfl,rfl,rfl,Nat.le_refl _,fun _ _ _=>rfl,fun b hb=> .inl (hown b hb),fun _ h=>h,fun _ h=> .inl h⟩⟩
     rw[at_set _ hlt]
     split
     ·rename_i hk;subst hk;exact .inl ⟨rfl,hj⟩
     ·exact hh.obj k
    refine⟨c,rfl,rfl, ?_,g1,by simp,g2, .refl _⟩
    rcases hv with ⟨rfl,ad,rfl⟩|⟨b,o,w,m,z,cap,e1,_⟩
    ·exact⟨ad,0,by simp,by simp,by simp, .inl (by simp)⟩
    ·rw[hj] at e1;simp at e1
   ·let c1:Ctx:=⟨c.w,fun k=>c.I k∨k=b,c.js⟩
    have hbo:Own c H.at b:=⟨r,o,_,_,_,h1,by rw[hat];rfl⟩
    have hl:Later c c1:=⟨fun k hk=>⟨.inl hk,rfl⟩,fun _ _ h=>h⟩
    have how: ∀k,(Heap.at (H.set r (.fz s l)) k).owns=true→(H.at k).owns=true∧k≠r:=fun k h=>by
     rw[at_set _ hlt] at h;split at h
     ·simp[AObj.owns] at h
     ·rename_i hk;exact⟨h,hk⟩
    have hown: ∀k,Own c1 (Heap.at (H.set r (.fz s l))) k→Own c H.at k∧k≠b:=fun k ⟨q,o',w',n',z',g1,g2⟩=>by
     refine⟨⟨q,o',w',n',z',g1,(how q g2).1⟩,fun e=> ?_⟩
     subst e
     exact(how q g2).2 (hh.uniq q r _ _ _ _ _ _ _ _ _ g1 h1 (how q g2).1 (by rw[hat];rfl))
    have hholds:Holds c.w b o (RepD c1 s) s.width l:=⟨cs,ty,fr,h2,fun i hi=>by
     obtain⟨vs,e1,e2⟩:=h4 i hi
     exact⟨vs,RepD.mono hl s e1,e2⟩⟩
    refine⟨c1,rfl,rfl, ?_,⟨fun k=> ?_,fun k k' b' o1 w1 n1 z1 o2 w2 n2 z2 g1 g2 g3 g4=>hh.uniq k k' b' _ _ _ _ _ _ _ _ g1 g2 (how _ g3).1 (how _ g4).1, ?_, ?_,hh.glob.of hl.imm⟩,by simp,
     ⟨rfl,rfl,rfl,Nat.le_refl _,fun _ _ _=>rfl,fun k hk=> .inl (hown k hk).1,fun _ h=> .inl h, ?_⟩,fun _ _ h=>h⟩
    ·rcases hv with ⟨rfl,ad,rfl⟩|⟨b',o',w,m,z,cap,e1,rfl,e3,e4,e5⟩
     ·exact⟨ad,0,by simp,by simp,by simp, .inl (by simp)⟩
     ·rw[h1] at e1
      simp only[Option.some.injEq,Loc.real.injEq] at e1
      obtain⟨rfl,rfl,rfl,rfl,rfl⟩:=e1
      have hlen:((l.drop i).take n).length=n:=by simp;omega
      exact⟨_,cap,by rw[hlen],by rw[hlen];exact e3,by simp, .inr ⟨b,_,rfl, .inr rfl,hholds.cut e4⟩⟩
    ·rw[at_set _ hlt]
     split
     ·rename_i hk;subst hk;exact .inr ⟨b,o,cs.size,h1, .inr rfl,hholds⟩
     ·exact(hh.obj k).mono hl fun _ _ _ _ _ _ _=>rfl
    ·rintro k (hk|rfl)
     ·exact hh.imm k hk
     ·exact lt_of_heap h2
    ·intro k hk hi
     rcases hi with hi|rfl
     ·exact hh.sep k (hown k hk).1 hi
     ·exact(hown _ hk).2 rfl
    ·rintro k (hk|rfl)
     ·exact .inl hk
     ·exact .inr (.inl hbo)
  ·rename_i s l hat
   have ho:=hh.obj r
   rw[hat] at ho
   refine⟨c,rfl,rfl, ?_,hh,rfl, .refl _ _, .refl _⟩
   rcases hv with ⟨rfl,ad,rfl⟩|⟨b',o',w,m,z,cap,e1,rfl,e3,e4,e5⟩
   ·exact⟨ad,0,by simp,by simp,by simp, .inl (by simp)⟩
   ·rcases ho with ⟨rfl,hj⟩|⟨b,o,z,h1,h2,h3⟩
    ·rw[hj] at e1;simp at e1
    ·rw[h1] at e1
     simp only[Option.some.injEq,Loc.real.injEq] at e1
     obtain⟨rfl,rfl,rfl,rfl,rfl⟩:=e1
     have hlen:((l.drop i).take n).length=n:=by simp;omega
     exact⟨_,cap,by rw[hlen],by rw[hlen];exact e3,by simp, .inr ⟨b,_,rfl,h2,h3.cut e4⟩⟩
  ·exact same
 ·exact same
theorem freezeL_sound: ∀(l:List AV) (c:Ctx) (H:Heap) (vs:List Value),RepL c l vs→HRel c H.at→Fresh c H.length→
  ∃c1:Ctx,c1.w=c.w∧c1.js=c.js∧RepL c1 (freezeL H l).1 vs∧HRel c1 (freezeL H l).2.at∧(freezeL H l).2.length=H.length∧Step c H.at c1 (freezeL H l).2.at∧Stay c c1
 |[],c,H,vs,hv,hh,_=>⟨c,rfl,rfl,hv,hh,rfl, .refl _ _, .refl _⟩
 |a::l,c,H,vs,⟨v,vs',h1,h2,h3⟩,hh,hf=>by
  obtain⟨c1,e1,e2,e3,e4,e5,e6,e7⟩:=freezeA_sound h2 hh hf
  have hl1:=Later.of_step hh e6 e7
  obtain⟨c2,f1,f2,f3,f4,f5,f6,f7⟩:=freezeL_sound l c1 (freezeA H a).2 vs' (RepL.mono hl1 l h3) e4 (by rw[e5];intro r hr;rw[e2];exact hf r hr)
  have hl2:=Later.of_step e4 f6 f7
  exact⟨c2,f1.trans e1,f2.trans e2,⟨v,vs',h1,Rep.mono hl2 _ e3,f3⟩,f4,f5.trans e5,e6.trans f6,e7.trans f7⟩
theorem freezeG_sound {c:Ctx}{H:Heap}{a:AV}{v:Value}(hv:Rep c a v)(hh:HRel c H.at)(hf:Fresh c H.length):
  ∃c1:Ctx,c1.w=c.w∧c1.js=c.js∧Rep c1 (freezeG H a).1 v∧HRel c1 (freezeG H a).2.at∧(freezeG H a).2.length=H.length∧Step c H.at c1 (freezeG H a).2.at∧Stay c c1:=by
 unfold freezeG
 split
 ·obtain⟨vs,rfl,h2⟩:=hv
  obtain⟨c1,e1,e2,e3,e4⟩:=freezeL_sound _ c H _ h2 hh hf
  exact⟨c1,e1,e2,⟨vs,rfl,e3⟩,e4⟩
 ·exact freezeA_sound hv hh hf
theorem freezeM_sound: ∀(l:List AV) (c:Ctx) (H:Heap) (vs:List Value),RepL c l vs→HRel c H.at→Fresh c H.length→
  ∃c1:Ctx,c1.w=c.w∧c1.js=c.js∧RepL c1 (freezeM H l).1 vs∧HRel c1 (freezeM H l).2.at∧(freezeM H l).2.length=H.length∧Step c H.at c1 (freezeM H l).2.at∧Stay c c1
 |[],c,H,vs,hv,hh,_=>⟨c,rfl,rfl,hv,hh,rfl, .refl _ _, .refl _⟩
 |a::l,c,H,vs,⟨v,vs',h1,h2,h3⟩,hh,hf=>by
  obtain⟨c1,e1,e2,e3,e4,e5,e6,e7⟩:=freezeG_sound h2 hh hf
  have hl1:=Later.of_step hh e6 e7
  obtain⟨c2,f1,f2,f3,f4,f5,f6,f7⟩:=freezeM_sound l c1 (freezeG H a).2 vs' (RepL.mono hl1 l h3) e4 (by rw[e5];intro r hr;rw[e2];exact hf r hr)
  have hl2:=Later.of_step e4 f6 f7
  exact⟨c2,f1.trans e1,f2.trans e2,⟨v,vs',h1,Rep.mono hl2 _ e3,f3⟩,f4,f5.trans e5,e6.trans f6,e7.trans f7⟩
theorem freezeV_sound {c:Ctx}{H:Heap}{a:AV}{v:Value}(hv:Rep c a v)(hh:HRel c H.at)(hf:Fresh c H.length):
  ∃c1:Ctx,c1.w=c.w∧c1.js=c.js∧Rep c1 (freezeV H a).1 v∧HRel c1 (freezeV H a).2.at∧(freezeV H a).2.length=H.length∧Step c H.at c1 (freezeV H a).2.at∧Stay c c1:=by
 unfold freezeV
 split
 ·obtain⟨vs,rfl,h2⟩:=hv
  obtain⟨c1,e1,e2,e3,e4⟩:=freezeL_sound _ c H _ h2 hh hf
  exact⟨c1,e1,e2,⟨vs,rfl,e3⟩,e4⟩
 ·obtain⟨vs,rfl,h2⟩:=hv
  obtain⟨c1,e1,e2,e3,e4⟩:=freezeM_sound _ c H _ h2 hh hf
  exact⟨c1,e1,e2,⟨vs,rfl,e3⟩,e4⟩
 ·exact freezeA_sound hv hh hf
theorem freezeW_sound: ∀(l:List AV) (c:Ctx) (H:Heap) (vs:List Value),RepL c l vs→HRel c H.at→Fresh c H.length→
  ∃c1:Ctx,c1.w=c.w∧c1.js=c.js∧RepL c1 (freezeW H l).1 vs∧HRel c1 (freezeW H l).2.at∧(freezeW H l).2.length=H.length∧Step c H.at c1 (freezeW H l).2.at∧Stay c c1
 |[],c,H,vs,hv,hh,_=>⟨c,rfl,rfl,hv,hh,rfl, .refl _ _, .refl _⟩
 |a::l,c,H,vs,⟨v,vs',h1,h2,h3⟩,hh,hf=>by
  obtain⟨c1,e1,e2,e3,e4,e5,e6,e7⟩:=freezeV_sound h2 hh hf
  have hl1:=Later.of_step hh e6 e7
  obtain⟨c2,f1,f2,f3,f4,f5,f6,f7⟩:=freezeW_sound l c1 (freezeV H a).2 vs' (RepL.mono hl1 l h3) e4 (by rw[e5];intro r hr;rw[e2];exact hf r hr)
  have hl2:=Later.of_step e4 f6 f7
  exact⟨c2,f1.trans e1,f2.trans e2,⟨v,vs',h1,Rep.mono hl2 _ e3,f3⟩,f4,f5.trans e5,e6.trans f6,e7.trans f7⟩
theorem plain_lits {c c':Ctx}: ∀(l:List AV) (vs:List Value),(l.all fun| .lit _=>true|_=>false)=true→RepL c l vs→RepL c' l vs
 |[],_,_,h=>h
 |a::l,_,hp,⟨v,vs',h1,h2,h3⟩=>by
  simp only[List.all_cons,Bool.and_eq_true] at hp
  refine⟨v,vs',h1, ?_,plain_lits l vs' hp.2 h3⟩
  cases a<;>simp at hp
  exact h2
theorem plain_tup {c c':Ctx}: ∀(l:List AV) (vs:List Value),(l.all fun| .lit _=>true| .agg l=>l.all (fun| .lit _=>true|_=>false)|_=>false)=true→RepL c l vs→RepL c' l vs
 |[],_,_,h=>h
 |a::l,_,hp,⟨v,vs',h1,h2,h3⟩=>by
  simp only[List.all_cons,Bool.and_eq_true] at hp
  refine⟨v,vs',h1, ?_,plain_tup l vs' hp.2 h3⟩
  obtain⟨hp,_⟩:=hp
  split at hp
  ·exact h2
  ·obtain⟨ws,g1,g2⟩:=h2;exact⟨ws,g1,plain_lits _ _ hp g2⟩
  ·simp at hp
theorem plainV_rep {c c':Ctx}{a:AV}{v:Value}(hp:plainV a=true)(h:Rep c a v):Rep c' a v:=by
 unfold plainV at hp
 split at hp
 ·exact h
 ·obtain⟨vs,h1,h2⟩:=h;exact⟨vs,h1,plain_lits _ _ hp h2⟩
 ·obtain⟨vs,h1,h2⟩:=h;exact⟨vs,h1,plain_tup _ _ hp h2⟩
 ·simp at hp
theorem own_none {w:World}{I:Nat→Prop}{H:HF}{b:Nat}: ¬Own ⟨w,I,fun _=>none⟩ H b:=by
 rintro ⟨r,o,w',n,z,h,_⟩;simp at h
theorem callFn_sound {α:Type}{E:Env}(hE:E.OK P){f:FuncId}{ts:List TypeId}{args:List AV}{H:Heap}{k:Kont α}{r:α}(h:callFn P E f ts args H k=some r):
  ∃v H',k v H'=some r∧CallRes P f args H v H':=by
 unfold callFn at h
 split at h
 ·simp at h
 ·rename_i sp hsp
  obtain⟨v,H',h1,h2⟩:=hE f false sp hsp α _ H k r h
  exact⟨v,H',h1,fun c vs hv=>h2 c vs (typedL_rep hv)⟩
 ·rename_i sp hsp
  dsimp only at h
  split at h
  case isFalse=>simp at h
  rename_i hem
  have hem:refsL (freezeW H (typedL P ts args)).1=[]:=by simpa using hem
  obtain⟨v,H0,h1,h2⟩:=hE f true sp hsp α _ [] _ r h
  have hH0:H0=[]:=by
   cases H0 with
   |nil=>rfl
   |cons _ _=>simp at h1
  subst hH0
  dsimp only at h1
  
  have callee: ∀(c c1:Ctx) (vs:List Value),c1.w=c.w→RepL c1 (freezeW H (typedL P ts args)).1 vs→HRel c1 (freezeW H (typedL P ts args)).2.at→
    ∀(o:Oper) (a:Act) (next:Act→World→Prop) (Q:Exit→Act→World→Prop),(∀ v' c',Rep c' v v'→HRel c' (Heap.at [])→Step ⟨c1.w,c1.I,fun _=>none⟩ (Heap.at []) c' (Heap.at [])→next (a.put o.dst v') c'.w)→
     o.upon P a next Q ((callFunc f vs.toArray).run P c.w):=by
   intro c c1 vs hw hv hh o a next Q hk
   have hloc:HRel ⟨c1.w,c1.I,fun _=>none⟩ (Heap.at []):=by
    refine⟨fun r=> ?_,fun r r' b o w n z _ _ _ _ h _=>by simp at h,hh.imm,fun b hb=>absurd hb own_none,Glob.of (c:=c1) (fun b hb=>⟨hb,rfl⟩) hh.glob⟩
    rw[at_ge (Nat.zero_le _)];trivial
   rw[← hw]
   exact h2 ⟨c1.w,c1.I,fun _=>none⟩ vs (repL_noref _ hem hv) hloc (fun _ _=>rfl) o a next Q fun v' c' g1 g2 g3 g4 g5=>hk v' c' g1 g2 g4
  split at h1
  ·rename_i hp
   refine⟨v,H,h1,fun c vs hv hh hf o a next Q hk=> ?_⟩
   obtain⟨c1,e1,e2,e3,e4,e5,e6,e7⟩:=freezeW_sound _ c H vs (typedL_rep (P:=P) (ts:=ts) hv) hh hf
   refine callee c c1 vs e1 e3 e4 o a next Q fun v' c' g1 g2 g3=> ?_
   have hkeep: ∀b,b<c.w.heap.size→c'.w.heap[b]? =c.w.heap[b]? :=fun b hb=>(g3.keep b (by rw[e1];exact hb) own_none).trans (by rw[e1])
   have hl:Later c ⟨c'.w,c.I,c.js⟩:=⟨fun b hb=>⟨hb,hkeep b (hh.imm b hb)⟩,fun _ _ h=>h⟩
   have hsz:c.w.heap.size≤c'.w.heap.size:=by have:=g3.size;rw[e1] at this;exact this
   refine hk v' ⟨c'.w,c.I,c.js⟩ (plainV_rep hp g1) ⟨fun q=>(hh.obj q).mono hl fun b o w n z hj ho=>hkeep b ((hh.obj q).lt hj ho),hh.uniq,fun b hb=>Nat.lt_of_lt_of_le (hh.imm b hb) hsz,hh.sep,hh.glob.of hl.imm⟩ hf
    ⟨g3.os.trans (by rw[e1]),g3.tape.trans (by rw[e1]),g3.output.trans (by rw[e1]),hsz,fun b hb _=>hkeep b hb,fun b hb=> .inl hb,fun _ h=>h,fun _ h=> .inl h⟩ fun _ _ h=>h
  ·split at h1
   case isFalse=>simp at h1
   rename_i hrv
   have hrv:refs v=[]:=by simpa using hrv
   refine⟨v,_,h1,fun c vs hv hh hf o a next Q hk=> ?_⟩
   obtain⟨c1,e1,e2,e3,e4,e5,e6,e7⟩:=freezeW_sound _ c H vs (typedL_rep (P:=P) (ts:=ts) hv) hh hf
   refine callee c c1 vs e1 e3 e4 o a next Q fun v' c' g1 g2 g3=> ?_
   have hkeep: ∀b,b<c1.w.heap.size→c'.w.heap[b]? =c1.w.heap[b]? :=fun b hb=>g3.keep b hb own_none
   have hl:Later c1 ⟨c'.w,c'.I,c1.js⟩:=⟨fun b hb=>⟨g3.imm b hb,hkeep b (e4.imm b hb)⟩,fun _ _ h=>h⟩
   have hI: ∀b,c'.I b→c1.I b∨c1.w.heap.size≤b:=fun b hb=>(g3.imm' b hb).imp id fun h=>h.resolve_left own_none
   have st:Step c1 (freezeW H (typedL P ts args)).2.at ⟨c'.w,c'.I,c1.js⟩ (freezeW H (typedL P ts args)).2.at:=
    ⟨g3.os,g3.tape,g3.output,g3.size,fun b hb _=>hkeep b hb,fun b hb=> .inl hb,g3.imm,fun b hb=>(hI b hb).imp id fun h=> .inr h⟩
   refine hk v' ⟨c'.w,c'.I,c1.js⟩ (rep_noref v hrv g1) ⟨fun q=>(e4.obj q).mono hl fun b o w n z hj ho=>hkeep b ((e4.obj q).lt hj ho),e4.uniq,fun b hb=> ?_,fun b hb hi=> ?_,e4.glob.of hl.imm⟩ (by rw[e5];intro q hq;show c1.js q=none;rw[e2];exact hf q hq) (e6.trans st) (fun q l hq=>by show c1.js q=_;rw[e2];exact hq)
   ·rcases hI b hb with h|h
    ·exact Nat.lt_of_lt_of_le (e4.imm b h) g3.size
    ·exact g2.imm b hb
   ·rcases hI b hi with h|h
    ·exact e4.sep b hb h
    ·have:=e4.own_lt hb;omega
end Go.TX
