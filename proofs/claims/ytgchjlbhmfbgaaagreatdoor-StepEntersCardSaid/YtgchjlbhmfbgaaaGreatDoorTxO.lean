/- A region whose order is open: in whatever order its edges allow it comes to what it comes to in the order of the text. -/
import Derived.Test.YtgchjlbhmfbgaaaGreatDoorTxN
namespace Go.TX
set_option linter.unusedSectionVars false
variable [Globals]
variable {P:Program}
structure Rec where
 o:Oper
 ex:Bool
 v:AV
 F:List Nat
 st:St
 st':St
 nt:Option (Nat×Nat×Value)
def noted (n:Option (Nat×Nat×Value))(Hf:HF):Prop:=
 match n with
 |none=>True
 |some n=> ∃cs,Hf n.1= .box cs∧cs[n.2.1]? =some (.lit n.2.2)
def LocResI (P:Program)(o:Oper)(ρ:Operand→AV)(F:List Nat)(H:Heap)(v:AV)(H':Heap)(n:Option (Nat×Nat×Value)):Prop:=
 ∀(a:Act) (c:Ctx) (Hf:HF),noted n Hf→(∀ x∈o.op.operands,Rep c (ρ x) (a.eval x))→HRel c Hf→(∀ r∈F,Hf r=H.at r)→
  (∀ r,H.length≤r→r<H'.length→c.js r=none∧Hf r= .gone)→ ∀(next:Act→World→Prop) (Q:Exit→Act→World→Prop),
   (∀ v' c',Rep c' v v'→HRel c' (updF Hf F H.length H')→Step c Hf c' (updF Hf F H.length H')→Stay c c'→
    (∀ r,¬ (r∈F∨(H.length≤r∧r<H'.length))→c'.js r=c.js r)→next (a.put o.dst v') c'.w)→o.wp P a c.w next Q
theorem LocRes.i {o:Oper}{ρ:Operand→AV}{F:List Nat}{H:Heap}{v:AV}{H':Heap}{n:Option (Nat×Nat×Value)}(h:LocRes P o ρ F H v H'):LocResI P o ρ F H v H' n:=fun a c Hf _=>h a c Hf
def Rec.m (r:Rec):Bool:=r.ex&&Op.mut r.o.op
def Rec.ent (r:Rec):Ent:=if r.ex then ⟨r.F,Op.mut r.o.op,r.st.h.length,r.st'.h.length⟩ else ⟨[],false,r.st.h.length,r.st.h.length⟩
def Rec.ok (P:Program)(all:Array Oper)(r:Rec):Prop:=
 r.st'.s=putS r.st.s r.o.dst r.v∧r.st.h.length≤r.st'.h.length∧GuardOk all r.o r.st.s r.ex∧
  ((r.ex=true∧LocResI P r.o (evalA r.st.s) r.F r.st.h r.v r.st'.h r.nt∧(∀ q∈r.F,q<r.st.h.length)∧
    (∀ q,q<r.st.h.length→q∉r.F→r.st'.h.at q=r.st.h.at q)∧(Op.mut r.o.op=false→ ∀q,q<r.st.h.length→r.st'.h.at q=r.st.h.at q))∨
   (r.ex=false∧r.v=skipV∧r.F=[]∧r.st'.h=r.st.h))
def Chain (P:Program)(all:Array Oper):List Oper→St→List Rec→St→Prop
 |[],st,rs,st'=>rs=[]∧st'=st
 |o::l,st,rs,st'=> ∃r rs',rs=r::rs'∧r.o=o∧r.st=st∧r.ok P all∧Chain P all l r.st' rs' st'
theorem blind_sound {o:Oper}{x:Operand}{s:List AV}{H:Heap}(hx:Op.blind o.op=some x):LocRes P o (evalA s) [] H (typed P o.type (evalA s x)) H:=by
 intro a c Hf hop hh _ _ next Q hk
 have hu:updF Hf [] H.length H=Hf:=by
  funext q;unfold updF;rw[if_neg];rintro (h|h)
  ·cases h
  ·omega
 rw[hu] at hk
 unfold Op.blind at hx
 split at hx
 ·rename_i y ho
  cases hx
  unfold Oper.wp
  simp only[execOp,ho,Sem.run_pure]
  exact hk _ c (typed_rep (hop x (by simp[ho,Op.operands]))) hh (.refl _ _) (.refl _) fun _ _=>rfl
 ·rename_i y ho
  cases hx
  unfold Oper.wp
  simp only[execOp,ho,Sem.run_pure]
  exact hk _ c (typed_rep (hop x (by simp[ho,Op.operands]))) hh (.refl _ _) (.refl _) fun _ _=>rfl
 ·cases hx
theorem evD_sound {α:Type}{E:Env}(hE:E.OK P)(all:Array Oper): ∀(l:List Oper) (st:St) (log:List Ent) (k:St→List Ent→Option α) (r:α),evD P E all l st log k=some r→
  ∃st' rs,k st' (log++rs.map Rec.ent)=some r∧Chain P all l st rs st'∧ ∀q∈rs,q.nt=none
 |[],st,log,k,r,h=>⟨st,[],by simpa [evD] using h,⟨rfl,rfl⟩,by simp⟩
 |o::l,st,log,k,r,h=>by
  unfold evD at h
  rcases guardA_sound h with ⟨hg,h⟩|⟨hg,h⟩
  ·split at h
   ·rename_i x hx
    obtain⟨st',rs,h7,h8,h9⟩:=evD_sound hE all l _ _ k r h
    have hmut:Op.mut o.op=false:=by
     unfold Op.blind at hx
     split at hx<;>first|(rename_i e;rw[e];rfl)|cases hx
    refine⟨st',⟨o,true,typed P o.type (evalA st.s x),[],st,⟨putS st.s o.dst (typed P o.type (evalA st.s x)),st.h⟩,none⟩::rs, ?_,⟨_,_,rfl,rfl,rfl,
     ⟨rfl,Nat.le_refl _,hg, .inl ⟨rfl,(blind_sound hx).i,⟨fun q hq=>absurd hq (List.not_mem_nil),fun _ _ _=>rfl,fun _ _ _=>rfl⟩⟩⟩,h8⟩,by simpa using h9⟩
    rw[← h7];simp[Rec.ent,hmut]
   obtain⟨F,v,H',h1,h2,h3,h4,h5,h6⟩:=opW_sound hE h
   rcases cond_some h1 with ⟨hc,h1⟩|⟨_,h1⟩
   ·rw[Bool.and_eq_true,Bool.not_eq_true',decide_eq_true_eq] at hc
    obtain⟨st',rs,h7,h8,h9⟩:=evD_sound hE all l _ _ k r h1
    have h2':LocRes P o (evalA st.s) F st.h v st.h:=by
     intro a c Hf hop hh ha hfr next Q hk
     have hu:updF Hf F st.h.length H'=updF Hf F st.h.length st.h:=by
      funext q;unfold updF
      rw[hc.2]
      split
      ·rename_i hq
       rcases hq with hq|hq
       ·exact h6 hc.1 q (h4 q hq)
       ·omega
      ·rfl
     refine h2 a c Hf hop hh ha (fun q h1 h2=>by omega) next Q fun v' c' e1 e2 e3 e4 e5=>hk v' c' e1 (hu▸e2) (hu▸e3) e4 fun q hq=>e5 q fun h=>hq (h.imp id fun h=>by omega)
    refine⟨st',⟨o,true,v,F,st,⟨putS st.s o.dst v,st.h⟩,none⟩::rs, ?_,⟨_,_,rfl,rfl,rfl,⟨rfl,Nat.le_refl _,hg, .inl ⟨rfl,h2'.i,⟨h4,fun _ _ _=>rfl,fun _ _ _=>rfl⟩⟩⟩,h8⟩,by simpa using h9⟩
    rw[← h7];simp[Rec.ent,hc.1]
   obtain⟨st',rs,h7,h8,h9⟩:=evD_sound hE all l _ _ k r h1
   refine⟨st',⟨o,true,v,F,st,⟨putS st.s o.dst v,H'⟩,none⟩::rs, ?_,⟨_,_,rfl,rfl,rfl,⟨rfl,h3,hg, .inl ⟨rfl,h2.i,h4,h5,h6⟩⟩,h8⟩,by simpa using h9⟩
   rw[← h7];simp[Rec.ent]
  ·obtain⟨st',rs,h7,h8,h9⟩:=evD_sound hE all l _ _ k r h
   refine⟨st',⟨o,false,skipV,[],st,⟨putS st.s o.dst skipV,st.h⟩,none⟩::rs, ?_,⟨_,_,rfl,rfl,rfl,⟨rfl,Nat.le_refl _,hg, .inr ⟨rfl,rfl,rfl,rfl⟩⟩,h8⟩,by simpa using h9⟩
   rw[← h7];simp[Rec.ent]
def Rec.ent2 (r:Rec):Ent2:=⟨r.ent,r.nt,r.st'.h⟩
theorem HRel.one {c:Ctx}{Hf:HF}(hh:HRel c Hf)(r:Nat):HRel c (Heap.at (List.replicate r .gone++[Hf r])):=by
 have hat: ∀k,Heap.at (List.replicate r .gone++[Hf r]) k=if k=r then Hf r else .gone:=fun k=>by
  unfold Heap.at
  rcases Nat.lt_trichotomy k r with h|h|h
  ·rw[if_neg (by omega),List.getD_eq_getElem?_getD,List.getElem?_append_left (by simpa using h)]
   simp[List.getElem?_replicate,h]
  ·subst h;simp[List.getD_eq_getElem?_getD]
  ·rw[if_neg (by omega),List.getD_eq_getElem?_getD,List.getElem?_eq_none (by simp;omega)];rfl
 have hown: ∀k,(Heap.at (List.replicate r .gone++[Hf r]) k).owns=true→(Hf k).owns=true:=fun k h=>by
  rw[hat] at h
  split at h
  ·rename_i e;rw[e];exact h
  ·simp[AObj.owns] at h
 refine⟨fun k=> ?_,fun k k' b o w n z o' w' n' z' h1 h2 h3 h4=>hh.uniq k k' b _ _ _ _ _ _ _ _ h1 h2 (hown k h3) (hown k' h4),hh.imm,fun b ⟨k,o,w,n,z,h1,h2⟩=>hh.sep b ⟨k,o,w,n,z,h1,hown k h2⟩,hh.glob⟩
 rw[hat]
 split
 ·rename_i e;rw[e];exact hh.obj r
 ·exact trivial
theorem free_sound {o:Oper}{s:List AV}{H:Heap}{v:AV}(hx:freeV P (evalA s) o H=some v):LocResI P o (evalA s) [] H v H none:=by
 intro a c Hf _ hop hh _ _ next Q hk
 have hu:updF Hf [] H.length H=Hf:=by
  funext q;unfold updF;rw[if_neg];rintro (h|h)
  ·cases h
  ·omega
 rw[hu] at hk
 unfold freeV at hx
 split at hx
 ·rename_i x ho
  split at hx
  ·rename_i r i off he
   cases hx
   have h1:=hop x (by simp[ho,Op.operands])
   rw[he] at h1
   obtain⟨b,o',w,n,z,e1,e2,e3⟩:=h1
   unfold Oper.wp
   simp only[execOp,ho,e3,Sem.run_pure]
   have:=hk (a.eval x) c ⟨b,o',w,n,z,e1,e2,e3⟩ hh (.refl _ _) (.refl _) fun _ _=>rfl
   rw[e3] at this
   exact this
  ·cases hx
 ·rename_i t x f ho
  obtain⟨v0,h1,h2⟩:=fieldAddrA_sound hx
  cases h1
  obtain⟨v',g1,g2⟩:=h2 c (a.eval x) (hop x (by simp[ho,Op.operands]))
  unfold Oper.wp
  simp only[execOp,ho,Sem.run_bind,g1,Result.andThen_ok,Sem.run_pure]
  exact hk _ c g2 hh (.refl _ _) (.refl _) fun _ _=>rfl
 ·cases hx
theorem note_sound {o:Oper}{s:List AV}{H:Heap}{n:Nat×Nat×Value}(hx:noteL P (evalA s) o H=some n):LocResI P o (evalA s) [] H (.lit n.2.2) H (some n):=by
 intro a c Hf ⟨cs,hb,hc⟩ hop hh _ _ next Q hk
 have hu:updF Hf [] H.length H=Hf:=by
  funext q;unfold updF;rw[if_neg];rintro (h|h)
  ·cases h
  ·omega
 rw[hu] at hk
 unfold noteL at hx
 split at hx
 case h_2=>cases hx
 rename_i t x ho
 split at hx
 case h_2=>cases hx
 rename_i r j hp
 split at hx
 case h_2=>cases hx
 rename_i cs0 hat0
 have key: ∀(d:TypeDesc) (u:Value) (z:Nat),P.underlying t=some d→isAggT P t=false→sizeT P t=some z→n=(r,j,u)→o.wp P a c.w next Q:=by
  intro d u z hd hag hz hn
  subst hn
  have hat:Heap.at (List.replicate r .gone++[Hf r]) r= .box cs:=by
   unfold Heap.at
   simp only at hb
   rw[hb];simp[List.getD_eq_getElem?_getD]
  have hl:loadA P t (.ptr r 0 j) (List.replicate r .gone++[Hf r]) (fun v _=>some v)=some (.lit u):=by
   simp only[loadA,hat,readA,hd,hz,hag,Bool.false_eq_true,if_false]
   simp only at hc
   rw[hc]
  obtain⟨v,h1,h2⟩:=loadA_sound hl
  cases h1
  have hop':=hop x (by simp[ho,Op.operands])
  rw[hp] at hop'
  obtain⟨v',g1,g2⟩:=h2 c (a.eval x) hop' (hh.one r)
  unfold Oper.wp
  simp only[execOp,ho,Sem.run_bind,g1,Result.andThen_ok,Sem.run_pure]
  exact hk _ c g2 hh (.refl _ _) (.refl _) fun _ _=>rfl
 split at hx
 ·rename_i kk z u hd hz hj
  cases hx
  exact key _ u _ hd (by unfold isAggT;rw[hd]) hz rfl
 ·rename_i z u hd hz hj
  cases hx
  exact key _ u _ hd (by unfold isAggT;rw[hd]) hz rfl
 ·cases hx
theorem evD2_sound {α:Type}{E:Env}(hE:E.OK P)(all:Array Oper): ∀(l:List Oper) (st:St) (log:List Ent2) (k:St→List Ent2→Option α) (r:α),evD2 P E all l st log k=some r→
  ∃st' rs,k st' (log++rs.map Rec.ent2)=some r∧Chain P all l st rs st'
 |[],st,log,k,r,h=>⟨st,[],by simpa [evD2] using h,⟨rfl,rfl⟩⟩
 |o::l,st,log,k,r,h=>by
  unfold evD2 at h
  rcases guardA_sound h with ⟨hg,h⟩|⟨hg,h⟩
  ·split at h
   ·rename_i x hx
    obtain⟨st',rs,h7,h8⟩:=evD2_sound hE all l _ _ k r h
    have hmut:Op.mut o.op=false:=by
     unfold Op.blind at hx
     split at hx<;>first|(rename_i e;rw[e];rfl)|cases hx
    refine⟨st',⟨o,true,typed P o.type (evalA st.s x),[],st,⟨putS st.s o.dst (typed P o.type (evalA st.s x)),st.h⟩,none⟩::rs, ?_,⟨_,_,rfl,rfl,rfl,
     ⟨rfl,Nat.le_refl _,hg, .inl ⟨rfl,(blind_sound hx).i,⟨fun q hq=>absurd hq (List.not_mem_nil),fun _ _ _=>rfl,fun _ _ _=>rfl⟩⟩⟩,h8⟩⟩
    rw[← h7];simp[Rec.ent2,Rec.ent,hmut]
   split at h
   ·rename_i v hv
    obtain⟨st',rs,h7,h8⟩:=evD2_sound hE all l _ _ k r h
    have hmut:Op.mut o.op=false:=by
     unfold freeV at hv
     split at hv<;>first|(rename_i e;rw[e];rfl)|cases hv
    refine⟨st',⟨o,true,v,[],st,⟨putS st.s o.dst v,st.h⟩,none⟩::rs, ?_,⟨_,_,rfl,rfl,rfl,
     ⟨rfl,Nat.le_refl _,hg, .inl ⟨rfl,free_sound hv,⟨fun q hq=>absurd hq (List.not_mem_nil),fun _ _ _=>rfl,fun _ _ _=>rfl⟩⟩⟩,h8⟩⟩
    rw[← h7];simp[Rec.ent2,Rec.ent,hmut]
   split at h
   ·rename_i n hn
    obtain⟨st',rs,h7,h8⟩:=evD2_sound hE all l _ _ k r h
    have hmut:Op.mut o.op=false:=by
     unfold noteL at hn
     split at hn
     ·rename_i e;rw[e];rfl
     ·cases hn
    refine⟨st',⟨o,true, .lit n.2.2,[],st,⟨putS st.s o.dst (.lit n.2.2),st.h⟩,some n⟩::rs, ?_,⟨_,_,rfl,rfl,rfl,
     ⟨rfl,Nat.le_refl _,hg, .inl ⟨rfl,note_sound hn,⟨fun q hq=>absurd hq (List.not_mem_nil),fun _ _ _=>rfl,fun _ _ _=>rfl⟩⟩⟩,h8⟩⟩
    rw[← h7];simp[Rec.ent2,Rec.ent,hmut]
   obtain⟨F,v,H',h1,h2,h3,h4,h5,h6⟩:=opW_sound hE h
   rcases cond_some h1 with ⟨hc,h1⟩|⟨_,h1⟩
   ·rw[Bool.and_eq_true,Bool.not_eq_true',decide_eq_true_eq] at hc
    obtain⟨st',rs,h7,h8⟩:=evD2_sound hE all l _ _ k r h1
    have h2':LocRes P o (evalA st.s) F st.h v st.h:=by
     intro a c Hf hop hh ha hfr next Q hk
     have hu:updF Hf F st.h.length H'=updF Hf F st.h.length st.h:=by
      funext q;unfold updF
      rw[hc.2]
      split
      ·rename_i hq
       rcases hq with hq|hq
       ·exact h6 hc.1 q (h4 q hq)
       ·omega
      ·rfl
     refine h2 a c Hf hop hh ha (fun q h1 h2=>by omega) next Q fun v' c' e1 e2 e3 e4 e5=>hk v' c' e1 (hu▸e2) (hu▸e3) e4 fun q hq=>e5 q fun h=>hq (h.imp id fun h=>by omega)
    refine⟨st',⟨o,true,v,F,st,⟨putS st.s o.dst v,st.h⟩,none⟩::rs, ?_,⟨_,_,rfl,rfl,rfl,⟨rfl,Nat.le_refl _,hg, .inl ⟨rfl,h2'.i,⟨h4,fun _ _ _=>rfl,fun _ _ _=>rfl⟩⟩⟩,h8⟩⟩
    rw[← h7];simp[Rec.ent2,Rec.ent,hc.1]
   obtain⟨st',rs,h7,h8⟩:=evD2_sound hE all l _ _ k r h1
   refine⟨st',⟨o,true,v,F,st,⟨putS st.s o.dst v,H'⟩,none⟩::rs, ?_,⟨_,_,rfl,rfl,rfl,⟨rfl,h3,hg, .inl ⟨rfl,h2.i,h4,h5,h6⟩⟩,h8⟩⟩
   rw[← h7];simp[Rec.ent2,Rec.ent]
  ·obtain⟨st',rs,h7,h8⟩:=evD2_sound hE all l _ _ k r h
   refine⟨st',⟨o,false,skipV,[],st,⟨putS st.s o.dst skipV,st.h⟩,none⟩::rs, ?_,⟨_,_,rfl,rfl,rfl,⟨rfl,Nat.le_refl _,hg, .inr ⟨rfl,rfl,rfl,rfl⟩⟩,h8⟩⟩
   rw[← h7];simp[Rec.ent2,Rec.ent]
def Rec.touch (r:Rec)(q:Nat):Bool:=(r.m&&r.F.contains q)||(decide (r.st.h.length≤q)&&decide (q<r.st'.h.length))
def slotAt (s0:List AV)(rs:List Rec)(S:Nat→Bool):Nat→Nat→Option AV
 |0,t=>s0[t]?
 |n+1,t=>
  match rs[n]? with
  |some r=>if S n=true∧r.o.dst=some t∧t<s0.length then some r.v else slotAt s0 rs S n t
  |none=>slotAt s0 rs S n t
def heapAt (H0:Heap)(rs:List Rec)(S:Nat→Bool):Nat→HF
 |0,q=>H0.at q
 |n+1,q=>
  match rs[n]? with
  |some r=>if S n=true∧r.touch q=true then r.st'.h.at q else heapAt H0 rs S n q
  |none=>heapAt H0 rs S n q
theorem chain_get: ∀(all:Array Oper) (l:List Oper) (st st':St) (rs:List Rec),Chain P all l st rs st'→
  rs.length=l.length∧(∀ (n:Nat) (r:Rec),rs[n]? =some r→l[n]? =some r.o∧r.ok P all)∧
  (∀ (n:Nat) (r:Rec),rs[n]? =some r→(n=0→r.st=st)∧(∀ r',rs[n+1]? =some r'→r'.st=r.st')∧(n+1=rs.length→st'=r.st'))∧(rs=[]→st'=st)
 |all,[],st,st',rs,⟨h1,h2⟩=>by subst h1 h2;simp
 |all,o::l,st,st',rs,⟨r,rs',h1,h2,h3,h4,h5⟩=>by
  subst h1
  obtain⟨g1,g2,g3,g4⟩:=chain_get all l r.st' st' rs' h5
  refine⟨by simp[g1],fun n q hq=> ?_,fun n q hq=> ?_,by simp⟩
  ·cases n with
   |zero=>simp at hq;subst hq;exact⟨by simp[h2],h4⟩
   |succ n=>simpa using g2 n q (by simpa using hq)
  ·cases n with
   |zero=>
    simp at hq;subst hq
    refine⟨fun _=>h3,fun r' hr'=> ?_,fun hn=> ?_⟩
    ·exact(g3 0 r' (by simpa using hr')).1 rfl
    ·exact g4 (List.length_eq_zero_iff.1 (by simpa using hn))
   |succ n=>
    obtain⟨e1,e2,e3⟩:=g3 n q (by simpa using hq)
    exact⟨by simp,fun r' hr'=>e2 r' (by simpa using hr'),fun hn=>e3 (by simpa using hn)⟩
structure Text (P:Program)(all:Array Oper)(st st':St)(rs:List Rec):Prop where
 len:rs.length=all.size
 op: ∀(n:Nat) (r:Rec),rs[n]? =some r→all[n]? =some r.o∧r.ok P all
 first: ∀r,rs[0]? =some r→r.st=st
 next: ∀(n:Nat) (r r':Rec),rs[n]? =some r→rs[n+1]? =some r'→r'.st=r.st'
 last: ∀(n:Nat) (r:Rec),rs[n]? =some r→n+1=rs.length→st'=r.st'
 none:rs=[]→st'=st
theorem Text.of {all:Array Oper}{st st':St}{rs:List Rec}(h:Chain P all all.toList st rs st'):Text P all st st' rs:=by
 obtain⟨h1,h2,h3,h4⟩:=chain_get all _ st st' rs h
 exact⟨by simpa using h1,fun n r hr=>by simpa using h2 n r hr,fun r hr=>(h3 0 r hr).1 rfl,fun n r r' hr hr'=>(h3 n r hr).2.1 r' hr',fun n r hr hn=>(h3 n r hr).2.2 hn,h4⟩
section
variable {all:Array Oper}{st st':St}{rs:List Rec}
theorem putS_len (s:List AV)(d:Option Tmp)(v:AV):(putS s d v).length=s.length:=by cases d<;>simp[putS]
theorem Text.at (T:Text P all st st' rs): ∀n,n≤rs.length→ ∃sn:St,(∀ r:Rec,rs[n]? =some r→r.st=sn)∧(n=rs.length→st'=sn)∧sn.s.length=st.s.length∧st.h.length≤sn.h.length∧
  (∀ t,slotAt st.s rs (fun _=>true) n t=sn.s[t]?)∧(∀ q,heapAt st.h rs (fun _=>true) n q=sn.h.at q)
 |0,hn=>by
  refine⟨st,fun r hr=>T.first r hr,fun h=> ?_,rfl,Nat.le_refl _,fun _=>rfl,fun _=>rfl⟩
  exact T.none (List.length_eq_zero_iff.1 h.symm)
 |n+1,hn=>by
  obtain⟨sn,h1,_,h3,h3',h4,h5⟩:=T.at n (by omega)
  have hr:rs[n]? =some rs[n]:=List.getElem?_eq_getElem (by omega)
  have hst:=h1 _ hr
  obtain⟨_,ok⟩:=T.op n _ hr
  obtain⟨k1,k2,_,k3⟩:=ok
  refine⟨rs[n].st',fun r hr'=>T.next n _ r hr hr',fun h=>T.last n _ hr h, ?_, ?_,fun t=> ?_,fun q=> ?_⟩
  ·rw[k1,putS_len,hst,h3]
  ·rw[hst] at k2;omega
  ·simp only[slotAt,hr]
   rw[k1,hst,h4]
   cases hd:rs[n].o.dst with
   |none=>simp[putS]
   |some d=>
    simp only[putS,List.getElem?_set,Option.some.injEq,true_and]
    by_cases hdt:d=t
    ·subst hdt
     by_cases hlt:d<st.s.length
     ·have hlt':d<sn.s.length:=by rw[h3];exact hlt
      rw[if_pos ⟨rfl,hlt⟩,if_pos rfl,if_pos hlt']
     ·have hlt': ¬d<sn.s.length:=by rw[h3];exact hlt
      rw[if_neg (fun h=>hlt h.2),if_pos rfl,if_neg hlt',List.getElem?_eq_none (Nat.le_of_not_lt hlt')]
    ·rw[if_neg (by simp[hdt]),if_neg hdt]
  ·simp only[heapAt,hr,true_and]
   rw[h5,← hst]
   split
   ·rfl
   ·rename_i ht
    simp only[Rec.touch,Rec.m,Bool.or_eq_true,Bool.and_eq_true,decide_eq_true_eq,List.contains_iff_mem,not_or,not_and] at ht
    rcases k3 with ⟨e1,_,e2,e3,e4⟩|⟨_,_,_,e4⟩
    ·by_cases hq:q<rs[n].st.h.length
     ·cases hm:Op.mut rs[n].o.op
      ·exact(e4 hm q hq).symm
      ·exact(e3 q hq (ht.1 ⟨e1,hm⟩)).symm
     ·rw[at_ge (by omega),at_ge (by have:=ht.2 (by omega);omega)]
    ·rw[e4]
end
structure Free (all:Array Oper)(rs:List Rec)(masks:List Nat):Prop where
 edge: ∀(j:Nat) (r:Rec),rs[j]? =some r→ ∀e∈r.o.after,Region.binds .any e=true→e.on<j
 swap: ∀(i j:Nat) (a b:Rec),i<j→rs[i]? =some a→rs[j]? =some b→(masks.getD j 0).testBit i=true∨swapOk all a.o b.o a.ent b.ent=true
theorem orderFrom_sound {all:Array Oper}{o:Oper}{e:Ent}{i:Nat}: ∀(l:List (Oper×Ent×Nat)),orderFrom all o e i l=true→ ∀(n:Nat) (p:Oper) (f:Ent) (m:Nat),l[n]? =some (p,f,m)→m.testBit i=true∨swapOk all o p e f=true
 |[],_,n,p,f,m,h=>by simp at h
 |(p',f',m')::l,hl,n,p,f,m,h=>by
  simp only[orderFrom,Bool.and_eq_true,Bool.or_eq_true] at hl
  cases n with
  |zero=>simp at h;obtain⟨rfl,rfl,rfl⟩:=h;exact hl.1
  |succ n=>exact orderFrom_sound l hl.2 n p f m (by simpa using h)
theorem orderOk_sound {all:Array Oper}: ∀(l:List (Oper×Ent×Nat)) (i:Nat),orderOk all i l=true→
  (∀ (n:Nat) (o:Oper) (e:Ent) (m:Nat),l[n]? =some (o,e,m)→ ∀d∈o.after,Region.binds .any d=true→d.on<i+n)∧
  (∀ (n k:Nat) (o:Oper) (e:Ent) (m:Nat) (p:Oper) (f:Ent) (m':Nat),n<k→l[n]? =some (o,e,m)→l[k]? =some (p,f,m')→m'.testBit (i+n)=true∨swapOk all o p e f=true)
 |[],i,_=>by simp
 |(o0,e0,m0)::l,i,h=>by
  simp only[orderOk,Bool.and_eq_true,List.all_eq_true,Bool.or_eq_true,Bool.not_eq_true',decide_eq_true_eq,Array.mem_toList_iff] at h
  obtain⟨⟨h1,h2⟩,h3⟩:=h
  obtain⟨g1,g2⟩:=orderOk_sound l (i+1) h3
  refine⟨fun n o e m hn d hd hb=> ?_,fun n k o e m p f m' hnk hn hk=> ?_⟩
  ·cases n with
   |zero=>
    simp at hn;obtain⟨rfl,_,_⟩:=hn
    rcases h1 d hd with h|h
    ·rw[hb] at h;cases h
    ·omega
   |succ n=>
    have:=g1 n o e m (by simpa using hn) d hd hb
    omega
  ·cases k with
   |zero=>omega
   |succ k=>
    cases n with
    |zero=>
     simp at hn;obtain⟨rfl,rfl,rfl⟩:=hn
     exact orderFrom_sound l h2 k p f m' (by simpa using hk)
    |succ n=>
     have:=g2 n k o e m p f m' (by omega) (by simpa using hn) (by simpa using hk)
     rwa[show i+1+n=i+(n+1) by omega] at this
theorem calm_from {all:Array Oper}{o:Oper}{e:Ent}{i:Nat}(he:e.m=false∧e.lo=e.hi): ∀(os:List Oper) (log:List Ent) (ms:List Nat),calmL log=true→statFrom all o i (os.zip ms)=true→orderFrom all o e i (os.zip (log.zip ms))=true
 |[],_,_,_,_=>by simp[orderFrom]
 |_::_,[],_,_,_=>by simp[orderFrom]
 |_::_,_::_,[],_,_=>by simp[orderFrom]
 |p::os,f::log,m::ms,hl,h=>by
  simp only[calmL,List.all_cons,Bool.and_eq_true,Bool.not_eq_true',decide_eq_true_eq] at hl
  simp only[List.zip_cons_cons,statFrom,Bool.and_eq_true] at h
  simp only[List.zip_cons_cons,orderFrom,Bool.and_eq_true]
  refine⟨?_,calm_from he os log ms hl.2 h.2⟩
  rcases Bool.or_eq_true _ _▸h.1 with h1|h1
  ·simp[h1]
  ·have e1: ∀r,(decide (f.lo≤r)&&decide (r<f.hi))=false:=fun r=>by
    rw[← hl.1.2];by_cases hr:f.lo≤r
    ·simp[hr]
    ·simp[hr]
   have e2: ∀r,(decide (e.lo≤r)&&decide (r<e.hi))=false:=fun r=>by
    rw[← he.2];by_cases hr:e.lo≤r
    ·simp[hr]
    ·simp[hr]
   have:swapOk all o p e f=true:=by
    unfold swapOk
    simp only[e1,e2,Bool.not_false,List.all_eq_true,implies_true,Bool.and_eq_true,he.1,hl.1.1,Bool.or_self,Bool.true_or,and_true]
    exact h1
   simp[this]
theorem calm_order {all:Array Oper}: ∀(os:List Oper) (log:List Ent) (ms:List Nat) (i:Nat),calmL log=true→statOk all i (os.zip ms)=true→orderOk all i (os.zip (log.zip ms))=true
 |[],_,_,_,_,_=>by simp[orderOk]
 |_::_,[],_,_,_,_=>by simp[orderOk]
 |_::_,_::_,[],_,_,_=>by simp[orderOk]
 |p::os,f::log,m::ms,i,hl,h=>by
  have hl0:=hl
  simp only[calmL,List.all_cons,Bool.and_eq_true,Bool.not_eq_true',decide_eq_true_eq] at hl
  simp only[List.zip_cons_cons,statOk,Bool.and_eq_true] at h
  simp only[List.zip_cons_cons,orderOk,Bool.and_eq_true]
  exact⟨⟨h.1.1,calm_from hl.1 os log ms hl.2 h.1.2⟩,calm_order os log ms (i+1) hl.2 h.2⟩
theorem mask_sound {S:Nat→Prop}: ∀(es:List Edge) (acc:List Nat) (s0 i:Nat),(es.foldl (fun s e=>if Region.binds .any e then s|||2^e.on|||acc.getD e.on 0 else s) s0).testBit i=true→
  (∀ e∈es,Region.binds .any e=true→S e.on)→(∀ j,S j→(acc.getD j 0).testBit i=true→S i)→(s0.testBit i=true→S i)→S i
 |[],acc,s0,i,h,_,_,h3=>h3 h
 |e::es,acc,s0,i,h,h1,h2,h3=>by
  simp only[List.foldl_cons] at h
  refine mask_sound es acc _ i h (fun e' he=>h1 e' (by simp[he])) h2 fun hb=> ?_
  split at hb
  ·rename_i hbd
   simp only[Nat.testBit_or,Bool.or_eq_true,Nat.testBit_two_pow,decide_eq_true_eq] at hb
   have hS:=h1 e (by simp) hbd
   rcases hb with (hb|hb)|hb
   ·exact h3 hb
   ·rw[← hb];exact hS
   ·exact h2 _ hS hb
  ·exact h3 hb
theorem ancs_len: ∀(l:List Oper) (acc:List Nat),(ancs l acc).length=acc.length+l.length
 |[],acc=>by simp[ancs]
 |o::l,acc=>by rw[ancs,ancs_len l];simp;omega
theorem ancs_prefix: ∀(l:List Oper) (acc:List Nat) (j:Nat),j<acc.length→(ancs l acc).getD j 0=acc.getD j 0
 |[],acc,j,_=>rfl
 |o::l,acc,j,h=>by
  rw[ancs,ancs_prefix l _ j (by simp;omega)]
  simp only[List.getD_eq_getElem?_getD]
  rw[List.getElem?_append_left h]
theorem ancs_at (l:List Oper): ∀(acc:List Nat) (n:Nat) (o:Oper),l[n]? =some o→
  ∃pre:List Nat,pre.length=acc.length+n∧(∀ j,j<acc.length+n→pre.getD j 0=(ancs l acc).getD j 0)∧(ancs l acc).getD (acc.length+n) 0=maskOf o pre:=by
 induction l with
 |nil=>intro acc n o h;simp at h
 |cons o' l ih=>
  intro acc n o h
  cases n with
  |zero=>
   have h:o'=o:=by simpa using h
   subst h
   refine⟨acc,rfl,fun j hj=> ?_, ?_⟩
   ·rw[ancs,ancs_prefix l _ j (by simp;omega)]
    simp only[List.getD_eq_getElem?_getD]
    rw[List.getElem?_append_left (by omega)]
   ·rw[ancs,ancs_prefix l _ _ (by simp)]
    simp
  |succ n=>
   obtain⟨pre,h1,h2,h3⟩:=ih (acc++[maskOf o' acc]) n o (by simpa using h)
   rw[List.length_append,List.length_singleton] at h1 h2 h3
   refine⟨pre,by omega,fun j hj=> ?_, ?_⟩
   ·rw[ancs];exact h2 j (by omega)
   ·rw[ancs,show acc.length+(n+1)=acc.length+1+n by omega];exact h3
theorem behind {l:List Oper}{S:Nat→Prop}
  (hS: ∀(j:Nat) (o:Oper),l[j]? =some o→S j→ ∀e∈o.after,Region.binds .any e=true→S e.on):
  ∀(j:Nat) (o:Oper),l[j]? =some o→(∀ e∈o.after,Region.binds .any e=true→S e.on)→ ∀i,((ancs l []).getD j 0).testBit i=true→S i:=by
 intro j
 induction j using Nat.strongRecOn with
 |_ j ih=>
  intro o ho hd i hb
  obtain⟨pre,h1,h2,h3⟩:=ancs_at l [] j o ho
  simp only[List.length_nil,Nat.zero_add] at h1 h2 h3
  rw[h3] at hb
  unfold maskOf at hb
  have key: ∀q,S q→(pre.getD q 0).testBit i=true→S i:=fun q hq hb'=>by
   rcases Nat.lt_or_ge q j with hlt|hge
   ·rw[h2 q hlt] at hb'
    have hq':q<l.length:=by
     have:=(List.getElem?_eq_some_iff.1 ho).1;omega
    exact ih q hlt l[q] (List.getElem?_eq_getElem hq') (hS q _ (List.getElem?_eq_getElem hq') hq) i hb'
   ·rw[List.getD_eq_getElem?_getD,List.getElem?_eq_none (by omega)] at hb'
    simp at hb'
  refine mask_sound (S:=S) o.after.toList pre 0 i hb (fun e he hbd=>hd e (by simpa using he) hbd) key (by simp)
section
variable {all:Array Oper}{st st':St}{rs:List Rec}
theorem Text.good (T:Text P all st st' rs){n:Nat}{r:Rec}(h:rs[n]? =some r):r.ok P all:=(T.op n r h).2
theorem Text.mono (T:Text P all st st' rs): ∀(k i:Nat) (a b:Rec),rs[i]? =some a→rs[i+1+k]? =some b→a.st'.h.length≤b.st.h.length
 |0,i,a,b,ha,hb=>by rw[T.next i a b ha hb];exact Nat.le_refl _
 |k+1,i,a,b,ha,hb=>by
  have hlt:=(List.getElem?_eq_some_iff.1 hb).1
  have hm:rs[i+1]? =some rs[i+1]:=List.getElem?_eq_getElem (by omega)
  have h1:=T.mono k (i+1) _ b hm (by rw[show i+1+1+k=i+1+(k+1) by omega];exact hb)
  have h2:=T.next i a _ ha hm
  have h3:=(T.good hm).2.1
  rw[h2] at h3;omega
theorem Text.lt (T:Text P all st st' rs){i j:Nat}{a b:Rec}(h:i<j)(ha:rs[i]? =some a)(hb:rs[j]? =some b):a.st'.h.length≤b.st.h.length:=by
 obtain⟨k,rfl⟩: ∃k,j=i+1+k:=⟨j-(i+1),by omega⟩
 exact T.mono k i a b ha hb
structure Next (all:Array Oper)(rs:List Rec)(S:Nat→Bool)(j:Nat)(r:Rec):Prop where
 get:rs[j]? =some r
 not:S j=false
 up: ∀i a,j<i→rs[i]? =some a→S i=true→swapOk all r.o a.o r.ent a.ent=true
 down: ∀i a,i<j→rs[i]? =some a→S i=false→swapOk all a.o r.o a.ent r.ent=true
theorem swap_apart {x y:Oper}{a b:Ent}(h:swapOk all x y a b=true):x.apart all y=true:=by
 simp only[swapOk,Bool.and_eq_true] at h;exact h.1.1.1
theorem touch_ent {r:Rec}{q:Nat}(ok:r.ok P all)(h:r.touch q=true):(r.ent.m=true∧q∈r.ent.F)∨(r.ent.lo≤q∧q<r.ent.hi):=by
 simp only[Rec.touch,Rec.m,Bool.or_eq_true,Bool.and_eq_true,decide_eq_true_eq,List.contains_iff_mem] at h
 rcases ok.2.2.2 with ⟨e1,_⟩|⟨e1,_,_,e4⟩
 ·simp only[Rec.ent,e1,if_true]
  rcases h with ⟨⟨_,h1⟩,h2⟩|h
  ·exact .inl ⟨h1,h2⟩
  ·exact .inr h
 ·rcases h with ⟨⟨h0,_⟩,_⟩|h
  ·rw[e1] at h0;cases h0
  ·rw[e4] at h;omega
theorem ent_new {r:Rec}(ok:r.ok P all){q:Nat}(h1:r.st.h.length≤q)(h2:q<r.st'.h.length):r.ent.lo≤q∧q<r.ent.hi:=by
 rcases ok.2.2.2 with ⟨e1,_⟩|⟨e1,_,_,e4⟩
 ·simp only[Rec.ent,e1,if_true];exact⟨h1,h2⟩
 ·rw[e4] at h2;omega
theorem swap_heap {x y:Oper}{a b:Ent}(h:swapOk all x y a b=true){q:Nat}:(a.m=true∨b.m=true→q∈a.F→q∈b.F→False)∧(q∈b.F→a.lo≤q→q<a.hi→False)∧(q∈a.F→b.lo≤q→q<b.hi→False):=by
 simp only[swapOk,Bool.and_eq_true,Bool.or_eq_true,Bool.not_eq_true',List.all_eq_true,Bool.and_eq_false_iff,decide_eq_false_iff_not] at h
 obtain⟨⟨⟨_,h1⟩,h2⟩,h3⟩:=h
 refine⟨fun hm ha hb=> ?_,fun hb g1 g2=>(h2 q hb).elim (fun h=>h g1) fun h=>h g2,fun ha g1 g2=>(h3 q ha).elim (fun h=>h g1) fun h=>h g2⟩
 rcases h1 with h1|h1
 ·simp only[Bool.or_eq_false_iff] at h1
  rcases hm with h|h
  ·rw[h1.1] at h;cases h
  ·rw[h1.2] at h;cases h
 ·simp only[meets,List.any_eq_false,List.contains_iff_mem] at h1
  exact h1 q ha hb
theorem slot_same {s0:List AV}{S:Nat→Bool}{j:Nat}{r:Rec}(hn:Next all rs S j r){t:Nat}(ht:t∈r.o.looksAt all):
  ∀n,(n≤j→slotAt s0 rs S n t=slotAt s0 rs (fun _=>true) n t)∧(j≤n→slotAt s0 rs S n t=slotAt s0 rs S j t)
 |0=>⟨fun _=>rfl,fun h=>by rw[Nat.le_zero.1 h]⟩
 |n+1=>by
  obtain⟨h1,h2⟩:=slot_same (s0:=s0) hn ht n
  refine⟨fun hle=> ?_,fun hle=> ?_⟩
  ·simp only[slotAt]
   rw[h1 (by omega)]
   cases hr:rs[n]? with
   |none=>rfl
   |some a=>
    cases hS:S n
    ·dsimp only
     rw[if_neg (by simp)]
     split
     ·rename_i h
      exact absurd ht ((Oper.apart_spec (swap_apart (hn.down n a (by omega) hr hS))).1 t h.2.1)
     ·rfl
    ·simp
  ·rcases Nat.eq_or_lt_of_le hle with he|hlt
   ·rw[he]
   ·rw[← h2 (by omega)]
    simp only[slotAt]
    cases hr:rs[n]? with
    |none=>rfl
    |some a=>
     dsimp only
     split
     ·rename_i h
      rcases Nat.eq_or_lt_of_le (show j≤n by omega) with he|hlt'
      ·subst he;rw[hn.not] at h;cases h.1
      ·exact absurd ht ((Oper.apart_spec (swap_apart (hn.up n a hlt' hr h.1))).2.2 t h.2.1)
     ·rfl
theorem heap_same (T:Text P all st st' rs){H0:Heap}{S:Nat→Bool}{j:Nat}{r:Rec}(hn:Next all rs S j r){q:Nat}(hq:q∈r.ent.F):
  ∀n,(n≤j→heapAt H0 rs S n q=heapAt H0 rs (fun _=>true) n q)∧(j≤n→heapAt H0 rs S n q=heapAt H0 rs S j q)
 |0=>⟨fun _=>rfl,fun h=>by rw[Nat.le_zero.1 h]⟩
 |n+1=>by
  obtain⟨h1,h2⟩:=heap_same T (H0:=H0) hn hq n
  refine⟨fun hle=> ?_,fun hle=> ?_⟩
  ·simp only[heapAt]
   rw[h1 (by omega)]
   cases hr:rs[n]? with
   |none=>rfl
   |some a=>
    cases hS:S n
    ·dsimp only
     rw[if_neg (by simp)]
     split
     ·rename_i h
      exfalso
      have sw:=swap_heap (q:=q) (hn.down n a (by omega) hr hS)
      rcases touch_ent (T.good hr) h.2 with ⟨g1,g2⟩|⟨g1,g2⟩
      ·exact sw.1 (.inl g1) g2 hq
      ·exact sw.2.1 hq g1 g2
     ·rfl
    ·simp
  ·rcases Nat.eq_or_lt_of_le hle with he|hlt
   ·rw[he]
   ·rw[← h2 (by omega)]
    simp only[heapAt]
    cases hr:rs[n]? with
    |none=>rfl
    |some a=>
     dsimp only
     split
     ·rename_i h
      exfalso
      rcases Nat.eq_or_lt_of_le (show j≤n by omega) with he|hlt'
      ·subst he;rw[hn.not] at h;cases h.1
      ·have sw:=swap_heap (q:=q) (hn.up n a hlt' hr h.1)
       rcases touch_ent (T.good hr) h.2 with ⟨g1,g2⟩|⟨g1,g2⟩
       ·exact sw.1 (.inr g1) hq g2
       ·exact sw.2.2 hq g1 g2
     ·rfl
theorem heap_new (T:Text P all st st' rs){S:Nat→Bool}{j:Nat}{r:Rec}(hn:Next all rs S j r){q:Nat}(h1:r.st.h.length≤q)(h2:q<r.st'.h.length):
  ∀n,heapAt st.h rs S n q= .gone
 |0=>by
  obtain⟨sn,g1,_,_,g2,_⟩:=T.at j (Nat.le_of_lt (List.getElem?_eq_some_iff.1 hn.get).1)
  have:=g1 r hn.get
  subst this
  exact at_ge (by omega)
 |n+1=>by
  simp only[heapAt]
  rw[heap_new T hn h1 h2 n]
  cases hr:rs[n]? with
  |none=>rfl
  |some a=>
   dsimp only
   split
   ·rename_i h
    exfalso
    have tch:=h.2
    simp only[Rec.touch,Rec.m,Bool.or_eq_true,Bool.and_eq_true,decide_eq_true_eq,List.contains_iff_mem] at tch
    rcases Nat.lt_trichotomy n j with hlt|he|hgt
    ·have hm:=T.lt hlt hr hn.get
     have hm2:=(T.good hr).2.1
     rcases tch with ⟨⟨g0,_⟩,g2⟩|⟨g1,g2⟩
     ·rcases(T.good hr).2.2.2 with ⟨_,_,e2,_⟩|⟨e1,_⟩
      ·have:=e2 q g2;omega
      ·rw[e1] at g0;cases g0
     ·omega
    ·subst he;rw[hn.not] at h;cases h.1
    ·have hm:=T.lt hgt hn.get hr
     have sw:=swap_heap (q:=q) (hn.up n a hgt hr h.1)
     have nw:=ent_new (T.good hn.get) h1 h2
     rcases touch_ent (T.good hr) h.2 with ⟨g1,g2⟩|⟨g1,g2⟩
     ·exact sw.2.1 g2 nw.1 nw.2
     ·rcases tch with ⟨_,g3⟩|⟨g3,g4⟩
      ·rcases(T.good hr).2.2.2 with ⟨e1,_⟩|⟨_,_,e3,_⟩
       ·exact sw.2.1 (by simp only[Rec.ent,e1,if_true];exact g3) nw.1 nw.2
       ·rw[e3] at g3;cases g3
      ·omega
   ·rfl
def ins (S:Nat→Bool)(j:Nat):Nat→Bool:=fun i=>if i=j then true else S i
theorem slot_after {s0:List AV}{S:Nat→Bool}{j:Nat}{r:Rec}(hn:Next all rs S j r)(t:Nat):
  ∀n,(n≤j→slotAt s0 rs (ins S j) n t=slotAt s0 rs S n t)∧(j<n→slotAt s0 rs (ins S j) n t=if r.o.dst=some t∧t<s0.length then some r.v else slotAt s0 rs S n t)
 |0=>⟨fun _=>rfl,fun h=>by omega⟩
 |n+1=>by
  obtain⟨h1,h2⟩:=slot_after (s0:=s0) hn t n
  refine⟨fun hle=> ?_,fun hle=> ?_⟩
  ·simp only[slotAt]
   rw[h1 (by omega)]
   cases hr:rs[n]? with
   |none=>rfl
   |some a=>
    have e:ins S j n=S n:=if_neg (by omega)
    simp only[e]
  ·rcases Nat.eq_or_lt_of_le (Nat.le_of_lt_succ hle) with he|hlt
   ·subst he
    simp only[slotAt,hn.get]
    rw[h1 (Nat.le_refl _)]
    have e:ins S j j=true:=if_pos rfl
    simp only[e,true_and,hn.not,Bool.false_eq_true,false_and,if_false]
   ·simp only[slotAt]
    rw[h2 hlt]
    cases hr:rs[n]? with
    |none=>rfl
    |some a=>
     have e:ins S j n=S n:=if_neg (by omega)
     simp only[e]
     by_cases hc:S n=true∧a.o.dst=some t∧t<s0.length
     ·rw[if_pos hc]
      rw[if_neg]
      ·rw[if_pos hc]
      ·rintro ⟨hd,_⟩
       exact(Oper.apart_spec (swap_apart (hn.up n a hlt hr hc.1))).2.1 t hd hc.2.1
     ·rw[if_neg hc,if_neg hc]
theorem heap_after (T:Text P all st st' rs){H0:Heap}{S:Nat→Bool}{j:Nat}{r:Rec}(hn:Next all rs S j r)(q:Nat):
  ∀n,(n≤j→heapAt H0 rs (ins S j) n q=heapAt H0 rs S n q)∧(j<n→heapAt H0 rs (ins S j) n q=if r.touch q=true then r.st'.h.at q else heapAt H0 rs S n q)
 |0=>⟨fun _=>rfl,fun h=>by omega⟩
 |n+1=>by
  obtain⟨h1,h2⟩:=heap_after T (H0:=H0) hn q n
  refine⟨fun hle=> ?_,fun hle=> ?_⟩
  ·simp only[heapAt]
   rw[h1 (by omega)]
   cases hr:rs[n]? with
   |none=>rfl
   |some a=>
    have e:ins S j n=S n:=if_neg (by omega)
    simp only[e]
  ·rcases Nat.eq_or_lt_of_le (Nat.le_of_lt_succ hle) with he|hlt
   ·subst he
    simp only[heapAt,hn.get]
    rw[h1 (Nat.le_refl _)]
    have e:ins S j j=true:=if_pos rfl
    simp only[e,true_and,hn.not,Bool.false_eq_true,false_and,if_false]
   ·simp only[heapAt]
    rw[h2 hlt]
    cases hr:rs[n]? with
    |none=>rfl
    |some a=>
     have e:ins S j n=S n:=if_neg (by omega)
     simp only[e]
     by_cases hc:S n=true∧a.touch q=true
     ·rw[if_pos hc]
      rw[if_neg]
      ·rw[if_pos hc]
      ·intro htj
       have sw:=swap_heap (q:=q) (hn.up n a hlt hr hc.1)
       rcases touch_ent (T.good hn.get) htj with ⟨g1,g2⟩|⟨g1,g2⟩<;>rcases touch_ent (T.good hr) hc.2 with ⟨g3,g4⟩|⟨g3,g4⟩
       ·exact sw.1 (.inl g1) g2 g4
       ·exact sw.2.2 g2 g3 g4
       ·exact sw.2.1 g4 g1 g2
       ·have hm:=T.lt hlt hn.get hr
        have e1:r.ent.hi≤r.st'.h.length:=by
         simp only[Rec.ent];split
         ·exact Nat.le_refl _
         ·exact(T.good hn.get).2.1
        have e2:a.st.h.length≤a.ent.lo:=by simp only[Rec.ent];split<;>exact Nat.le_refl _
        omega
     ·rw[if_neg hc,if_neg hc]
theorem slot_congr {s0:List AV}{S S':Nat→Bool}{t:Nat}: ∀n,(∀ i,i<n→S i=S' i)→slotAt s0 rs S n t=slotAt s0 rs S' n t
 |0,_=>rfl
 |n+1,h=>by simp only[slotAt,h n (by omega),slot_congr n fun i hi=>h i (by omega)]
theorem heap_congr {H0:Heap}{S S':Nat→Bool}{q:Nat}: ∀n,(∀ i,i<n→S i=S' i)→heapAt H0 rs S n q=heapAt H0 rs S' n q
 |0,_=>rfl
 |n+1,h=>by simp only[heapAt,h n (by omega),heap_congr n fun i hi=>h i (by omega)]
end
end Go.TX
