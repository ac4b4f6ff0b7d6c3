/- A region whose order is open: sound. -/
import Derived.Test.YtgchjlbhmfbgaaaGreatDoorTxO
namespace Go.TX
set_option linter.unusedSectionVars false
variable [Globals]
variable {P:Program}
section
variable {all:Array Oper}{st st':St}{rs:List Rec}
theorem Text.end_le (T:Text P all st st' rs){n:Nat}{r:Rec}(h:rs[n]? =some r):r.st'.h.length≤st'.h.length:=by
 have hlt:=(List.getElem?_eq_some_iff.1 h).1
 have hl:rs[rs.length-1]? =some rs[rs.length-1]:=List.getElem?_eq_getElem (by omega)
 have h1:=T.last _ _ hl (by omega)
 rcases Nat.lt_or_ge n (rs.length-1) with hn|hn
 ·have h2:=T.lt hn h hl
  have h3:=(T.good hl).2.1
  rw[h1];omega
 ·have:n=rs.length-1:=by omega
  subst this
  rw[hl] at h;cases h;rw[h1];exact Nat.le_refl _
theorem Text.state (T:Text P all st st' rs){n:Nat}{r:Rec}(h:rs[n]? =some r):
  r.st.s.length=st.s.length∧(∀ t,slotAt st.s rs (fun _=>true) n t=r.st.s[t]?)∧(∀ q,heapAt st.h rs (fun _=>true) n q=r.st.h.at q):=by
 obtain⟨sn,h1,_,h3,_,h4,h5⟩:=T.at n (Nat.le_of_lt (List.getElem?_eq_some_iff.1 h).1)
 have:=h1 r h
 subst this
 exact⟨h3,h4,h5⟩
theorem Text.stop (T:Text P all st st' rs):
  st'.s.length=st.s.length∧st.h.length≤st'.h.length∧(∀ t,slotAt st.s rs (fun _=>true) rs.length t=st'.s[t]?)∧(∀ q,heapAt st.h rs (fun _=>true) rs.length q=st'.h.at q):=by
 obtain⟨sn,_,h2,h3,h3',h4,h5⟩:=T.at rs.length (Nat.le_refl _)
 have:=h2 rfl
 subst this
 exact⟨h3,h3',h4,h5⟩
theorem slot_none {s0:List AV}: ∀n t,slotAt s0 rs (fun _=>false) n t=s0[t]?
 |0,_=>rfl
 |n+1,t=>by
  simp only[slotAt,slot_none n t]
  cases rs[n]? <;>simp
theorem heap_none {H0:Heap}: ∀n q,heapAt H0 rs (fun _=>false) n q=H0.at q
 |0,_=>rfl
 |n+1,q=>by
  simp only[heapAt,heap_none n q]
  cases rs[n]? <;>simp
def undone (S:Nat→Bool):Nat→Nat
 |0=>0
 |n+1=>undone S n+if S n then 0 else 1
theorem undone_ins {S:Nat→Bool}{j:Nat}(hj:S j=false): ∀n,(n≤j→undone (ins S j) n=undone S n)∧(j<n→undone (ins S j) n+1=undone S n)
 |0=>⟨fun _=>rfl,fun h=>by omega⟩
 |n+1=>by
  obtain⟨h1,h2⟩:=undone_ins hj n
  refine⟨fun h=> ?_,fun h=> ?_⟩
  ·have e:ins S j n=S n:=if_neg (by omega)
   simp only[undone,e,h1 (by omega)]
  ·rcases Nat.eq_or_lt_of_le (Nat.le_of_lt_succ h) with he|hlt
   ·subst he
    have e:ins S j j=true:=if_pos rfl
    simp[undone,e,h1 (Nat.le_refl _),hj]
   ·have e:ins S j n=S n:=if_neg (by omega)
    simp only[undone,e]
    have:=h2 hlt
    omega
theorem undone_zero {S:Nat→Bool}: ∀n,undone S n=0→ ∀i,i<n→S i=true
 |0,_,i,h=>by omega
 |n+1,h0,i,hi=>by
  simp only[undone] at h0
  cases hS:S n
  ·rw[hS] at h0;simp at h0
  ·rw[hS] at h0
   rcases Nat.eq_or_lt_of_le (Nat.le_of_lt_succ hi) with he|hlt
   ·subst he;exact hS
   ·exact undone_zero n (by simpa using h0) i hlt
theorem undone_le {S:Nat→Bool}: ∀n,undone S n≤n
 |0=>Nat.le_refl _
 |n+1=>by
  have:=undone_le (S:=S) n
  simp only[undone];split<;>omega
structure Mid (all:Array Oper)(rs:List Rec)(st st':St)(a0:Act)(c0:Ctx)(S:Nat→Bool)(a:Act)(c:Ctx):Prop where
 closed: ∀(j:Nat) (o:Oper),all.toList[j]? =some o→S j=true→ ∀e∈o.after,Region.binds .any e=true→S e.on=true
 size:a.tmps.size=st.s.length
 rep: ∀t v,slotAt st.s rs S rs.length t=some v→Rep c v (a.tmps.getD t undef)
 heap:HRel c (heapAt st.h rs S rs.length)
 new: ∀(n:Nat) (r:Rec),rs[n]? =some r→S n=false→ ∀q,r.st.h.length≤q→q<r.st'.h.length→c.js q=none
 fresh:Fresh c st'.h.length
 step:Step c0 st.h.at c (heapAt st.h rs S rs.length)
 stay:Stay c0 c
 defers:a.defers=a0.defers
theorem Mid.lit {a0 a:Act}{c0 c:Ctx}{S:Nat→Bool}(h:Mid all rs st st' a0 c0 S a c){t:Nat}{u:Value}(hu:slotAt st.s rs S rs.length t=some (.lit u))(ht:t<st.s.length):a.tmps[t]? =some u:=by
 have h1:=h.rep t _ hu
 have hlt:t<a.tmps.size:=by rw[h.size];exact ht
 rw[Array.getD_eq_getD_getElem?,Array.getElem?_eq_getElem hlt] at h1
 rw[Array.getElem?_eq_getElem hlt]
 exact congrArg some h1
theorem next_of (hF:Free all rs (ancs all.toList []))(T:Text P all st st' rs){S:Nat→Bool}
  (hc: ∀(j:Nat) (o:Oper),all.toList[j]? =some o→S j=true→ ∀e∈o.after,Region.binds .any e=true→S e.on=true)
  {j:Nat} {r:Rec} (hr:rs[j]? =some r) (hj:S j=false) (he: ∀e∈r.o.after,Region.binds .any e=true→S e.on=true):Next all rs S j r:=by
 have op: ∀{n:Nat} {r:Rec},rs[n]? =some r→all.toList[n]? =some r.o:=fun h=>by simpa using (T.op _ _ h).1
 refine⟨hr,hj,fun i a hlt ha hS=> ?_,fun i a hlt ha hS=> ?_⟩
 ·rcases hF.swap j i r a hlt hr ha with h|h
  ·have:=behind (S:=fun i=>S i=true) hc i a.o (op ha) (hc i a.o (op ha) hS) j h
   rw[hj] at this;cases this
  ·exact h
 ·rcases hF.swap i j a r hlt ha hr with h|h
  ·have:=behind (S:=fun i=>S i=true) hc j r.o (op hr) he i h
   rw[hS] at this;cases this
  ·exact h
theorem Mid.same {a0 a:Act}{c0 c:Ctx}{S:Nat→Bool}(T:Text P all st st' rs)(_h:Mid all rs st st' a0 c0 S a c){j:Nat}{r:Rec}(hn:Next all rs S j r){t:Nat}(ht:t∈r.o.looksAt all):
  slotAt st.s rs S rs.length t=r.st.s[t]? :=by
 have hlt:=(List.getElem?_eq_some_iff.1 hn.get).1
 rw[(slot_same hn ht rs.length).2 (Nat.le_of_lt hlt),(slot_same hn ht j).1 (Nat.le_refl _),(T.state hn.get).2.1]
theorem Mid.eval {a0 a:Act}{c0 c:Ctx}{S:Nat→Bool}(T:Text P all st st' rs)(h:Mid all rs st st' a0 c0 S a c){j:Nat}{r:Rec}(hn:Next all rs S j r){x:Operand}(hx:x∈r.o.op.operands):
  Rep c (evalA r.st.s x) (a.eval x):=by
 cases x with
 |tmp t=>
  have ht:t∈r.o.looksAt all:=by
   unfold Oper.looksAt
   exact List.mem_append_left _ (List.mem_filterMap.2 ⟨.tmp t,by simpa using hx,rfl⟩)
  have h1:=h.same T hn ht
  simp only[evalA,Act.eval,List.getD_eq_getElem?_getD]
  cases hs:r.st.s[t]? with
  |none=>exact trivial
  |some v=>rw[hs] at h1;exact h.rep t v h1
 |const v=>exact constA_rep v
 |global g=>exact evalA_rep (s:=[]) h.heap.glob (fun t v ht=>by simp at ht) (.global g)
 |func f=>exact⟨#[], #[],rfl,rfl,rfl⟩
theorem Mid.wanted {a0 a:Act}{c0 c:Ctx}{S:Nat→Bool}(T:Text P all st st' rs)(h:Mid all rs st st' a0 c0 S a c){j:Nat}{r:Rec}(hn:Next all rs S j r):
  Region.wanted r.o (yielded all a.tmps)=r.ex:=
 (T.good hn.get).2.2.1.wanted fun t u ht hu=>by
  have hlt:=(List.getElem?_eq_some_iff.1 hu).1
  rw[(T.state hn.get).1] at hlt
  exact h.lit ((h.same T hn ht).trans hu) hlt
theorem Mid.done {a0 a:Act}{c0 c c':Ctx}{S:Nat→Bool}(T:Text P all st st' rs)(h:Mid all rs st st' a0 c0 S a c){j:Nat}{r:Rec}(hn:Next all rs S j r)
  (he: ∀e∈r.o.after,Region.binds .any e=true→S e.on=true) {v':Value} (hv:Rep c' r.v v') (hlt: ∀q∈r.F,q<r.st.h.length) (hx:r.ex=false→r.F=[])
  (hh:HRel c' (heapAt st.h rs (ins S j) rs.length)) (hs:Step c (heapAt st.h rs S rs.length) c' (heapAt st.h rs (ins S j) rs.length)) (hst:Stay c c')
  (hj: ∀q,¬ (q∈r.F∨(r.st.h.length≤q∧q<r.st'.h.length))→c'.js q=c.js q):Mid all rs st st' a0 c0 (ins S j) (a.put r.o.dst v') c':=by
 have hlen:=(List.getElem?_eq_some_iff.1 hn.get).1
 have hins: ∀i,S i=true→ins S j i=true:=fun i hi=>by unfold ins;split<;>first|rfl|exact hi
 refine⟨fun i o ho hS e hem hb=> ?_, ?_,fun t v hv'=> ?_,hh,fun n b hb hS q h1 h2=> ?_,fun q hq=> ?_,h.step.trans hs,h.stay.trans hst,(put_defers _ _ _).trans h.defers⟩
 ·by_cases hij:i=j
  ·subst hij
   have:o=r.o:=by
    have:=(T.op _ _ hn.get).1
    rw[Array.getElem?_toList] at ho
    rw[this] at ho;cases ho;rfl
   subst this
   exact hins _ (he e hem hb)
  ·unfold ins at hS
   rw[if_neg hij] at hS
   exact hins _ (h.closed i o ho hS e hem hb)
 ·cases r.o.dst with
  |none=>exact h.size
  |some d=>simp[Act.put,h.size]
 ·rw[(slot_after hn t rs.length).2 hlen] at hv'
  have mono:Later c c':=Later.of_step h.heap hs hst
  split at hv'
  ·rename_i hd
   cases hv'
   rw[hd.1]
   simp only[Act.put,Array.getD_eq_getD_getElem?]
   rw[Array.getElem?_setIfInBounds_self_of_lt (by rw[h.size];exact hd.2)]
   exact hv
  ·rename_i hd
   have hold:=Rep.mono mono _ (h.rep t v hv')
   cases hdst:r.o.dst with
   |none=>exact hold
   |some d=>
    simp only[Act.put,Array.getD_eq_getD_getElem?] at hold⊢
    by_cases hdt:d=t
    ·subst hdt
     have hge: ¬d<a.tmps.size:=fun hl=>hd ⟨hdst,by rw[← h.size];exact hl⟩
     rw[Array.getElem?_eq_none (by simpa using hge)] at hold
     rw[Array.getElem?_eq_none (by simpa using hge)]
     exact hold
    ·rw[Array.getElem?_setIfInBounds_ne hdt];exact hold
 ·have hne:n≠j:=fun h=>by subst h;unfold ins at hS;rw[if_pos rfl] at hS;cases hS
  have hS':S n=false:=by unfold ins at hS;rwa[if_neg hne] at hS
  rw[hj q,h.new n b hb hS' q h1 h2]
  rintro (hF|⟨g1,g2⟩)
  ·rcases Nat.lt_or_gt_of_ne hne with hl|hl
   ·have sw:=swap_heap (q:=q) (hn.down n b hl hb hS')
    have nw:=ent_new (T.good hb) h1 h2
    refine sw.2.1 ?_ nw.1 nw.2
    cases hxx:r.ex
    ·rw[hx hxx] at hF;cases hF
    ·simp only[Rec.ent,hxx,if_true];exact hF
   ·have:=T.lt hl hn.get hb
    have:=hlt q hF
    have:=(T.good hn.get).2.1
    omega
  ·rcases Nat.lt_or_gt_of_ne hne with hl|hl
   ·have:=T.lt hl hb hn.get;omega
   ·have:=T.lt hl hn.get hb;omega
 ·have h1:=T.end_le hn.get
  have h2:=(T.good hn.get).2.1
  rw[hj q,h.fresh q hq]
  rintro (hF|⟨g1,g2⟩)
  ·have:=hlt q hF;omega
  ·omega
theorem any_sound (hF:Free all rs (ancs all.toList []))(T:Text P all st st' rs)(hI: ∀(n:Nat) (r:Rec),rs[n]? =some r→ ∀S,noted r.nt (heapAt st.h rs S rs.length)){Q:Exit→Act→World→Prop}{a0:Act}{c0:Ctx}
  (hQ: ∀a' c',Sim a' c' st'→Step c0 st.h.at c' st'.h.at→Stay c0 c'→a'.defers=a0.defers→Q .normal a' c'.w):
  ∀(fuel:Nat) (listed:Array Bool) (a:Act) (c:Ctx),listed.size=all.size→undone (fun i=>listed.getD i false) all.size≤fuel→
   Mid all rs st st' a0 c0 (fun i=>listed.getD i false) a c→wpAny P .any all Q fuel listed a c.w:=by
 have fin: ∀(S:Nat→Bool) (a:Act) (c:Ctx),(∀ i,i<all.size→S i=true)→Mid all rs st st' a0 c0 S a c→Q .normal a c.w:=fun S a c hS hm=>by
  obtain⟨e1,e2,e3,e4⟩:=T.stop
  have hc: ∀i,i<rs.length→S i=true:=fun i hi=>hS i (by rw[← T.len];exact hi)
  have eh:heapAt st.h rs S rs.length=st'.h.at:=by
   funext q;rw[heap_congr (S':=fun _=>true) rs.length hc,e4]
  have hst:=hm.step
  have hhp:=hm.heap
  rw[eh] at hst hhp
  refine hQ a c ⟨⟨by rw[hm.size,e1],fun t v hv=>hm.rep t v ?_⟩,hhp,hm.fresh⟩ hst hm.stay hm.defers
  rw[slot_congr (S':=fun _=>true) rs.length hc,e3];exact hv
 have ready: ∀(listed:Array Bool),listed.size=all.size→Region.ready .any all listed=[]→ ∀i,i<all.size→listed.getD i false=true:=by
  intro listed hsz hr i
  induction i using Nat.strongRecOn with
  |_ i ih=>
   intro hi
   have hni:i∉Region.ready .any all listed:=by rw[hr];simp
   simp only[Region.ready,List.mem_filter,List.mem_range,not_and] at hni
   have hni:=hni hi
   have hir:i<rs.length:=by rw[T.len];exact hi
   have hge:rs[i]? =some rs[i]:=List.getElem?_eq_getElem hir
   have hop:=(T.op i _ hge).1
   have:(all[i]?.map fun o=>o.after.all fun e=> !Region.binds .any e||listed.getD e.on false).getD false=true:=by
    rw[hop]
    simp only[Option.map_some,Option.getD_some,Array.all_eq_true']
    intro e he
    cases hb:Region.binds .any e
    ·rfl
    ·have hlt:=hF.edge i _ hge e he hb
     rw[ih e.on hlt (by omega)];rfl
   rw[this,Bool.and_true] at hni
   have hl:i<listed.size:=by omega
   simp only[Array.getD_eq_getD_getElem?,Array.getElem?_eq_getElem hl,Option.getD_some] at hni⊢
   simpa using hni
 intro fuel
 induction fuel with
 |zero=>
  intro listed a c hsz hu hm
  have hall:=undone_zero _ (Nat.le_zero.1 hu)
  refine⟨?_,fin _ a c hall hm⟩
  rw[List.eq_nil_iff_forall_not_mem]
  intro i hi
  simp only[Region.ready,List.mem_filter,List.mem_range,Bool.and_eq_true,Bool.not_eq_true'] at hi
  have:=hall i hi.1
  have hl:i<listed.size:=by omega
  have h2:=hi.2.1
  simp only[Array.getD_eq_getD_getElem?,Array.getElem?_eq_getElem hl,Option.getD_some] at this h2
  rw[this] at h2;cases h2
 |succ fuel ih=>
  intro listed a c hsz hu hm
  refine⟨fun hr=>fin _ a c (ready listed hsz hr) hm,fun i hi=> ?_⟩
  simp only[Region.ready,List.mem_filter,List.mem_range,Bool.and_eq_true,Bool.not_eq_true'] at hi
  obtain⟨hi,hl,hed⟩:=hi
  have hir:i<rs.length:=by rw[T.len];exact hi
  obtain⟨r,hge⟩: ∃r,rs[i]? =some r:=⟨_,List.getElem?_eq_getElem hir⟩
  have hop:=(T.op i _ hge).1
  have hli:i<listed.size:=by omega
  have hS:listed.getD i false=false:=by
   simp only[Array.getD_eq_getD_getElem?,Array.getElem?_eq_getElem hli,Option.getD_some] at hl ⊢; exact hl
  have he: ∀e∈r.o.after,Region.binds .any e=true→listed.getD e.on false=true:=by
   rw[hop] at hed
   simp only[Option.map_some,Option.getD_some,Array.all_eq_true'] at hed
   intro e hem hb
   have:=hed e hem
   rw[hb] at this;simpa using this
  have hn:=next_of hF T (S:=fun i=>listed.getD i false) hm.closed hge hS he
  have hins:(fun k=>(listed.setIfInBounds i true).getD k false)=ins (fun i=>listed.getD i false) i:=by
   funext k
   simp only[ins,Array.getD_eq_getD_getElem?]
   by_cases hk:k=i
   ·subst hk;rw[if_pos rfl,Array.getElem?_setIfInBounds_self_of_lt hli];rfl
   ·rw[if_neg hk,Array.getElem?_setIfInBounds_ne (Ne.symm hk)]
  have hlen:=(List.getElem?_eq_some_iff.1 hge).1
  have hund:undone (fun k=>(listed.setIfInBounds i true).getD k false) all.size≤fuel:=by
   rw[hins]
   have:=(undone_ins (S:=fun i=>listed.getD i false) hS all.size).2 hi
   omega
  unfold wpOp
  rw[hop]
  dsimp only
  rw[hm.wanted T hn]
  obtain⟨ok1,ok2,_,ok3⟩:=T.good hge
  have hafter:=fun q=>(heap_after T (H0:=st.h) hn q rs.length).2 hlen
  rcases ok3 with ⟨e1,e2,e3,e4,e5⟩|⟨e1,e2,e3,e4⟩
  ·rw[if_pos e1]
   refine .inl (e2 a c (heapAt st.h rs (fun i=>listed.getD i false) rs.length) (hI i r hge _) (fun x hx=>hm.eval T hn hx) hm.heap (fun q hq=> ?_) (fun q h1 h2=>⟨hm.new i r hge hS q h1 h2,heap_new T hn h1 h2 _⟩) _ Q
    fun v' c' g1 g2 g3 g4 g5=> ?_)
   ·have hq':q∈r.ent.F:=by simp only[Rec.ent,e1,if_true];exact hq
    rw[(heap_same T hn hq' rs.length).2 (Nat.le_of_lt hlen),(heap_same T hn hq' i).1 (Nat.le_refl _),(T.state hge).2.2]
   ·have hupd:updF (heapAt st.h rs (fun i=>listed.getD i false) rs.length) r.F r.st.h.length r.st'.h=heapAt st.h rs (ins (fun i=>listed.getD i false) i) rs.length:=by
     funext q
     rw[hafter q]
     unfold updF
     by_cases ht:r.touch q=true
     ·rw[if_pos ht]
      simp only[Rec.touch,Rec.m,Bool.or_eq_true,Bool.and_eq_true,decide_eq_true_eq,List.contains_iff_mem] at ht
      rw[if_pos (ht.elim (fun h=> .inl h.2) .inr)]
     ·rw[if_neg ht]
      simp only[Rec.touch,Rec.m,Bool.or_eq_true,Bool.and_eq_true,decide_eq_true_eq,List.contains_iff_mem,not_or,not_and] at ht
      split
      ·rename_i hq
       rcases hq with hq|⟨hq1,hq2⟩
       ·have hmut:Op.mut r.o.op=false:=by
         cases hmm:Op.mut r.o.op
         ·rfl
         ·exact absurd hq (ht.1 ⟨e1,hmm⟩)
        have hq':q∈r.ent.F:=by simp only[Rec.ent,e1,if_true];exact hq
        rw[e5 hmut q (e3 q hq),(heap_same T hn hq' rs.length).2 (Nat.le_of_lt hlen),(heap_same T hn hq' i).1 (Nat.le_refl _),(T.state hge).2.2]
       ·exact absurd hq2 (ht.2 hq1)
      ·rfl
    rw[hupd] at g2 g3
    have:=Mid.done T hm hn he g1 e3 (fun h=>by rw[e1] at h;cases h) g2 g3 g4 g5
    rw[← hins] at this
    exact ih _ _ c' (by simpa using hsz) hund this
  ·rw[if_neg (by rw[e1];simp)]
   have hnt: ∀q,r.touch q=false:=fun q=>by
    simp only[Rec.touch,Rec.m,e1,Bool.false_and,Bool.false_or,e4,Bool.and_eq_false_iff,decide_eq_false_iff_not]
    omega
   have hsame:heapAt st.h rs (ins (fun i=>listed.getD i false) i) rs.length=heapAt st.h rs (fun i=>listed.getD i false) rs.length:=by
    funext q
    rw[hafter q,if_neg (by rw[hnt q];simp)]
   have:=Mid.done (c':=c) T hm hn he (v':=undef) (by rw[e2];exact rfl) (by rw[e3];simp) (fun _=>e3) (by rw[hsame];exact hm.heap) (by rw[hsame];exact .refl _ _) (.refl _) fun _ _=>rfl
   rw[← hins] at this
   exact ih _ _ c (by simpa using hsz) hund this
end
theorem sameK_some {α:Type}{a:AV}{u:Value}{k:Option α}{r:α}(h:sameK a u k=some r):a= .lit u∧k=some r:=by
 unfold sameK at h
 split at h
 ·split at h
  ·rename_i hk
   obtain⟨hn,h⟩:=cond_none h
   rw[hk,of_decide_eq_true hn];exact⟨rfl,h⟩
  ·cases h
 ·obtain⟨hn,h⟩:=cond_none h
  rw[of_decide_eq_true hn];exact⟨rfl,h⟩
 ·cases h
theorem allK_some {α:Type}{q j:Nat}{u:Value}: ∀{l:List Ent2} {k:Option α} {r:α},allK q j u l k=some r→(∀ e∈l,e.e.m=true→q∈e.e.F→cellL e.post q j= .lit u)∧k=some r
 |[],_,_,h=>⟨by simp,h⟩
 |e::es,k,r,h=>by
  unfold allK at h
  split at h
  ·obtain⟨h1,h2⟩:=sameK_some h
   obtain⟨g1,g2⟩:=allK_some h2
   refine⟨fun e' he' hm hq=> ?_,g2⟩
   rcases List.mem_cons.1 he' with rfl|he'
   ·exact h1
   ·exact g1 e' he' hm hq
  ·rename_i hn
   obtain⟨g1,g2⟩:=allK_some h
   refine⟨fun e' he' hm hq=> ?_,g2⟩
   rcases List.mem_cons.1 he' with rfl|he'
   ·exact absurd ⟨hm,by simpa using hq⟩ hn
   ·exact g1 e' he' hm hq
theorem notesK_some {α:Type}{H0:Heap}{full:List Ent2}: ∀{l:List Ent2} {k:Option α} {r:α},notesK H0 full l k=some r→
  (∀ e∈l,∀ n,e.nt=some n→n.1<H0.length∧cellL H0 n.1 n.2.1= .lit n.2.2∧ ∀e'∈full,e'.e.m=true→n.1∈e'.e.F→cellL e'.post n.1 n.2.1= .lit n.2.2)∧k=some r
 |[],_,_,h=>⟨by simp,h⟩
 |e::es,k,r,h=>by
  unfold notesK at h
  split at h
  ·rename_i hn
   obtain⟨g1,g2⟩:=notesK_some h
   refine⟨fun e' he' n hn'=> ?_,g2⟩
   rcases List.mem_cons.1 he' with rfl|he'
   ·rw[hn] at hn';cases hn'
   ·exact g1 e' he' n hn'
  ·rename_i n0 hn
   split at h
   case isFalse=>cases h
   rename_i hlt
   obtain⟨h1,h2⟩:=sameK_some h
   obtain⟨h3,h4⟩:=allK_some h2
   obtain⟨g1,g2⟩:=notesK_some h4
   refine⟨fun e' he' n hn'=> ?_,g2⟩
   rcases List.mem_cons.1 he' with rfl|he'
   ·rw[hn] at hn';cases hn';exact⟨hlt,h1,h3⟩
   ·exact g1 e' he' n hn'
theorem cellL_box {H:Heap}{q j:Nat}{u:Value}(h:cellL H q j= .lit u): ∃cs,H.at q= .box cs∧cs[j]? =some (.lit u):=by
 unfold cellL at h
 split at h
 ·rename_i cs hc
  refine⟨cs,hc, ?_⟩
  rw[List.getD_eq_getElem?_getD] at h
  cases hj:cs[j]? with
  |none=>rw[hj] at h;cases h
  |some a=>rw[hj] at h;exact congrArg some h
 ·cases h
theorem region_any (hm:P.follows .mixedOrders=true){id:Nat}{ops:Array Oper}{st st':St}{rs:List Rec}(T:Text P ops st st' rs)
  (hord:orderOk ops 0 (ops.toList.zip ((rs.map Rec.ent).zip (ancs ops.toList [])))=true)
  (hI: ∀(n:Nat) (r:Rec),rs[n]? =some r→ ∀S,noted r.nt (heapAt st.h rs S rs.length)): ∀a c,Sim a c st→ ∀Q:Exit→Act→World→Prop,
   (∀ a' c',Sim a' c' st'→Step c st.h.at c' st'.h.at→Stay c c'→a'.defers=a.defers→Q .normal a' c'.w)→(Code.region id ops true).wp P Q a c.w:=by
 obtain⟨o1,o2⟩:=orderOk_sound _ _ hord
 have hz: ∀(n:Nat) (r:Rec),rs[n]? =some r→(ops.toList.zip ((rs.map Rec.ent).zip (ancs ops.toList [])))[n]? =some (r.o,r.ent,(ancs ops.toList []).getD n 0):=fun n r hr=>by
  have hop:=(T.op n r hr).1
  have hlt:=(List.getElem?_eq_some_iff.1 hr).1
  rw[List.getElem?_zip_eq_some,List.getElem?_zip_eq_some]
  refine⟨by simpa using hop,by simp[hr], ?_⟩
  rw[List.getD_eq_getElem?_getD,List.getElem?_eq_getElem (by rw[ancs_len];simpa [← T.len] using hlt)]
  rfl
 have hF:Free ops rs (ancs ops.toList []):=⟨fun j r hr e he hb=>by simpa using o1 j _ _ _ (hz j r hr) e he hb,
  fun i j a b hlt ha hb=>by simpa using o2 i j _ _ _ _ _ _ hlt (hz i a ha) (hz j b hb)⟩
 intro a c hs Q hQ
 refine wp_region_any hm ?_
 obtain⟨m1,m2,m3⟩:=move_world hs.heap (w':={c.w with drawn:=c.w.drawn+1}) rfl rfl rfl rfl
 have e0:(fun i=>(Array.replicate ops.size false).getD i false)=fun _=>false:=by
  funext i
  simp only[Array.getD_eq_getD_getElem?,Array.getElem?_replicate]
  split<;>rfl
 have hh0:heapAt st.h rs (fun _=>false) rs.length=st.h.at:=by funext q;exact heap_none _ _
 refine any_sound hF T hI (a0:=a) (c0:=c) hQ ops.size _ a ⟨{c.w with drawn:=c.w.drawn+1},c.I,c.js⟩ (by simp) (undone_le _) ?_
 rw[e0]
 refine⟨fun _ _ _ h=>by simp at h,hs.slots.size,fun t v hv=> ?_,by rw[hh0];exact m1,fun n r hr _ q h1 h2=> ?_,fun q hq=> ?_,by rw[hh0];exact m2,m3,rfl⟩
 ·rw[slot_none] at hv
  exact Rep.mono (Later.of_step hs.heap m2 m3) _ (hs.slots.rep t v hv)
 ·refine hs.fresh q ?_
  obtain⟨sn,g1,_,_,g3,_⟩:=T.at n (Nat.le_of_lt (List.getElem?_eq_some_iff.1 hr).1)
  have:=g1 r hr;subst this;omega
 ·exact hs.fresh q (by have:=T.stop.2.1;omega)
theorem evRegion_sound {α:Type}{E:Env}(hE:E.OK P)(hm:P.follows .mixedOrders=true){id:Nat}{ops:Array Oper}{draw:Bool}{st:St}{k:St→Option α}{r:α}(h:evRegion P E ops draw st k=some r):
  ∃st',k st'=some r∧ ∀a c,Sim a c st→ ∀Q:Exit→Act→World→Prop,
   (∀ a' c',Sim a' c' st'→Step c st.h.at c' st'.h.at→Stay c c'→a'.defers=a.defers→Q .normal a' c'.w)→(Code.region id ops draw).wp P Q a c.w:=by
 unfold evRegion at h
 cases draw with
 |false=>
  simp only[Bool.false_eq_true,if_false] at h
  obtain⟨st',h1,h2⟩:=evOps_sound hE ops _ st k r h
  exact⟨st',h1,fun a c hs Q hQ=>wp_region_list (h2 a c hs Q hQ)⟩
 |true=>
  simp only[if_true] at h
  obtain⟨st',rs,h1,h2,h3⟩:=evD_sound hE ops _ st [] _ r h
  simp only[List.nil_append] at h1
  have hord1:(orderOk ops 0 (ops.toList.zip ((rs.map Rec.ent).zip (ancs ops.toList [])))=true∧k st'=some r)∨evAlt P E ops st k=some r:=by
   have last:(if orderOk ops 0 (ops.toList.zip ((rs.map Rec.ent).zip (ancs ops.toList []))) then k st' else evAlt P E ops st k)=some r→(orderOk ops 0 (ops.toList.zip ((rs.map Rec.ent).zip (ancs ops.toList [])))=true∧k st'=some r)∨evAlt P E ops st k=some r:=fun h=>by
    split at h
    ·rename_i hc;exact .inl ⟨hc,h⟩
    ·exact .inr h
   rcases cond_some h1 with ⟨hs,h1⟩|⟨_,h1⟩
   ·rcases cond_some h1 with ⟨hc,h1⟩|⟨_,h1⟩
    ·exact .inl ⟨calm_order _ _ _ _ hc hs,h1⟩
    ·exact last h1
   ·exact last h1
  rcases hord1 with ⟨hord,h1⟩|h
  ·have T:=Text.of h2
   exact⟨st',h1,region_any hm T hord fun n r hr S=>by rw[h3 r (List.mem_of_getElem? hr)];exact trivial⟩
  ·unfold evAlt at h
   obtain⟨st2,rs2,h4,h5⟩:=evD2_sound hE ops _ st [] _ r h
   simp only[List.nil_append] at h4
   obtain⟨g1,g2⟩:=notesK_some h4
   have T:=Text.of h5
   have hmap:(rs2.map Rec.ent2).map (·.e)=rs2.map Rec.ent:=by simp[Rec.ent2,Function.comp_def]
   split at g2
   case isFalse=>cases g2
   rename_i hord
   rw[hmap] at hord
   refine⟨st2,g2,region_any hm T hord fun n q hq S=> ?_⟩
   cases hn:q.nt with
   |none=>exact trivial
   |some u=>
    obtain⟨e1,e2,e3⟩:=g1 q.ent2 (List.mem_map.2 ⟨q,List.mem_of_getElem? hq,rfl⟩) u hn
    have ind: ∀m,∃ cs,heapAt st.h rs2 S m u.1= .box cs∧cs[u.2.1]? =some (.lit u.2.2):=by
     intro m
     induction m with
     |zero=>exact cellL_box e2
     |succ m ih=>
      simp only[heapAt]
      cases hr:rs2[m]? with
      |none=>exact ih
      |some b=>
       dsimp only
       split
       ·rename_i ht
        have tch:=touch_ent (T.good hr) ht.2
        rcases tch with ⟨t1,t2⟩|⟨t1,t2⟩
        ·exact cellL_box (e3 b.ent2 (List.mem_map.2 ⟨b,List.mem_of_getElem? hr,rfl⟩) t1 t2)
        ·exfalso
         obtain⟨sn,k1,_,_,k3,_⟩:=T.at m (Nat.le_of_lt (List.getElem?_eq_some_iff.1 hr).1)
         have k1:=k1 b hr
         subst k1
         have:b.st.h.length≤b.ent.lo:=by simp only[Rec.ent];split<;>exact Nat.le_refl _
         omega
       ·exact ih
    exact ind rs2.length
end Go.TX
