/- Memory seen through a list of references: into it, and back. -/
import Derived.Test.YtgchjlbhmfbgaaaGreatDoorTxL
namespace Go.TX
set_option linter.unusedSectionVars false
variable [Globals]
variable {P:Program}
structure RenRel (f:Nat→Nat)(S:Nat→Prop)(c c':Ctx):Prop where
 imm: ∀b,c.I b→c'.I b∧c'.w.heap[b]? =c.w.heap[b]?
 js: ∀r,S r→ ∀l,c.js r=some l→c'.js (f r)=some l
theorem RenRel.data {f:Nat→Nat}{S:Nat→Prop}{c c':Ctx}(h:RenRel f S c c'){s:Sh}{d:s.Den}{vs:List Value}(hd:RepD c s d vs):RepD c' s d vs:=by
 have h0:Later c ⟨c'.w,c'.I,c.js⟩:=⟨h.imm,fun _ _ h=>h⟩
 exact repD_js (c:=⟨c'.w,c'.I,c.js⟩) (js:=c'.js) s d vs (RepD.mono h0 s hd)
mutual
theorem rep_ren {f:Nat→Nat}{S:Nat→Prop}{c c':Ctx}(h:RenRel f S c c'):(a:AV)→{v:Value}→(∀ r∈refs a,S r)→Rep c a v→Rep c' (ren f a) v
 | .any,_,_,_=>trivial
 | .lit _,_,_,hv=>hv
 | .agg l,_,hr,⟨vs,h1,h2⟩=>⟨vs,h1,repL_ren h l hr h2⟩
 | .tup l,_,hr,⟨vs,h1,h2⟩=>⟨vs,h1,repL_ren h l hr h2⟩
 | .sl s l x,_,_,⟨a,cap,h1,h2,h3,h4⟩=>⟨a,cap,h1,h2,h3,h4.imp id fun⟨b,o,g1,g2,g3⟩=>⟨b,o,g1,(h.imm b g2).1,g3.mono (h.imm b g2).2 fun _ _ hx=>h.data hx⟩⟩
 | .ptr r _ _,_,hr,⟨b,o,w,n,z,h1,h2,h3⟩=>⟨b,o,w,n,z,h.js r (hr r (by simp[refs])) _ h1,h2,h3⟩
 | .pel s _ _ _,_,_,⟨b,o,h1,h2,h3,h4⟩=>⟨b,o,(h.imm b h1).1,h2.mono (h.imm b h1).2 fun _ _ hx=>h.data hx,h3,h4⟩
 | .msl r _ _,_,hr,hv=>hv.imp id fun⟨b,o,w,m,z,cap,h1,h2⟩=>⟨b,o,w,m,z,cap,h.js r (hr r (by simp[refs])) _ h1,h2⟩
 | .clo _ a b,_,hr,⟨x,y,h1,h2,h3⟩=>⟨x,y,h1,repL_ren h a (fun r hx=>hr r (by simp[refs,hx])) h2,repL_ren h b (fun r hx=>hr r (by simp[refs,hx])) h3⟩
 | .mp r,_,hr,⟨b,o,w,n,z,h1,h2⟩=>⟨b,o,w,n,z,h.js r (hr r (by simp[refs])) _ h1,h2⟩
theorem repL_ren {f:Nat→Nat}{S:Nat→Prop}{c c':Ctx}(h:RenRel f S c c'):(l:List AV)→{vs:List Value}→(∀ r∈refsL l,S r)→RepL c l vs→RepL c' (renL f l) vs
 |[],_,_,hv=>hv
 |a::l,_,hr,⟨v,vs',h1,h2,h3⟩=>⟨v,vs',h1,rep_ren h a (fun r hx=>hr r (by simp[refsL,hx])) h2,repL_ren h l (fun r hx=>hr r (by simp[refsL,hx])) h3⟩
end
theorem renO_owns (f:Nat→Nat)(x:AObj):(renO f x).owns=x.owns:=by cases x<;>rfl
theorem rowRel_ren {f:Nat→Nat}{S:Nat→Prop}{c c':Ctx}(h:RenRel f S c c'){r r':Nat}{s:Sh}{l:List s.Den}(hx:RowRel c r s l)
  (hj: ∀l,c.js r=some l→c'.js r'=some l) (hb: ∀b o w n z,c.js r=some (.real b o w n z)→c'.w.heap[b]? =c.w.heap[b]?):RowRel c' r' s l:=by
 rcases hx with ⟨h1,h2⟩|⟨b,o,cs,ty,fr,h1,h2,h3,h4⟩
 ·exact .inl ⟨h1,hj _ h2⟩
 ·refine .inr ⟨b,o,cs,ty,fr,hj _ h1,(hb _ _ _ _ _ h1).trans h2,h3,fun i hi=> ?_⟩
  obtain⟨vs,h5,h6⟩:=h4 i hi
  exact⟨vs,h.data h5,h6⟩
theorem objRel_ren {f:Nat→Nat}{S:Nat→Prop}{c c':Ctx}(h:RenRel f S c c'){r r':Nat}{x:AObj}(hx:ObjRel c r x)(hS: ∀q∈refsO x,S q)
  (hj: ∀l,c.js r=some l→c'.js r'=some l) (hb: ∀b o w n z,c.js r=some (.real b o w n z)→x.owns=true→c'.w.heap[b]? =c.w.heap[b]?):ObjRel c' r' (renO f x):=by
 cases x with
 |raw s l n=>
  obtain⟨j,h1,h2⟩:=hx
  exact⟨j,h1,rowRel_ren h h2 hj fun b o w n z hjj=>hb b o w n z hjj rfl⟩
 |gone=>trivial
 |box l=>
  obtain⟨b,cs,ty,fr,h1,h2,h3,h4⟩:=hx
  exact⟨b,cs,ty,fr,hj _ h1,(hb _ _ _ _ _ h1 rfl).trans h2,h3,repL_ren h l hS h4⟩
 |row s l=>
  rcases hx with ⟨h1,h2⟩|⟨b,o,cs,ty,fr,h1,h2,h3,h4⟩
  ·exact .inl ⟨h1,hj _ h2⟩
  ·refine .inr ⟨b,o,cs,ty,fr,hj _ h1,(hb _ _ _ _ _ h1 rfl).trans h2,h3,fun i hi=> ?_⟩
   obtain⟨vs,h5,h6⟩:=h4 i hi
   exact⟨vs,h.data h5,h6⟩
 |fz s l=>
  rcases hx with ⟨h1,h2⟩|⟨b,o,z,h1,h2,h3⟩
  ·exact .inl ⟨h1,hj _ h2⟩
  ·exact .inr ⟨b,o,z,hj _ h1,(h.imm b h2).1,h3.mono (h.imm b h2).2 fun _ _ hx=>h.data hx⟩
 |mapo ks vs l=>
  obtain⟨b,es,clk,h1,h2,h3,h4⟩:=hx
  refine⟨b,es,clk,hj _ h1,(hb _ _ _ _ _ h1 rfl).trans h2,h3,fun i hi=> ?_⟩
  obtain⟨e,h5,h6,h7⟩:=h4 i hi
  exact⟨e,h5,h.data h6,h7.imp (fun⟨g1,cs,g2,g3⟩=>⟨g1,cs,g2,h.data g3⟩) fun⟨g1,g2⟩=>⟨g1,h.data g2⟩⟩
 |it x pos=>
  obtain⟨b,h1,h2⟩:=hx
  exact⟨b,hj _ h1,(hb _ _ _ _ _ h1 rfl).trans h2⟩
def ctxL (c:Ctx)(F:List Nat):Ctx:=⟨c.w,c.I,fun i=>match F[i]? with|some r=>c.js r|none=>none⟩
structure ClosedL (H:Heap)(F:List Nat):Prop where
 nodup:F.Nodup
 lt: ∀r∈F,r<H.length
 closed: ∀r∈F,∀ q∈refsO (H.at r),q∈F
theorem ClosedL.of {H:Heap}{F:List Nat}(h:closedB H F=true):ClosedL H F:=by
 simp only[closedB,Bool.and_eq_true,decide_eq_true_eq,List.all_eq_true,List.contains_iff_mem] at h
 exact⟨h.1,fun r hr=>(h.2 r hr).1,fun r hr q hq=>(h.2 r hr).2 q hq⟩
theorem idx_lt {F:List Nat}{r:Nat}(h:r∈F):F.idxOf r<F.length:=List.idxOf_lt_length_iff.2 h
theorem idx_get {F:List Nat}{r:Nat}(h:r∈F):F[F.idxOf r]? =some r:=by
 rw[List.getElem?_eq_getElem (idx_lt h)];simp
theorem get_idx {F:List Nat}(hn:F.Nodup){i:Nat}(h:i<F.length):F.idxOf F[i]=i:=by
 exact List.Nodup.idxOf_getElem hn i h
theorem local_at (H:Heap)(F:List Nat)(i:Nat):(local_ H F).at i=match F[i]? with|some r=>renO F.idxOf (H.at r)|none=> .gone:=by
 simp only[local_,Heap.at,List.getD_eq_getElem?_getD,List.getElem?_map]
 cases F[i]? <;>rfl
theorem local_rel {c:Ctx}{Hf:HF}{H:Heap}{F:List Nat}(hc:ClosedL H F)(hh:HRel c Hf)(ha: ∀r∈F,Hf r=H.at r):
  HRel (ctxL c F) (local_ H F).at∧Fresh (ctxL c F) (local_ H F).length∧RenRel F.idxOf (· ∈F) c (ctxL c F)∧
   (∀ i b o w n z,(ctxL c F).js i=some (.real b o w n z)→((local_ H F).at i).owns=true→ ∃r,r∈F∧F[i]? =some r∧c.js r=some (.real b o w n z)∧(Hf r).owns=true):=by
 have hren:RenRel F.idxOf (· ∈F) c (ctxL c F):=⟨fun b hb=>⟨hb,rfl⟩,fun r hr l hl=>by
  show(match F[F.idxOf r]? with|some r=>c.js r|none=>none)=some l
  rw[idx_get hr];exact hl⟩
 have hown: ∀i b o w n z,(ctxL c F).js i=some (.real b o w n z)→((local_ H F).at i).owns=true→ ∃r,r∈F∧F[i]? =some r∧c.js r=some (.real b o w n z)∧(Hf r).owns=true:=by
  intro i b o w n z hj ho
  rw[local_at] at ho
  cases hi:F[i]? with
  |none=>simp[hi,AObj.owns] at ho
  |some r=>
   rw[hi] at ho
   have hr:r∈F:=List.mem_of_getElem? hi
   refine⟨r,hr,rfl, ?_, ?_⟩
   ·have:(ctxL c F).js i=c.js r:=by show(match F[i]? with|some r=>c.js r|none=>none)=_;rw[hi]
    rw[← this];exact hj
   ·rw[ha r hr];rwa[renO_owns] at ho
 refine⟨⟨fun i=> ?_, ?_,hh.imm, ?_,Glob.of (c:=c) (fun b hb=>⟨hb,rfl⟩) hh.glob⟩, ?_,hren,hown⟩
 ·rw[local_at]
  cases hi:F[i]? with
  |none=>trivial
  |some r=>
   have hr:r∈F:=List.mem_of_getElem? hi
   have ho:=hh.obj r
   rw[ha r hr] at ho
   refine objRel_ren hren ho (hc.closed r hr) (fun l hl=> ?_) fun _ _ _ _ _ _ _=>rfl
   show(match F[i]? with|some r=>c.js r|none=>none)=some l
   rw[hi];exact hl
 ·intro i i' b o w n z o' w' n' z' h1 h2 h3 h4
  obtain⟨r,_,e1,e2,e3⟩:=hown _ _ _ _ _ _ h1 h3
  obtain⟨r',_,e4,e5,e6⟩:=hown _ _ _ _ _ _ h2 h4
  have:=hh.uniq r r' b _ _ _ _ _ _ _ _ e2 e5 e3 e6
  subst this
  obtain⟨hi,hi'⟩:=List.getElem?_eq_some_iff.1 e1
  obtain⟨hj,hj'⟩:=List.getElem?_eq_some_iff.1 e4
  have:=get_idx hc.nodup hi
  have h':=get_idx hc.nodup hj
  rw[hi'] at this;rw[hj'] at h'
  omega
 ·rintro b ⟨i,o,w,n,z,h1,h2⟩ hb
  obtain⟨r,_,_,e2,e3⟩:=hown _ _ _ _ _ _ h1 h2
  exact hh.sep b ⟨r,o,w,n,z,e2,e3⟩ hb
 ·intro i hi
  have:F[i]? =none:=List.getElem?_eq_none (by simpa [local_] using hi)
  show(match F[i]? with|some r=>c.js r|none=>none)=none
  rw[this]
theorem putBack_len (f:Nat→Nat): ∀(H:Heap) (F:List Nat) (H1:Heap),F.length≤H1.length→(putBack f H F H1).length=H.length+(H1.length-F.length)
 |H,[],H1,_=>by simp[putBack]
 |H,r::F,[],h=>by simp at h
 |H,r::F,o::os,h=>by
  rw[putBack,putBack_len f _ F os (by simpa using h)]
  simp
theorem putBack_at (f:Nat→Nat): ∀(H:Heap) (F:List Nat) (H1:Heap),F.Nodup→(∀ r∈F,r<H.length)→F.length≤H1.length→ ∀r,
  (putBack f H F H1).at r=if r∈F then renO f (H1.at (F.idxOf r)) else if H.length≤r then renO f (H1.at (F.length+(r-H.length))) else H.at r
 |H,[],H1,_,_,_,r=>by
  simp only[putBack,List.not_mem_nil,if_false,List.length_nil,Nat.zero_add]
  split
  ·rename_i h
   simp only[Heap.at,List.getD_eq_getElem?_getD]
   rw[List.getElem?_append_right h,List.getElem?_map]
   cases H1[r-H.length]? <;>rfl
  ·rename_i h
   simp only[Heap.at,List.getD_eq_getElem?_getD]
   rw[List.getElem?_append_left (by omega)]
 |H,q::F,[],_,_,h,_=>by simp at h
 |H,q::F,o::os,hn,hlt,hl,r=>by
  have hq:q<H.length:=hlt q (by simp)
  have hn':=List.nodup_cons.1 hn
  rw[putBack,putBack_at f _ F os hn'.2 (fun x hx=>by simpa using hlt x (by simp[hx])) (by simpa using hl)]
  simp only[List.length_set,List.length_cons]
  by_cases h1:r=q
  ·subst h1
   rw[if_neg hn'.1,if_neg (by omega),if_pos (by simp),at_set _ hq,if_pos rfl]
   simp[Heap.at]
  ·by_cases h2:r∈F
   ·have hqr:(q==r)=false:=by simpa using Ne.symm h1
    rw[if_pos h2,if_pos (List.mem_cons_of_mem _ h2),List.idxOf_cons,hqr]
    simp[Heap.at]
   ·have hnm: ¬r∈q::F:=fun h=>(List.mem_cons.1 h).elim h1 h2
    rw[if_neg h2,if_neg hnm]
    split
    ·rw[show F.length+1+(r-H.length)=(F.length+(r-H.length))+1 by omega]
     simp[Heap.at]
    ·rw[at_set _ hq,if_neg h1]
theorem wrap {c:Ctx}{Hf:HF}{H:Heap}{F:List Nat}(hc:ClosedL H F)(hh:HRel c Hf)(ha: ∀r∈F,Hf r=H.at r){c1:Ctx}{H1:Heap}(hl:F.length≤H1.length)
  (hfr: ∀r,H.length≤r→r<H.length+(H1.length-F.length)→c.js r=none∧Hf r= .gone)
  (h1:HRel c1 H1.at) (hf1:Fresh c1 H1.length) (hs:Step (ctxL c F) (local_ H F).at c1 H1.at) (hst:Stay (ctxL c F) c1):
  ∃c':Ctx,c'.w=c1.w∧HRel c' (fun r=>if r∈F∨(H.length≤r∧r<H.length+(H1.length-F.length)) then (putBack (back H F) H F H1).at r else Hf r)∧
   Step c Hf c' (fun r=>if r∈F∨(H.length≤r∧r<H.length+(H1.length-F.length)) then (putBack (back H F) H F H1).at r else Hf r)∧Stay c c'∧
   RenRel (back H F) (fun _=>True) c1 c'∧(∀ r,¬ (r∈F∨(H.length≤r∧r<H.length+(H1.length-F.length)))→c'.js r=c.js r):=by
 generalize hm:H1.length-F.length=m at*
 have hlen1:H1.length=F.length+m:=by omega
 obtain⟨hL,hFL,hren,howl⟩:=local_rel hc hh ha
 let c':Ctx:=⟨c1.w,c1.I,fun r=>if r∈F then c1.js (F.idxOf r) else if H.length≤r∧r<H.length+m then c1.js (F.length+(r-H.length)) else c.js r⟩
 have jF: ∀r,r∈F→c'.js r=c1.js (F.idxOf r):=fun r hr=>by show(if r∈F then _ else _)=_;rw[if_pos hr]
 have hFlt: ∀r,r∈F→r<H.length:=hc.lt
 have jN: ∀r,H.length≤r→r<H.length+m→c'.js r=c1.js (F.length+(r-H.length)):=fun r h1 h2=>by
  show(if r∈F then _ else _)=_
  rw[if_neg (fun h=>by have:=hFlt r h;omega),if_pos ⟨h1,h2⟩]
 have jO: ∀r,¬ (r∈F∨(H.length≤r∧r<H.length+m))→c'.js r=c.js r:=fun r hr=>by
  show(if r∈F then _ else _)=_
  rw[if_neg (fun h=>hr (.inl h)),if_neg (fun h=>hr (.inr h))]
 have hbackren:RenRel (back H F) (fun _=>True) c1 c':=by
  refine⟨fun b hb=>⟨hb,rfl⟩,fun i _ l hi=> ?_⟩
  unfold back
  split
  ·rename_i hlt
   rw[List.getD_eq_getElem?_getD,List.getElem?_eq_getElem hlt,Option.getD_some,jF _ (List.getElem_mem hlt),get_idx hc.nodup hlt]
   exact hi
  ·rename_i hge
   have hlt:i<H1.length:=by
    rcases Nat.lt_or_ge i H1.length with h|h
    ·exact h
    ·rw[hf1 i h] at hi;cases hi
   rw[jN _ (by omega) (by omega),show F.length+(H.length+(i-F.length)-H.length)=i by omega]
   exact hi
 have hOl: ∀b,Own (ctxL c F) (local_ H F).at b→ ∃r,r∈F∧(∃ o w n z,c.js r=some (.real b o w n z))∧(Hf r).owns=true:=by
  rintro b ⟨i,o,w,n,z,h1,h2⟩
  obtain⟨r,e1,_,e2,e3⟩:=howl _ _ _ _ _ _ h1 h2
  exact⟨r,e1,⟨_,_,_,_,e2⟩,e3⟩
 have hOl': ∀b,Own (ctxL c F) (local_ H F).at b→Own c Hf b:=fun b hb=>by
  obtain⟨r,_,⟨o,w,n,z,e⟩,e3⟩:=hOl b hb
  exact⟨r,o,w,n,z,e,e3⟩
 have hkeep: ∀b,b<c.w.heap.size→ ¬Own (ctxL c F) (local_ H F).at b→c1.w.heap[b]? =c.w.heap[b]? :=fun b hb hn=>hs.keep b hb hn
 have hstay:Stay c c':=fun r l hr=>by
  by_cases h1:r∈F
  ·rw[jF r h1]
   exact hst _ _ (hren.js r h1 l hr)
  ·by_cases h2:H.length≤r∧r<H.length+m
   ·rw[(hfr r h2.1 h2.2).1] at hr;cases hr
   ·rw[jO r (fun h=>h.elim h1 h2)];exact hr
 have hlater:Later c c':=⟨fun b hb=>⟨hs.imm b hb,hkeep b (hh.imm b hb) fun ho=>hh.sep b (hOl' b ho) hb⟩,hstay⟩
 let Hf':HF:=fun r=>if r∈F∨(H.length≤r∧r<H.length+m) then (putBack (back H F) H F H1).at r else Hf r
 have pF: ∀r,r∈F→Hf' r=renO (back H F) (H1.at (F.idxOf r)):=fun r hr=>by
  show(if r∈F∨_ then _ else _)=_
  rw[if_pos (.inl hr),putBack_at _ _ _ _ hc.nodup hFlt hl,if_pos hr]
 have pN: ∀r,H.length≤r→r<H.length+m→Hf' r=renO (back H F) (H1.at (F.length+(r-H.length))):=fun r h1 h2=>by
  show(if r∈F∨_ then _ else _)=_
  rw[if_pos (.inr ⟨h1,h2⟩),putBack_at _ _ _ _ hc.nodup hFlt hl,if_neg (fun h=>by have:=hFlt r h;omega),if_pos h1]
 have pO: ∀r,¬ (r∈F∨(H.length≤r∧r<H.length+m))→Hf' r=Hf r:=fun r hr=>by
  show(if r∈F∨_ then _ else _)=_
  rw[if_neg hr]
 
 have who: ∀r b o w n z,c'.js r=some (.real b o w n z)→(Hf' r).owns=true→
   (∃ i,back H F i=r∧c1.js i=some (.real b o w n z)∧(H1.at i).owns=true∧(r∈F∨(H.length≤r∧r<H.length+m)))∨
   (¬ (r∈F∨(H.length≤r∧r<H.length+m))∧c.js r=some (.real b o w n z)∧(Hf r).owns=true):=by
  intro r b o w n z hj ho
  by_cases h1:r∈F
  ·rw[jF r h1] at hj;rw[pF r h1,renO_owns] at ho
   refine .inl ⟨F.idxOf r, ?_,hj,ho, .inl h1⟩
   unfold back;rw[if_pos (idx_lt h1),List.getD_eq_getElem?_getD,idx_get h1];rfl
  ·by_cases h2:H.length≤r∧r<H.length+m
   ·rw[jN r h2.1 h2.2] at hj;rw[pN r h2.1 h2.2,renO_owns] at ho
    refine .inl ⟨F.length+(r-H.length), ?_,hj,ho, .inr h2⟩
    unfold back;rw[if_neg (by omega)];omega
   ·have h3: ¬(r∈F∨(H.length≤r∧r<H.length+m)):=fun h=>h.elim h1 h2
    rw[jO r h3] at hj;rw[pO r h3] at ho
    exact .inr ⟨h3,hj,ho⟩
 have noboth: ∀r b,¬ (r∈F∨(H.length≤r∧r<H.length+m))→ ∀o w n z,c.js r=some (.real b o w n z)→(Hf r).owns=true→ ¬Own c1 H1.at b:=by
  intro r b hr o w n z hj ho hb
  rcases hs.own b hb with h|h
  ·obtain⟨r',e1,⟨_,_,_,_,e2⟩,e3⟩:=hOl b h
   have:=hh.uniq r r' b _ _ _ _ _ _ _ _ hj e2 ho e3
   subst this
   exact hr (.inl e1)
  ·have:=hh.own_lt ⟨r,o,w,n,z,hj,ho⟩
   have h:c.w.heap.size≤b:=h
   omega
 refine⟨c',rfl,⟨fun r=> ?_, ?_,h1.imm, ?_,Glob.of (c:=c1) (fun b hb=>⟨hb,rfl⟩) h1.glob⟩,⟨hs.os,hs.tape,hs.output,hs.size,fun b hb hn=>hkeep b hb fun ho=>hn (hOl' b ho), ?_,hs.imm,fun b hb=> ?_⟩,hstay,hbackren,jO⟩
 ·show ObjRel c' r (Hf' r)
  by_cases h2:r∈F
  ·rw[pF r h2]
   exact objRel_ren hbackren (h1.obj _) (fun _ _=>trivial) (fun l hl=>by rw[jF r h2];exact hl) fun _ _ _ _ _ _ _=>rfl
  ·by_cases h3:H.length≤r∧r<H.length+m
   ·rw[pN r h3.1 h3.2]
    exact objRel_ren hbackren (h1.obj _) (fun _ _=>trivial) (fun l hl=>by rw[jN r h3.1 h3.2];exact hl) fun _ _ _ _ _ _ _=>rfl
   ·have h4: ¬(r∈F∨(H.length≤r∧r<H.length+m)):=fun h=>h.elim h2 h3
    rw[pO r h4]
    refine(hh.obj r).mono hlater fun b o w n z hj ho=>hkeep b ((hh.obj r).lt hj ho) fun hb=> ?_
    obtain⟨r',e1,⟨_,_,_,_,e2⟩,e3⟩:=hOl b hb
    have:=hh.uniq r r' b _ _ _ _ _ _ _ _ hj e2 ho e3
    subst this
    exact h2 e1
 ·intro r r' b o w n z o' w' n' z' g1 g2 g3 g4
  rcases who r _ _ _ _ _ g1 g3 with ⟨i,e1,e2,e3,_⟩|⟨e1,e2,e3⟩<;>rcases who r' _ _ _ _ _ g2 g4 with ⟨i',f1,f2,f3,_⟩|⟨f1,f2,f3⟩
  ·have:=h1.uniq i i' b _ _ _ _ _ _ _ _ e2 f2 e3 f3
   subst this
   rw[← e1,← f1]
  ·exact absurd ⟨i,_,_,_,_,e2,e3⟩ (noboth r' b f1 _ _ _ _ f2 f3)
  ·exact absurd ⟨i',_,_,_,_,f2,f3⟩ (noboth r b e1 _ _ _ _ e2 e3)
  ·exact hh.uniq r r' b _ _ _ _ _ _ _ _ e2 f2 e3 f3
 ·rintro b ⟨r,o,w,n,z,g1,g2⟩ hb
  rcases who r _ _ _ _ _ g1 g2 with ⟨i,e1,e2,e3,_⟩|⟨e1,e2,e3⟩
  ·exact h1.sep b ⟨i,_,_,_,_,e2,e3⟩ hb
  ·have hob:Own c Hf b:=⟨r,_,_,_,_,e2,e3⟩
   rcases hs.imm' b hb with h|h|h
   ·exact hh.sep b hob h
   ·obtain⟨r',q1,⟨_,_,_,_,q2⟩,q3⟩:=hOl b h
    have:=hh.uniq r r' b _ _ _ _ _ _ _ _ e2 q2 e3 q3
    subst this
    exact e1 (.inl q1)
   ·have:=hh.own_lt hob
    have h:c.w.heap.size≤b:=h
    omega
 ·rintro b ⟨r,o,w,n,z,g1,g2⟩
  rcases who r _ _ _ _ _ g1 g2 with ⟨i,e1,e2,e3,_⟩|⟨e1,e2,e3⟩
  ·exact(hs.own b ⟨i,_,_,_,_,e2,e3⟩).imp (hOl' b) id
  ·exact .inl ⟨r,_,_,_,_,e2,e3⟩
 ·exact(hs.imm' b hb).imp id fun h=>h.imp (hOl' b) id
end Go.TX
