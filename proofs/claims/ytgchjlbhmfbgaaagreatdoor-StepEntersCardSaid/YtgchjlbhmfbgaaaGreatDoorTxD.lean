/- Runs of the machine's memory operations, and how a context goes on behind them. -/
import Derived.Test.YtgchjlbhmfbgaaaGreatDoorTxC
import Derived.Laws.World
namespace Go.TX
set_option linter.unusedSectionVars false
variable [Globals]
variable {P:Program}{w:World}
theorem addr_add (b o n:Nat):(Addr.add ⟨b,o,none⟩ n)=⟨b,o+n,none⟩:=by
 unfold Addr.add;split
 ·rename_i h;subst h;rfl
 ·rfl
theorem cell_at {b o:Nat}{cs:Array Value}{ty:TypeId}{fr:Nat×Nat}(h:w.heap[b]? =some (.cells cs ty fr)):w.cell? ⟨b,o,none⟩=cs[o]? :=by
 simp[World.cell?,h]
theorem frozen_at {b o:Nat}{cs:Array Value}{ty:TypeId}{fr:Nat×Nat}(h:w.heap[b]? =some (.cells cs ty fr)):w.frozen? ⟨b,o,none⟩=(decide (fr.1≤o)&&decide (o<fr.2)):=by
 simp[World.frozen?,h]
theorem run_underlying_ok {t:TypeId}{d:TypeDesc}(h:P.underlying t=some d):(underlying t).run P w= .ok d w:=by
 simp[underlying,h]
theorem run_typeInfo_ok {t:TypeId}{i:TypeInfo}(h:P.info? t=some i):(typeInfo t).run P w= .ok i w:=by
 simp[typeInfo,h]
theorem sizeT_info {t:TypeId}{n:Nat}(h:sizeT P t=some n): ∃i,P.info? t=some i∧i.size=n:=by
 unfold sizeT at h
 cases hi:P.info? t with
 |none=>simp[hi] at h
 |some i=>exact⟨i,rfl,by simpa [hi] using h⟩
theorem run_sizeOf_ok {t:TypeId}{n:Nat}(h:sizeT P t=some n):(sizeOf t).run P w= .ok n w:=by
 obtain⟨i,hi,rfl⟩:=sizeT_info h
 simp[sizeOf,run_typeInfo_ok hi]
theorem run_isAgg_ok {t:TypeId}{d:TypeDesc}(h:P.underlying t=some d):(isAgg t).run P w= .ok (isAggT P t) w:=by
 simp only[isAgg,isAggT,h,Sem.run_bind,run_underlying_ok h,Result.andThen_ok]
 cases d<;>rfl
theorem run_zeroValue_ok {t:TypeId}{i:TypeInfo}{z:Value}(hi:P.info? t=some i)(hz:i.zero=some z):(zeroValue t).run P w= .ok z w:=by
 simp[zeroValue,run_typeInfo_ok hi,hz]
theorem run_loadCellsFrom_ok {b o:Nat}{cs:Array Value}{ty:TypeId}{fr:Nat×Nat}(h:w.heap[b]? =some (.cells cs ty fr)):
  ∀(n i:Nat) (acc:Array Value),o+i+n≤cs.size→(loadCellsFrom ⟨b,o,none⟩ i n acc).run P w= .ok (acc++(cs.extract (o+i) (o+i+n))) w:=by
 intro n
 induction n with
 |zero=>intro i acc _;simp[loadCellsFrom];omega
 |succ n ih=>
  intro i acc hn
  have hc:w.cell? ⟨b,o+i,none⟩=some cs[o+i]:=by rw[cell_at h,Array.getElem?_eq_getElem (by omega)]
  simp only[loadCellsFrom,Sem.run_bind,addr_add,run_load,hc,Result.andThen_ok]
  rw[ih (i+1) _ (by omega)]
  congr 1
  apply Array.ext'
  simp only[Array.toList_append,Array.toList_push,Array.toList_extract,List.append_assoc,List.extract_eq_take_drop]
  congr 1
  rw[show o+i+(n+1)-(o+i)=n+1 by omega,show o+(i+1)+n-(o+(i+1))=n by omega,
   List.drop_eq_getElem_cons (i:=o+i) (by simpa using by omega),List.take_succ_cons]
  simp[Nat.add_assoc]
theorem run_loadCells_ok {b o n:Nat}{cs:Array Value}{ty:TypeId}{fr:Nat×Nat}(h:w.heap[b]? =some (.cells cs ty fr))(hn:o+n≤cs.size):
  (loadCells ⟨b,o,none⟩ n).run P w= .ok (cs.extract o (o+n)) w:=by
 simp[loadCells,run_loadCellsFrom_ok h n 0 #[] (by omega)]
def setB (w:World)(b:Nat)(o:Obj):World:={w with heap:=w.heap.setIfInBounds b o}
def overV (cs:Array Value)(o:Nat):List Value→Array Value
 |[]=>cs
 |v::vs=>overV (cs.setIfInBounds o v) (o+1) vs
theorem overV_size: ∀(vs:List Value) (cs:Array Value) (o:Nat),(overV cs o vs).size=cs.size
 |[],_,_=>rfl
 |v::vs,cs,o=>by simp[overV,overV_size vs]
theorem overV_get: ∀(vs:List Value) (cs:Array Value) (o j:Nat),o+vs.length≤cs.size→
  (overV cs o vs)[j]? =if o≤j∧j<o+vs.length then vs[j-o]? else cs[j]?
 |[],cs,o,j,_=>by simp only[overV,List.length_nil];rw[if_neg (by omega)]
 |v::vs,cs,o,j,h=>by
  simp only[List.length_cons] at h
  rw[overV,overV_get vs _ _ j (by simp;omega)]
  by_cases h1:o+1≤j∧j<o+1+vs.length
  ·rw[if_pos h1,if_pos (by simp;omega),show j-o=(j-(o+1))+1 by omega];simp
  ·rw[if_neg h1]
   by_cases h2:j=o
   ·subst h2;rw[if_pos (by simp)];simp[Array.getElem?_setIfInBounds];omega
   ·rw[if_neg (by simp;omega),Array.getElem?_setIfInBounds_ne (by omega)]
theorem setB_heap {b:Nat}{o:Obj}(k:Nat):(setB w b o).heap[k]? =if k=b then (if b<w.heap.size then some o else none) else w.heap[k]? :=by
 simp only[setB]
 by_cases h:k=b
 ·subst h;simp[Array.getElem?_setIfInBounds]
 ·rw[Array.getElem?_setIfInBounds_ne (by omega),if_neg h]
theorem lt_of_heap {b:Nat}{o:Obj}(h:w.heap[b]? =some o):b<w.heap.size:=by
 rcases Nat.lt_or_ge b w.heap.size with h'|h'
 ·exact h'
 ·simp[Array.getElem?_eq_none h'] at h
theorem setCell_eq {b o:Nat}{cs:Array Value}{ty:TypeId}{fr:Nat×Nat}(h:w.heap[b]? =some (.cells cs ty fr))(v:Value):
  w.setCell ⟨b,o,none⟩ v=setB w b (.cells (cs.setIfInBounds o v) ty fr):=by
 have hb:=lt_of_heap h
 simp only[World.setCell,setB]
 congr 1
 apply Array.ext_getElem?
 intro k
 rw[Array.getElem?_modify]
 by_cases hk:b=k
 ·subst hk
  rw[Array.getElem?_setIfInBounds_self_of_lt hb,h,if_pos rfl];rfl
 ·rw[if_neg hk,Array.getElem?_setIfInBounds_ne hk]
theorem setB_setB {b:Nat}{o o':Obj}:setB (setB w b o) b o'=setB w b o':=by simp[setB]
theorem setB_same {b:Nat}{o:Obj}(h:w.heap[b]? =some o):setB w b o=w:=by
 have hb:=lt_of_heap h
 cases w with
 |mk heap tape drawn os output=>
  simp only[setB,World.mk.injEq,and_self,and_true]
  apply Array.ext_getElem?
  intro k
  by_cases hk:b=k
  ·subst hk;rw[Array.getElem?_setIfInBounds_self_of_lt hb];exact h.symm
  ·rw[Array.getElem?_setIfInBounds_ne hk]
theorem run_storeCells_ok {b o:Nat}{ty:TypeId}{fr:Nat×Nat}: ∀(vs:List Value) (i:Nat) (cs:Array Value) (w:World),w.heap[b]? =some (.cells cs ty fr)→
  NoFz fr cs.size→o+i+vs.length≤cs.size→(∀ v∈vs,v.oneCell'=true)→
  (storeCells ⟨b,o,none⟩ vs i).run P w= .ok () (setB w b (.cells (overV cs (o+i) vs) ty fr)):=by
 intro vs
 induction vs with
 |nil=>intro i cs w h _ _ _;simp[storeCells,overV,setB_same h]
 |cons v vs ih=>
  intro i cs w h hz hl hv
  simp only[List.length_cons] at hl
  have hc:w.cell? ⟨b,o+i,none⟩=some cs[o+i]:=by rw[cell_at h,Array.getElem?_eq_getElem (by omega)]
  have hfz:w.frozen? ⟨b,o+i,none⟩=false:=by
   rw[frozen_at h]
   have:=hz (o+i) (by omega)
   simp only[Bool.and_eq_false_iff,decide_eq_false_iff_not]
   omega
  have hb:=lt_of_heap h
  simp only[storeCells,Sem.run_bind,addr_add]
  rw[run_store P w _ v _ (hv v (by simp)),hc]
  simp only[hfz,Bool.false_eq_true,if_false,Result.andThen_ok,setCell_eq h]
  have h':(setB w b (.cells (cs.setIfInBounds (o+i) v) ty fr)).heap[b]? =some (.cells (cs.setIfInBounds (o+i) v) ty fr):=by
   rw[setB_heap];simp[hb]
  rw[ih (i+1) _ _ h' (by simpa using hz) (by simp;omega) (fun u hu=>hv u (by simp[hu])),setB_setB]
  rfl
theorem at_append (H:Heap)(x:AObj)(r:Nat):Heap.at (H++[x]) r=if r=H.length then x else H.at r:=by
 simp only[Heap.at,List.getD_eq_getElem?_getD]
 rcases Nat.lt_trichotomy r H.length with h|h|h
 ·rw[List.getElem?_append_left h,if_neg (by omega)]
 ·subst h;simp
 ·rw[if_neg (by omega),List.getElem?_append_right (by omega),List.getElem?_eq_none (by simp;omega),List.getElem?_eq_none (by omega)]
theorem at_ge {H:Heap}{r:Nat}(h:H.length≤r):H.at r= .gone:=by
 simp[Heap.at,List.getElem?_eq_none h]
theorem at_set {H:Heap}{r:Nat}(x:AObj)(h:r<H.length)(k:Nat):Heap.at (H.set r x) k=if k=r then x else H.at k:=by
 simp only[Heap.at,List.getD_eq_getElem?_getD]
 by_cases hk:k=r
 ·subst hk;simp[h]
 ·rw[List.getElem?_set_ne (by omega),if_neg hk]
theorem lt_of_at {H:Heap}{r:Nat}{x:AObj}(h:H.at r=x)(hx:x≠ .gone):r<H.length:=by
 rcases Nat.lt_or_ge r H.length with h'|h'
 ·exact h'
 ·exact absurd (h▸at_ge h') hx
def Fresh (c:Ctx)(n:Nat):Prop:= ∀r,n≤r→c.js r=none
def upd (js:Nat→Option Loc)(r:Nat)(l:Loc):Nat→Option Loc:=fun k=>if k=r then some l else js k
theorem upd_ne {js:Nat→Option Loc}{r k:Nat}{l:Loc}(h:k≠r):upd js r l k=js k:=by simp[upd,h]
theorem upd_eq {js:Nat→Option Loc}{r:Nat}{l:Loc}:upd js r l r=some l:=by simp[upd]
theorem RepV.mono {c c':Ctx}(h:Later c c'){s:Sh}{d:s.Den}{v:Value}(hv:RepV c s d v):RepV c' s d v:=
 hv.imp (fun⟨h1,cs,h2,h3⟩=>⟨h1,cs,h2,RepD.mono h s h3⟩) fun⟨h1,h2⟩=>⟨h1,RepD.mono h s h2⟩
theorem RowRel.mono {c c':Ctx}(h:Later c c'){r:Nat}{s:Sh}{l:List s.Den}(hx:RowRel c r s l)
  (hb: ∀b o w n z,c.js r=some (.real b o w n z)→c'.w.heap[b]? =c.w.heap[b]?):RowRel c' r s l:=by
 rcases hx with ⟨h1,h2⟩|⟨b,o,cs,ty,fr,h1,h2,h3,h4⟩
 ·exact .inl ⟨h1,h.js _ _ h2⟩
 ·refine .inr ⟨b,o,cs,ty,fr,h.js _ _ h1,(hb _ _ _ _ _ h1).trans h2,h3,fun i hi=> ?_⟩
  obtain⟨vs,h5,h6⟩:=h4 i hi
  exact⟨vs,RepD.mono h s h5,h6⟩
theorem RowRel.lt {c:Ctx}{r:Nat}{s:Sh}{l:List s.Den}(hx:RowRel c r s l){b o w n z:Nat}(hj:c.js r=some (.real b o w n z)):b<c.w.heap.size:=by
 rcases hx with ⟨_,h2⟩|⟨b',o',cs,ty,fr,h1,h2,_⟩
 ·rw[hj] at h2;simp at h2
 ·rw[hj] at h1;simp only[Option.some.injEq,Loc.real.injEq] at h1;rw[h1.1];exact lt_of_heap h2
theorem ObjRel.mono {c c':Ctx}(h:Later c c'){r:Nat}{x:AObj}(hx:ObjRel c r x)
  (hb: ∀b o w n z,c.js r=some (.real b o w n z)→x.owns=true→c'.w.heap[b]? =c.w.heap[b]?):ObjRel c' r x:=by
 cases x with
 |raw s l n=>
  obtain⟨j,h1,h2⟩:=hx
  exact⟨j,h1,h2.mono h fun b o w n z hj=>hb b o w n z hj rfl⟩
 |gone=>trivial
 |box l=>
  obtain⟨b,cs,ty,fr,h1,h2,h3,h4⟩:=hx
  exact⟨b,cs,ty,fr,h.js _ _ h1,(hb _ _ _ _ _ h1 rfl).trans h2,h3,RepL.mono h l h4⟩
 |row s l=>
  rcases hx with ⟨h1,h2⟩|⟨b,o,cs,ty,fr,h1,h2,h3,h4⟩
  ·exact .inl ⟨h1,h.js _ _ h2⟩
  ·refine .inr ⟨b,o,cs,ty,fr,h.js _ _ h1,(hb _ _ _ _ _ h1 rfl).trans h2,h3,fun i hi=> ?_⟩
   obtain⟨vs,h5,h6⟩:=h4 i hi
   exact⟨vs,RepD.mono h s h5,h6⟩
 |fz s l=>
  rcases hx with ⟨h1,h2⟩|⟨b,o,z,h1,h2,h3⟩
  ·exact .inl ⟨h1,h.js _ _ h2⟩
  ·exact .inr ⟨b,o,z,h.js _ _ h1,(h.imm b h2).1,h3.mono (h.imm b h2).2 fun _ _ hx=>RepD.mono h s hx⟩
 |mapo ks vs l=>
  obtain⟨b,es,clk,h1,h2,h3,h4⟩:=hx
  refine⟨b,es,clk,h.js _ _ h1,(hb _ _ _ _ _ h1 rfl).trans h2,h3,fun i hi=> ?_⟩
  obtain⟨e,h5,h6,h7⟩:=h4 i hi
  exact⟨e,h5,RepD.mono h ks h6,h7.mono h⟩
 |it x pos=>
  obtain⟨b,h1,h2⟩:=hx
  exact⟨b,h.js _ _ h1,(hb _ _ _ _ _ h1 rfl).trans h2⟩
theorem ObjRel.lt {c:Ctx}{r:Nat}{x:AObj}(hx:ObjRel c r x){b o w n z:Nat}(hj:c.js r=some (.real b o w n z))(ho:x.owns=true):b<c.w.heap.size:=by
 cases x with
 |raw s l m=>
  obtain⟨j,_,h2⟩:=hx
  exact h2.lt hj
 |gone=>simp[AObj.owns] at ho
 |box l=>
  obtain⟨b',cs,ty,fr,h1,h2,_⟩:=hx
  rw[hj] at h1;simp only[Option.some.injEq,Loc.real.injEq] at h1;rw[h1.1];exact lt_of_heap h2
 |row s l=>
  rcases hx with ⟨_,h2⟩|⟨b',o',cs,ty,fr,h1,h2,_⟩
  ·rw[hj] at h2;simp at h2
  ·rw[hj] at h1;simp only[Option.some.injEq,Loc.real.injEq] at h1;rw[h1.1];exact lt_of_heap h2
 |fz s l=>simp[AObj.owns] at ho
 |mapo ks vs l=>
  obtain⟨b',es,clk,h1,h2,_⟩:=hx
  rw[hj] at h1;simp only[Option.some.injEq,Loc.real.injEq] at h1;rw[h1.1];exact lt_of_heap h2
 |it x pos=>
  obtain⟨b',h1,h2⟩:=hx
  rw[hj] at h1;simp only[Option.some.injEq,Loc.real.injEq] at h1;rw[h1.1];exact lt_of_heap h2
theorem HRel.own_lt {c:Ctx}{H:HF}(h:HRel c H){b:Nat}(ho:Own c H b):b<c.w.heap.size:=by
 obtain⟨r,o,w,n,z,hj,hr⟩:=ho
 exact(h.obj r).lt hj hr
theorem Step.refl (c:Ctx)(H:HF):Step c H c H:=
 ⟨rfl,rfl,rfl,Nat.le_refl _,fun _ _ _=>rfl,fun _ h=> .inl h,fun _ h=>h,fun _ h=> .inl h⟩
theorem Step.trans {a b c:Ctx}{H K L:HF}(h:Step a H b K)(k:Step b K c L):Step a H c L where
 os:=k.os.trans h.os
 tape:=k.tape.trans h.tape
 output:=k.output.trans h.output
 size:=Nat.le_trans h.size k.size
 keep:=fun x hx hn=>(k.keep x (Nat.lt_of_lt_of_le hx h.size) fun ho=>(h.own x ho).elim hn fun hge=>by omega).trans (h.keep x hx hn)
 own:=fun x hx=>(k.own x hx).elim (h.own x) fun hge=> .inr (Nat.le_trans h.size hge)
 imm:=fun x hx=>k.imm x (h.imm x hx)
 imm':=fun x hx=>(k.imm' x hx).elim (h.imm' x) fun h'=>h'.elim (fun ho=>(h.own x ho).elim (fun h1=> .inr (.inl h1)) fun h2=> .inr (.inr h2)) fun hge=> .inr (.inr (Nat.le_trans h.size hge))
theorem Stay.trans {a b c:Ctx}(h:Stay a b)(k:Stay b c):Stay a c:=fun r l hl=>k r l (h r l hl)
theorem Stay.refl (a:Ctx):Stay a a:=fun _ _ h=>h
theorem move_world {c:Ctx}{H:HF}(hr:HRel c H){w':World}(hh:w'.heap=c.w.heap)(ho:w'.os=c.w.os)(ht:w'.tape=c.w.tape)(hout:w'.output=c.w.output):
  HRel ⟨w',c.I,c.js⟩ H∧Step c H ⟨w',c.I,c.js⟩ H∧Stay c ⟨w',c.I,c.js⟩:=by
 have hl:Later c ⟨w',c.I,c.js⟩:=⟨fun b hb=>⟨hb,by simp[hh]⟩,fun _ _ h=>h⟩
 refine⟨⟨fun r=>(hr.obj r).mono hl fun _ _ _ _ _ _ _=>by simp[hh],hr.uniq,fun b hb=>by simpa [hh] using hr.imm b hb,hr.sep,hr.glob.of hl.imm⟩,
  ⟨ho,ht,hout,by simp[hh],fun _ _ _=>by simp[hh],fun _ h=> .inl h,fun _ h=>h,fun _ h=> .inl h⟩,fun _ _ h=>h⟩
theorem move_alloc {c:Ctx}{H:Heap}(hr:HRel c H.at)(hf:Fresh c H.length)(ob:Obj)(x:AObj)(o w n z:Nat)
  (hx:Later c ⟨c.w.alloc ob,c.I,upd c.js H.length (.real c.w.heap.size o w n z)⟩→
   ObjRel ⟨c.w.alloc ob,c.I,upd c.js H.length (.real c.w.heap.size o w n z)⟩ H.length x):
  let c':Ctx:=⟨c.w.alloc ob,c.I,upd c.js H.length (.real c.w.heap.size o w n z)⟩
  HRel c' (Heap.at (H++[x]))∧Step c H.at c' (Heap.at (H++[x]))∧Stay c c'∧Fresh c' (H++[x]).length:=by
 intro c'
 have hst:Stay c c':=fun r l hl=>by
  by_cases hrn:r=H.length
  ·subst hrn;rw[hf _ (Nat.le_refl _)] at hl;cases hl
  ·exact(upd_ne hrn).trans hl
 have hkeep: ∀b,b<c.w.heap.size→c'.w.heap[b]? =c.w.heap[b]? :=fun b hb=>by
  show(c.w.heap.push ob)[b]? =_
  rw[Array.getElem?_push,if_neg (by omega)]
 have hl:Later c c':=⟨fun b hb=>⟨hb,hkeep b (hr.imm b hb)⟩,hst⟩
 have hown': ∀b,Own c' (Heap.at (H++[x])) b→Own c H.at b∨b=c.w.heap.size:=by
  rintro b ⟨r,o',w',n',z',hj,ho⟩
  by_cases hrn:r=H.length
  ·subst hrn
   have:c'.js H.length=_:=upd_eq
   rw[this] at hj;simp only[Option.some.injEq,Loc.real.injEq] at hj
   exact .inr hj.1.symm
  ·rw[at_append,if_neg hrn] at ho
   exact .inl ⟨r,o',w',n',z',(upd_ne hrn).symm.trans hj,ho⟩
 refine⟨⟨fun r=> ?_, ?_, ?_, ?_,hr.glob.of hl.imm⟩,⟨rfl,rfl,rfl,by show _≤(c.w.heap.push ob).size;simp,fun b hb _=>hkeep b hb, ?_,fun _ h=>h,fun _ h=> .inl h⟩,hst, ?_⟩
 ·rw[at_append]
  split
  ·rename_i hrn;subst hrn;exact hx hl
  ·rename_i hrn
   exact(hr.obj r).mono hl fun b o' w' n' z' hj ho=>hkeep b ((hr.obj r).lt hj ho)
 ·intro r r' b o1 w1 n1 z1 o2 w2 n2 z2 hj hj' ho ho'
  rw[at_append] at ho ho'
  have hlt: ∀k o1 w1 n1 z1,k≠H.length→c'.js k=some (.real b o1 w1 n1 z1)→(H.at k).owns=true→b<c.w.heap.size:=fun k _ _ _ _ hk hjk hok=>
   (hr.obj k).lt ((upd_ne hk).symm.trans hjk) hok
  have heq:c'.js H.length=some (.real c.w.heap.size o w n z):=upd_eq
  by_cases h1:r=H.length<;>by_cases h2:r'=H.length
  ·exact h1.trans h2.symm
  ·subst h1;rw[heq] at hj;simp only[Option.some.injEq,Loc.real.injEq] at hj
   rw[if_neg h2] at ho'
   have:=hlt r' _ _ _ _ h2 hj' ho'
   omega
  ·subst h2;rw[heq] at hj';simp only[Option.some.injEq,Loc.real.injEq] at hj'
   rw[if_neg h1] at ho
   have:=hlt r _ _ _ _ h1 hj ho
   omega
  ·rw[if_neg h1] at ho;rw[if_neg h2] at ho'
   exact hr.uniq r r' b _ _ _ _ _ _ _ _ ((upd_ne h1).symm.trans hj) ((upd_ne h2).symm.trans hj') ho ho'
 ·intro b hb
  have:=hr.imm b hb
  show b<(c.w.heap.push ob).size
  simp;omega
 ·intro b hb hi
  rcases hown' b hb with h|h
  ·exact hr.sep b h hi
  ·subst h;exact absurd (hr.imm _ hi) (by omega)
 ·intro b hb
  exact(hown' b hb).imp id fun h=>by omega
 ·intro r hrn
  simp only[List.length_append,List.length_singleton] at hrn
  have hne:r≠H.length:=by omega
  exact(upd_ne hne).trans (hf r (by omega))
theorem move_virt {c:Ctx}{H:Heap}(hr:HRel c H.at)(hf:Fresh c H.length)(s:Sh):
  let c':Ctx:=⟨c.w,c.I,upd c.js H.length .virt⟩
  HRel c' (Heap.at (H++[.row s []]))∧Step c H.at c' (Heap.at (H++[.row s []]))∧Stay c c'∧Fresh c' (H++[AObj.row s []]).length:=by
 intro c'
 have hst:Stay c c':=fun r l hl=>by
  by_cases hrn:r=H.length
  ·subst hrn;rw[hf _ (Nat.le_refl _)] at hl;cases hl
  ·exact(upd_ne hrn).trans hl
 have hl:Later c c':=⟨fun b hb=>⟨hb,rfl⟩,hst⟩
 have hj: ∀r b o w n z,c'.js r=some (.real b o w n z)→r≠H.length∧c.js r=some (.real b o w n z):=fun r b o w n z h=>by
  by_cases hrn:r=H.length
  ·subst hrn
   have:c'.js H.length=some .virt:=upd_eq
   rw[this] at h;cases h
  ·exact⟨hrn,(upd_ne hrn).symm.trans h⟩
 have hown': ∀b,Own c' (Heap.at (H++[.row s []])) b→Own c H.at b:=by
  rintro b ⟨r,o',w',n',z',h1,h2⟩
  obtain⟨hn,h3⟩:=hj _ _ _ _ _ _ h1
  rw[at_append,if_neg hn] at h2
  exact⟨r,o',w',n',z',h3,h2⟩
 refine⟨⟨fun r=> ?_, ?_,hr.imm,fun b hb=>hr.sep b (hown' b hb),hr.glob.of hl.imm⟩,⟨rfl,rfl,rfl,Nat.le_refl _,fun _ _ _=>rfl,fun b hb=> .inl (hown' b hb),fun _ h=>h,fun _ h=> .inl h⟩,hst, ?_⟩
 ·rw[at_append]
  split
  ·rename_i hrn;subst hrn;exact .inl ⟨rfl,upd_eq⟩
  ·exact(hr.obj r).mono hl fun _ _ _ _ _ _ _=>rfl
 ·intro r r' b o1 w1 n1 z1 o2 w2 n2 z2 h1 h2 ho ho'
  obtain⟨hn,h3⟩:=hj _ _ _ _ _ _ h1
  obtain⟨hn',h4⟩:=hj _ _ _ _ _ _ h2
  rw[at_append,if_neg hn] at ho;rw[at_append,if_neg hn'] at ho'
  exact hr.uniq r r' b _ _ _ _ _ _ _ _ h3 h4 ho ho'
 ·intro r hrn
  simp only[List.length_append,List.length_singleton] at hrn
  exact(upd_ne (by omega)).trans (hf r (by omega))
theorem move_imm {c:Ctx}{H:HF}(hr:HRel c H)(ob:Obj):
  let c':Ctx:=⟨c.w.alloc ob,fun b=>c.I b∨b=c.w.heap.size,c.js⟩
  HRel c' H∧Step c H c' H∧Stay c c':=by
 intro c'
 have hkeep: ∀b,b<c.w.heap.size→c'.w.heap[b]? =c.w.heap[b]? :=fun b hb=>by
  show(c.w.heap.push ob)[b]? =_
  rw[Array.getElem?_push,if_neg (by omega)]
 have hl:Later c c':=⟨fun b hb=>⟨.inl hb,hkeep b (hr.imm b hb)⟩,fun _ _ h=>h⟩
 refine⟨⟨fun r=>(hr.obj r).mono hl fun b o' w' n' z' hj ho=>hkeep b ((hr.obj r).lt hj ho),hr.uniq, ?_, ?_,hr.glob.of hl.imm⟩,
  ⟨rfl,rfl,rfl,by show _≤(c.w.heap.push ob).size;simp,fun b hb _=>hkeep b hb,fun _ h=> .inl h,fun _ h=> .inl h, ?_⟩,fun _ _ h=>h⟩
 ·rintro b (hb|hb)
  ·have:=hr.imm b hb
   show b<(c.w.heap.push ob).size
   simp;omega
  ·show b<(c.w.heap.push ob).size
   simp;omega
 ·intro b ho hi
  rcases hi with hi|hi
  ·exact hr.sep b ho hi
  ·have:=hr.own_lt ho;omega
 ·rintro b (hb|hb)
  ·exact .inl hb
  ·exact .inr (.inr (by omega))
theorem move_set {c:Ctx}{H:Heap}(hr:HRel c H.at){r b o w n z:Nat}(hj:c.js r=some (.real b o w n z))(ho:(H.at r).owns=true)(hlt:r<H.length)(ob:Obj)(x:AObj)
  (hown:x.owns=true)
  (hx:Later c ⟨setB c.w b ob,c.I,c.js⟩→ObjRel ⟨setB c.w b ob,c.I,c.js⟩ r x):
  let c':Ctx:=⟨setB c.w b ob,c.I,c.js⟩
  HRel c' (Heap.at (H.set r x))∧Step c H.at c' (Heap.at (H.set r x))∧Stay c c':=by
 intro c'
 have hbo:Own c H.at b:=⟨r,o,w,n,z,hj,ho⟩
 have hkeep: ∀k,k≠b→c'.w.heap[k]? =c.w.heap[k]? :=fun k hk=>by
  show(setB c.w b ob).heap[k]? =_
  rw[setB_heap,if_neg hk]
 have hl:Later c c':=⟨fun k hk=>⟨hk,hkeep k fun e=>hr.sep b hbo (e▸hk)⟩,fun _ _ h=>h⟩
 have how: ∀k,(Heap.at (H.set r x) k).owns=(H.at k).owns:=fun k=>by
  rw[at_set x hlt];split
  ·rename_i h;subst h;rw[hown,ho]
  ·rfl
 have hsz:c'.w.heap.size=c.w.heap.size:=by show(setB c.w b ob).heap.size=_;simp[setB]
 refine⟨⟨fun k=> ?_, ?_,fun k hk=>by rw[hsz];exact hr.imm k hk, ?_,hr.glob.of hl.imm⟩,
  ⟨rfl,rfl,rfl,by rw[hsz];exact Nat.le_refl _,fun k _ hn=>hkeep k fun e=>hn (e▸hbo), ?_,fun _ h=>h,fun _ h=> .inl h⟩,fun _ _ h=>h⟩
 ·rw[at_set x hlt]
  split
  ·rename_i h;subst h;exact hx hl
  ·rename_i h
   refine(hr.obj k).mono hl fun b' o' w' n' z' hj' ho'=>hkeep b' fun e=> ?_
   subst e
   exact h (hr.uniq k r _ _ _ _ _ _ _ _ _ hj' hj ho' ho)
 ·intro k k' b' o1 w1 n1 z1 o2 w2 n2 z2 h1 h2 h3 h4
  rw[how] at h3 h4
  exact hr.uniq k k' b' _ _ _ _ _ _ _ _ h1 h2 h3 h4
 ·rintro k ⟨r',o',w',n',z',h1,h2⟩
  exact hr.sep k ⟨r',o',w',n',z',h1,by rw[← how];exact h2⟩
 ·rintro k ⟨r',o',w',n',z',h1,h2⟩
  exact .inl ⟨r',o',w',n',z',h1,by rw[← how];exact h2⟩
theorem move_gone {c:Ctx}{H:Heap}(hr:HRel c H.at){r:Nat}(hlt:r<H.length):
  HRel c (Heap.at (H.set r .gone))∧Step c H.at c (Heap.at (H.set r .gone)):=by
 have how: ∀k,(Heap.at (H.set r .gone) k).owns=true→(H.at k).owns=true∧k≠r:=fun k h=>by
  rw[at_set _ hlt] at h;split at h
  ·simp[AObj.owns] at h
  ·rename_i hk;exact⟨h,hk⟩
 have hown: ∀b,Own c (Heap.at (H.set r .gone)) b→Own c H.at b:=fun b ⟨k,o,w,n,z,h1,h2⟩=>⟨k,o,w,n,z,h1,(how k h2).1⟩
 refine⟨⟨fun k=> ?_,fun k k' b' o1 w1 n1 z1 o2 w2 n2 z2 h1 h2 h3 h4=>hr.uniq k k' b' _ _ _ _ _ _ _ _ h1 h2 (how _ h3).1 (how _ h4).1,hr.imm,fun b hb=>hr.sep b (hown b hb),hr.glob⟩,
  ⟨rfl,rfl,rfl,Nat.le_refl _,fun _ _ _=>rfl,fun b hb=> .inl (hown b hb),fun _ h=>h,fun _ h=> .inl h⟩⟩
 rw[at_set _ hlt]
 split
 ·trivial
 ·exact hr.obj k
theorem move_adopt {c:Ctx}{H:Heap}(hr:HRel c H.at)(hf:Fresh c H.length){r b o w n z:Nat}(hj:c.js r=some (.real b o w n z))(ho:(H.at r).owns=true)(hlt:r<H.length)
  (ob:Obj) (x:AObj) (o' w' n' z':Nat)
  (hx:Later c ⟨setB c.w b ob,c.I,upd c.js H.length (.real b o' w' n' z')⟩→ObjRel ⟨setB c.w b ob,c.I,upd c.js H.length (.real b o' w' n' z')⟩ H.length x):
  let c':Ctx:=⟨setB c.w b ob,c.I,upd c.js H.length (.real b o' w' n' z')⟩
  HRel c' (Heap.at (H.set r .gone++[x]))∧Step c H.at c' (Heap.at (H.set r .gone++[x]))∧Stay c c'∧Fresh c' (H.set r .gone++[x]).length:=by
 intro c'
 have hbo:Own c H.at b:=⟨r,o,w,n,z,hj,ho⟩
 have hkeep: ∀k,k≠b→c'.w.heap[k]? =c.w.heap[k]? :=fun k hk=>by
  show(setB c.w b ob).heap[k]? =_
  rw[setB_heap,if_neg hk]
 have hst:Stay c c':=fun k l hl=>by
  by_cases hrn:k=H.length
  ·subst hrn;rw[hf _ (Nat.le_refl _)] at hl;cases hl
  ·exact(upd_ne hrn).trans hl
 have hl:Later c c':=⟨fun k hk=>⟨hk,hkeep k fun e=>hr.sep b hbo (e▸hk)⟩,hst⟩
 have hsz:c'.w.heap.size=c.w.heap.size:=by show(setB c.w b ob).heap.size=_;simp[setB]
 have hat: ∀k,Heap.at (H.set r .gone++[x]) k=if k=H.length then x else if k=r then .gone else H.at k:=fun k=>by
  rw[at_append,List.length_set]
  split
  ·rfl
  ·rw[at_set _ hlt]
 have hnew:c'.js H.length=some (.real b o' w' n' z'):=upd_eq
 have hold: ∀k b' o1 w1 n1 z1,k≠H.length→c'.js k=some (.real b' o1 w1 n1 z1)→c.js k=some (.real b' o1 w1 n1 z1):=fun k _ _ _ _ _ hk h=>(upd_ne hk).symm.trans h
 
 have how: ∀k b' o1 w1 n1 z1,c'.js k=some (.real b' o1 w1 n1 z1)→(Heap.at (H.set r .gone++[x]) k).owns=true→
   (k=H.length∧b'=b)∨(k≠H.length∧k≠r∧c.js k=some (.real b' o1 w1 n1 z1)∧(H.at k).owns=true):=fun k b' o1 w1 n1 z1 h1 h2=>by
  rw[hat] at h2
  by_cases hk:k=H.length
  ·subst hk;rw[hnew] at h1;simp only[Option.some.injEq,Loc.real.injEq] at h1;exact .inl ⟨rfl,h1.1.symm⟩
  ·rw[if_neg hk] at h2
   by_cases hkr:k=r
   ·rw[if_pos hkr] at h2;simp[AObj.owns] at h2
   ·rw[if_neg hkr] at h2
    exact .inr ⟨hk,hkr,hold k _ _ _ _ _ hk h1,h2⟩
 have hown: ∀b',Own c' (Heap.at (H.set r .gone++[x])) b'→Own c H.at b':=by
  rintro b' ⟨k,o1,w1,n1,z1,h1,h2⟩
  rcases how k _ _ _ _ _ h1 h2 with ⟨_,rfl⟩|⟨_,_,h3,h4⟩
  ·exact hbo
  ·exact⟨k,_,_,_,_,h3,h4⟩
 refine⟨⟨fun k=> ?_, ?_,fun k hk=>by rw[hsz];exact hr.imm k hk,fun k hk=>hr.sep k (hown k hk),hr.glob.of hl.imm⟩,
  ⟨rfl,rfl,rfl,by rw[hsz];exact Nat.le_refl _,fun k _ hn=>hkeep k fun e=>hn (e▸hbo),fun k hk=> .inl (hown k hk),fun _ h=>h,fun _ h=> .inl h⟩,hst, ?_⟩
 ·rw[hat]
  split
  ·rename_i h;subst h;exact hx hl
  ·split
   ·trivial
   ·rename_i h1 h2
    refine(hr.obj k).mono hl fun b' o1 w1 n1 z1 hj' ho'=>hkeep b' fun e=> ?_
    subst e
    exact h2 (hr.uniq k r _ _ _ _ _ _ _ _ _ hj' hj ho' ho)
 ·intro k k' b' o1 w1 n1 z1 o2 w2 n2 z2 h1 h2 h3 h4
  rcases how k _ _ _ _ _ h1 h3 with ⟨e1,e2⟩|⟨g1,g2,g3,g4⟩<;>rcases how k' _ _ _ _ _ h2 h4 with ⟨e3,e4⟩|⟨g5,g6,g7,g8⟩
  ·exact e1.trans e3.symm
  ·subst e2;exact absurd (hr.uniq k' r _ _ _ _ _ _ _ _ _ g7 hj g8 ho) g6
  ·subst e4;exact absurd (hr.uniq k r _ _ _ _ _ _ _ _ _ g3 hj g4 ho) g2
  ·exact hr.uniq k k' _ _ _ _ _ _ _ _ _ g3 g7 g4 g8
 ·intro k hk
  simp only[List.length_append,List.length_set,List.length_singleton] at hk
  exact(upd_ne (by omega)).trans (hf k (by omega))
theorem move_virt_gone {c:Ctx}{H:Heap}(hr:HRel c H.at)(hf:Fresh c H.length){r:Nat}(hlt:r<H.length)(s:Sh):
  let c':Ctx:=⟨c.w,c.I,upd c.js H.length .virt⟩
  HRel c' (Heap.at (H.set r .gone++[.row s []]))∧Step c H.at c' (Heap.at (H.set r .gone++[.row s []]))∧Stay c c'∧Fresh c' (H.set r .gone++[AObj.row s []]).length:=by
 intro c'
 obtain⟨h1,h2⟩:=move_gone hr hlt
 obtain⟨g1,g2,g3,g4⟩:=move_virt (H:=H.set r .gone) h1 (by simpa using hf) s
 simp only[List.length_set] at g1 g2 g3 g4
 exact⟨g1,h2.trans g2,g3,g4⟩
theorem move_alloc_gone {c:Ctx}{H:Heap}(hr:HRel c H.at)(hf:Fresh c H.length){r:Nat}(hlt:r<H.length)(ob:Obj)(x:AObj)(o w n z:Nat)
  (hx:Later c ⟨c.w.alloc ob,c.I,upd c.js H.length (.real c.w.heap.size o w n z)⟩→
   ObjRel ⟨c.w.alloc ob,c.I,upd c.js H.length (.real c.w.heap.size o w n z)⟩ H.length x):
  let c':Ctx:=⟨c.w.alloc ob,c.I,upd c.js H.length (.real c.w.heap.size o w n z)⟩
  HRel c' (Heap.at (H.set r .gone++[x]))∧Step c H.at c' (Heap.at (H.set r .gone++[x]))∧Stay c c'∧Fresh c' (H.set r .gone++[x]).length:=by
 intro c'
 obtain⟨h1,h2⟩:=move_gone hr hlt
 obtain⟨g1,g2,g3,g4⟩:=move_alloc (H:=H.set r .gone) h1 (by simpa using hf) ob x o w n z (by simpa using hx)
 simp only[List.length_set] at g1 g2 g3 g4
 exact⟨g1,h2.trans g2,g3,g4⟩
end Go.TX
