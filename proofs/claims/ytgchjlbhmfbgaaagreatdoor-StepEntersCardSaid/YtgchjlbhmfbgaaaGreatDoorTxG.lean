/- Elements of slices: the machine does what the evaluator says when it cuts, makes, appends to and copies slices. -/
import Derived.Test.YtgchjlbhmfbgaaaGreatDoorTxF
namespace Go.TX
set_option linter.unusedSectionVars false
variable [Globals]
variable {P:Program}
def Elems (c:Ctx)(s:Sh):List s.Den→List Value→Prop
 |[],vs=>vs=[]
 |d::l,vs=> ∃v1 v2,vs=v1++v2∧RepD c s d v1∧Elems c s l v2
theorem Elems.length {c:Ctx}{s:Sh}:{l:List s.Den}→{vs:List Value}→Elems c s l vs→vs.length=l.length*s.width
 |[],_,h=>by rw[show _=[] from h];simp
 |_::_,_,⟨_,_,h1,h2,h3⟩=>by
  subst h1;simp[h2.len,Elems.length h3,Nat.add_mul];omega
theorem Elems.get {c:Ctx}{s:Sh}:{l:List s.Den}→{vs:List Value}→Elems c s l vs→
  ∀i (h:i<l.length),∃ us,RepD c s l[i] us∧us.length=s.width∧ ∀j,j<s.width→vs[i*s.width+j]? =us[j]?
 |[],_,_,i,h=>by simp at h
 |d::l,_,⟨v1,v2,h1,h2,h3⟩,i,h=>by
  subst h1
  have hw:=h2.len
  cases i with
  |zero=>exact⟨v1,h2,hw,fun j hj=>by rw[List.getElem?_append_left (by omega)];simp⟩
  |succ i=>
   obtain⟨us,h4,h5,h6⟩:=Elems.get h3 i (by simpa using h)
   refine⟨us,h4,h5,fun j hj=> ?_⟩
   rw[← h6 j hj,List.getElem?_append_right (by rw[Nat.add_mul];omega)]
   congr 1
   rw[Nat.add_mul];omega
theorem Elems.of_get {c:Ctx}{s:Sh}:{l:List s.Den}→{vs:List Value}→vs.length=l.length*s.width→
  (∀ i (h:i<l.length),∃ us,RepD c s l[i] us∧us.length=s.width∧ ∀j,j<s.width→vs[i*s.width+j]? =us[j]?)→Elems c s l vs
 |[],vs,h,_=>by
  simp at h;exact h
 |d::l,vs,h,hg=>by
  simp only[List.length_cons,Nat.add_mul,Nat.one_mul] at h
  obtain⟨us,h1,h2,h3⟩:=hg 0 (by simp)
  refine⟨vs.take s.width,vs.drop s.width,(List.take_append_drop _ _).symm, ?_,Elems.of_get (by simp;omega) fun i hi=> ?_⟩
  ·have:vs.take s.width=us:=by
    apply List.ext_getElem?
    intro j
    by_cases hj:j<s.width
    ·rw[List.getElem?_take_of_lt hj];simpa using h3 j hj
    ·rw[List.getElem?_eq_none (by simp;omega),List.getElem?_eq_none (by omega)]
   rw[this];exact h1
  ·obtain⟨us,h4,h5,h6⟩:=hg (i+1) (by simpa using hi)
   refine⟨us,h4,h5,fun j hj=> ?_⟩
   rw[← h6 j hj,List.getElem?_drop]
   congr 1
   rw[Nat.add_mul];omega
theorem Elems.append {c:Ctx}{s:Sh}:{l l':List s.Den}→{vs vs':List Value}→Elems c s l vs→Elems c s l' vs'→Elems c s (l++l') (vs++vs')
 |[],_,_,_,h,h'=>by rw[show _=[] from h];exact h'
 |_::_,_,_,_,⟨v1,v2,h1,h2,h3⟩,h'=>by
  subst h1
  exact⟨v1,_,by rw[List.append_assoc],h2,Elems.append h3 h'⟩
theorem Elems.mono {c c':Ctx}(hl:Later c c'){s:Sh}:{l:List s.Den}→{vs:List Value}→Elems c s l vs→Elems c' s l vs
 |[],_,h=>h
 |_::_,_,⟨v1,v2,h1,h2,h3⟩=>⟨v1,v2,h1,RepD.mono hl s h2,Elems.mono hl h3⟩
theorem Elems.drop {c:Ctx}{s:Sh}(n:Nat):{l:List s.Den}→{vs:List Value}→Elems c s l vs→Elems c s (l.drop n) (vs.drop (n*s.width)):=by
 induction n with
 |zero=>intro l vs h;simpa using h
 |succ n ih=>
  intro l vs h
  cases l with
  |nil=>rw[show vs=[] from h];simp[Elems]
  |cons d l=>
   obtain⟨v1,v2,h1,h2,h3⟩:=h
   subst h1
   have:=ih h3
   simp only[List.drop_succ_cons]
   rw[List.drop_append,List.drop_eq_nil_of_le (as:=v1) (by rw[h2.len,Nat.add_mul];omega),List.nil_append,h2.len]
   rwa[show(n+1)*s.width-s.width=n*s.width by rw[Nat.add_mul];omega]
theorem Elems.take {c:Ctx}{s:Sh}(n:Nat):{l:List s.Den}→{vs:List Value}→Elems c s l vs→Elems c s (l.take n) (vs.take (n*s.width)):=by
 induction n with
 |zero=>intro l vs h;simp[Elems]
 |succ n ih=>
  intro l vs h
  cases l with
  |nil=>rw[show vs=[] from h];simp[Elems]
  |cons d l=>
   obtain⟨v1,v2,h1,h2,h3⟩:=h
   subst h1
   simp only[List.take_succ_cons]
   refine⟨v1,v2.take (n*s.width), ?_,h2,ih h3⟩
   rw[List.take_append,List.take_of_length_le (l:=v1) (by rw[h2.len,Nat.add_mul];omega),h2.len]
   rw[show(n+1)*s.width-s.width=n*s.width by rw[Nat.add_mul];omega]
theorem Elems.replicate {c:Ctx}{s:Sh}{d:s.Den}{vs:List Value}(h:RepD c s d vs): ∀n,Elems c s (List.replicate n d) (List.replicate n vs).flatten
 |0=>rfl
 |n+1=>by
  rw[List.replicate_succ,List.replicate_succ,List.flatten_cons]
  exact⟨vs,_,rfl,h,Elems.replicate h n⟩
theorem Elems.cell {c:Ctx}{s:Sh}:{l:List s.Den}→{vs:List Value}→Elems c s l vs→ ∀v∈vs,v.oneCell'=true
 |[],_,h=>by rw[show _=[] from h];simp
 |_::_,_,⟨v1,v2,h1,h2,h3⟩=>by
  subst h1
  intro v hv
  rcases List.mem_append.1 hv with hv|hv
  ·exact RepD.cell s h2 v hv
  ·exact Elems.cell h3 v hv
theorem elems_at {c:Ctx}{s:Sh}{l:List s.Den}{cs:Array Value}{o:Nat}(h0:0<s.width)
  (h: ∀i (h:i<l.length),∃ vs,RepD c s l[i] vs∧vs.length=s.width∧ ∀j,j<s.width→cs[o+i*s.width+j]? =vs[j]?):
  (l=[]∨o+l.length*s.width≤cs.size)∧Elems c s l ((cs.toList.drop o).take (l.length*s.width)):=by
 have hb:l=[]∨o+l.length*s.width≤cs.size:=by
  rcases Nat.eq_zero_or_pos l.length with h1|h1
  ·exact .inl (List.length_eq_zero_iff.1 h1)
  ·right
   obtain⟨vs,h2,h3,h4⟩:=h (l.length-1) (by omega)
   have h5:=h4 (s.width-1) (by omega)
   rw[List.getElem?_eq_getElem (by omega)] at h5
   have h6:=(Array.getElem?_eq_some_iff.1 h5).1
   have:(l.length-1)*s.width+s.width=l.length*s.width:=by
    rw[← Nat.succ_mul];congr 1;omega
   omega
 refine⟨hb, ?_⟩
 rcases hb with rfl|hb
 ·simp[Elems]
 ·refine Elems.of_get (by simp;omega) fun i hi=> ?_
  obtain⟨vs,h2,h3,h4⟩:=h i hi
  refine⟨vs,h2,h3,fun j hj=> ?_⟩
  rw[← h4 j hj]
  have:(i+1)*s.width≤l.length*s.width:=Nat.mul_le_mul_right _ hi
  rw[Nat.add_mul] at this
  rw[List.getElem?_take_of_lt (by omega),List.getElem?_drop]
  simp[Nat.add_assoc]
theorem at_of_elems {c:Ctx}{s:Sh}{l:List s.Den}{cs:Array Value}{o:Nat}{vs:List Value}(h:Elems c s l vs)(hc: ∀j,j<vs.length→cs[o+j]? =vs[j]?):
  ∀i (h:i<l.length),∃ vs,RepD c s l[i] vs∧vs.length=s.width∧ ∀j,j<s.width→cs[o+i*s.width+j]? =vs[j]? :=by
 intro i hi
 obtain⟨us,h1,h2,h3⟩:=h.get i hi
 refine⟨us,h1,h2,fun j hj=> ?_⟩
 have hl:=h.length
 have:(i+1)*s.width≤l.length*s.width:=Nat.mul_le_mul_right _ hi
 rw[Nat.add_mul] at this
 rw[Nat.add_assoc,hc _ (by omega),h3 j hj]
theorem content_sound {c:Ctx}{H:Heap}{a:AV}{x:Value}{s:Sh}{l:List s.Den}(h:content H a=some ⟨s,l⟩)(h0:0<s.width)(hx:Rep c a x)(hh:HRel c H.at):
  (Builtin.lenOf x).run P c.w= .ok l.length c.w∧
  ∀m,m≤l.length→ ∃vs:List Value,(Builtin.firstCells s.width m x).run P c.w= .ok vs.toArray c.w∧Elems c s (l.take m) vs:=by
 have key: ∀(b o cap:Nat) (cs:Array Value) (ty:TypeId) (fr:Nat×Nat),c.w.heap[b]? =some (.cells cs ty fr)→
   (∀ i (h:i<l.length),∃ vs,RepD c s l[i] vs∧vs.length=s.width∧ ∀j,j<s.width→cs[o+i*s.width+j]? =vs[j]?)→ ∀m,m≤l.length→
   ∃vs:List Value,(Builtin.firstCells s.width m (.slice (some ⟨b,o,none⟩) l.length cap)).run P c.w= .ok vs.toArray c.w∧Elems c s (l.take m) vs:=fun b o cap cs ty fr hb hr m hm=>by
  obtain⟨h1,h2⟩:=elems_at h0 hr
  rcases Nat.eq_zero_or_pos m with hm0|hm0
  ·subst hm0
   exact⟨[],by simp[Builtin.firstCells,loadCells,loadCellsFrom],by simp[Elems]⟩
  ·have h3:m*s.width≤l.length*s.width:=Nat.mul_le_mul_right _ hm
   have h4:o+l.length*s.width≤cs.size:=h1.resolve_left (by rintro rfl;simp at hm;omega)
   refine⟨(cs.extract o (o+m*s.width)).toList, ?_, ?_⟩
   ·simp only[Builtin.firstCells,run_loadCells_ok hb (show o+m*s.width≤cs.size by omega),Array.toArray_toList]
   ·have h5:=h2.take m
    rw[List.take_take,Nat.min_eq_left h3] at h5
    simpa [List.extract_eq_take_drop] using h5
 unfold content at h
 split at h
 ·rename_i s' l' f
  simp only[Option.some.injEq,Sigma.mk.injEq] at h
  obtain⟨rfl,h⟩:=h
  cases h
  obtain⟨ad,cap,rfl,h2,h3,h4⟩:=hx
  refine⟨by simp[Builtin.lenOf], ?_⟩
  rcases h4 with rfl|⟨b,o,rfl,h5,cs,ty,fr,h6,h7⟩
  ·intro m hm
   simp only[List.length_nil,Nat.le_zero] at hm
   subst hm
   refine⟨[], ?_,by simp[Elems]⟩
   cases ad<;>simp[Builtin.firstCells,loadCells,loadCellsFrom]
  ·exact key b o cap cs ty fr h6 h7
 ·rename_i r i n
  have fin: ∀(s':Sh) (l':List s'.Den),(⟨s',(l'.drop i).take n⟩:(s:Sh)×List s.Den)=⟨s,l⟩→
    (∀ b o w m z,c.js r=some (.real b o w m z)→w=s'.width∧m=l'.length∧ ∃cs ty fr,c.w.heap[b]? =some (.cells cs ty fr)∧
     ∀i (h:i<l'.length),∃ vs,RepD c s' l'[i] vs∧vs.length=s'.width∧ ∀j,j<s'.width→cs[o+i*s'.width+j]? =vs[j]?)→
    (Builtin.lenOf x).run P c.w= .ok l.length c.w∧
     ∀m,m≤l.length→ ∃vs:List Value,(Builtin.firstCells s.width m x).run P c.w= .ok vs.toArray c.w∧Elems c s (l.take m) vs:=by
   intro s' l' he hrow
   simp only[Sigma.mk.injEq] at he
   obtain⟨rfl,he⟩:=he
   cases he
   rcases hx with ⟨h1,ad,rfl⟩|⟨b,o,w,m,z,cap,h1,rfl,h3,h4,h5⟩
   ·subst h1
    refine⟨by simp[Builtin.lenOf],fun m hm=> ?_⟩
    simp only[List.take_zero,List.length_nil,Nat.le_zero] at hm
    subst hm
    refine⟨[], ?_,by simp[Elems]⟩
    cases ad<;>simp[Builtin.firstCells,loadCells,loadCellsFrom]
   ·obtain⟨rfl,rfl,cs,ty,fr,h6,h7⟩:=hrow _ _ _ _ _ h1
    have hlen:((l'.drop i).take n).length=n:=by simp;omega
    refine⟨by simp only[Builtin.lenOf,Sem.run_pure,hlen], ?_⟩
    have:=key b (o+i*s'.width) cap cs ty fr h6 (fun k hk=>by
     rw[hlen] at hk
     obtain⟨vs,g1,g2,g3⟩:=h7 (i+k) (by omega)
     refine⟨vs,by simpa using g1,g2,fun j hj=> ?_⟩
     rw[← g3 j hj]
     congr 1
     rw[Nat.add_mul];omega)
    rwa[hlen] at this⊢
  have ho:=hh.obj r
  split at h
  ·rename_i s' l' hat
   rw[hat] at ho
   refine fin s' l' (by simpa using h) fun b o w m z hj=> ?_
   rcases ho with ⟨_,h2⟩|⟨b',o',cs,ty,fr,h1,h2,h3,h4⟩
   ·rw[hj] at h2;simp at h2
   ·rw[hj] at h1;simp only[Option.some.injEq,Loc.real.injEq] at h1
    obtain⟨rfl,rfl,rfl,rfl,_⟩:=h1
    exact⟨rfl,rfl,cs,ty,fr,h2,h4⟩
  ·rename_i s' l' hat
   rw[hat] at ho
   refine fin s' l' (by simpa using h) fun b o w m z hj=> ?_
   rcases ho with ⟨_,h2⟩|⟨b',o',z',h1,h2,cs,ty,fr,h3,h4⟩
   ·rw[hj] at h2;simp at h2
   ·rw[hj] at h1;simp only[Option.some.injEq,Loc.real.injEq] at h1
    obtain⟨rfl,rfl,rfl,rfl,_⟩:=h1
    exact⟨rfl,rfl,cs,ty,fr,h3,h4⟩
  ·simp at h
 ·rename_i xs
  simp only[Option.some.injEq,Sigma.mk.injEq] at h
  obtain⟨rfl,h⟩:=h
  cases h
  rw[show x=_ from hx]
  refine⟨by simp only[Builtin.lenOf,Sem.run_pure,List.length_map];rfl,fun m hm=> ?_⟩
  refine⟨((xs.extract 0 m).data.map fun b=>Value.int .u8 b.toNat).toList,by simp only[Builtin.firstCells,Sem.run_pure,Array.toArray_toList], ?_⟩
  have he: ∀(bs:List UInt8),Elems c (.int .u8) (bs.map fun b=>(b.toNat:Int)) (bs.map fun b=>Value.int .u8 b.toNat):=fun bs=>by
   induction bs with
   |nil=>rfl
   |cons b bs ih=>exact⟨[_],_,rfl,rfl,ih⟩
  have:(xs.extract 0 m).data.toList=xs.data.toList.take m:=by
   simp[List.extract_eq_take_drop]
  simp only[Array.toList_map,this]
  rw[show(List.map (fun b:UInt8=>((b.toNat:Int))) xs.data.toList).take m=(xs.data.toList.take m).map (fun b=>(b.toNat:Int)) from(List.map_take ..).symm]
  exact he _
 ·simp at h
end Go.TX
