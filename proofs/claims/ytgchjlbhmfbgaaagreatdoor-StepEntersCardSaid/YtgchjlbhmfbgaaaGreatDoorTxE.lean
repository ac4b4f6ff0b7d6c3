/- The operations that read, write, and make memory: the machine does what the evaluator says. -/
import Derived.Test.YtgchjlbhmfbgaaaGreatDoorTxD
namespace Go.TX
set_option linter.unusedSectionVars false
variable [Globals]
variable {P:Program}
def SemRes (P:Program)(m:Sem Value)(c:Ctx)(H:Heap)(v:AV)(H':Heap):Prop:=
 ∃v' c',m.run P c.w= .ok v' c'.w∧Rep c' v v'∧HRel c' H'.at∧Fresh c' H'.length∧Step c H.at c' H'.at∧Stay c c'
theorem SemRes.same {m:Sem Value}{c:Ctx}{H:Heap}{v:AV}{v':Value}(hr:m.run P c.w= .ok v' c.w)(hv:Rep c v v')(hh:HRel c H.at)(hf:Fresh c H.length):
  SemRes P m c H v H:=⟨v',c,hr,hv,hh,hf, .refl _ _, .refl _⟩
def CellsAt (c:Ctx)(cs:Array Value)(o:Nat)(cells:List AV):Prop:= ∃vs,RepL c cells vs∧ ∀j,j<vs.length→cs[o+j]? =vs[j]?
theorem cells_lt {cs:Array Value}{vs:List Value}{o n off:Nat}(h: ∀j,j<vs.length→cs[o+j]? =vs[j]?)(hn:off+n≤vs.length)(h0:0<n):o+off+n≤cs.size:=by
 have:=h (off+n-1) (by omega)
 rw[List.getElem?_eq_getElem (by omega)] at this
 have h2:=(Array.getElem?_eq_some_iff.1 this).1
 omega
theorem extract_cells {cs:Array Value}{vs:List Value}{o n off:Nat}(h: ∀j,j<vs.length→cs[o+j]? =vs[j]?)(hn:off+n≤vs.length)(h0:0<n):
  (cs.extract (o+off) (o+off+n)).toList=(vs.drop off).take n:=by
 have hlt:=cells_lt h hn h0
 apply List.ext_getElem?
 intro j
 rw[Array.getElem?_toList,Array.getElem?_extract]
 by_cases hj:j<n
 ·rw[if_pos (by omega),List.getElem?_take_of_lt hj,List.getElem?_drop,show o+off+j=o+(off+j) by omega,h _ (by omega)]
 ·rw[if_neg (by omega),List.getElem?_eq_none (by simp;omega)]
theorem readA_sound {α:Type}{t:TypeId}{cells:List AV}{off:Nat}{H:Heap}{k:Kont α}{r:α}(h:readA P t cells off H k=some r):
  ∃v,k v H=some r∧
   (∀ c b o cs ty fr,c.w.heap[b]? =some (.cells cs ty fr)→CellsAt c cs o cells→ ∃v',(loadVar t ⟨b,o+off,none⟩).run P c.w= .ok v' c.w∧Rep c v v')∧
   (∀ c cs,RepL c cells cs→ ∀w,∃ v',(part t cs.toArray off).run P w= .ok v' w∧Rep c v v'):=by
 unfold readA at h
 split at h
 ·rename_i d n hd hn
  split at h
  ·rename_i hagg
   split at h
   ·rename_i hlen
    refine⟨_,h, ?_, ?_⟩
    ·intro c b o cs ty fr hb hc
     obtain⟨vs,h1,h2⟩:=hc
     have hl:=h1.length
     simp only[loadVar,Sem.run_bind,run_isAgg_ok hd,Result.andThen_ok,hagg,if_true,run_sizeOf_ok hn]
     rcases Nat.eq_zero_or_pos n with h0|h0
     ·subst h0
      refine⟨.agg #[],by simp[loadCells,loadCellsFrom], #[],rfl, ?_⟩
      simpa using RepL.nil
     ·rw[run_loadCells_ok hb (cells_lt h2 (by omega) h0)]
      refine⟨_,rfl,_,rfl, ?_⟩
      rw[extract_cells h2 (by omega) h0]
      exact(h1.drop off).take n
    ·intro c cs hc w
     simp only[part,Sem.run_bind,run_isAgg_ok hd,Result.andThen_ok,hagg,if_true,run_sizeOf_ok hn]
     refine⟨_,rfl,_,rfl, ?_⟩
     have:(cs.toArray.extract off (off+n)).toList=(cs.drop off).take n:=by
      simp[List.extract_eq_take_drop]
     rw[this]
     exact(hc.drop off).take n
   ·simp at h
  ·rename_i hagg
   have hagg:isAggT P t=false:=by simpa using hagg
   split at h
   ·rename_i av hav
    refine⟨_,h, ?_, ?_⟩
    ·intro c b o cs ty fr hb hc
     obtain⟨vs,h1,h2⟩:=hc
     obtain⟨v',h3,h4⟩:=h1.get off hav
     have hlt:off<vs.length:=(List.getElem?_eq_some_iff.1 h3).1
     refine⟨v', ?_,h4⟩
     simp only[loadVar,Sem.run_bind,run_isAgg_ok hd,Result.andThen_ok,hagg,Bool.false_eq_true,if_false,run_load,cell_at hb,h2 off hlt,h3]
    ·intro c cs hc w
     obtain⟨v',h3,h4⟩:=hc.get off hav
     refine⟨v', ?_,h4⟩
     simp[part,run_isAgg_ok hd,hagg,h3]
   ·simp at h
 ·simp at h
theorem row_cells {c:Ctx}{s:Sh}{l:List s.Den}{i o:Nat}{cs:Array Value}(hi:i<l.length)
  (h: ∀i (h:i<l.length),∃ vs,RepD c s l[i] vs∧vs.length=s.width∧ ∀j,j<s.width→cs[o+i*s.width+j]? =vs[j]?):
  CellsAt c cs (o+i*s.width) (up s (l.getD i s.dflt)):=by
 obtain⟨vs,h1,h2,h3⟩:=h i hi
 refine⟨vs, ?_,fun j hj=>h3 j (by omega)⟩
 rw[List.getD_eq_getElem?_getD,List.getElem?_eq_getElem hi]
 exact up_rep s h1
theorem upAll_cells {c:Ctx}{s:Sh}{l:List s.Den}{o:Nat}{cs:Array Value}
  (h: ∀i (h:i<l.length),∃ vs,RepD c s l[i] vs∧vs.length=s.width∧ ∀j,j<s.width→cs[o+i*s.width+j]? =vs[j]?):
  CellsAt c cs o (upAll s l l.length):=by
 have key: ∀n,n≤l.length→ ∃vs,RepL c (upAll s l n) vs∧vs.length=n*s.width∧ ∀j,j<vs.length→cs[o+j]? =vs[j]? :=by
  intro n
  induction n with
  |zero=>intro _;exact⟨[],RepL.nil,by simp,fun j hj=>by simp at hj⟩
  |succ n ih=>
   intro hn
   obtain⟨vs,h1,h2,h3⟩:=ih (by omega)
   obtain⟨us,g1,g2,g3⟩:=h n (by omega)
   refine⟨vs++us, ?_,by rw[List.length_append,h2,g2,Nat.add_mul];omega,fun j hj=> ?_⟩
   ·unfold upAll at h1⊢
    rw[List.range_succ,List.flatMap_append]
    refine h1.append ?_
    simp only[List.flatMap_cons,List.flatMap_nil,List.append_nil]
    rw[List.getD_eq_getElem?_getD,List.getElem?_eq_getElem (by omega)]
    exact up_rep s g1
   ·rw[List.length_append,h2,g2] at hj
    by_cases hlt:j<vs.length
    ·rw[List.getElem?_append_left hlt];exact h3 j hlt
    ·rw[List.getElem?_append_right (by omega),h2,← g3 (j-n*s.width) (by omega)]
     congr 1;omega
 obtain⟨vs,h1,_,h3⟩:=key l.length (Nat.le_refl _)
 exact⟨vs,h1,h3⟩
theorem ptr_cells {c:Ctx}{H:Heap}{r i off:Nat}{v:Value}(hh:HRel c H.at)(hv:Rep c (.ptr r i off) v):
  (∀ l,H.at r= .box l→i=0∧ ∃b cs ty fr,v= .pointer (some ⟨b,0+off,none⟩)∧c.js r=some (.real b 0 cs.size 1 cs.size)∧c.w.heap[b]? =some (.cells cs ty fr)∧NoFz fr cs.size∧RepL c l cs.toList)∧
  (∀ s l,(H.at r= .row s l)→i<l.length∧ ∃b o cs ty fr,v= .pointer (some ⟨b,o+i*s.width+off,none⟩)∧c.js r=some (.real b o s.width l.length cs.size)∧c.w.heap[b]? =some (.cells cs ty fr)∧NoFz fr cs.size∧
   ∀i (h:i<l.length),∃ vs,RepD c s l[i] vs∧vs.length=s.width∧ ∀j,j<s.width→cs[o+i*s.width+j]? =vs[j]?)∧
  (∀ s l,(H.at r= .fz s l)→i<l.length∧ ∃b o cs ty fr,v= .pointer (some ⟨b,o+i*s.width+off,none⟩)∧c.w.heap[b]? =some (.cells cs ty fr)∧
   ∀i (h:i<l.length),∃ vs,RepD c s l[i] vs∧vs.length=s.width∧ ∀j,j<s.width→cs[o+i*s.width+j]? =vs[j]?):=by
 obtain⟨b,o,w,n,z,h1,h2,h3⟩:=hv
 have ho:=hh.obj r
 refine⟨fun l hl=> ?_,fun s l hl=> ?_,fun s l hl=> ?_⟩
 ·rw[hl] at ho
  obtain⟨b',cs,ty,fr,h4,h5,h6,h7⟩:=ho
  rw[h1] at h4
  simp only[Option.some.injEq,Loc.real.injEq] at h4
  obtain⟨rfl,rfl,rfl,rfl,rfl⟩:=h4
  have hi:i=0:=by omega
  subst hi
  exact⟨rfl,b,cs,ty,fr,by rw[h3];simp,h1,h5,h6,h7⟩
 ·rw[hl] at ho
  rcases ho with ⟨_,h4⟩|⟨b',o',cs,ty,fr,h4,h5,h6,h7⟩
  ·rw[h1] at h4;simp at h4
  ·rw[h1] at h4
   simp only[Option.some.injEq,Loc.real.injEq] at h4
   obtain⟨rfl,rfl,rfl,rfl,rfl⟩:=h4
   exact⟨h2,b,o,cs,ty,fr,h3,h1,h5,h6,h7⟩
 ·rw[hl] at ho
  rcases ho with ⟨_,h4⟩|⟨b',o',z',h4,h5,cs,ty,fr,h6,h7⟩
  ·rw[h1] at h4;simp at h4
  ·rw[h1] at h4
   simp only[Option.some.injEq,Loc.real.injEq] at h4
   obtain⟨rfl,rfl,rfl,rfl,rfl⟩:=h4
   exact⟨h2,b,o,cs,ty,fr,h3,h6,h7⟩
theorem loadA_sound {α:Type}{t:TypeId}{a:AV}{H:Heap}{k:Kont α}{r:α}(h:loadA P t a H k=some r):
  ∃v,k v H=some r∧ ∀c x,Rep c a x→HRel c H.at→ ∃v',(Instr.loadAt t x).run P c.w= .ok v' c.w∧Rep c v v':=by
 unfold loadA at h
 split at h
 ·rename_i rr i off
  split at h
  ·rename_i cells hc
   obtain⟨v,h1,h2,_⟩:=readA_sound h
   refine⟨v,h1,fun c x hx hh=> ?_⟩
   obtain⟨rfl,b,cs,ty,fr,rfl,h4,h5,h6,h7⟩:=(ptr_cells hh hx).1 _ hc
   obtain⟨v',h8,h9⟩:=h2 c b 0 cs ty fr h5 ⟨cs.toList,h7,fun j hj=>by simp⟩
   exact⟨v',by simp[Instr.loadAt,Instr.sureAddr,h8, -Nat.zero_add],h9⟩
  ·rename_i s l hc
   have one:readA P t (up s (l.getD i s.dflt)) off H k=some r→ ∃v,k v H=some r∧ ∀c x,Rep c (.ptr rr i off) x→HRel c H.at→ ∃v',(Instr.loadAt t x).run P c.w= .ok v' c.w∧Rep c v v':=fun h=>by
    obtain⟨v,h1,h2,_⟩:=readA_sound h
    refine⟨v,h1,fun c x hx hh=> ?_⟩
    obtain⟨hi,b,o,cs,ty,fr,rfl,h4,h5,h6,h7⟩:=(ptr_cells hh hx).2.1 _ _ hc
    obtain⟨v',h8,h9⟩:=h2 c b _ cs ty fr h5 (row_cells hi h7)
    exact⟨v',by simp[Instr.loadAt,Instr.sureAddr,h8],h9⟩
   split at h
   ·rename_i s' n hat
    split at h
    ·rename_i he
     obtain⟨rfl,rfl,rfl⟩:=he
     rcases Bool.eq_false_or_eq_true (decide (l.length=n)) with hd|hd
     ·rw[hd] at h
      have hl:l.length=n:=of_decide_eq_true hd
      subst hl
      obtain⟨v,h1,h2,_⟩:=readA_sound h
      refine⟨v,h1,fun c x hx hh=> ?_⟩
      obtain⟨hi,b,o,cs,ty,fr,rfl,h4,h5,h6,h7⟩:=(ptr_cells hh hx).2.1 _ _ hc
      obtain⟨v',h8,h9⟩:=h2 c b o cs ty fr h5 (upAll_cells h7)
      refine⟨v', ?_,h9⟩
      simp only[Instr.loadAt,Instr.sureAddr,Nat.zero_mul,Nat.add_zero]
      simpa using h8
     ·rw[hd] at h;cases h
    ·exact one h
   ·exact one h
  ·rename_i s l hc
   obtain⟨v,h1,h2,_⟩:=readA_sound h
   refine⟨v,h1,fun c x hx hh=> ?_⟩
   obtain⟨hi,b,o,cs,ty,fr,rfl,h5,h7⟩:=(ptr_cells hh hx).2.2 _ _ hc
   obtain⟨v',h8,h9⟩:=h2 c b _ cs ty fr h5 (row_cells hi h7)
   exact⟨v',by simp[Instr.loadAt,Instr.sureAddr,h8],h9⟩
  ·simp at h
 ·rename_i s l i off
  obtain⟨v,h1,h2,_⟩:=readA_sound h
  refine⟨v,h1,fun c x hx hh=> ?_⟩
  obtain⟨b,o,h3,⟨cs,ty,fr,h4,h5⟩,hi,rfl⟩:=hx
  obtain⟨v',h8,h9⟩:=h2 c b _ cs ty fr h4 (row_cells hi h5)
  exact⟨v',by simp[Instr.loadAt,Instr.sureAddr,h8],h9⟩
 ·simp at h
theorem downAll_len {s:Sh}: ∀(l:List (List AV)) (d:List s.Den),downAll s l=some d→d.length=l.length
 |[],d,h=>by simp only[downAll,Option.some.injEq] at h;subst h;rfl
 |x::l,d,h=>by
  simp only[downAll] at h
  split at h
  case h_2=>simp at h
  simp only[Option.map_eq_some_iff] at h
  obtain⟨d',h1,rfl⟩:=h
  simp[downAll_len l d' h1]
theorem chunks_len (w:Nat): ∀(n:Nat) (l:List AV),(chunks w n l).length=n
 |0,_=>rfl
 |n+1,l=>by simp[chunks,chunks_len w n]
theorem chunks_rep {c:Ctx}{s:Sh}{w:Nat}(hw:s.width=w): ∀(n:Nat) (l:List AV) (vs:List Value) (d:List s.Den),RepL c l vs→l.length=n*w→downAll s (chunks w n l)=some d→
  ∀i (h:i<d.length),∃ us,RepD c s d[i] us∧us.length=s.width∧ ∀j,j<s.width→vs[i*s.width+j]? =us[j]?
 |0,l,vs,d,_,_,hd=>by
  simp only[chunks,downAll,Option.some.injEq] at hd;subst hd
  intro i h;simp at h
 |n+1,l,vs,d,hl,hlen,hd=>by
  simp only[chunks,downAll] at hd
  split at hd
  case h_2=>simp at hd
  rename_i x hx
  simp only[Option.map_eq_some_iff] at hd
  obtain⟨d',h1,rfl⟩:=hd
  have hlv:=hl.length
  have h2:=down_all (hl.take w) hx
  have ih:=chunks_rep hw n (l.drop w) (vs.drop w) d' (hl.drop w) (by rw[List.length_drop,hlen,Nat.add_mul];omega) h1
  intro i hi
  cases i with
  |zero=>
   refine⟨_,h2,h2.len,fun j hj=> ?_⟩
   rw[List.getElem?_take_of_lt (by omega)];simp
  |succ i=>
   obtain⟨us,h3,h4,h5⟩:=ih i (by simpa using hi)
   refine⟨us,h3,h4,fun j hj=> ?_⟩
   rw[← h5 j hj,List.getElem?_drop]
   congr 1
   rw[Nat.add_mul,hw];omega
theorem over_rep {c:Ctx}{l xs:List AV}{cs:Array Value}{vs:List Value}{off:Nat}(h:RepL c l cs.toList)(hx:RepL c xs vs)(hl:off+xs.length≤l.length):
  RepL c (over l off xs) (overV cs off vs).toList:=by
 have h1:=h.length
 have h2:=hx.length
 simp only[Array.length_toList] at h1
 apply RepL.of_getElem
 ·simp[over,overV_size,h1];omega
 ·intro i a hi
  rw[Array.getElem?_toList,overV_get vs cs off i (by omega)]
  simp only[over,List.append_assoc] at hi
  by_cases hA:i<off
  ·rw[if_neg (by omega)]
   rw[List.getElem?_append_left (by simp;omega),List.getElem?_take_of_lt hA] at hi
   obtain⟨v,h3,h4⟩:=h.get i hi
   exact⟨v,by simpa using h3,h4⟩
  ·rw[List.getElem?_append_right (by simp;omega),List.length_take,Nat.min_eq_left (by omega)] at hi
   by_cases hB:i<off+xs.length
   ·rw[List.getElem?_append_left (by omega)] at hi
    rw[if_pos (by omega)]
    exact hx.get _ hi
   ·rw[if_neg (by omega)]
    rw[List.getElem?_append_right (by omega),List.getElem?_drop,show off+xs.length+(i-off-xs.length)=i by omega] at hi
    obtain⟨v,h3,h4⟩:=h.get i hi
    exact⟨v,by simpa using h3,h4⟩
theorem rowSel_eq {s:Sh}{l:List s.Den}{i off n:Nat}{cs:List AV}{d:s.Den}(h:down s (over (up s (l.getD i s.dflt)) off cs)=some (d,[])):rowSel s l i off n cs d=l.set i d:=by
 have hp:rowP s l i off cs=l.set i d:=by unfold rowP;rw[h]
 unfold rowSel
 split
 ·rfl
 ·split
  ·exact hp
  ·exact hp
  ·exact hp
  ·rfl
theorem storeA_sound {α:Type}{t:TypeId}{a x:AV}{H:Heap}{k:Kont α}{r:α}(h:storeA P t a x H k=some r):
  ∃H',k (.lit undef) H'=some r∧ ∀c p y,Rep c a p→Rep c x y→HRel c H.at→Fresh c H.length→
   ∃c',(Instr.storeAt t p y).run P c.w= .ok () c'.w∧HRel c' H'.at∧Fresh c' H'.length∧Step c H.at c' H'.at∧Stay c c':=by
 unfold storeA at h
 split at h
 case h_2=>simp at h
 rename_i cs n hcs hn
 split at h
 case isFalse=>simp at h
 rename_i hok
 obtain⟨hlen,hcell⟩:=hok
 split at h
 case h_2=>simp at h
 rename_i rr i off
 have hval: ∀{c:Ctx} {y:Value},Rep c x y→RepL c cs y.cells.toList∧y.cells.size=n∧ ∀v∈y.cells.toList,v.oneCell'=true:=fun hy=>by
  have h1:=(typed_rep (P:=P) (t:=t) hy).cells hcs
  refine⟨h1, ?_,h1.isCell hcell⟩
  have:=h1.length
  simp only[Array.length_toList] at this
  omega
 split at h
 ·rename_i cells hc
  split at h
  case isFalse=>simp at h
  rename_i hb
  refine⟨_,h,fun c p y hp hy hh hf=> ?_⟩
  obtain⟨h1,h2,h3⟩:=hval hy
  obtain⟨rfl,b,cs',ty,fr,rfl,h4,h5,h6,h7⟩:=(ptr_cells hh hp).1 _ hc
  have hl:=h7.length
  simp only[Array.length_toList] at hl
  have hlt:rr<H.length:=lt_of_at hc (by simp)
  obtain⟨g1,g2,g3⟩:=move_set hh (ob:= .cells (overV cs' off y.cells.toList) ty fr) (x:= .box (over cells off cs)) h4 (by rw[hc];rfl) hlt rfl (fun hlater=>by
   refine⟨b,_,ty,fr, ?_, ?_, ?_,RepL.mono hlater _ (over_rep h7 h1 (by omega))⟩
   ·simpa [overV_size] using h4
   ·show(setB c.w b _).heap[b]? =_
    rw[setB_heap,if_pos rfl,if_pos (lt_of_heap h5)]
   ·simpa [overV_size] using h6)
  refine⟨_, ?_,g1,fun r hr=>hf r (by simpa using hr),g2,g3⟩
  simp only[Instr.storeAt,Instr.sureAddr,storeVar,Sem.run_bind,Sem.run_pure,Result.andThen_ok,run_sizeOf_ok hn,Sem.run_ite]
  rw[if_neg (by simp[h2])]
  rw[run_storeCells_ok _ 0 cs' c.w h5 h6 (by simp only[Array.length_toList];omega) h3]
  simp
 ·rename_i s l hc
  split at h
  ·rename_i m hm
   have hm':i=0∧off=0∧arrT P t=some (s,m):=by
    split at hm
    ·rename_i s' m' hat
     split at hm
     ·rename_i he
      obtain⟨rfl,rfl,rfl⟩:=he
      cases hm
      exact⟨rfl,rfl,hat⟩
     ·cases hm
    ·cases hm
   obtain⟨rfl,rfl,hat⟩:=hm'
   split at h
   case h_2=>cases h
   rename_i l' hl'
   rcases Bool.eq_false_or_eq_true (decide (l.length=m)) with hd|hd
   case inr=>rw[hd] at h;cases h
   rw[hd] at h
   have hlm:l.length=m:=of_decide_eq_true hd
   have hsz:sizeT P t=some (m*s.width)∧0<m∧0<s.width:=by
    unfold arrT at hat
    split at hat
    ·split at hat
     ·split at hat
      ·rename_i g;cases hat;exact⟨g.2.2.2,g.1,g.2.1⟩
      ·cases hat
     ·cases hat
    ·cases hat
   obtain⟨hsz,hm0,hw0⟩:=hsz
   rw[hn] at hsz
   cases hsz
   refine⟨_,h,fun c p y hp hy hh hf=> ?_⟩
   obtain⟨h1,h2,h3⟩:=hval hy
   obtain⟨hi,b,o,cs',ty,fr,rfl,h4,h5,h6,h7⟩:=(ptr_cells hh hp).2.1 _ _ hc
   have hlt:rr<H.length:=lt_of_at hc (by simp)
   have hll:l'.length=m:=by
    have key: ∀(n:Nat) (q:List AV) (d:List s.Den),downAll s (chunks s.width n q)=some d→d.length=n:=by
     intro n
     induction n with
     |zero=>intro q d hd;simp only[chunks,downAll,Option.some.injEq] at hd;subst hd;rfl
     |succ n ih=>
      intro q d hd
      simp only[chunks,downAll] at hd
      split at hd
      ·simp only[Option.map_eq_some_iff] at hd
       obtain⟨d',e1,rfl⟩:=hd
       simp[ih _ _ e1]
      ·cases hd
    exact key m cs l' hl'
   have hbound:o+m*s.width≤cs'.size:=by
    obtain⟨us,e1,e2,e3⟩:=h7 (m-1) (by omega)
    have:=e3 (s.width-1) (by omega)
    rw[List.getElem?_eq_getElem (by omega)] at this
    have:=(Array.getElem?_eq_some_iff.1 this).1
    have e4:m*s.width=(m-1)*s.width+s.width:=by
     rw[← Nat.succ_mul];congr 1;omega
    omega
   have hys:y.cells.toList.length=m*s.width:=by simpa using h2
   obtain⟨g1,g2,g3⟩:=move_set hh (ob:= .cells (overV cs' o y.cells.toList) ty fr) (x:= .row s l') h4 (by rw[hc];rfl) hlt rfl (fun hlater=>by
    refine .inr ⟨b,o,overV cs' o y.cells.toList,ty,fr, ?_, ?_, ?_,fun i hi=> ?_⟩
    ·rw[overV_size,hll,← hlm];exact h4
    ·show(setB c.w b _).heap[b]? =_
     rw[setB_heap,if_pos rfl,if_pos (lt_of_heap h5)]
    ·simpa [overV_size] using h6
    ·obtain⟨us,e1,e2,e3⟩:=chunks_rep rfl m cs y.cells.toList l' h1 (by rw[hlen]) hl' i hi
     refine⟨us,RepD.mono hlater s e1,e2,fun j hj=> ?_⟩
     have hij:(i+1)*s.width≤m*s.width:=Nat.mul_le_mul_right _ (by omega)
     rw[Nat.add_mul] at hij
     rw[overV_get _ _ _ _ (by omega),if_pos (by omega),← e3 j hj]
     congr 1;omega)
   refine⟨_, ?_,g1,fun r hr=>hf r (by simpa using hr),g2,g3⟩
   simp only[Instr.storeAt,Instr.sureAddr,storeVar,Sem.run_bind,Sem.run_pure,Result.andThen_ok,run_sizeOf_ok hn,Sem.run_ite]
   rw[if_neg (by simp[h2])]
   simp only[Nat.zero_mul,Nat.add_zero]
   rw[run_storeCells_ok _ 0 cs' c.w h5 h6 (by omega) h3]
   simp
  dsimp only at h
  split at h
  case isFalse=>simp at h
  rename_i hb
  split at h
  case h_2=>simp at h
  rename_i d hd
  rw[rowSel_eq hd] at h
  refine⟨_,h,fun c p y hp hy hh hf=> ?_⟩
  obtain⟨h1,h2,h3⟩:=hval hy
  obtain⟨hi,b,o,cs',ty,fr,rfl,h4,h5,h6,h7⟩:=(ptr_cells hh hp).2.1 _ _ hc
  have hlt:rr<H.length:=lt_of_at hc (by simp)
  have hup:=up_length s (l.getD i s.dflt)
  obtain⟨hb,hn0⟩:=hb
  obtain⟨vs,e1,e2,e3⟩:=h7 i hi
  have hbound:o+i*s.width+off+n≤cs'.size:=by
   have:=e3 (off+n-1) (by omega)
   rw[List.getElem?_eq_getElem (by omega)] at this
   have:=(Array.getElem?_eq_some_iff.1 this).1
   omega
  have hsz:y.cells.toList.length=n:=by simpa using h2
  have hd': ∀{c':Ctx},Later c c'→RepD c' s d (overV vs.toArray off y.cells.toList).toList:=fun hl=>by
   refine RepD.mono hl s (down_all ?_ hd)
   refine over_rep ?_ h1 (by omega)
   rw[List.getD_eq_getElem?_getD,List.getElem?_eq_getElem hi]
   exact up_rep s e1
  obtain⟨g1,g2,g3⟩:=move_set hh (ob:= .cells (overV cs' (o+i*s.width+off) y.cells.toList) ty fr) (x:= .row s (l.set i d)) h4 (by rw[hc];rfl) hlt rfl (fun hlater=>by
   refine .inr ⟨b,o,overV cs' (o+i*s.width+off) y.cells.toList,ty,fr, ?_, ?_, ?_, ?_⟩
   ·simpa [overV_size] using h4
   ·show(setB c.w b _).heap[b]? =_
    rw[setB_heap,if_pos rfl,if_pos (lt_of_heap h5)]
   ·simpa [overV_size] using h6
   ·intro k hk
    simp only[List.length_set] at hk
    rw[List.getElem_set]
    split
    ·rename_i hik;subst hik
     refine⟨_,hd' hlater,by simp[overV_size,e2],fun j hj=> ?_⟩
     rw[overV_get _ _ _ _ (by omega),show(overV vs.toArray off y.cells.toList).toList[j]? =(overV vs.toArray off y.cells.toList)[j]? from Array.getElem?_toList,overV_get _ _ _ _ (by simp;omega)]
     by_cases hin:off≤j∧j<off+y.cells.toList.length
     ·rw[if_pos (by omega),if_pos hin];congr 1;omega
     ·rw[if_neg (by omega),if_neg hin,e3 j hj];simp
    ·rename_i hik
     obtain⟨vs',f1,f2,f3⟩:=h7 k hk
     refine⟨vs',RepD.mono hlater s f1,f2,fun j hj=> ?_⟩
     rw[overV_get _ _ _ _ (by omega),if_neg,f3 j hj]
     have:(k+1)*s.width≤i*s.width∨(i+1)*s.width≤k*s.width:=by
      rcases Nat.lt_or_ge k i with hlt'|hge
      ·exact .inl (Nat.mul_le_mul_right _ hlt')
      ·exact .inr (Nat.mul_le_mul_right _ (by omega))
     simp only[Nat.add_mul,Nat.one_mul] at this
     omega)
  refine⟨_, ?_,g1,fun r hr=>hf r (by simpa using hr),g2,g3⟩
  simp only[Instr.storeAt,Instr.sureAddr,storeVar,Sem.run_bind,Sem.run_pure,Result.andThen_ok,run_sizeOf_ok hn,Sem.run_ite]
  rw[if_neg (by simp[h2])]
  rw[run_storeCells_ok _ 0 cs' c.w h5 h6 (by omega) h3]
  simp
 ·simp at h
end Go.TX
