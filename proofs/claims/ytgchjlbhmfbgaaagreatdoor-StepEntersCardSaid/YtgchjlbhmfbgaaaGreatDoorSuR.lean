/- A task's places and stacks: each call comes to an end, and leaves a task that may be. -/
import Derived.Test.YtgchjlbhmfbgaaaGreatDoorSuXP
import Derived.Test.YtgchjlbhmfbgaaaGreatDoorSuQ
import Derived.Test.YtgchjlbhmfbgaaaGreatDoorSuPa
import Derived.Test.YtgchjlbhmfbgaaaGreatDoorSuXN
import Derived.Laws.BytesString
import Derived.Laws.RangeAny
import Derived.Lib.ItoaNum
import Derived.Test.YtgchjlbhmfbgaaaGreatDoorSuXO
import Derived.Test.YtgchjlbhmfbgaaaGreatDoorSuXQ
import Derived.Test.YtgchjlbhmfbgaaaGreatDoorSuXR
import Derived.Test.YtgchjlbhmfbgaaaGreatDoorSuXU
namespace Go.Proofs.Dbl
open Go Go.TX Go.Proofs
set_option maxRecDepth 100000
set_option maxHeartbeats 0
set_option linter.unusedVariables false
set_option linter.unusedSimpArgs false
def Tot {X:Type}(o:Option X)(Q:X→Prop):Prop:= ∃v,o=some v∧Q v
theorem Tot.ok {X:Type}{v:X}{Q:X→Prop}(h:Q v):Tot (some v) Q:=⟨v,rfl,h⟩
theorem Tot.bd {X Y:Type}{r:Option X}{f:X→Option Y}{Q:X→Prop}{S:Y→Prop}(h:Tot r Q)(hf: ∀x,Q x→Tot (f x) S):Tot (outOf r f) S:=by
 obtain⟨v,rfl,hv⟩:=h
 exact hf v hv
theorem Tot.cd {X:Type}{b:Bool}{x y:Option X}{S:X→Prop}(h1:b=true→Tot x S)(h2:b=false→Tot y S):Tot (cond b x y) S:=by
 cases b
 ·exact h2 rfl
 ·exact h1 rfl
theorem Tot.ct {X:Type}{p:Prop}[Decidable p]{x y:Option X}{S:X→Prop}(hp:p)(h:Tot x S):Tot (cond (decide p) x y) S:=by rw[decide_eq_true hp];exact h
theorem Tot.mono {X:Type}{o:Option X}{Q S:X→Prop}(h:Tot o Q)(hs: ∀x,Q x→S x):Tot o S:=by
 obtain⟨v,e,hv⟩:=h
 exact⟨v,e,hs v hv⟩
theorem of_nd {p:Prop}[Decidable p](h:(!decide p)=false):p:=Decidable.byContradiction fun hn=>by rw[decide_eq_false hn] at h;exact absurd h (by decide)
theorem e3:Cell (-3):=by unfold Cell;omega
theorem e4:Cell (-4):=by unfold Cell;omega
theorem e5:Cell (-5):=by unfold Cell;omega
theorem e6:Cell (-6):=by unfold Cell;omega
theorem e8:Cell (-8):=by unfold Cell;omega
theorem e9:Cell (-9):=by unfold Cell;omega
theorem e13:Cell (-13):=by unfold Cell;omega
theorem e17:Cell (-17):=by unfold Cell;omega
theorem e21:Cell (-21):=by unfold Cell;omega
theorem e23:Cell (-23):=by unfold Cell;omega
theorem e24:Cell (-24):=by unfold Cell;omega
theorem getD_cell {l:List Int}(h:AllC l)(i:Nat):Cell (l.getD i 0):=AllC_get h i
theorem wc (x:Int):Cell (IntKind.wrap .i64 x):=by rw[wi];exact W_cell x
theorem allc1 {a:Int}(h:Cell a):AllC [a]:=⟨h,trivial⟩
theorem lc {n:Nat}(h:n≤1000):Cell (n:Int):=⟨by omega,by omega⟩
theorem push_tot {l x:List Int}(h1:l.length≤1000)(h2:x.length≤1000)(c1:AllC l)(c2:AllC x):
  Tot (stk_Push l 64 x) fun v=>AllC v.1∧(v.2=0→v.1.length≤64)∧(l.length≤64→v.1.length≤64)∧Cell v.2:=by
 rw[Push_eq h1 h2]
 refine .ok ?_
 split
 ·exact⟨c1,fun h=>by simp at h,fun h=>h,e3⟩
 ·exact⟨AllC_append.2 ⟨c1,c2⟩,fun _=>by simp;omega,fun _=>by simp;omega,zero_cell⟩
theorem pop_tot {l:List Int}{n:Nat}(h1:l.length≤1000)(hn:n≤100)(c:AllC l):
  Tot (stk_Pop l (n:Int)) fun v=>AllC v.1∧AllC v.2.1∧v.1.length≤l.length∧(v.2.2=0→v.2.1.length=n)∧Cell v.2.2∧(n≤l.length→v.2.2=0):=by
 by_cases h:n≤l.length
 ·rw[Pop_eq h h1]
  exact .ok ⟨AllC_take c _,AllC_drop c _,by rw[List.length_take];omega,fun _=>by rw[List.length_drop];omega,zero_cell,fun _=>rfl⟩
 ·have:stk_Pop l (n:Int)=some (l,[], -4):=by
   unfold stk_Pop stk_Pop_t
   have hw:IntKind.wrap IntKind.i64 ((l.length:Int)-n)=(l.length:Int)-n:=by rw[wi,W_of ⟨by omega,by omega⟩]
   rw[hw]
   have:stk_Pop_M1 (n:Int) ((l.length:Int)-n)=some (.inl ([], -4)):=by
    unfold stk_Pop_M1 stk_Pop_M1_t
    rw[cf (by omega),ct (by omega)]
   rw[this]
   rfl
  rw[this]
  exact .ok ⟨c,trivial,Nat.le_refl _,fun h=>by simp at h,e4,fun h'=>absurd h' h⟩
def TO (D R:List Int)(th at_ H:Int):Prop:=SaneP D R th at_ H∧AllC D∧AllC R
abbrev T5:Type:=List Int×List Int×Int×Int×Int
def TO5 (t:T5):Prop:=TO t.1 t.2.1 t.2.2.1 t.2.2.2.1 t.2.2.2.2
theorem TO.lD {D R:List Int}{th at_ H:Int}(h:TO D R th at_ H):D.length≤64:=h.1.1
theorem TO.lR {D R:List Int}{th at_ H:Int}(h:TO D R th at_ H):R.length≤64:=h.1.2.1
theorem TO.P {D R:List Int}{th at_ H:Int}(h:TO D R th at_ H):PlaceP th at_:=h.1.2.2.1
theorem TO.hH {D R:List Int}{th at_ H:Int}(h:TO D R th at_ H):H=0∨3≤H∧H≤(R.length:Int):=h.1.2.2.2
theorem TO.cH {D R:List Int}{th at_ H:Int}(h:TO D R th at_ H):Cell H:=by
 have h1:=h.hH
 have h2:=h.lR
 exact⟨by omega,by omega⟩
theorem TO.cD {D R:List Int}{th at_ H:Int}(h:TO D R th at_ H):AllC D:=h.2.1
theorem TO.cR {D R:List Int}{th at_ H:Int}(h:TO D R th at_ H):AllC R:=h.2.2
theorem TO.data {D R:List Int}{th at_ H:Int}(h:TO D R th at_ H){D':List Int}(h1:D'.length≤64)(h2:AllC D'):TO D' R th at_ H:=⟨⟨h1,h.1.2⟩,h2,h.2.2⟩
theorem TO.place {D R:List Int}{th at_ H:Int}(h:TO D R th at_ H){th' at':Int}(hp:PlaceP th' at'):TO D R th' at' H:=⟨⟨h.1.1,h.1.2.1,hp,h.1.2.2.2⟩,h.2⟩
theorem with_tot {D R:List Int}{th at_ H:Int}(h:TO D R th at_ H){r:List Int}(h1:r.length≤64)(h2:AllC r):Tot (ret_with D R th at_ H r) fun v=>TO5 v∧v.1=D∧v.2.2.1=th∧v.2.2.2.1=at_∧v.2.1=r:=by
 unfold ret_with ret_with_t
 rw[stands_eq]
 simp only[outOf_some]
 exact .cd (fun _=> .ok ⟨⟨⟨h.lD,h1,h.P, .inl rfl⟩,h.cD,h2⟩,rfl,rfl,rfl,rfl⟩) fun hb=> .ok ⟨⟨⟨h.lD,h1,h.P,of_nd hb⟩,h.cD,h2⟩,rfl,rfl,rfl,rfl⟩
def T6 (th at_:Int)(v:List Int×List Int×Int×Int×Int×Int):Prop:=TO v.1 v.2.1 v.2.2.1 v.2.2.2.1 v.2.2.2.2.1∧Cell v.2.2.2.2.2∧v.2.2.1=th∧v.2.2.2.1=at_
theorem lay_tot {D R:List Int}{th at_ H:Int}(h:TO D R th at_ H){x:List Int}(h1:x.length≤100)(h2:AllC x):Tot (ret_lay D R th at_ H x) fun v=>T6 th at_ v∧v.1=D:=by
 have:=h.lR
 unfold ret_lay ret_lay_t
 refine .bd (push_tot (by omega) (by omega) h.cR h2) fun p ⟨p1,p2,p3,p4⟩=> .cd (fun _=> .ok ⟨⟨h,e5,rfl,rfl⟩,rfl⟩) fun hb=> ?_
 refine .bd (with_tot h (p3 h.lR) p1) fun w ⟨w1,w2,w3,w4,_⟩=> .ok ⟨⟨w1,zero_cell,w3,w4⟩,w2⟩
def T7 (n:Nat)(D:List Int)(th at_:Int)(v:List Int×List Int×Int×Int×Int×List Int×Int):Prop:=TO v.1 v.2.1 v.2.2.1 v.2.2.2.1 v.2.2.2.2.1∧Cell v.2.2.2.2.2.2∧AllC v.2.2.2.2.2.1∧(v.2.2.2.2.2.2=0→v.2.2.2.2.2.1.length=n)∧v.2.2.1=th∧v.2.2.2.1=at_∧v.1=D
theorem take_tot {D R:List Int}{th at_ H:Int}(h:TO D R th at_ H){n:Nat}(hn:n≤100):Tot (ret_take D R th at_ H (n:Int)) (T7 n D th at_):=by
 have:=h.lR
 unfold ret_take ret_take_t
 refine .bd (pop_tot (by omega) hn h.cR) fun p ⟨p1,p2,p3,p4,p5,p6⟩=> .cd (fun _=> .ok ⟨h,e6,trivial,fun h=>by simp at h,rfl,rfl,rfl⟩) fun hb=> ?_
 refine .bd (with_tot h (by omega) p1) fun w ⟨w1,w2,w3,w4,_⟩=> .ok ⟨w1,zero_cell,p2,fun _=>p4 (by simpa using hb),w3,w4,w2⟩
theorem At_cell {n:Int}(hn:Cell n):Tot (dict_At n) fun v=>v.2.2=true→PlaceP v.1 v.2.1∧dict_At n=some (v.1,v.2.1,true):=by
 unfold dict_At dict_At_t
 refine .cd (fun _=> .ok fun h=>by simp at h) fun hb=> .cd (fun _=> .ok fun h=>by simp at h) fun hc=> .ok fun _=>⟨?_, ?_⟩
 ·have hn': ¬n<0:=by simpa using hb
  have h1:0≤Int.tmod n 4096:=Int.tmod_nonneg _ (by omega)
  have h2:Int.tmod n 4096<4096:=Int.tmod_lt_of_pos _ (by decide)
  have h3:Int.tdiv n 4096=n/4096:=Int.tdiv_eq_ediv_of_nonneg (by omega)
  have h4:IntKind.wrap .i64 (Int.tdiv n 4096)=n/4096:=by rw[h3,wi,W_of];unfold Cell at *; omega
  have hc': ¬IntKind.wrap .i64 (Int.tdiv n 4096)>1000000:=of_decide_eq_false hc
  rw[h4] at hc'
  show PlaceP (IntKind.wrap .i64 (Int.tdiv n 4096)) (Int.tmod n 4096)
  rw[h4]
  unfold PlaceP
  omega
 ·rw[hb,hc];rfl
theorem Addr_tot {th at_:Int}:Tot (dict_Addr th at_) fun v=>Cell v:=by
 rw[Addr_eq]
 refine .ok ?_
 unfold AddrV
 split
 ·rename_i h;unfold PlaceP at h;exact⟨by omega,by omega⟩
 ·unfold Cell;omega
theorem At_Addr {th at_:Int}(h:PlaceP th at_):dict_At (AddrV th at_)=some (th,at_,true):=by
 unfold AddrV
 rw[if_pos h]
 unfold PlaceP at h
 unfold dict_At dict_At_t
 have h3:Int.tdiv (th*4096+at_) 4096=th:=by rw[Int.tdiv_eq_ediv_of_nonneg (by omega)];omega
 have h4:Int.tmod (th*4096+at_) 4096=at_:=by rw[Int.tmod_eq_emod_of_nonneg (by omega)];omega
 have h5:IntKind.wrap .i64 th=th:=by rw[wi,W_of];unfold Cell;omega
 rw[h3,h4,h5,decide_eq_false (by omega),decide_eq_false (by omega)]
 rfl
section
variable {D R:List Int}{th at_ H:Int}(h:TO D R th at_ H)
include h
theorem sane_to:ret_sane D R th at_ H=some (D,R,th,at_,H):=saneT h.1
def T6n (n:Int)(v:List Int×List Int×Int×Int×Int×Int):Prop:=TO v.1 v.2.1 v.2.2.1 v.2.2.2.1 v.2.2.2.2.1∧Cell v.2.2.2.2.2∧(v.2.2.2.2.2=0→dict_At n=some (v.2.2.1,v.2.2.2.1,true))
theorem Enter_tot {n:Int}(hn:Cell n):Tot (ret_Enter D R th at_ H n) (T6n n):=by
 unfold ret_Enter ret_Enter_t
 rw[sane_to h]
 simp only[outOf_some]
 refine .bd (At_cell hn) fun a ha=> .cd (fun _=> .ok ⟨h,e9,fun h=>by simp at h⟩) fun hb=> ?_
 obtain⟨a1,a2⟩:=ha (by simpa using hb)
 refine .bd Addr_tot fun x hx=> .bd (lay_tot h (by simp) (allc1 hx)) fun l ⟨⟨l1,l2,l3,l4⟩,_⟩=> ?_
 exact .cd (fun _=> .ok ⟨l1.place a1,l2,fun _=>a2⟩) fun he=> .ok ⟨l1,l2,fun hz=>absurd hz (by simpa using he)⟩
theorem Begin_tot {a b:Int}(ha:Cell a)(hb:Cell b):Tot (ret_Begin D R th at_ H a b) (T6 th at_):=by
 unfold ret_Begin ret_Begin_t
 rw[sane_to h]
 simp only[outOf_some]
 exact .bd (lay_tot h (by simp) ⟨ha,hb,trivial⟩) fun l hl=> .ok hl.1
theorem Keep_tot {a:Int}(ha:Cell a):Tot (ret_Keep D R th at_ H a) (T6 th at_):=by
 unfold ret_Keep ret_Keep_t
 rw[sane_to h]
 simp only[outOf_some]
 exact .bd (lay_tot h (by simp) (allc1 ha)) fun l hl=> .ok hl.1
theorem Drop_tot:Tot (ret_Drop D R th at_ H) (T6 th at_):=by
 unfold ret_Drop ret_Drop_t
 rw[sane_to h]
 simp only[outOf_some]
 exact .bd (take_tot (n:=2) h (by omega)) fun l ⟨l1,l2,_,_,l3,l4,_⟩=> .ok ⟨l1,l2,l3,l4⟩
theorem Index_tot (n:Int):Tot (ret_Index D R th at_ H n) fun v=>Cell v.1∧Cell v.2:=by
 unfold ret_Index ret_Index_t
 refine .cd (fun _=> .ok ⟨zero_cell,e6⟩) fun _=> .cd (fun _=> .ok ⟨zero_cell,e6⟩) fun _=> ?_
 rw[sane_to h]
 simp only[outOf_some]
 have hp:Tot (stk_Pick R (IntKind.wrap IntKind.i64 (2*n))) fun v=>Cell v.1:=by
  rw[Pick_eq (by have:=h.lR;omega) (wc _)]
  refine .ok ?_
  split
  ·exact getD_cell h.cR _
  ·exact zero_cell
 exact .bd hp fun x hx=> .cd (fun _=> .ok ⟨zero_cell,e6⟩) fun _=> .ok ⟨hx,zero_cell⟩
theorem Back_tot:Tot (ret_Back D R th at_ H) fun v=>TO v.1 v.2.1 v.2.2.1 v.2.2.2.1 v.2.2.2.2.1∧Cell v.2.2.2.2.2.1∧Cell v.2.2.2.2.2.2∧v.2.2.1=th∧v.2.2.2.1=at_:=by
 unfold ret_Back ret_Back_t
 rw[sane_to h]
 simp only[outOf_some]
 refine .bd (take_tot (n:=1) h (by omega)) fun l ⟨l1,l2,l3,l4,l5,l6,_⟩=> .cd (fun _=> .ok ⟨l1,zero_cell,l2,l5,l6⟩) fun hb=> ?_
 have:=l4 (by simpa using hb)
 exact .ct (by rw[this];decide) (.ok ⟨l1,getD_cell l3 _,zero_cell,l5,l6⟩)
theorem Catch_tot {n:Int}(hn:Cell n):Tot (ret_Catch D R th at_ H n) (T6n n):=by
 unfold ret_Catch ret_Catch_t
 rw[sane_to h]
 simp only[outOf_some]
 refine .bd (At_cell hn) fun a ha=> .cd (fun _=> .ok ⟨h,e9,fun h=>by simp at h⟩) fun hb=> ?_
 obtain⟨a1,a2⟩:=ha (by simpa using hb)
 have hl:Cell (D.length:Int):=lc (by have:=h.lD;omega)
 have hR:=h.lR
 refine .bd Addr_tot fun x hx=> ?_
 unfold ret_lay ret_lay_t
 rw[Push_eq (by omega) (by simp)]
 by_cases hf:64<R.length+[H,(D.length:Int),x, -1].length
 ·rw[if_pos hf]
  exact .ok ⟨h,e5,fun h=>by simp at h⟩
 ·rw[if_neg hf]
  have hlen:(R++[H,(D.length:Int),x, -1]).length=R.length+4:=by simp
  have hc:AllC (R++[H,(D.length:Int),x, -1]):=AllC_append.2 ⟨h.cR,h.cH,hl,hx,m1_cell,trivial⟩
  obtain⟨w,ew,w1,w2,w3,w4,w5⟩:=with_tot h (r:=R++[H,(D.length:Int),x, -1]) (by simp at hf ⊢; omega) hc
  simp only[outOf_some,bne_self_eq_false,cond_false]
  rw[ew]
  refine .ok ⟨⟨⟨w1.lD,w1.lR,a1, .inr ?_⟩,w1.cD,w1.cR⟩,zero_cell,fun _=>a2⟩
  show 3≤IntKind.wrap .i64 ((w.2.1.length:Int)-1)∧IntKind.wrap .i64 ((w.2.1.length:Int)-1)≤(w.2.1.length:Int)
  rw[w5,hlen,wi,W_of ⟨by omega,by omega⟩]
  omega
theorem uncatch_tot {r:List Int}(hr:r.length≤64)(hc:AllC r):Tot (ret_uncatch D R th at_ H r) fun v=>TO v.1 v.2.1 v.2.2.1 v.2.2.2.1 v.2.2.2.2.1∧Cell v.2.2.2.2.2:=by
 have bad: ∀e:Int,Cell e→TO D R th at_ H∧Cell e:=fun e he=>⟨h,he⟩
 unfold ret_uncatch ret_uncatch_t
 refine .bd (pop_tot (n:=3) (by omega) (by omega) hc) fun p ⟨p1,p2,p3,p4,p5,p6⟩=> .cd (fun _=> .ok (bad _ e6)) fun hb=> ?_
 have hl:=p4 (by simpa using hb)
 refine .cd (fun _=> .ok (bad _ e6)) fun _=> .ct (by rw[hl];decide) ?_
 refine .bd (At_cell (getD_cell p2 _)) fun a ha=> .cd (fun _=> .ok (bad _ e9)) fun hb2=> .ct (by rw[hl];decide) ?_
 obtain⟨a1,_⟩:=ha (by simpa using hb2)
 rw[stands_eq]
 simp only[outOf_some]
 refine .cd (fun _=> .ok (bad _ e9)) fun hs=> ?_
 have hs':List.getD p.2.1 0 0=0∨3≤List.getD p.2.1 0 0∧List.getD p.2.1 0 0≤(p.1.length:Int):=of_nd hs
 have hD:=h.lD
 refine .bd (push_tot (by omega) (by simp) h.cD (allc1 zero_cell)) fun q ⟨q1,q2,q3,q4⟩=> .cd (fun _=> .ok (bad _ q4)) fun hq=> .ct (by rw[hl];decide) ?_
 exact .ok ⟨⟨⟨q3 hD,by show p.1.length≤64;omega,a1,hs'⟩,q1,p1⟩,zero_cell⟩
theorem Leave_tot:Tot (ret_Leave D R th at_ H) fun v=>TO v.1 v.2.1 v.2.2.1 v.2.2.2.1 v.2.2.2.2.1∧Cell v.2.2.2.2.2.2∧(v.2.2.2.2.2.1=true→v.2.2.1=th∧v.2.2.2.1=at_∧v.2.2.2.2.2.2=0):=by
 unfold ret_Leave ret_Leave_t
 rw[sane_to h]
 simp only[outOf_some]
 refine .bd (take_tot (n:=1) h (by omega)) fun l ⟨l1,l2,l3,l4,l5,l6,l7⟩=> .cd (fun _=> .ok ⟨h,l2,fun h=>by simp at h⟩) fun hb=> ?_
 have hl:=l4 (by simpa using hb)
 refine .ct (by rw[hl];decide) (.cd (fun _=> ?_) fun _=> .cd (fun _=> ?_) fun _=> ?_)
 ·exact .bd (uncatch_tot h l1.lR l1.cR) fun u ⟨u1,u2⟩=> .ok ⟨u1,u2,fun h=>by simp at h⟩
 ·rw[Addr_eq]
  simp only[outOf_some]
  rw[At_Addr h.P]
  exact .ok ⟨l1.place h.P,zero_cell,fun _=>⟨rfl,rfl,rfl⟩⟩
 ·exact .bd (At_cell (getD_cell l3 _)) fun a ha=> .cd (fun _=> .ok ⟨h,e9,fun h=>by simp at h⟩) fun hb2=> .ok ⟨l1.place (ha (by simpa using hb2)).1,zero_cell,fun h=>by simp at h⟩
end
theorem pop_len {l:List Int}{n:Nat}(h1:l.length≤1000)(hn:n≤100){v:List Int×List Int×Int}(h:stk_Pop l (n:Int)=some v)(h0:v.2.2=0):n≤l.length:=by
 rcases Nat.lt_or_ge l.length n with hlt|hge
 ·exfalso
  have:stk_Pop l (n:Int)=some (l,[], -4):=by
   unfold stk_Pop stk_Pop_t
   have hw:IntKind.wrap IntKind.i64 ((l.length:Int)-n)=(l.length:Int)-n:=by rw[wi,W_of ⟨by omega,by omega⟩]
   rw[hw]
   have:stk_Pop_M1 (n:Int) ((l.length:Int)-n)=some (.inl ([], -4)):=by
    unfold stk_Pop_M1 stk_Pop_M1_t
    rw[cf (by omega),ct (by omega)]
   rw[this]
   rfl
  rw[this] at h
  cases h
  simp at h0
 ·exact hge
theorem take_len {D R:List Int}{th at_ H:Int}(hR:R.length≤64){n:Nat}(hn:n≤100){v:List Int×List Int×Int×Int×Int×List Int×Int}(h:ret_take D R th at_ H (n:Int)=some v)(h0:v.2.2.2.2.2.2=0):n≤R.length:=by
 unfold ret_take ret_take_t at h
 cases hp:stk_Pop R (n:Int) with
 |none=>rw[hp] at h;cases h
 |some p=>
  rw[hp] at h
  simp only[outOf_some] at h
  by_cases hz:p.2.2=0
  ·exact pop_len (by omega) hn hp hz
  ·rw[show(p.2.2 != 0)=true by simpa using hz] at h
   simp only[cond_true,Option.some.injEq] at h
   subst h
   simp at h0
theorem AllC_set {l:List Int}(h:AllC l){x:Int}(hx:Cell x): ∀i,AllC (l.set i x):=by
 induction l with
 |nil=>intro i;exact trivial
 |cons a l ih=>
  intro i
  cases i with
  |zero=>exact⟨hx,h.2⟩
  |succ i=>exact⟨h.1,ih h.2 i⟩
theorem Next_tot {D R:List Int}{th at_ H:Int}(h:TO D R th at_ H)(n:Int):Tot (ret_Next D R th at_ H n) fun v=>TO v.1 v.2.1 v.2.2.1 v.2.2.2.1 v.2.2.2.2.1∧Cell v.2.2.2.2.2.2∧v.2.2.1=th∧v.2.2.2.1=at_:=by
 unfold ret_Next ret_Next_t
 rw[sane_to h]
 simp only[outOf_some]
 obtain⟨l,e,l1,l2,l3,l4,l5,l6,_⟩:=take_tot (n:=2) h (by omega)
 have hR:=h.lR
 have hlen:=take_len hR (by omega) e
 rw[show((2:Nat):Int)=2 from rfl] at e
 rw[e]
 simp only[outOf_some]
 refine .cd (fun _=> .ok ⟨h,l2,rfl,rfl⟩) fun hb=> ?_
 have hz:l.2.2.2.2.2.2=0:=by simpa using hb
 have hl:=l4 hz
 have hR2:=hlen hz
 have hw:IntKind.wrap IntKind.i64 ((R.length:Int)-1)=(R.length:Int)-1:=by rw[wi,W_of ⟨by omega,by omega⟩]
 have go:Tot (cond (decide (R.length≤2147483648)) (cond (decide (0≤IntKind.wrap IntKind.i64 ((R.length:Int)-1)∧IntKind.wrap IntKind.i64 ((R.length:Int)-1)<(R.length:Int))) (cond (decide (0≤IntKind.wrap IntKind.i64 ((R.length:Int)-1)∧IntKind.wrap IntKind.i64 ((R.length:Int)-1)<(R.length:Int)))
   (some (D,List.take R.length (List.drop 0 (List.set R (0+Int.toNat (IntKind.wrap IntKind.i64 ((R.length:Int)-1))) (IntKind.wrap IntKind.i64 (List.getD R (0+Int.toNat (IntKind.wrap IntKind.i64 ((R.length:Int)-1))) 0+n)))),th,at_,H,false,(0:Int))) none) none) none) fun v=>TO v.1 v.2.1 v.2.2.1 v.2.2.2.1 v.2.2.2.2.1∧Cell v.2.2.2.2.2.2∧v.2.2.1=th∧v.2.2.2.1=at_:=by
  refine .ct (by omega) (.ct (by rw[hw];omega) (.ct (by rw[hw];omega) (.ok ?_)))
  have hl:(List.take R.length (List.drop 0 (List.set R (0+Int.toNat (IntKind.wrap IntKind.i64 ((R.length:Int)-1))) (IntKind.wrap IntKind.i64 (List.getD R (0+Int.toNat (IntKind.wrap IntKind.i64 ((R.length:Int)-1))) 0+n))))).length=R.length:=by
   rw[List.length_take,List.drop_zero,List.length_set];omega
  refine⟨⟨⟨h.lD,by rw[hl];exact hR,h.P,by rw[hl];exact h.hH⟩,h.cD,AllC_take (AllC_drop (AllC_set h.cR (wc _) _) _) _⟩,zero_cell,rfl,rfl⟩
 refine .ct (by rw[hl];decide) (.ct (by rw[hl];decide) (.cd (fun _=> .cd (fun _=> .ok ⟨l1,zero_cell,l5,l6⟩) fun _=>go) fun _=>go))
theorem AllC_rep: ∀n:Nat,AllC (List.replicate n 0)
 |0=>trivial
 |n+1=>⟨zero_cell,AllC_rep n⟩
theorem Throw_tot {D R:List Int}{th at_ H n:Int}(h:TO D R th at_ H)(hn:Cell n):Tot (ret_Throw D R th at_ H n) fun v=>TO v.1 v.2.1 v.2.2.1 v.2.2.2.1 v.2.2.2.2.1∧(v.2.2.2.2.2=false→v.2.2.1=th∧v.2.2.2.1=at_):=by
 unfold ret_Throw ret_Throw_t
 rw[sane_to h]
 simp only[outOf_some]
 refine .cd (fun _=> .ok ⟨h,fun _=>⟨rfl,rfl⟩⟩) fun h0=> ?_
 have hR:=h.lR
 have hD:=h.lD
 have h0':H≠0:=by simpa using h0
 have hH:3≤H∧H≤(R.length:Int):=by rcases h.hH with h|h;exact absurd h h0';exact h
 rw[wi,W_of (x:=H-3) ⟨by omega,by omega⟩]
 have hl:(List.take (H.toNat-(H-3).toNat) (List.drop (H-3).toNat R)).length=3:=by simp;omega
 have hcf:AllC (List.take (H.toNat-(H-3).toNat) (List.drop (H-3).toNat R)):=AllC_take (AllC_drop h.cR _) _
 rw[hl]
 refine .ct (by omega) (.ct (by decide) ?_)
 generalize List.take (H.toNat-(H-3).toNat) (List.drop (H-3).toNat R)=f at*
 refine .bd (At_cell (getD_cell hcf _)) fun a ha=> .cd (fun _=> .ok ⟨⟨⟨hD,by simp,h.P, .inl rfl⟩,h.cD,trivial⟩,fun _=>⟨rfl,rfl⟩⟩) fun hb=> .ct (by decide) ?_
 obtain⟨a1,_⟩:=ha (by simpa using hb)
 generalize hm:(if (if 63<f.getD 1 0 then 63 else f.getD 1 0)>0 then (if 63<f.getD 1 0 then 63 else f.getD 1 0) else 0)=m
 obtain⟨m1,m2⟩:0≤m∧m≤63:=by subst hm;split<;>(try split)<;>omega
 have hdeep:Tot (ret_deep D m) fun v=>AllC v.2∧v.1≤63:=by
  unfold ret_deep ret_deep_t
  refine .ct (by omega) (.ok ⟨?_,by show m.toNat≤63;omega⟩)
  exact AllC_append.2 ⟨AllC_append.2 ⟨AllC_take (AllC_rep _) _,AllC_take h.cD _⟩,AllC_drop (AllC_rep _) _⟩
 refine .bd hdeep fun d ⟨d1,d2⟩=> .ct (by simp only[List.length_singleton];omega) (.ct (by decide) (.ct (by omega) (.ct (by rw[List.length_take];omega) ?_)))
 have w:=with_tot (D:=List.take (d.1+[n].length) (List.drop 0 (List.take d.1 (List.drop 0 d.2)++[n]))) (R:=[]) (th:=a.1) (at_:=a.2.1) (H:=0) ⟨⟨by rw[List.length_take];simp only[List.length_singleton];omega,by simp,a1, .inl rfl⟩,AllC_take (AllC_drop (AllC_append.2 ⟨AllC_take (AllC_drop d1 _) _,allc1 hn⟩) _) _,trivial⟩
   (r:=List.take ((H-3).toNat-0) (List.drop 0 R)) (by rw[List.length_take];simp only[List.drop_zero];omega) (AllC_take (AllC_drop h.cR _) _)
 unfold ret_with ret_with_t at w⊢
 rw[stands_eq] at w⊢
 simp only[outOf_some] at w⊢
 obtain⟨_,_,w1,_⟩:=w
 refine .bd (Q:=fun v=>TO5 v) (.cd (fun _=> .ok ⟨⟨?_, ?_,a1, .inl rfl⟩, ?_, ?_⟩) fun hs=> .ok ⟨⟨?_, ?_,a1,of_nd hs⟩, ?_, ?_⟩) fun v hv=> .ok ⟨hv,fun h=>by simp at h⟩
 all_goals first
  |exact AllC_take (AllC_drop (AllC_append.2 ⟨AllC_take (AllC_drop d1 _) _,allc1 hn⟩) _) _
  |exact AllC_take (AllC_drop h.cR _) _
  |(show(List.take (d.1+1) _).length≤64;rw[List.length_take];omega)
  |(show(List.take _ (List.drop 0 R)).length≤64;rw[List.length_take];simp only[List.drop_zero];omega)
end Go.Proofs.Dbl
/- Plain facts about bytes: cells as eight of them; what the functions of the memory do. -/
namespace Go.Proofs.Dbl
open Go Go.TX Go.Proofs
set_option maxRecDepth 100000
set_option maxHeartbeats 0
set_option linter.unusedVariables false
set_option linter.unusedSimpArgs false
theorem two_pos (n:Nat):0<(2:Int)^n:=Int.pow_pos (by decide)
def Bytes (m:List Int):Prop:= ∀x∈m,0≤x∧x<256
def val:List Int→Int
 |[]=>0
 |c::r=>c+256*val r
theorem Bytes.tail {c:Int}{m:List Int}(h:Bytes (c::m)):Bytes m:=fun x hx=>h x (List.mem_cons_of_mem _ hx)
theorem Bytes.take {m:List Int}(h:Bytes m)(n:Nat):Bytes (m.take n):=fun x hx=>h x (List.mem_of_mem_take hx)
theorem Bytes.drop {m:List Int}(h:Bytes m)(n:Nat):Bytes (m.drop n):=fun x hx=>h x (List.mem_of_mem_drop hx)
theorem Bytes.append {m l:List Int}(h:Bytes m)(k:Bytes l):Bytes (m++l):=fun x hx=>(List.mem_append.1 hx).elim (h x) (k x)
def put (m:List Int)(a:Nat)(l:List Int):List Int:=m.take a++l++m.drop (a+l.length)
theorem put_length {m l:List Int}{a:Nat}(h:a+l.length≤m.length):(put m a l).length=m.length:=by
 unfold put;simp only[List.length_append,List.length_take,List.length_drop];omega
theorem Bytes.put {m l:List Int}(h:Bytes m)(k:Bytes l)(a:Nat):Bytes (put m a l):=((h.take a).append k).append (h.drop _)
def word (x:Int):List Int:=[x%256,x/256%256,x/65536%256,x/16777216%256,x/4294967296%256,x/1099511627776%256,x/281474976710656%256,x/72057594037927936%256]
theorem word_length (x:Int):(word x).length=8:=rfl
theorem word_bytes (x:Int):Bytes (word x):=fun c hc=>by
 simp only[word,List.mem_cons,List.not_mem_nil,or_false] at hc
 rcases hc with rfl|rfl|rfl|rfl|rfl|rfl|rfl|rfl<;>omega
theorem word_mod (x:Int):word (x%18446744073709551616)=word x:=by
 unfold word
 have e: ∀a b c d e f g h a' b' c' d' e' f' g' h':Int,a=a'→b=b'→c=c'→d=d'→e=e'→f=f'→g=g'→h=h'→[a,b,c,d,e,f,g,h]=[a',b',c',d',e',f',g',h']:=by
  intros;subst_vars;rfl
 apply e<;>omega
def slot (m:List Int)(a:Int):Int:=if 0≤a∧a+8≤m.length then (if a%8=0 then 0 else -23) else -9
def cellAt (m:List Int)(a:Nat):Int:=W (val ((m.drop a).take 8))
def spanB (m:List Int)(a n:Int):Bool:=decide (0≤a∧0≤n∧a≤m.length∧n≤m.length-a)
theorem span_eq {m:List Int}(hm:m.length≤2147483648){a n:Int}(ha:Cell a)(hn:Cell n):
  mem_span m a n=some (if spanB m a n=true then ((m.drop a.toNat).take n.toNat,true) else ([],false)):=by
 unfold Cell at ha hn
 unfold mem_span mem_span_t spanB
 by_cases h1:a<0
 ·rw[decide_eq_true h1,if_neg (by rw[decide_eq_true_eq];omega)];rfl
 ·rw[decide_eq_false h1]
  by_cases h2:n<0
  ·rw[decide_eq_true h2,if_neg (by rw[decide_eq_true_eq];omega)];rfl
  ·rw[decide_eq_false h2]
   by_cases h3:a>m.length
   ·rw[decide_eq_true h3,if_neg (by rw[decide_eq_true_eq];omega)];rfl
   ·rw[decide_eq_false h3]
    have w:IntKind.wrap IntKind.i64 ((m.length:Int)-a)=(m.length:Int)-a:=by rw[wi,W_of ⟨by omega,by omega⟩]
    rw[w]
    by_cases h4:n>(m.length:Int)-a
    ·rw[decide_eq_true h4,if_neg (by rw[decide_eq_true_eq];omega)];rfl
    ·have w2:IntKind.wrap IntKind.i64 (a+n)=a+n:=by rw[wi,W_of ⟨by omega,by omega⟩]
     rw[decide_eq_false h4,w2,decide_eq_true (show 0≤a∧a≤a+n∧a+n≤a+n∧a+n≤(m.length:Int) by omega),if_pos (by rw[decide_eq_true_eq];omega)]
     have:Int.toNat (a+n)-Int.toNat a=n.toNat:=by omega
     rw[this];rfl
theorem and_not7 {a:Int}(h0:0≤a)(h1:a≤4294967296):ibits .andNot .i64 a 7=a-a%8:=by
 rw[ibits_def]
 show IntKind.wrap .i64 (((BitVec.ofInt 64 a&&& ~~~ BitVec.ofInt 64 7).toNat:Nat):Int)=_
 obtain⟨n,rfl⟩: ∃n:Nat,a=n:=⟨a.toNat,by omega⟩
 have e:(BitVec.ofInt 64 (n:Int)&&& ~~~ BitVec.ofInt 64 7).toNat=n-n%8:=by
  have h7:(~~~ BitVec.ofInt 64 7:BitVec 64)=BitVec.ofNat 64 (2^64-8):=by decide
  have hn:(BitVec.ofInt 64 (n:Int))=BitVec.ofNat 64 n:=rfl
  rw[h7,hn,BitVec.toNat_and,BitVec.toNat_ofNat,BitVec.toNat_ofNat,Nat.mod_eq_of_lt (by omega),Nat.mod_eq_of_lt (by omega)]
  have hs:n-n%8=(n>>>3)<<<3:=by
   rw[Nat.shiftRight_eq_div_pow,Nat.shiftLeft_eq];omega
  rw[hs]
  apply Nat.eq_of_testBit_eq
  intro i
  rw[Nat.testBit_and,Nat.testBit_shiftLeft,Nat.testBit_shiftRight]
  have hc:(2^64-8:Nat)=(2^61-1)<<<3:=by decide
  rw[hc,Nat.testBit_shiftLeft,Nat.testBit_two_pow_sub_one]
  by_cases hi:3≤i
  ·rw[show 3+(i-3)=i by omega]
   by_cases h2:i-3<61
   ·simp[hi,h2]
   ·have:n.testBit i=false:=Nat.testBit_lt_two_pow (Nat.lt_of_lt_of_le (show n<2^33 by omega) (Nat.pow_le_pow_right (by omega) (by omega)))
    simp[this]
  ·simp[hi]
 rw[e,wi,W_of ⟨by omega,by omega⟩]
 omega
theorem aligned_eq {a:Int}(h0:0≤a)(h1:a≤2147483648):(a != cell_Aligned a)= !(decide (a%8=0)):=by
 unfold cell_Aligned
 have w1:IntKind.wrap IntKind.i64 (a+8)=a+8:=by rw[wi,W_of ⟨by omega,by omega⟩]
 have w2:IntKind.wrap IntKind.i64 (a+8-1)=a+7:=by rw[wi,W_of ⟨by omega,by omega⟩];omega
 rw[w1,w2,and_not7 (by omega) (by omega)]
 by_cases h:a%8=0
 ·rw[decide_eq_true h,bne_eq_false_iff_eq.2 (by omega)];rfl
 ·rw[decide_eq_false h,bne_iff_ne.2 (by omega)];rfl
theorem slot_eq {m:List Int}(hm:m.length≤2147483648){a:Int}(ha:Cell a):
  mem_slot m a=some (if slot m a=0 then ((m.drop a.toNat).take 8,0) else ([],slot m a)):=by
 unfold mem_slot mem_slot_t
 rw[span_eq hm ha ⟨by decide,by decide⟩]
 unfold slot spanB
 simp only[outOf]
 by_cases h:0≤a∧a+8≤m.length
 ·rw[if_pos (show decide (0≤a∧0≤(8:Int)∧a≤(m.length:Int)∧(8:Int)≤(m.length:Int)-a)=true by rw[decide_eq_true_eq];omega),if_pos h]
  simp only[Bool.not_true,cond_false]
  rw[aligned_eq h.1 (by omega)]
  by_cases h8:a%8=0
  ·rw[decide_eq_true h8,if_pos h8];rfl
  ·rw[decide_eq_false h8,if_neg h8];rfl
 ·rw[if_neg (show ¬decide (0≤a∧0≤(8:Int)∧a≤(m.length:Int)∧(8:Int)≤(m.length:Int)-a)=true by rw[decide_eq_true_eq];omega),if_neg h]
  rfl
theorem slot_zero {m:List Int}{a:Int}(h:slot m a=0):0≤a∧a+8≤m.length∧a%8=0:=by
 unfold slot at h
 split at h
 ·split at h
  ·omega
  ·omega
 ·omega
theorem mwith_eq {m l:List Int}(h0:m≠[])(hm:m.length≤2147483648){a:Int}(ha:0≤a)(hl:a+l.length≤m.length):mem_with m a l=some (put m a.toNat l):=by
 unfold mem_with mem_with_t
 rw[decide_eq_true hm]
 simp only[cond_true,Int.toNat_natCast,List.drop_zero]
 rw[decide_eq_true (show 0≤a∧a≤(m.length:Int)∧(m.length:Int)≤(m.length:Int) by omega)]
 simp only[cond_true]
 have e1:l.take (m.length-a.toNat)=l:=List.take_of_length_le (by omega)
 have e2:min l.length (m.length-a.toNat)=l.length:=by omega
 rw[e1,e2,Nat.zero_add]
 have:(m.take a.toNat++l++m.drop (a.toNat+l.length)).length=m.length:=put_length (by omega)
 rw[List.take_of_length_le (by omega)]
 rfl
theorem word_eq {x:Int}(hx:Cell x):mem_word x=some (word x):=by
 unfold mem_word mem_word_t
 have wx:IntKind.wrap IntKind.u64 x=x%18446744073709551616:=wu x
 have u8: ∀y:Int,IntKind.wrap IntKind.u8 y=y%256:=fun y=>IntKind.wrap_u8 y
 have step: ∀(i:Nat) (m:List Int),i<8→m.length=8→mem_word_L1_pass (x,(i:Int),m)=some (.inl (x,((i+1:Nat):Int),m.set i (x%18446744073709551616/2^(8*i)%256))):=by
  intro i m hi hm
  unfold mem_word_L1_pass mem_word_L1_t
  simp only
  have w8:IntKind.wrap IntKind.i64 ((i:Int)*8)=((8*i:Nat):Int):=by rw[wi,W_of ⟨by omega,by omega⟩];omega
  have w9:IntKind.wrap IntKind.u64 (((8*i:Nat)):Int)=((8*i:Nat):Int):=by rw[wu];omega
  have w1:IntKind.wrap IntKind.i64 ((i:Int)+1)=((i+1:Nat):Int):=by rw[wi,W_of ⟨by omega,by omega⟩];omega
  rw[decide_eq_true (show(i:Int)<8 by omega),w8,w9,decide_eq_false (by omega),Int.toNat_natCast,Int.toNat_natCast,Nat.zero_add,decide_eq_true (show(0:Int)≤i∧(i:Int)<8∧i<m.length by omega),w1,wx,u8]
  have hmn:min (8*i) 64=8*i:=by omega
  rw[hmn,Int.fdiv_eq_ediv_of_nonneg _ (Int.le_of_lt (two_pos _))]
  rfl
 have fin: ∀m:List Int,mem_word_L1_pass (x,8,m)=some (.inr m):=fun m=>rfl
 have run:mem_word_L1 (x,0,[0,0,0,0,0,0,0,0])=some (word x):=by
  unfold mem_word_L1
  refine Eq.trans (runs_next (step 0 [0,0,0,0,0,0,0,0] (by omega) rfl)) ?_
  refine Eq.trans (runs_next (step 1 _ (by omega) rfl)) ?_
  refine Eq.trans (runs_next (step 2 _ (by omega) rfl)) ?_
  refine Eq.trans (runs_next (step 3 _ (by omega) rfl)) ?_
  refine Eq.trans (runs_next (step 4 _ (by omega) rfl)) ?_
  refine Eq.trans (runs_next (step 5 _ (by omega) rfl)) ?_
  refine Eq.trans (runs_next (step 6 _ (by omega) rfl)) ?_
  refine Eq.trans (runs_next (step 7 _ (by omega) rfl)) ?_
  refine Eq.trans (runs_out (fin _)) ?_
  rw[← word_mod]
  unfold word
  simp only[List.set_cons_zero,List.set_cons_succ]
  rw[show(2:Int)^(8*0)=1 by decide,Int.ediv_one,show(2:Int)^(8*1)=256 by decide,show(2:Int)^(8*2)=65536 by decide,show(2:Int)^(8*3)=16777216 by decide,show(2:Int)^(8*4)=4294967296 by decide,
   show(2:Int)^(8*5)=1099511627776 by decide,show(2:Int)^(8*6)=281474976710656 by decide,show(2:Int)^(8*7)=72057594037927936 by decide]
 rw[run]
 rfl
theorem Put_eq {m:List Int}(hm:m.length≤2147483648){a x:Int}(ha:Cell a)(hx:Cell x):
  mem_Put m a x=some (if slot m a=0 then (put m a.toNat (word x),0) else (m,slot m a)):=by
 unfold mem_Put mem_Put_t
 rw[slot_eq hm ha]
 simp only[outOf]
 by_cases h:slot m a=0
 ·rw[if_pos h,if_pos h]
  obtain⟨h1,h2,h3⟩:=slot_zero h
  rw[word_eq hx]
  have h0:m≠[]:=by rintro rfl;simp at h2;omega
  simp only
  rw[mwith_eq h0 hm h1 (by rw[word_length];omega)]
  rfl
 ·rw[if_neg h,if_neg h,bne_iff_ne.2 h]
  rfl
theorem or_apart {v c i:Nat}(hv:v<2^(8*i))(hc:c<256)(hi:i<8):ibits .or .i64 (W (v:Int)) (W ((c:Int)*2^(8*i)))=W ((v+c*2^(8*i):Nat):Int):=by
 rw[ibits_def]
 show IntKind.wrap .i64 (((BitVec.ofInt 64 (W (v:Int))|||BitVec.ofInt 64 (W ((c:Int)*2^(8*i)))).toNat:Nat):Int)=_
 have hp:2^(8*i)≤2^56:=Nat.pow_le_pow_right (by omega) (by omega)
 have h56:2^56=72057594037927936:=by decide
 have hcp:c*2^(8*i)≤255*2^56:=Nat.mul_le_mul (by omega) hp
 have ec:(c:Int)*2^(8*i)=((c*2^(8*i):Nat):Int):=by
  rw[Int.natCast_mul,Int.natCast_pow];rfl
 have e:(BitVec.ofInt 64 (W (v:Int))|||BitVec.ofInt 64 (W ((c:Int)*2^(8*i)))).toNat=v+c*2^(8*i):=by
  rw[BitVec.toNat_or,BitVec.toNat_ofInt,BitVec.toNat_ofInt,ec]
  rw[show((2^64:Nat):Int)=18446744073709551616 by decide,mod_W,mod_W]
  have e1:((v:Int)%18446744073709551616).toNat=v:=by omega
  have e2:(((c*2^(8*i):Nat):Int)%18446744073709551616).toNat=c*2^(8*i):=by omega
  rw[e1,e2,← Nat.shiftLeft_eq,Nat.or_comm,← Nat.shiftLeft_add_eq_or_of_lt hv]
  omega
 rw[e,wi]
theorem val_nat {l:List Int}(h:Bytes l): ∃n:Nat,val l=n∧n<2^(8*l.length):=by
 induction l with
 |nil=>exact⟨0,rfl,by decide⟩
 |cons c r ih=>
  obtain⟨n,e,hn⟩:=ih h.tail
  have hc:=h c (List.mem_cons_self)
  refine⟨c.toNat+256*n,by unfold val;rw[e];omega, ?_⟩
  rw[List.length_cons,Nat.mul_add,Nat.pow_add]
  have:2^(8*1)=256:=by decide
  rw[this]
  omega
theorem val_snoc (l:List Int)(c:Int):val (l++[c])=val l+c*2^(8*l.length):=by
 induction l with
 |nil=>simp[val]
 |cons x r ih=>
  rw[List.cons_append]
  unfold val
  rw[ih,List.length_cons,Nat.mul_add,Int.pow_add]
  have:(2:Int)^(8*1)=256:=by decide
  rw[this]
  rw[Int.mul_add,← Int.mul_assoc c]
  generalize c*2^(8*r.length)=z
  omega
theorem get_loop {l:List Int}(hl:Bytes l)(h8:l.length=8)(e:Int):mem_Get_L1 (e,0,l,8,0)=some (e,W (val l)):=by
 unfold mem_Get_L1
 have hs:=runs_all (pass:=mem_Get_L1_pass) (fun i:Nat=>((e,W (val (l.take i)),l,8,(i:Int)):mem_Get_L1_D)) 8 (x:=(e,W (val l))) (fun i hi=> ?_) ?_
 ·exact hs
 ·show mem_Get_L1_pass (e,W (val (l.take i)),l,8,(i:Int))=_
  unfold mem_Get_L1_pass mem_Get_L1_t
  simp only
  have w8:IntKind.wrap IntKind.i64 ((i:Int)*8)=((8*i:Nat):Int):=by rw[wi,W_of ⟨by omega,by omega⟩];omega
  have w9:IntKind.wrap IntKind.u64 (((8*i:Nat)):Int)=((8*i:Nat):Int):=by rw[wu];omega
  have w1:IntKind.wrap IntKind.i64 ((i:Int)+1)=((i+1:Nat):Int):=by rw[wi,W_of ⟨by omega,by omega⟩];omega
  have hi':i<l.length:=by omega
  have hg:l.getD i 0=l[i]:=by rw[List.getD_eq_getElem?_getD,List.getElem?_eq_getElem hi'];rfl
  have hb:=hl l[i] (List.getElem_mem hi')
  rw[decide_eq_true (show(i:Int)<8 by omega),decide_eq_true (show(0:Int)≤i∧(i:Int)<(l.length:Int) by omega),w8,w9,decide_eq_false (by omega),Int.toNat_natCast,Int.toNat_natCast,w1,hg]
  simp only[cond_true,cond_false]
  have hmn:min (8*i) 64=8*i:=by omega
  have wc:IntKind.wrap IntKind.i64 l[i]=l[i]:=by rw[wi,W_of ⟨by omega,by omega⟩]
  rw[hmn,wc]
  obtain⟨n,en,hn⟩:=val_nat (hl.take i)
  rw[List.length_take,Nat.min_eq_left (by omega)] at hn
  obtain⟨c,ec⟩: ∃c:Nat,l[i]=c:=⟨l[i].toNat,by omega⟩
  have hor:=or_apart hn (show c<256 by omega) hi
  rw[wi,en,ec,hor]
  have ht:l.take (i+1)=l.take i++[l[i]]:=by rw[List.take_add_one,List.getElem?_eq_getElem hi'];rfl
  have hv:((n+c*2^(8*i):Nat):Int)=val (l.take (i+1)):=by
   rw[ht,val_snoc,en,ec,List.length_take,Nat.min_eq_left (by omega),Int.natCast_add,Int.natCast_mul,Int.natCast_pow];rfl
  rw[hv]
 ·show mem_Get_L1_pass (e,W (val (l.take 8)),l,8,((8:Nat):Int))=_
  rw[List.take_of_length_le (by omega)]
  rfl
theorem Get_eq {m:List Int}(hb:Bytes m)(hm:m.length≤2147483648){a:Int}(ha:Cell a):
  mem_Get m a=some (if slot m a=0 then (cellAt m a.toNat,0) else (0,slot m a)):=by
 unfold mem_Get mem_Get_t
 rw[slot_eq hm ha]
 simp only[outOf]
 by_cases h:slot m a=0
 ·rw[if_pos h,if_pos h]
  obtain⟨h1,h2,h3⟩:=slot_zero h
  have hl:((m.drop a.toNat).take 8).length=8:=by rw[List.length_take,List.length_drop];omega
  have lp:=get_loop ((hb.drop a.toNat).take 8) hl 0
  simp only[hl]
  rw[show(((8:Nat):Int))=8 from rfl,lp]
  rfl
 ·rw[if_neg h,if_neg h]
  have:mem_Get_L1 (slot m a,0,[],(([]:List Int).length:Int),0)=some (slot m a,0):=runs_out rfl
  simp only
  rw[this]
end Go.Proofs.Dbl
/- Plain facts: more functions of the memory; who may touch what. -/
namespace Go.Proofs.Dbl
open Go Go.TX Go.Proofs
set_option maxRecDepth 100000
set_option maxHeartbeats 0
set_option linter.unusedVariables false
set_option linter.unusedSimpArgs false
theorem repeat_loop (c:Int)(n:Nat)(hn:n≤8192): ∀(k b:Nat),n-b≤k→1≤b→b≤n→
  bytes_Repeat_L1 ((n:Int),(n:Int),n,(b:Int),List.replicate b c,n)=some (n,List.replicate n c,n):=by
 intro k
 induction k with
 |zero=>
  intro b hk h1 hb
  obtain rfl:b=n:=by omega
  refine runs_out ?_
  unfold bytes_Repeat_L1_pass bytes_Repeat_L1_t
  simp only
  rw[decide_eq_false (by omega)]
  rfl
 |succ k ih=>
  intro b hk h1 hb
  by_cases hlt:b<n
  ·refine(runs_next (d':=((n:Int),(n:Int),n,((b+min b (n-b):Nat):Int),List.replicate (b+min b (n-b)) c,n)) ?_).trans (ih _ (by omega) (by omega) (by omega))
   unfold bytes_Repeat_L1_pass bytes_Repeat_L1_t
   simp only
   rw[if_neg (show ¬(n:Int)<(b:Int) by omega),decide_eq_true (show(b:Int)<(n:Int) by omega)]
   simp only[Int.toNat_natCast,Nat.sub_zero,List.drop_zero,List.length_replicate,Nat.zero_add]
   have tk:List.take b (List.replicate b c)=List.replicate b c:=List.take_of_length_le (by simp)
   rw[tk,decide_eq_true (show(0:Int)≤b∧(b:Int)≤n∧(n:Int)≤n by omega),decide_eq_true (show(0:Int)≤0∧(0:Int)≤b∧(b:Int)≤n by omega),decide_eq_true (Nat.le_refl b)]
   simp only[cond_true,List.length_replicate,List.take_replicate,List.drop_replicate,List.append_assoc,List.replicate_append_replicate]
   have w:IntKind.wrap IntKind.i64 ((b:Int)+((min b (n-b):Nat):Int))=((b+min b (n-b):Nat):Int):=by rw[wi,W_of ⟨by omega,by omega⟩];omega
   rw[w,show b+min (n-b) b+(b-(b+min b (n-b)))=b+min b (n-b) by omega]
  ·obtain rfl:b=n:=by omega
   exact ih b (by omega) h1 hb
theorem repeat_eq (c:Int){n:Nat}(h1:1≤n)(hn:n≤8192):bytes_Repeat [c] (n:Int)=some (List.replicate n c):=by
 unfold bytes_Repeat bytes_Repeat_t
 have m1:bytes_Repeat_M1 (n:Int)=some ():=by
  unfold bytes_Repeat_M1 bytes_Repeat_M1_t
  rw[decide_eq_false (by omega)];rfl
 have b:bits_Mul (IntKind.wrap IntKind.u64 (([c].length:Nat):Int)) (IntKind.wrap IntKind.u64 (n:Int))=(0,(n:Int)):=by
  have h:=mul64_eq (a:=1) (b:=n) (by decide) (by decide) (by omega) (by omega)
  have w:IntKind.wrap IntKind.u64 (([c].length:Nat):Int)=1:=by rw[wu];rfl
  have w':IntKind.wrap IntKind.u64 (n:Int)=n:=by rw[wu];omega
  rw[w,w']
  unfold bits_Mul
  rw[h]
  simp only
  congr 1<;>omega
 have w1:IntKind.wrap IntKind.i64 (n:Int)=n:=by rw[wi,W_of ⟨by omega,by omega⟩]
 rw[m1,b]
 simp only[outOf]
 rw[w1]
 have m2:bytes_Repeat_M2 0 (n:Int)=some ():=by
  unfold bytes_Repeat_M2 bytes_Repeat_M2_t
  rw[decide_eq_false (by omega),decide_eq_false (by omega)];rfl
 have m3:bytes_Repeat_M3 [c] (n:Int)=some (n:Int):=by
  unfold bytes_Repeat_M3 bytes_Repeat_M3_t
  rw[decide_eq_false (by omega)];rfl
 rw[m2,m3]
 have e:(List.take 0 ([]:List Int)++List.take (n-0) [c]++List.drop (0+min [c].length (n-0)) [])=List.replicate 1 c:=by
  rw[List.drop_nil,List.append_nil,List.take_nil,List.nil_append,List.take_of_length_le (by simp;omega)];rfl
 have e2:min [c].length (n-0)=1:=by simp;omega
 simp only[Int.toNat_natCast]
 rw[e,e2,show((n:Int)==0)=false by simp;omega]
 have z2:((([c].length:Nat):Int)==0)=false:=rfl
 rw[z2,decide_eq_true (show(1:Int)≤n∧(n:Int)≤2147483648 by omega),decide_eq_true (show(0:Int)≤0∧(0:Int)≤n∧(n:Int)≤n∧(n:Int)≤n by omega)]
 simp only[cond_true,cond_false,Nat.sub_zero]
 rw[show((1:Nat):Int)=((1:Nat):Int) from rfl,repeat_loop c n hn n 1 (by omega) (by omega) h1]
 simp only[List.length_replicate,Nat.le_refl,decide_true,cond_true,List.drop_zero]
 rw[List.take_of_length_le (by simp)]
def Mem (n:Nat)(m:List Int):Prop:=Bytes m∧m.length=n
theorem Mem.put {n:Nat}{m l:List Int}(h:Mem n m)(k:Bytes l){a:Nat}(ha:a+l.length≤n):Mem n (put m a l):=⟨h.1.put k a,by rw[put_length (by rw[h.2];exact ha),h.2]⟩
theorem strOf_size (l:List Int):(strOf l).size=l.length:=by
 have g: ∀(l:List Int) (r:ByteArray),(l.foldl (fun r n=>r.push (UInt8.ofNat n.toNat)) r).size=r.size+l.length:=by
  intro l
  induction l with
  |nil=>intro r;rfl
  |cons a l ih=>intro r;rw[List.foldl_cons,ih,ByteArray.size_push,List.length_cons];omega
 unfold strOf
 rw[g]
 simp
section
variable {n:Nat}{m:List Int}(h:Mem n m)(hn:n≤5120)
include h hn
theorem Get_tot {a:Int}(ha:Cell a):Tot (mem_Get m a) fun v=>Cell v.1∧Cell v.2:=by
 rw[Get_eq h.1 (by have:=h.2;omega) ha]
 refine .ok ?_
 by_cases hs:slot m a=0
 ·rw[if_pos hs];exact⟨W_cell _,zero_cell⟩
 ·rw[if_neg hs]
  refine⟨zero_cell, ?_⟩
  show Cell (slot m a)
  unfold slot
  split
  ·split
   ·exact zero_cell
   ·exact e23
  ·exact e9
theorem Put_tot {a x:Int}(ha:Cell a)(hx:Cell x):Tot (mem_Put m a x) fun v=>Mem n v.1∧Cell v.2:=by
 rw[Put_eq (by have:=h.2;omega) ha hx]
 refine .ok ?_
 by_cases hs:slot m a=0
 ·rw[if_pos hs]
  have:=(slot_zero hs)
  exact⟨h.put (word_bytes x) (by rw[word_length,← h.2];omega),zero_cell⟩
 ·rw[if_neg hs]
  refine⟨h, ?_⟩
  show Cell (slot m a)
  unfold slot
  split
  ·split
   ·exact zero_cell
   ·exact e23
  ·exact e9
theorem span_tot {a k:Int}(ha:Cell a)(hk:Cell k):Tot (mem_span m a k) fun v=>v.2=true→(0≤a∧0≤k∧a+k≤n)∧Bytes v.1∧v.1.length=k.toNat:=by
 rw[span_eq (by have:=h.2;omega) ha hk]
 refine .ok ?_
 split
 ·rename_i hs
  have:=of_decide_eq_true hs
  have h2:=h.2
  exact fun _=>⟨⟨this.1,this.2.1,by omega⟩,(h.1.drop _).take _,by rw[List.length_take,List.length_drop];omega⟩
 ·exact fun hh=>absurd hh (by simp)
theorem with_tot' {a:Int}{l:List Int}(ha:0≤a)(hl:a+l.length≤n)(hb:Bytes l):Tot (mem_with m a l) (Mem n):=by
 by_cases h0:m=[]
 ·subst h0
  have:=h.2
  obtain rfl:n=0:=by simpa using this.symm
  obtain rfl:a=0:=by omega
  have:l=[]:=List.length_eq_zero_iff.1 (by omega)
  subst this
  exact .ok h
 ·rw[mwith_eq h0 (by have:=h.2;omega) ha (by rw[h.2];exact hl)]
  exact .ok (h.put hb (by omega))
theorem Byte_tot {a:Int}(ha:Cell a):Tot (mem_Byte m a) fun v=>Cell v.1∧Cell v.2:=by
 unfold mem_Byte mem_Byte_t
 refine .bd (span_tot h hn ha ⟨by omega,by omega⟩) fun v hv=> .cd (fun _=> .ok ⟨zero_cell,e9⟩) fun hb=> ?_
 obtain⟨h1,h2,h3⟩:=hv (by simpa using hb)
 exact .ct (by rw[h3];decide) (.ok ⟨wc _,zero_cell⟩)
theorem Fill_tot {a k x:Int}(ha:Cell a)(hk:Cell k):Tot (mem_Fill m a k x) fun v=>Mem n v.1∧Cell v.2:=by
 unfold mem_Fill mem_Fill_t
 refine .bd (span_tot h hn ha hk) fun v hv=> .cd (fun _=> .ok ⟨h,e9⟩) fun hb=> ?_
 obtain⟨⟨h1,h2,h3⟩,h4,h5⟩:=hv (by simpa using hb)
 have hr:Tot (bytes_Repeat [IntKind.wrap IntKind.u8 x] k) fun l=>l.length=k.toNat∧Bytes l:=by
  obtain⟨j,rfl⟩: ∃j:Nat,k=j:=⟨k.toNat,by omega⟩
  by_cases hj:j=0
  ·subst hj;exact .ok ⟨rfl,fun x hx=>by simp at hx⟩
  ·rw[repeat_eq _ (by omega) (by omega)]
   refine .ok ⟨by simp,fun y hy=> ?_⟩
   obtain⟨_,rfl⟩:=List.mem_replicate.1 hy
   rw[IntKind.wrap_u8];omega
 exact .bd hr fun l ⟨l1,l2⟩=> .bd (with_tot' h hn h1 (by rw[l1];omega) l2) fun w hw=> .ok ⟨hw,zero_cell⟩
theorem PutByte_tot {a x:Int}(ha:Cell a):Tot (mem_PutByte m a x) fun v=>Mem n v.1∧Cell v.2:=by
 unfold mem_PutByte mem_PutByte_t
 exact .bd (Fill_tot h hn ha ⟨by omega,by omega⟩) fun v hv=> .ok hv
theorem Move_tot {a b k:Int}(ha:Cell a)(hb:Cell b)(hk:Cell k):Tot (mem_Move m a b k) fun v=>Mem n v.1∧Cell v.2:=by
 unfold mem_Move mem_Move_t
 refine .bd (span_tot h hn ha hk) fun v hv=> .bd (span_tot h hn hb hk) fun w hw=> .cd (fun _=> .ok ⟨h,e9⟩) fun h1=> .cd (fun _=> .ok ⟨h,e9⟩) fun h2=> ?_
 obtain⟨⟨a1,a2,a3⟩,a4,a5⟩:=hv (by simpa using h1)
 obtain⟨⟨b1,b2,b3⟩,b4,b5⟩:=hw (by simpa using h2)
 exact .bd (with_tot' h hn b1 (by rw[a5];omega) a4) fun w hw=> .ok ⟨hw,zero_cell⟩
theorem MText_tot {a k:Int}(ha:Cell a)(hk:Cell k):Tot (mem_Text m a k) fun v=>v.1.size≤5120∧Cell v.2:=by
 unfold mem_Text mem_Text_t
 refine .bd (span_tot h hn ha hk) fun v hv=> .cd (fun _=> .ok ⟨by decide,e9⟩) fun hb=> .ok ⟨?_,zero_cell⟩
 obtain⟨⟨h1,h2,h3⟩,h4,h5⟩:=hv (by simpa using hb)
 show(strOf v.1).size≤5120
 rw[strOf_size];omega
theorem Swap_tot {a o x:Int}(ha:Cell a)(hx:Cell x):Tot (mem_Swap m a o x) fun v=>Mem n v.1∧Cell v.2.1∧Cell v.2.2:=by
 unfold mem_Swap mem_Swap_t
 refine .bd (Get_tot h hn ha) fun v ⟨v1,v2⟩=> .cd (fun _=> .ok ⟨h,zero_cell,v2⟩) fun _=> .cd (fun _=> .ok ⟨h,zero_cell,v2⟩) fun _=> ?_
 exact .bd (Put_tot h hn ha hx) fun w ⟨w1,w2⟩=> .ok ⟨w1,m1_cell,zero_cell⟩
end
theorem UserAt_tot (me:Int):Tot (guard_UserAt me) fun v=>v.2=true→4096≤v.1∧v.1≤4992:=by
 unfold guard_UserAt guard_UserAt_t
 refine .cd (fun _=> .ok fun h=>by simp at h) fun h1=> .cd (fun _=> .ok fun h=>by simp at h) fun h2=> .ok fun _=> ?_
 have:=of_decide_eq_false h1
 have:=of_decide_eq_false h2
 have w:IntKind.wrap .i64 (me*128)=me*128:=by rw[wi,W_of ⟨by omega,by omega⟩]
 have w':IntKind.wrap .i64 (4096+me*128)=4096+me*128:=by rw[wi,W_of ⟨by omega,by omega⟩]
 show 4096≤IntKind.wrap .i64 (4096+IntKind.wrap .i64 (me*128))∧IntKind.wrap .i64 (4096+IntKind.wrap .i64 (me*128))≤4992
 rw[w,w']
 omega
theorem User_tot (me:Int):Tot (step_User me) fun v=>4096≤v∧v≤4992:=by
 unfold step_User step_User_t
 exact .bd (UserAt_tot me) fun v hv=> .cd (fun _=> .ok ⟨by decide,by decide⟩) fun h=> .ok (hv (by simpa using h))
theorem of_tot {a:Int}(h0:0≤a)(h1:a<5120):Tot (guard_of a) fun v=>a<v.2.2∧v.2.2≤5120:=by
 unfold guard_of guard_of_t
 refine .cd (fun h=>absurd (of_decide_eq_true h) (by omega)) fun _=> .cd (fun h=>absurd (of_decide_eq_true h) (by omega)) fun _=> .cd (fun h=> .ok ?_) fun ha=> .cd (fun h=> .ok ?_) fun hb=> .ok ?_
 ·have:=of_decide_eq_true h;exact⟨this,by decide⟩
 ·have:=of_decide_eq_true h;exact⟨this,by decide⟩
 ·have:=of_decide_eq_false hb
  have w1:IntKind.wrap .i64 (a-4096)=a-4096:=by rw[wi,W_of ⟨by omega,by omega⟩]
  have d:Int.tdiv (a-4096) 128=(a-4096)/128:=Int.tdiv_eq_ediv_of_nonneg (by omega)
  show a<IntKind.wrap .i64 (4096+IntKind.wrap .i64 (IntKind.wrap .i64 (IntKind.wrap .i64 (Int.tdiv (IntKind.wrap .i64 (a-4096)) 128)+1)*128))∧IntKind.wrap .i64 (4096+IntKind.wrap .i64 (IntKind.wrap .i64 (IntKind.wrap .i64 (Int.tdiv (IntKind.wrap .i64 (a-4096)) 128)+1)*128))≤5120
  rw[w1,d]
  have w2:IntKind.wrap .i64 ((a-4096)/128)=(a-4096)/128:=by rw[wi,W_of ⟨by omega,by omega⟩]
  rw[w2]
  have w3:IntKind.wrap .i64 ((a-4096)/128+1)=(a-4096)/128+1:=by rw[wi,W_of ⟨by omega,by omega⟩]
  rw[w3]
  have w4:IntKind.wrap .i64 (((a-4096)/128+1)*128)=((a-4096)/128+1)*128:=by rw[wi,W_of ⟨by omega,by omega⟩]
  rw[w4]
  have w5:IntKind.wrap .i64 (4096+((a-4096)/128+1)*128)=4096+((a-4096)/128+1)*128:=by rw[wi,W_of ⟨by omega,by omega⟩]
  rw[w5]
  omega
theorem touches_tot (t:Int)(l:Bool)(x y:Int)(w:Bool):Tot (guard_touches t l x y w) fun _=>True:=by
 unfold guard_touches guard_touches_t
 exact .cd (fun _=> .ok trivial) fun _=> .cd (fun _=> .ok trivial) fun _=> .ok trivial
theorem may_loop (w:Bool)(t:Int)(l:Bool)(e:Int)(he:e≤5120): ∀(k:Nat) (a:Int),0≤a→e-a≤k→Tot (guard_May_L1 (a,w,e,t,l)) fun _=>True:=by
 intro k
 have out: ∀a:Int,e≤a→Tot (guard_May_L1 (a,w,e,t,l)) fun _=>True:=fun a h=>by
  refine⟨.inr (),runs_out ?_,trivial⟩
  unfold guard_May_L1_pass guard_May_L1_t
  simp only
  rw[decide_eq_false (by omega)]
  rfl
 induction k with
 |zero=>exact fun a h0 hk=>out a (by omega)
 |succ k ih=>
  intro a h0 hk
  by_cases hlt:a<e
  ·obtain⟨z,ez,z1,z2⟩:=of_tot h0 (by omega)
   obtain⟨b,eb,_⟩:=touches_tot t l z.1 z.2.1 w
   have hp:guard_May_L1_pass (a,w,e,t,l)=cond (t != -1) (cond (!b) (some (.inr (.inl false))) (some (.inl (z.2.2,w,e,t,l)))) (some (.inl (z.2.2,w,e,t,l))):=by
    unfold guard_May_L1_pass guard_May_L1_t
    simp only
    rw[decide_eq_true hlt,ez]
    simp only[outOf_some,cond_true]
    rw[eb]
    rfl
   by_cases hs:(t != -1)=true∧b=false
   ·rw[hs.1,hs.2] at hp
    exact⟨_,runs_out hp,trivial⟩
   ·have hp':guard_May_L1_pass (a,w,e,t,l)=some (.inl (z.2.2,w,e,t,l)):=by
     rw[hp]
     cases h1:(t != -1)<;>cases h2:b
     ·rfl
     ·rfl
     ·exact absurd ⟨h1,h2⟩ hs
     ·rfl
    have:=runs_next hp'
    obtain⟨v,ev,_⟩:=ih z.2.2 (by omega) (by omega)
    exact⟨v,this.trans ev,trivial⟩
  ·exact out a (by omega)
theorem May_tot (t:Int)(l:Bool){a n:Int}(ha:Cell a)(hn:Cell n)(w:Bool):Tot (guard_May t l a n w) fun v=>v=true→0≤a∧0≤n∧a+n≤5120:=by
 unfold guard_May guard_May_t
 have m1:Tot (guard_May_M1 a n) fun v=>v= .inl false∨v= .inr ()∧0≤a∧0≤n∧a+n≤5120:=by
  unfold guard_May_M1 guard_May_M1_t
  refine .cd (fun _=> .ok (.inl rfl)) fun h1=> .cd (fun _=> .ok (.inl rfl)) fun h2=> .cd (fun _=> .ok (.inl rfl)) fun h3=> .cd (fun _=> .ok (.inl rfl)) fun h4=> .ok (.inr ⟨rfl, ?_⟩)
  have g1:=of_decide_eq_false h1
  have g2:=of_decide_eq_false h2
  have g3:=of_decide_eq_false h3
  have g4:=of_decide_eq_false h4
  have:IntKind.wrap .i64 (5120-a)=5120-a:=by rw[wi,W_of ⟨by omega,by omega⟩]
  rw[this] at g4
  omega
 refine .bd m1 fun v hv=> ?_
 rcases hv with rfl|⟨rfl,h1,h2,h3⟩
 ·exact .ok fun h=>by simp at h
 ·have:IntKind.wrap .i64 (a+n)=a+n:=by rw[wi,W_of ⟨by omega,by omega⟩]
  simp only[sumOf]
  rw[this]
  refine .bd (may_loop w t l (a+n) h3 5120 a h1 (by omega)) fun v _=> ?_
  cases v with
  |inl b=>exact .ok fun _=>⟨h1,h2,h3⟩
  |inr u=>exact .ok fun _=>⟨h1,h2,h3⟩
section
variable {n:Nat}{m:List Int}(h:Mem n m)(hn:n≤5120)
include h hn
theorem Read_tot (t:Int)(l:Bool){a:Int}(ha:Cell a):Tot (guard_Read m t l a) fun v=>Cell v.1∧Cell v.2:=by
 unfold guard_Read guard_Read_t
 exact .bd (May_tot t l ha ⟨by omega,by omega⟩ _) fun b hb=> .cd (fun _=> .ok ⟨zero_cell,e9⟩) fun _=> .bd (Get_tot h hn ha) fun v hv=> .ok hv
theorem Write_tot (t:Int)(l:Bool){a x:Int}(ha:Cell a)(hx:Cell x):Tot (guard_Write m t l a x) fun v=>Mem n v.1∧Cell v.2:=by
 unfold guard_Write guard_Write_t
 exact .bd (May_tot t l ha ⟨by omega,by omega⟩ _) fun b hb=> .cd (fun _=> .ok ⟨h,e9⟩) fun _=> .bd (Put_tot h hn ha hx) fun v hv=> .ok hv
end
end Go.Proofs.Dbl
/- Plain facts: numbers as texts; doubles divided by small numbers. -/
namespace Go.Proofs.Dbl
open Go Go.TX Go.Proofs
set_option maxRecDepth 100000
set_option maxHeartbeats 0
set_option linter.unusedVariables false
set_option linter.unusedSimpArgs false
def goodB (b:Int):Bool:=decide (2≤b∧b≤36)
theorem good_eq (b:Int):num_good b=some (goodB b):=by
 unfold num_good num_good_t goodB
 by_cases h:b≥2
 ·rw[decide_eq_true h];simp only[cond_true];congr 2;simp;omega
 ·rw[decide_eq_false h];simp only[cond_false];congr 1;symm;rw[decide_eq_false_iff_not];omega
def bs (l:List UInt8):ByteArray:=⟨l.toArray⟩
theorem bs_of (s:ByteArray):s=bs s.data.toList:=by cases s;rfl
theorem bs_size (l:List UInt8):(bs l).size=l.length:=rfl
theorem bs_inj {a b:ByteArray}(h:a.data.toList=b.data.toList):a=b:=by
 rw[bs_of a,bs_of b,h]
def dchL:List UInt8:=[48,49,50,51,52,53,54,55,56,57,97,98,99,100,101,102,103,104,105,106,107,108,109,110,111,112,113,114,115,116,117,118,119,120,121,122]
def dch (v:Nat):UInt8:=dchL.getD v 0
def digs (b n:Nat):List UInt8:=if h:n<b∨b<2 then [dch n] else digs b (n/b)++[dch (n%b)]
termination_by n
decreasing_by exact Nat.div_lt_self (by omega) (by omega)
theorem digs_small {b n:Nat}(h:n<b):digs b n=[dch n]:=by rw[digs,dif_pos (.inl h)]
theorem digs_big {b n:Nat}(h: ¬n<b)(hb:2≤b):digs b n=digs b (n/b)++[dch (n%b)]:=by rw[digs,dif_neg (by omega)]
def nums (l:List UInt8):List Int:=l.map fun b=>(b.toNat:Int)
theorem strOf_nums (l:List UInt8):strOf (nums l)=bs l:=by
 have: ∀(l:List UInt8) (a:ByteArray),((nums l).foldl (fun r n=>r.push (UInt8.ofNat n.toNat)) a).data.toList=a.data.toList++l:=by
  intro l
  induction l with
  |nil=>intro a;simp[nums]
  |cons x l ih=>
   intro a
   have e:nums (x::l)=(x.toNat:Int)::nums l:=rfl
   rw[e,List.foldl_cons,ih]
   have:UInt8.ofNat ((x.toNat:Int)).toNat=x:=by simp
   rw[this]
   show(a.data.push x).toList++l=_
   simp
 apply bs_inj
 unfold strOf
 rw[this]
 rfl
theorem drop_set {m0:List Int}{k:Nat}(h:k<m0.length)(x:Int):(m0.set k x).drop k=x::m0.drop (k+1):=by
 rw[List.drop_eq_getElem_cons (by simpa using h)]
 simp[List.drop_set]
theorem rounds {D X:Type}{pass:D→Option (D ⊕ X)}{b:Nat}(hb:2≤b)(mk:Nat→Nat→List Int→D)(fin:Nat→Nat→List Int→X)
  (hs: ∀(u i:Nat) (m:List Int),b≤u→u<18446744073709551616→1≤i→i≤65→m.length=65→pass (mk u i m)=some (.inl (mk (u/b) (i-1) (m.set (i-1) ((dch (u%b)).toNat:Int)))))
  (he: ∀(u i:Nat) (m:List Int),u<b→pass (mk u i m)=some (.inr (fin u i m))):
  ∀(n u i:Nat) (m:List Int),u≤n→u<18446744073709551616→u<2^(i-1)→1≤i→i≤65→m.length=65→
   ∃(u' i':Nat) (m':List Int) (t:List UInt8),runs pass (mk u i m)=some (fin u' i' m')∧u'<b∧1≤i'∧i'≤i∧(i'=i∧u'=u∨1≤u'∧2≤i')∧m'.length=65∧digs b u=dch u'::t∧m'.drop i'=nums t++m.drop i
 |n,u,i,m,hn,hu,hp,hi1,hi2,hm=>by
  by_cases h:u<b
  ·exact⟨u,i,m,[],runs_out (he u i m h),h,hi1,Nat.le_refl _, .inl ⟨rfl,rfl⟩,hm,digs_small h,rfl⟩
  ·have h':b≤u:=by omega
   have hstep:=hs u i m h' hu hi1 hi2 hm
   have hi3:2≤i:=by
    rcases Nat.lt_or_ge i 2 with h2|h2
    ·have:i-1=0:=by omega
     rw[this] at hp;simp at hp;omega
    ·exact h2
   have hlt:u/b<2^(i-1-1):=by
    have e:2^(i-1)=2*2^(i-1-1):=by
     rw[← Nat.pow_succ'];congr 1;omega
    have h1:u/b≤u/2:=Nat.div_le_div_left hb (by omega)
    omega
   have hq:1≤u/b:=(Nat.one_le_div_iff (by omega)).2 h'
   have hdec:u/b<u:=Nat.div_lt_self (by omega) (by omega)
   have hi4:2≤i-1:=by
    rcases Nat.lt_or_ge (i-1) 2 with h2|h2
    ·have:i-1-1=0:=by omega
     rw[this] at hlt;simp at hlt;omega
    ·exact h2
   match n with
   |0=>omega
   |n+1=>
    obtain⟨u',i',m',t,r1,r2,r3,r4,r5,r6,r7,r8⟩:=rounds hb mk fin hs he n (u/b) (i-1) (m.set (i-1) ((dch (u%b)).toNat:Int)) (by omega) (by omega) hlt (by omega) (by omega) (by simpa using hm)
    refine⟨u',i',m',t++[dch (u%b)],(runs_next hstep).trans r1,r2,r3,by omega, .inr ?_,r6, ?_, ?_⟩
    ·rcases r5 with ⟨e1,e2⟩|⟨e1,e2⟩
     ·omega
     ·exact⟨e1,e2⟩
    ·rw[digs_big h hb,r7];rfl
    ·rw[r8,drop_set (by omega)]
     have:i-1+1=i:=by omega
     rw[this]
     simp[nums]
theorem table_eq:(bytesOf [48,49,50,51,52,53,54,55,56,57,97,98,99,100,101,102,103,104,105,106,107,108,109,110,111,112,113,114,115,116,117,118,119,120,121,122]).data.toList=dchL:=rfl
abbrev FX:=List Int×Int×Bool×Bool×List Int×ByteArray×Int×List Int
def fin8 (s0:List Int)(s3 s4:Bool)(s10:List Int)(s11:ByteArray)(u i:Nat)(m:List Int):FX:=(s0,(u:Int),s3,s4,s10,s11,(i:Int),m)
theorem index_ok {i:Nat}(h1:1≤i)(h2:i≤65):IntKind.wrap IntKind.i64 ((i:Int)-1)=((i-1:Nat):Int):=by
 rw[wi,W_of ⟨by omega,by omega⟩];omega
theorem loop2 {b:Nat}(hb:2≤b)(hb':b≤36)(s0:List Int)(s3 s4:Bool)(s10:List Int)(s11:ByteArray){u i:Nat}{m:List Int}(hu:u<18446744073709551616)(hp:u<2^(i-1))(h1:1≤i)(h2:i≤65)(hm:m.length=65):
  ∃(u' i':Nat) (m':List Int) (t:List UInt8),formatBits_L2 (s0,(u:Int),s3,s4,s10,s11,(i:Int),(b:Int),m)=some (fin8 s0 s3 s4 s10 s11 u' i' m')∧
   u'<b∧1≤i'∧i'≤i∧(i'=i∧u'=u∨1≤u'∧2≤i')∧m'.length=65∧digs b u=dch u'::t∧m'.drop i'=nums t++m.drop i:=by
 refine rounds hb (pass:=formatBits_L2_pass) (fun u i m=>(s0,(u:Int),s3,s4,s10,s11,(i:Int),(b:Int),m)) (fin8 s0 s3 s4 s10 s11) ?_ ?_ u u i m (Nat.le_refl _) hu hp h1 h2 hm
 ·intro u i m hbu hu h1 h2 hm
  have eq1:IntKind.wrap IntKind.u64 (Int.tdiv (u:Int) (b:Int))=((u/b:Nat):Int):=by
   have e:Int.tdiv (u:Int) (b:Int)=((u/b:Nat):Int):=by
    rw[Int.tdiv_eq_ediv_of_nonneg (by omega)];norm_cast
   rw[wu,e]
   have:=Nat.div_le_self u b
   generalize u/b=q at*
   omega
  have hmod:u%b=u-u/b*b:=by
   have:=Nat.div_add_mod u b
   rw[Nat.mul_comm] at this
   omega
  have hle:u/b*b≤u:=Nat.div_mul_le_self u b
  have hlt:u%b<b:=Nat.mod_lt _ (by omega)
  have eq2:IntKind.wrap IntKind.u64 ((u:Int)-IntKind.wrap IntKind.u64 (((u/b:Nat):Int)*(b:Int)))=((u%b:Nat):Int):=by
   have e:(((u/b:Nat):Int)*(b:Int))=((u/b*b:Nat):Int):=by norm_cast
   rw[e,wu,wu]
   omega
  show formatBits_L2_t s0 (u:Int) s3 s4 s10 s11 (i:Int) (b:Int) m _ _=_
  unfold formatBits_L2_t
  rw[eq1,eq2,index_ok h1 h2,decide_eq_true (by omega),decide_eq_false (by omega),decide_eq_true (by omega),decide_eq_true (by omega)]
  simp only[cond_true,cond_false,Int.toNat_natCast,Nat.zero_add,table_eq]
  rfl
 ·intro u i m h
  show formatBits_L2_t s0 (u:Int) s3 s4 s10 s11 (i:Int) (b:Int) m _ _=_
  unfold formatBits_L2_t
  rw[decide_eq_false (by omega)]
  rfl
theorem loop1 {b k:Nat}(hk1:1≤k)(hk2:k≤5)(hbk:b=2^k)(s0:List Int)(s3 s4:Bool)(s10:List Int)(s11:ByteArray){u i:Nat}{m:List Int}(hu:u<18446744073709551616)(hp:u<2^(i-1))(h1:1≤i)(h2:i≤65)(hm:m.length=65):
  ∃(u' i':Nat) (m':List Int) (t:List UInt8),formatBits_L1 (s0,(u:Int),s3,s4,s10,s11,(i:Int),(k:Int),(b:Int),(b:Int)-1,m)=some (fin8 s0 s3 s4 s10 s11 u' i' m')∧
   u'<b∧1≤i'∧i'≤i∧(i'=i∧u'=u∨1≤u'∧2≤i')∧m'.length=65∧digs b u=dch u'::t∧m'.drop i'=nums t++m.drop i:=by
 have hb:2≤b:=by
  rw[hbk];calc 2=2^1:=rfl
   _≤2^k:=Nat.pow_le_pow_right (by omega) hk1
 have hb':b≤32:=by
  rw[hbk];calc 2^k≤2^5:=Nat.pow_le_pow_right (by omega) hk2
   _=32:=rfl
 refine rounds hb (pass:=formatBits_L1_pass) (fun u i m=>(s0,(u:Int),s3,s4,s10,s11,(i:Int),(k:Int),(b:Int),(b:Int)-1,m)) (fin8 s0 s3 s4 s10 s11) ?_ ?_ u u i m (Nat.le_refl _) hu hp h1 h2 hm
 ·intro u i m hbu hu h1 h2 hm
  have eb:(b:Int)=2^k:=by rw[hbk];norm_cast
  have eq1:ibits BinOp.and IntKind.u64 (u:Int) ((b:Int)-1)=((u%b:Nat):Int):=by
   rw[and_u64 (by omega) (by omega) k (by rw[eb]) (by omega),← eb];norm_cast
  have eq2:Int.fdiv (u:Int) ((2:Int)^min (Int.toNat (k:Int)) (64:Nat))=((u/b:Nat):Int):=by
   have:min (Int.toNat (k:Int)) 64=k:=by simp;omega
   rw[this,← eb,fdiv_lit (by omega)];norm_cast
  have hlt:u%b<b:=Nat.mod_lt _ (by omega)
  show formatBits_L1_t s0 (u:Int) s3 s4 s10 s11 (i:Int) (k:Int) (b:Int) ((b:Int)-1) m _ _=_
  unfold formatBits_L1_t
  rw[eq1,eq2,index_ok h1 h2,decide_eq_true (by omega),decide_eq_true (by omega),decide_eq_true (by omega),decide_eq_false (by omega)]
  simp only[cond_true,cond_false,Int.toNat_natCast,Nat.zero_add,table_eq]
  rfl
 ·intro u i m h
  show formatBits_L1_t s0 (u:Int) s3 s4 s10 s11 (i:Int) (k:Int) (b:Int) ((b:Int)-1) m _ _=_
  unfold formatBits_L1_t
  rw[decide_eq_false (by omega)]
  rfl
theorem isPow_eq (b:Nat)(h1:2≤b)(h2:b≤36):isPow (b:Int)=decide (b=2∨b=4∨b=8∨b=16∨b=32):=by
 have: ∀b:Fin 37,2≤b.val→(ibits0 BinOp.and IntKind.i64 (b.val:Int) (IntKind.wrap IntKind.i64 ((b.val:Int)-(1:Int)))==(0:Int))=decide (b.val=2∨b.val=4∨b.val=8∨b.val=16∨b.val=32):=by decide+kernel
 unfold isPow
 rw[ibits_def]
 exact this ⟨b,by omega⟩ h1
theorem tz_eq (k:Nat)(h1:1≤k)(h2:k≤5):tz ((2^k:Nat):Int)=some (k:Int):=by
 unfold tz tz_t tz64 tz64_t
 simp only[ibits_def]
 match k,h1,h2 with
 |1,_,_=>decide+kernel
 |2,_,_=>decide+kernel
 |3,_,_=>decide+kernel
 |4,_,_=>decide+kernel
 |5,_,_=>decide+kernel
theorem fmtBits_eq {b:Nat}(h1:2≤b)(h2:b≤36)(h10:b≠10)(a0:List Int){u n:Nat}(hu:u<18446744073709551616)(neg:Bool)(hn:if neg=true then (n+u)%18446744073709551616=0∧n<18446744073709551616 else n=u):
  formatBits a0 (u:Int) (b:Int) neg=some ([],bs ((if neg=true then [45] else [])++digs b n)):=by
 have hn64:n<18446744073709551616:=by
  cases neg
  ·simp at hn;omega
  ·simp at hn;exact hn.2
 have m1:formatBits_M1 (b:Int)=some ():=by
  unfold formatBits_M1 formatBits_M1_t
  have:((b:Int)==10)=false:=by rw[beq_eq_false_iff_ne];omega
  rw[decide_eq_false (by omega),this,decide_eq_false (by omega)]
  rfl
 have m2:formatBits_M2 (u:Int) neg=some (n:Int):=by
  unfold formatBits_M2 formatBits_M2_t
  cases neg with
  |false=>simp at hn;rw[hn];rfl
  |true=>
   simp at hn
   simp only[cond_true]
   have e:((0:Int)-(u:Int))%18446744073709551616=(n:Int):=by omega
   rw[wu,e]
 have wb:IntKind.wrap IntKind.u64 (b:Int)=(b:Int):=by rw[wu];omega
 have key: ∀z:List Int,z.length=65→ ∃(i:Nat) (m:List Int),formatBits_M3 a0 (n:Int) (b:Int) neg false [] (bytesOf []) (65:Int) z=some (a0,neg,false,[],bytesOf [],(i:Int),m)∧1≤i∧i≤64∧m.length=65∧m.drop i=nums (digs b n):=by
  intro z hz
  have zd:z.drop 65=[]:=List.drop_eq_nil_of_le (by omega)
  have fin: ∀(u' i':Nat) (m':List Int) (t:List UInt8),u'<b→1≤i'→i'≤65→(i'=65∧u'=n∨1≤u'∧2≤i')→m'.length=65→digs b n=dch u'::t→m'.drop i'=nums t++z.drop 65→
    ∃(i:Nat) (m:List Int),(cond (decide ((0:Int)≤(u':Int)∧(u':Int)<(36:Int))) (cond (decide ((0:Int)≤IntKind.wrap IntKind.i64 ((i':Int)-(1:Int))∧IntKind.wrap IntKind.i64 ((i':Int)-(1:Int))<(65:Int)∧(0:Nat)+Int.toNat (IntKind.wrap IntKind.i64 ((i':Int)-(1:Int)))<List.length m'))
      (some (a0,neg,false,([]:List Int),bytesOf [],IntKind.wrap IntKind.i64 ((i':Int)-(1:Int)),List.set m' ((0:Nat)+Int.toNat (IntKind.wrap IntKind.i64 ((i':Int)-(1:Int)))) ((List.getD dchL (Int.toNat (u':Int)) 0).toNat:Int))) none) none)=some (a0,neg,false,([]:List Int),bytesOf [],(i:Int),m)∧1≤i∧i≤64∧m.length=65∧m.drop i=nums (digs b n):=by
   intro u' i' m' t r2 r3 r4 r5 r6 r7 r8
   refine⟨i'-1,m'.set (i'-1) ((dch u').toNat:Int), ?_,by omega,by omega,by simpa using r6, ?_⟩
   ·rw[index_ok r3 (by omega),decide_eq_true (by omega),decide_eq_true (by omega)]
    simp only[cond_true,Int.toNat_natCast,Nat.zero_add]
    rfl
   ·rw[drop_set (by omega),r7]
    have:i'-1+1=i':=by omega
    rw[this,r8,zd]
    simp[nums]
  unfold formatBits_M3 formatBits_M3_t
  rw[wb,isPow_eq b h1 h2]
  by_cases hpw:b=2∨b=4∨b=8∨b=16∨b=32
  ·obtain⟨k,hk1,hk2,hbk⟩: ∃k,1≤k∧k≤5∧b=2^k:=by
    rcases hpw with rfl|rfl|rfl|rfl|rfl
    ·exact⟨1,by omega,by omega,rfl⟩
    ·exact⟨2,by omega,by omega,rfl⟩
    ·exact⟨3,by omega,by omega,rfl⟩
    ·exact⟨4,by omega,by omega,rfl⟩
    ·exact⟨5,by omega,by omega,rfl⟩
   have htz:tz (b:Int)=some (k:Int):=by rw[hbk];exact tz_eq k hk1 hk2
   obtain⟨u',i',m',t,r1,r2,r3,r4,r5,r6,r7,r8⟩:=loop1 hk1 hk2 hbk a0 neg false [] (bytesOf []) (u:=n) (i:=65) (m:=z) hn64 (by simpa using hn64) (by omega) (by omega) hz
   have wk:IntKind.wrap IntKind.u64 (k:Int)=(k:Int):=by rw[wu];omega
   have wb1:IntKind.wrap IntKind.u64 ((b:Int)-1)=(b:Int)-1:=by rw[wu];omega
   rw[decide_eq_true hpw,htz]
   simp only[cond_true,outOf,wk,wb1]
   have r1':formatBits_L1 (a0,(n:Int),neg,false,[],bytesOf [],(65:Int),(k:Int),(b:Int),(b:Int)-1,z)=some (fin8 a0 neg false [] (bytesOf []) u' i' m'):=r1
   rw[r1']
   exact fin u' i' m' t r2 r3 r4 r5 r6 r7 r8
  ·obtain⟨u',i',m',t,r1,r2,r3,r4,r5,r6,r7,r8⟩:=loop2 h1 h2 a0 neg false [] (bytesOf []) (u:=n) (i:=65) (m:=z) hn64 (by simpa using hn64) (by omega) (by omega) hz
   rw[decide_eq_false hpw]
   simp only[cond_false,outOf]
   have r1':formatBits_L2 (a0,(n:Int),neg,false,[],bytesOf [],(65:Int),(b:Int),z)=some (fin8 a0 neg false [] (bytesOf []) u' i' m'):=r1
   rw[r1']
   exact fin u' i' m' t r2 r3 r4 r5 r6 r7 r8
 unfold formatBits formatBits_t
 rw[m1,m2]
 simp only[outOf]
 obtain⟨i,m,e1,e2,e3,e4,e5⟩:=key [(0:Int),(0:Int),(0:Int),(0:Int),(0:Int),(0:Int),(0:Int),(0:Int),(0:Int),(0:Int),(0:Int),(0:Int),(0:Int),(0:Int),(0:Int),(0:Int),(0:Int),(0:Int),(0:Int),(0:Int),(0:Int),(0:Int),(0:Int),(0:Int),(0:Int),(0:Int),(0:Int),(0:Int),(0:Int),(0:Int),(0:Int),(0:Int),(0:Int),(0:Int),(0:Int),(0:Int),(0:Int),(0:Int),(0:Int),(0:Int),(0:Int),(0:Int),(0:Int),(0:Int),(0:Int),(0:Int),(0:Int),(0:Int),(0:Int),(0:Int),(0:Int),(0:Int),(0:Int),(0:Int),(0:Int),(0:Int),(0:Int),(0:Int),(0:Int),(0:Int),(0:Int),(0:Int),(0:Int),(0:Int),(0:Int)] (by decide)
 rw[e1]
 simp only
 cases neg with
 |false=>
  simp only[cond_false]
  rw[decide_eq_true e4,decide_eq_true (by omega)]
  simp only[cond_true,Int.toNat_natCast]
  rw[List.take_of_length_le (by simp;omega),e5,strOf_nums]
  rfl
 |true=>
  rw[index_ok (by omega) (by omega),decide_eq_true (by omega)]
  simp only[cond_true,cond_false,Int.toNat_natCast,Nat.zero_add]
  rw[decide_eq_true (by simpa using e4),decide_eq_true (by omega)]
  simp only[cond_true]
  rw[List.take_of_length_le (by simp;omega),drop_set (by omega)]
  have:i-1+1=i:=by omega
  rw[this,e5]
  have:(45:Int)::nums (digs b n)=nums (45::digs b n):=rfl
  rw[this,strOf_nums]
  rfl
theorem dch_ascii (v:Nat):(dch v).toNat<128:=by
 have: ∀c∈dchL,c.toNat<128:=by decide
 unfold dch
 rw[List.getD_eq_getElem?_getD]
 cases h:dchL[v]? with
 |none=>decide
 |some c=>exact this c (List.mem_of_getElem? h)
theorem digs_ascii (b:Nat): ∀(n:Nat),∀ c∈digs b n,c.toNat<128:=by
 intro n
 induction n using Nat.strongRecOn with
 |ind n ih=>
  intro c hc
  rw[digs] at hc
  split at hc
  ·simp only[List.mem_singleton] at hc;subst hc;exact dch_ascii _
  ·rename_i h
   rcases List.mem_append.1 hc with h1|h1
   ·exact ih _ (Nat.div_lt_self (by omega) (by omega)) c h1
   ·simp only[List.mem_singleton] at h1;subst h1;exact dch_ascii _
theorem digs_length (b:Nat): ∀(k n:Nat),n<2^k→(digs b n).length≤k+1
 |0,n,h=>by
  have:n=0:=by simpa using h
  subst this
  rw[digs]
  split
  ·simp
  ·rename_i h2;omega
 |k+1,n,h=>by
  rw[digs]
  split
  ·simp
  ·rename_i h2
   have:n/b≤n/2:=Nat.div_le_div_left (by omega) (by omega)
   have e:2^(k+1)=2*2^k:=Nat.pow_succ'
   have:=digs_length b k (n/b) (by omega)
   simp;omega
theorem upperS_bs (l:List UInt8):upperS (bs l)=bs (Lib.toUpperA l):=rfl
theorem ascii_bs (l:List UInt8):ascii (bs l)=l.all fun b=>decide (b.toNat<128):=rfl
def caps (b n:Nat):List UInt8:=Lib.toUpperA (digs b n)
theorem fmtUint_eq {b:Nat}(h1:2≤b)(h2:b≤36)(h10:b≠10){u:Nat}(hu:u<18446744073709551616):fmtUint (u:Int) (b:Int)=some (bs (digs b u)):=by
 unfold fmtUint fmtUint_t fmtUint0 fmtUint0_t
 have:((b:Int)==10)=false:=by rw[beq_eq_false_iff_ne];omega
 rw[this]
 simp only[cond_false]
 rw[fmtBits_eq h1 h2 h10 [] hu false rfl]
 rfl
theorem fmtInt_eq {b:Nat}(h1:2≤b)(h2:b≤36)(h10:b≠10){n:Int}(hn:Cell n):
  fmtInt n (b:Int)=some (bs ((if n<0 then [45] else [])++digs b n.natAbs)):=by
 unfold Cell at hn
 unfold fmtInt fmtInt_t fmtInt0 fmtInt0_t
 have:((b:Int)==10)=false:=by rw[beq_eq_false_iff_ne];omega
 rw[this]
 simp only[cond_false]
 have wn:IntKind.wrap IntKind.u64 n=((n%18446744073709551616).toNat:Int):=by rw[wu];omega
 rw[wn]
 by_cases h:n<0
 ·rw[decide_eq_true h,fmtBits_eq h1 h2 h10 [] (n:=n.natAbs) (by omega) true (by simp;omega),if_pos h]
  rfl
 ·rw[decide_eq_false h,fmtBits_eq h1 h2 h10 [] (n:=n.natAbs) (by omega) false (by simp;omega),if_neg h]
  rfl
theorem upper_ok {l:List UInt8}(h1: ∀c∈l,c.toNat<128)(h2:l.length≤140737488355328):(ascii (bs l)&&decide (ByteArray.size (bs l)≤(140737488355328:Nat)))=true:=by
 rw[ascii_bs,Bool.and_eq_true,List.all_eq_true]
 exact⟨fun c hc=>decide_eq_true (h1 c hc),decide_eq_true h2⟩
theorem UText_ne {b:Nat}(h1:2≤b)(h2:b≤36)(h10:b≠10)(n:Int):num_UText n (b:Int)=some (bs (caps b (n%18446744073709551616).toNat)):=by
 unfold num_UText num_UText_t
 have hg:goodB (b:Int)=true:=decide_eq_true (by omega)
 have wn:IntKind.wrap IntKind.u64 n=((n%18446744073709551616).toNat:Int):=by rw[wu];omega
 rw[good_eq,hg,wn,fmtUint_eq h1 h2 h10 (by omega)]
 simp only[outOf,Bool.not_true,cond_false]
 rw[upper_ok (digs_ascii _ _) (by have:=digs_length b 64 (n%18446744073709551616).toNat (by omega);omega)]
 rfl
theorem Text_ne {b:Nat}(h1:2≤b)(h2:b≤36)(h10:b≠10){n:Int}(hn:Cell n):num_Text n (b:Int)=some (bs ((if n<0 then [45] else [])++caps b n.natAbs)):=by
 unfold num_Text num_Text_t
 have hg:goodB (b:Int)=true:=decide_eq_true (by omega)
 rw[good_eq,hg,fmtInt_eq h1 h2 h10 hn]
 simp only[outOf,Bool.not_true,cond_false]
 have hl:(digs b n.natAbs).length≤65:=digs_length b 64 _ (by unfold Cell at hn;omega)
 rw[upper_ok (l:=(if n<0 then [45] else [])++digs b n.natAbs) (fun c hc=>by
  rcases List.mem_append.1 hc with h|h
  ·split at h
   ·simp only[List.mem_singleton] at h;subst h;decide
   ·cases h
  ·exact digs_ascii _ _ c h) (by
  simp only[List.length_append]
  split<;>simp<;>omega)]
 simp only[cond_true]
 rw[upperS_bs]
 unfold caps
 split<;>rfl
theorem dch_ten {v:Nat}(h:v<10):dch v=UInt8.ofNat (48+v):=by
 have: ∀v:Fin 10,dch v.val=UInt8.ofNat (48+v.val):=by decide
 exact this ⟨v,h⟩
theorem dec_digs (u:Nat):Lib.decDigits u=digs 10 u:=by
 induction u using Nat.strongRecOn with
 |ind u ih=>
  by_cases h:u<10
  ·rw[Lib.decDigits_one h,digs_small h,dch_ten h]
  ·rw[Lib.decDigits,dif_neg h,digs_big h (by omega),ih _ (by omega),dch_ten (Nat.mod_lt _ (by omega))]
theorem small_eq {i:Nat}(h:i<100):small (i:Int)=some (bs (digs 10 i)):=by
 have: ∀i:Fin 100,small_t (γ:=ByteArray) (i.val:Int) some=some (bs (if i.val<10 then [UInt8.ofNat (48+i.val)] else [UInt8.ofNat (48+i.val/10),UInt8.ofNat (48+i.val%10)])):=by decide+kernel
 have h1:=this ⟨i,h⟩
 have h2:small (i:Int)=small_t (γ:=ByteArray) (i:Int) some:=rfl
 rw[h2,h1,← dec_digs]
 by_cases h3:i<10
 ·rw[Lib.decDigits_one h3];simp[h3]
 ·rw[Lib.decDigits_two h3 h];simp[h3]
theorem ten_at: ∀i:Fin 20,tabTen.getD i.val 0=((10^i.val:Nat):Int):=by decide+kernel
theorem numDigits_val {u:Nat}(h1:1≤u)(h2:u<18446744073709551616):numDigits (u:Int)=some (Lib.nDigits u:Int)∧Lib.nDigits u≤20:=by
 obtain⟨e1,e2⟩:=Lib.numDigits_eq u h1 h2
 have hL:Lib.bitLen u≤64:=Lib.bitLen_le u 64 (Nat.le_refl _) h2
 have hn:Lib.nDigits u≤20:=by rw[← e1];split<;>omega
 refine⟨?_,hn⟩
 unfold numDigits numDigits_t
 have hl:log10p (held ((Lib.bitLen (Int.toNat (u:Int)):Nat):Int))=(Lib.l10 (Lib.bitLen u):Int):=by
  rw[held_is,Int.toNat_natCast]
  unfold log10p Lib.l10
  generalize Lib.bitLen u=L at hL
  rw[wi,W_of ⟨by omega,by omega⟩,fdiv_lit (by decide)]
  omega
 rw[hl,decide_eq_true (by omega),decide_eq_true (by omega)]
 simp only[cond_true,Nat.zero_add,Int.toNat_natCast]
 have ht:=ten_at ⟨Lib.l10 (Lib.bitLen u),by omega⟩
 simp only at ht
 rw[ht]
 by_cases hb:10^Lib.l10 (Lib.bitLen u)≤u
 ·rw[if_pos hb] at e1
  rw[decide_eq_true (by exact_mod_cast hb)]
  show some (IntKind.wrap IntKind.i64 ((Lib.l10 (Lib.bitLen u):Int)+1))=_
  rw[wi,W_of ⟨by omega,by omega⟩]
  exact congrArg some (by omega)
 ·rw[if_neg hb] at e1
  rw[decide_eq_false (by exact_mod_cast hb)]
  show some (IntKind.wrap IntKind.i64 ((Lib.l10 (Lib.bitLen u):Int)+0))=_
  rw[wi,W_of ⟨by omega,by omega⟩]
  exact congrArg some (by omega)
theorem dec10_nums (u:Nat):dec10 (Lib.nDigits u) (u:Int)=nums (digs 10 u):=by
 rw[← dec_digs,Lib.decDigits_eq]
 unfold dec10 nums
 rw[List.map_map,Int.toNat_natCast]
 rfl
theorem mid (z:List Int){i n:Nat}(u:Int)(h:i+n≤z.length):((z.take i++dec10 n u++z.drop (i+n)).drop i).take n=dec10 n u:=by
 have h1:(z.take i).length=i:=by simp;omega
 rw[List.append_assoc,List.drop_append_of_le_length (by omega),List.drop_eq_nil_of_le (by omega),List.nil_append,List.take_append_of_le_length (by rw[dec10_length];omega),List.take_of_length_le (by rw[dec10_length];omega)]
theorem fmtUint_ten {u:Nat}(hu:u<18446744073709551616):fmtUint (u:Int) 10=some (bs (digs 10 u)):=by
 unfold fmtUint fmtUint_t fmtUint0 fmtUint0_t
 have:((10:Int)==10)=true:=rfl
 rw[this]
 simp only[cond_true]
 by_cases h:u<100
 ·rw[decide_eq_true (by omega),wi,W_of ⟨by omega,by omega⟩,small_eq h]
  rfl
 ·obtain⟨e1,e2⟩:=numDigits_val (u:=u) (by omega) hu
  have hp:=Lib.lt_pow_nDigits u
  have hq:=Lib.nDigits_pos u
  rw[decide_eq_false (by omega),e1]
  simp only[cond_false,outOf]
  have hz: ∀z:List Int,z.length=24→(cond (decide ((0:Int)≤(0:Int)∧(0:Int)≤(Lib.nDigits u:Int)∧(Lib.nDigits u:Int)≤(24:Int))) (cond (decide ((0:Int)≤(u:Int)∧(u:Int)<(18446744073709551616:Int)∧Int.toNat (u:Int)<(10:Nat)^(Int.toNat (Lib.nDigits u:Int)-(0:Nat))∧(0:Nat)<Int.toNat (Lib.nDigits u:Int)-(0:Nat)∧(0:Nat)+(Int.toNat (Lib.nDigits u:Int)-(0:Nat))≤(24:Nat)∧Int.toNat (Lib.nDigits u:Int)-(0:Nat)<(4611686018427387904:Nat)))
    (cond (decide (List.length (List.take (0:Nat) z++dec10 (Int.toNat (Lib.nDigits u:Int)-(0:Nat)) (u:Int)++List.drop ((0:Nat)+(Int.toNat (Lib.nDigits u:Int)-(0:Nat))) z)=(24:Nat))) (cond (decide ((0:Int)≤(0:Int)∧(0:Int)≤(Lib.nDigits u:Int)∧(Lib.nDigits u:Int)≤(24:Int)))
     (some (strOf (List.take (Int.toNat (Lib.nDigits u:Int)-(0:Nat)) (List.drop (0:Nat) (List.take (0:Nat) z++dec10 (Int.toNat (Lib.nDigits u:Int)-(0:Nat)) (u:Int)++List.drop ((0:Nat)+(Int.toNat (Lib.nDigits u:Int)-(0:Nat))) z))))) none) none) none) none)=some (bs (digs 10 u)):=by
   intro z hz
   have hn:Int.toNat (Lib.nDigits u:Int)-0=Lib.nDigits u:=by simp
   rw[hn,Int.toNat_natCast,decide_eq_true (show(0:Int)≤0∧(0:Int)≤(Lib.nDigits u:Int)∧(Lib.nDigits u:Int)≤(24:Int) by omega),decide_eq_true (by omega),decide_eq_true (by simp[dec10_length];omega)]
   simp only[cond_true]
   rw[mid z _ (by omega),dec10_nums,strOf_nums]
  have h24:=hz [(0:Int),(0:Int),(0:Int),(0:Int),(0:Int),(0:Int),(0:Int),(0:Int),(0:Int),(0:Int),(0:Int),(0:Int),(0:Int),(0:Int),(0:Int),(0:Int),(0:Int),(0:Int),(0:Int),(0:Int),(0:Int),(0:Int),(0:Int),(0:Int)] rfl
  rw[h24]
theorem UText_eq {b:Nat}(h1:2≤b)(h2:b≤36)(n:Int):num_UText n (b:Int)=some (bs (caps b (n%18446744073709551616).toNat)):=by
 by_cases h10:b=10
 ·subst h10
  unfold num_UText num_UText_t
  have hg:goodB ((10:Nat):Int)=true:=rfl
  have wn:IntKind.wrap IntKind.u64 n=((n%18446744073709551616).toNat:Int):=by rw[wu];omega
  have ht:=fmtUint_ten (u:=(n%18446744073709551616).toNat) (by omega)
  rw[good_eq,hg,wn]
  simp only[outOf,Bool.not_true,cond_false]
  rw[show(((10:Nat):Int))=10 from rfl,ht]
  simp only[outOf]
  rw[upper_ok (digs_ascii _ _) (by have:=digs_length 10 64 (n%18446744073709551616).toNat (by omega);omega)]
  rfl
 ·exact UText_ne h1 h2 h10 n
theorem or_far64 {x y:Int}(k:Nat)(hk:k<64)(hx:0≤x)(hx':x*2^k<18446744073709551616)(hy:0≤y)(hy':y<2^k):ibits .or .u64 (x*2^k) y=x*2^k+y:=by
 obtain⟨a,rfl⟩: ∃a:Nat,x=a:=⟨x.toNat,by omega⟩
 obtain⟨b,rfl⟩: ∃b:Nat,y=b:=⟨y.toNat,by omega⟩
 have ek:((2:Int)^k)=((2^k:Nat):Int):=(Int.natCast_pow 2 k).symm
 have e:((a:Int)*2^k)=((a*2^k:Nat):Int):=by rw[Int.natCast_mul,ek]
 have hb:b<2^k:=by rw[ek] at hy';exact Int.ofNat_lt.1 hy'
 rw[e] at hx'⊢
 have hp:2^k≤2^63:=Nat.pow_le_pow_right (by omega) (by omega)
 have h63:(2:Nat)^63=9223372036854775808:=rfl
 have hsum:a*2^k+b<18446744073709551616:=by
  have h1:a*2^k<18446744073709551616:=by omega
  have h2:a*2^k+2^k≤18446744073709551616:=by
   have:(18446744073709551616:Nat)=2^(64-k)*2^k:=by
    rw[← Nat.pow_add,Nat.sub_add_cancel (by omega)]
   rw[this] at h1⊢
   have h3:a<2^(64-k):=Nat.lt_of_mul_lt_mul_right h1
   have h4:(a+1)*2^k≤2^(64-k)*2^k:=Nat.mul_le_mul_right _ h3
   rw[Nat.add_mul] at h4
   omega
  omega
 rw[ibits_def]
 show IntKind.wrap .u64 (((BitVec.ofInt 64 ((a*2^k:Nat):Int)|||BitVec.ofInt 64 (b:Int)).toNat:Nat):Int)=_
 rw[BitVec.toNat_or]
 have e1:(BitVec.ofInt 64 ((a*2^k:Nat):Int)).toNat=a*2^k:=by
  rw[BitVec.toNat_ofInt];omega
 have e2:(BitVec.ofInt 64 (b:Int)).toNat=b:=by
  rw[BitVec.toNat_ofInt];omega
 rw[e1,e2,wu]
 have e3:a*2^k|||b=a*2^k+b:=by
  rw[← Nat.shiftLeft_eq,Nat.shiftLeft_add_eq_or_of_lt hb]
 rw[e3]
 omega
theorem bitLen_small: ∀b:Fin 37,2≤b.val→2≤Lib.bitLen b.val∧Lib.bitLen b.val≤6∧2^(Lib.bitLen b.val-1)≤b.val∧b.val<2^Lib.bitLen b.val:=by decide+kernel
theorem lz64_eq {b:Nat}(h1:2≤b)(h2:b≤36):lz64 (b:Int)=some ((64-Lib.bitLen b:Nat):Int):=by
 obtain⟨l1,l2,_,_⟩:=bitLen_small ⟨b,by omega⟩ h1
 simp only at l1 l2
 unfold lz64 lz64_t
 have c1:decide ((0:Int)≤(b:Int)∧(b:Int)≤(18446744073709551615:Int))=true:=decide_eq_true (by omega)
 rw[c1,held_is,Int.toNat_natCast,wi]
 simp only[cond_true]
 generalize Lib.bitLen b=L at l1 l2
 have e:W ((64:Int)-(L:Int))=((64-L:Nat):Int):=by
  rw[W_of ⟨by omega,by omega⟩];omega
 rw[e]
theorem div_core {hi lo b D P Q:Int}(hP:P=D*4294967296)(hPQ:P*Q=18446744073709551616)(hD:0<D)(hQ:0<Q)(hb:0<b)(h0:0≤hi)(h1:hi<b)(l0:0≤lo)(l1:lo<18446744073709551616):
  let U:=hi*P+lo/Q
  let d:=b*D
  let t:=(lo*P)%18446744073709551616
  let V:=U%d*4294967296+t/4294967296
  (U/d*4294967296+V/d)=(hi*18446744073709551616+lo)/b∧(V%d*4294967296+t%4294967296)/P=(hi*18446744073709551616+lo)%b:=by
 intro U d t V
 have hd:0<d:=Int.mul_pos hb hD
 have eU:=Int.emod_add_mul_ediv U d
 have eV:=Int.emod_add_mul_ediv V d
 have et:=Int.emod_add_mul_ediv t 4294967296
 have rV0:=Int.emod_nonneg V (b:=d) (by omega)
 have rV1:=Int.emod_lt_of_pos V hd
 have rt0:=Int.emod_nonneg t (b:=4294967296) (by omega)
 have rt1:=Int.emod_lt_of_pos t (b:=4294967296) (by omega)
 have hPpos:0<P:=by omega
 
 have elo:=Int.emod_add_mul_ediv lo Q
 have q0:=Int.emod_nonneg lo (b:=Q) (by omega)
 have q1:=Int.emod_lt_of_pos lo hQ
 have et2:t=lo%Q*P:=by
  have h:lo*P=lo%Q*P+18446744073709551616*(lo/Q):=by
   calc lo*P=(lo%Q+Q*(lo/Q))*P:=by rw[elo]
    _=lo%Q*P+(P*Q)*(lo/Q):=by rw[Int.add_mul];congr 1;rw[Int.mul_comm P Q,Int.mul_assoc,Int.mul_assoc,Int.mul_comm (lo/Q) P]
    _=_:=by rw[hPQ]
  have hlt:lo%Q*P<18446744073709551616:=by
   rw[← hPQ,Int.mul_comm P Q]
   exact Int.mul_lt_mul_of_pos_right q1 hPpos
  have hge:0≤lo%Q*P:=Int.mul_nonneg q0 (by omega)
  show lo*P%18446744073709551616=_
  rw[h,Int.add_mul_emod_self_left,Int.emod_eq_of_lt hge hlt]
 have eM:(hi*18446744073709551616+lo)*P=U*18446744073709551616+t:=by
  show _=(hi*P+lo/Q)*18446744073709551616+t
  rw[et2,Int.add_mul,Int.add_mul]
  have:lo*P=lo/Q*18446744073709551616+lo%Q*P:=by
   calc lo*P=(lo%Q+Q*(lo/Q))*P:=by rw[elo]
    _=lo%Q*P+(lo/Q)*(P*Q):=by rw[Int.add_mul];congr 1;rw[Int.mul_comm P Q,Int.mul_comm Q (lo/Q),Int.mul_assoc]
    _=_:=by rw[hPQ];omega
  rw[this]
  have:hi*18446744073709551616*P=hi*P*18446744073709551616:=by rw[Int.mul_assoc,Int.mul_assoc,Int.mul_comm P]
  omega
 have key:(hi*18446744073709551616+lo)*P=(U/d*4294967296+V/d)*b*P+(V%d*4294967296+t%4294967296):=by
  have e1:(U/d*4294967296+V/d)*b*P=(U/d*4294967296+V/d)*d*4294967296:=by
   rw[hP]
   show _=(U/d*4294967296+V/d)*(b*D)*4294967296
   rw[Int.mul_assoc,Int.mul_assoc,Int.mul_assoc]
  have e2:(U/d*4294967296+V/d)*d=d*(U/d)*4294967296+d*(V/d):=by
   rw[Int.add_mul,Int.mul_comm (V/d) d];congr 1
   rw[Int.mul_comm (U/d) 4294967296,Int.mul_assoc,Int.mul_comm (U/d) d,Int.mul_comm]
  rw[eM,e1,e2]
  have eV':V=U%d*4294967296+t/4294967296:=rfl
  generalize d*(U/d)=x1 at*
  generalize d*(V/d)=x2 at*
  omega
 have hR0:0≤V%d*4294967296+t%4294967296:=by omega
 have hR1:V%d*4294967296+t%4294967296<b*P:=by
  have:b*P=d*4294967296:=by rw[hP];show _=b*D*4294967296;rw[Int.mul_assoc]
  rw[this];omega
 generalize U/d*4294967296+V/d=q at*
 generalize V%d*4294967296+t%4294967296=R at*
 have hR:R=(hi*18446744073709551616+lo-q*b)*P:=by rw[Int.sub_mul];omega
 have hdiv:R/P=hi*18446744073709551616+lo-q*b:=by rw[hR];exact Int.mul_ediv_cancel _ (by omega)
 have r0:0≤R/P:=Int.ediv_nonneg hR0 (by omega)
 have r1:R/P<b:=Int.ediv_lt_of_lt_mul hPpos hR1
 have em:hi*18446744073709551616+lo=R/P+b*q:=by rw[hdiv,Int.mul_comm b q];omega
 refine⟨?_, ?_⟩
 ·rw[em,Int.add_mul_ediv_left _ _ (by omega),Int.ediv_eq_zero_of_lt r0 r1];omega
 ·conv=>rhs;rw[em]
  rw[Int.add_mul_emod_self_left,Int.emod_eq_of_lt r0 r1]
theorem loopA {Y s d U a1 a0 q r:Int}(hq:q<4294967296):div64_L1 (Y,s,d,0,U,a1,a0,q,r)=some (Y,s,d,0,U,a1,a0,q):=by
 refine runs_out ?_
 show div64_L1_t Y s d 0 U a1 a0 q r _ _=_
 unfold div64_L1_t
 have h: ¬(IntKind.wrap IntKind.u64 (q*0)>IntKind.wrap IntKind.u64 (IntKind.wrap IntKind.u64 ((4294967296:Int)*r)+a1)):=by
  rw[wu,wu,wu];omega
 rw[decide_eq_false (show ¬q≥4294967296 by omega),decide_eq_false h]
 rfl
theorem loopB {Y s d a0 q1 r V q:Int}(hq:q<4294967296):div64_L2 (Y,s,d,0,a0,q1,r,V,q)=some (Y,s,a0,q1,V,q):=by
 refine runs_out ?_
 show div64_L2_t Y s d 0 a0 q1 r V q _ _=_
 unfold div64_L2_t
 have h: ¬(IntKind.wrap IntKind.u64 (q*0)>IntKind.wrap IntKind.u64 (IntKind.wrap IntKind.u64 ((4294967296:Int)*r)+a0)):=by
  rw[wu,wu,wu];omega
 rw[decide_eq_false (show ¬q≥4294967296 by omega),decide_eq_false h]
 rfl
theorem wrap3 (x y z:Int):IntKind.wrap IntKind.u64 (IntKind.wrap IntKind.u64 (IntKind.wrap IntKind.u64 x+y)-IntKind.wrap IntKind.u64 z)=(x+y-z)%18446744073709551616:=by
 simp only[wu];omega
theorem div64_eq {hi lo:Int}{b:Nat}(b1:2≤b)(b2:b≤36)(h0:0≤hi)(h1:hi<b)(l0:0≤lo)(l1:lo<18446744073709551616):
  div64 hi lo (b:Int)=some ((hi*18446744073709551616+lo)/b,(hi*18446744073709551616+lo)%b):=by
 have m1:div64_M1 (b:Int)=some ():=by
  unfold div64_M1 div64_M1_t
  have:((b:Int)==0)=false:=by rw[beq_eq_false_iff_ne];omega
  rw[this];rfl
 have m2:div64_M2 hi (b:Int)=some ():=by
  unfold div64_M2 div64_M2_t
  rw[decide_eq_false (by omega)];rfl
 unfold div64 div64_t
 rw[m1,m2]
 simp only[outOf]
 by_cases hz:hi=0
 ·subst hz
  have e0:((0:Int)==0)=true:=rfl
  have eb:decide ((b:Int)=0)=false:=decide_eq_false (by omega)
  simp only[e0,eb,cond_true,cond_false]
  rw[Int.tdiv_eq_ediv_of_nonneg l0,Int.tmod_eq_emod_of_nonneg l0,wu]
  have hq:0≤lo/(b:Int):=Int.ediv_nonneg l0 (by omega)
  have hq2:lo/(b:Int)≤lo:=Int.ediv_le_self _ l0
  rw[Int.emod_eq_of_lt hq (by omega)]
  simp
 ·have e0:(hi==0)=false:=by rw[beq_eq_false_iff_ne];exact hz
  obtain⟨l1',l2',l3',l4'⟩:=bitLen_small ⟨b,by omega⟩ b1
  simp only at l1' l2' l3' l4'
  rw[e0,lz64_eq b1 b2]
  simp only[cond_false]
  generalize Lib.bitLen b=L at l1' l2' l3' l4'
  obtain⟨s,hs,hs2⟩: ∃s:Nat,s=64-L∧58≤s∧s≤62:=⟨64-L,rfl,by omega,by omega⟩
  rw[← hs]
  obtain⟨P,D,Q,eP,eQ,hP,hPQ,hD,hQ,hbQ⟩: ∃P D Q:Int,(2:Int)^s=P∧(2:Int)^(64-s)=Q∧P=D*4294967296∧P*Q=18446744073709551616∧0<D∧0<Q∧(b:Int)<Q:=by
   have hL:L=6∨L=5∨L=4∨L=3∨L=2:=by omega
   rcases hL with rfl|rfl|rfl|rfl|rfl
   ·subst hs;exact⟨288230376151711744,67108864,64,by decide,by decide,by decide,by decide,by decide,by decide,by omega⟩
   ·subst hs;exact⟨576460752303423488,134217728,32,by decide,by decide,by decide,by decide,by decide,by decide,by omega⟩
   ·subst hs;exact⟨1152921504606846976,268435456,16,by decide,by decide,by decide,by decide,by decide,by decide,by omega⟩
   ·subst hs;exact⟨2305843009213693952,536870912,8,by decide,by decide,by decide,by decide,by decide,by decide,by omega⟩
   ·subst hs;exact⟨4611686018427387904,1073741824,4,by decide,by decide,by decide,by decide,by decide,by decide,by omega⟩
  have ws:IntKind.wrap IntKind.u64 (s:Int)=(s:Int):=by rw[wu];omega
  have w64:IntKind.wrap IntKind.u64 ((64:Int)-(s:Int))=((64-s:Nat):Int):=by rw[wu];omega
  have n1:min (Int.toNat (s:Int)) 64=s:=by simp;omega
  have n2:min (Int.toNat ((64-s:Nat):Int)) 64=64-s:=by simp
  have s0:decide ((s:Int)<(0:Int))=false:=decide_eq_false (by omega)
  have s1:decide (((64-s:Nat):Int)<(0:Int))=false:=decide_eq_false (by omega)
  rw[ws,w64,n1,n2,s0,s1,eP,eQ]
  simp only[cond_false]
  have c:=div_core hP hPQ hD hQ (b:=(b:Int)) (hi:=hi) (lo:=lo) (by omega) h0 h1 l0 l1
  simp only at c
  have hPpos:0<P:=by omega
  have hd:0<(b:Int)*D:=Int.mul_pos (by omega) hD
  have hY0:0≤(b:Int)*P:=Int.mul_nonneg (by omega) (by omega)
  have hY1:(b:Int)*P<18446744073709551616:=by
   rw[← hPQ,Int.mul_comm P Q]
   exact Int.mul_lt_mul_of_pos_right hbQ hPpos
  have hYd:(b:Int)*P=(b:Int)*D*4294967296:=by rw[hP,Int.mul_assoc]
  have hH0:0≤hi*P:=Int.mul_nonneg h0 (by omega)
  have hH1:hi*P<(b:Int)*P:=Int.mul_lt_mul_of_pos_right h1 hPpos
  have hlQ0:0≤lo/Q:=Int.ediv_nonneg l0 (by omega)
  have hlQ1:lo/Q<P:=Int.ediv_lt_of_lt_mul hQ (by rw[hPQ];exact l1)
  have hU1:hi*P+lo/Q<(b:Int)*P:=by
   have:(hi+1)*P≤(b:Int)*P:=Int.mul_le_mul_of_nonneg_right (by omega) (by omega)
   rw[Int.add_mul,Int.one_mul] at this
   omega
  have eY:IntKind.wrap IntKind.u64 ((b:Int)*P)=(b:Int)*P:=by rw[wu,Int.emod_eq_of_lt hY0 hY1]
  have ed:Int.fdiv ((b:Int)*P) 4294967296=(b:Int)*D:=by
   rw[fdiv_lit (by decide),hYd];exact Int.mul_ediv_cancel _ (by decide)
  have ey0:ibits BinOp.and IntKind.u64 ((b:Int)*P) 4294967295=0:=by
   rw[and_u64 hY0 hY1 32 (by decide) (by decide),hYd]
   exact Int.mul_emod_left _ _
  have eH:IntKind.wrap IntKind.u64 (hi*P)=hi*P:=by rw[wu,Int.emod_eq_of_lt hH0 (by omega)]
  have eor:ibits BinOp.or IntKind.u64 (hi*P) (Int.fdiv lo Q)=hi*P+lo/Q:=by
   rw[fdiv_lit (by omega)]
   have:=or_far64 (x:=hi) (y:=lo/Q) s (by omega) h0 (by rw[eP];omega) hlQ0 (by rw[eP];exact hlQ1)
   rw[eP] at this
   exact this
  have et:IntKind.wrap IntKind.u64 (lo*P)=lo*P%18446744073709551616:=wu _
  have ht0:=Int.emod_nonneg (lo*P) (b:=18446744073709551616) (by decide)
  have ht1:=Int.emod_lt_of_pos (lo*P) (b:=18446744073709551616) (by decide)
  have eand:ibits BinOp.and IntKind.u64 (lo*P%18446744073709551616) 4294967295=lo*P%18446744073709551616%4294967296:=and_u64 ht0 ht1 32 (by decide) (by decide)
  rw[eY,ed,ey0,eH,eor,et,eand,fdiv_lit (show(0:Int)≤4294967296 by decide)]
  generalize lo*P%18446744073709551616=t at*
  have hU0:0≤hi*P+lo/Q:=by omega
  generalize hi*P+lo/Q=U at*
  clear eor eH hH0 hH1 hlQ0 hlQ1 et eand
  generalize (b:Int)*D=d at*
  have q1a:0≤U/d:=Int.ediv_nonneg hU0 (by omega)
  have q1b:U/d<4294967296:=Int.ediv_lt_of_lt_mul hd (by rw[Int.mul_comm];omega)
  have r1a:=Int.emod_nonneg U (b:=d) (by omega)
  have r1b:=Int.emod_lt_of_pos U hd
  have eU:=Int.emod_add_mul_ediv U d
  have f0:Int.tdiv U d=U/d:=Int.tdiv_eq_ediv_of_nonneg hU0
  have f1:IntKind.wrap IntKind.u64 (U/d)=U/d:=by rw[wu,Int.emod_eq_of_lt q1a (by omega)]
  have nz:decide (d=0)=false:=decide_eq_false (by omega)
  rw[f0,f1,nz]
  simp only[cond_false]
  rw[loopA q1b]
  simp only
  rw[nz]
  simp only[cond_false]
  have V0:IntKind.wrap IntKind.u64 (IntKind.wrap IntKind.u64 (IntKind.wrap IntKind.u64 (U*4294967296)+t/4294967296)-IntKind.wrap IntKind.u64 (U/d*((b:Int)*P)))=U%d*4294967296+t/4294967296:=by
   rw[wrap3,hYd]
   have:U*4294967296+t/4294967296-U/d*(d*4294967296)=U%d*4294967296+t/4294967296:=by
    have:U/d*(d*4294967296)=d*(U/d)*4294967296:=by rw[← Int.mul_assoc,Int.mul_comm (U/d) d]
    rw[this]
    generalize d*(U/d)=x at*
    omega
   rw[this,Int.emod_eq_of_lt (by omega) (by omega)]
  rw[V0]
  have hV0:0≤U%d*4294967296+t/4294967296:=by omega
  have hV1:U%d*4294967296+t/4294967296<d*4294967296:=by omega
  generalize U%d*4294967296+t/4294967296=V at*
  have q0a:0≤V/d:=Int.ediv_nonneg hV0 (by omega)
  have q0b:V/d<4294967296:=Int.ediv_lt_of_lt_mul hd (by rw[Int.mul_comm];omega)
  have f2:Int.tdiv V d=V/d:=Int.tdiv_eq_ediv_of_nonneg hV0
  have f3:IntKind.wrap IntKind.u64 (V/d)=V/d:=by rw[wu,Int.emod_eq_of_lt q0a (by omega)]
  rw[f2,f3,loopB q0b]
  simp only
  rw[s0,n1,eP]
  simp only[cond_false]
  have eV:=Int.emod_add_mul_ediv V d
  have r0a:=Int.emod_nonneg V (b:=d) (by omega)
  have r0b:=Int.emod_lt_of_pos V hd
  have R0:IntKind.wrap IntKind.u64 (IntKind.wrap IntKind.u64 (IntKind.wrap IntKind.u64 (V*4294967296)+t%4294967296)-IntKind.wrap IntKind.u64 (V/d*((b:Int)*P)))=V%d*4294967296+t%4294967296:=by
   rw[wrap3,hYd]
   have:V*4294967296+t%4294967296-V/d*(d*4294967296)=V%d*4294967296+t%4294967296:=by
    have:V/d*(d*4294967296)=d*(V/d)*4294967296:=by rw[← Int.mul_assoc,Int.mul_comm (V/d) d]
    rw[this]
    generalize d*(V/d)=x at*
    omega
   rw[this,Int.emod_eq_of_lt (by omega) (by omega)]
  have Q0:IntKind.wrap IntKind.u64 (IntKind.wrap IntKind.u64 (U/d*4294967296)+V/d)=U/d*4294967296+V/d:=by
   rw[wu,wu];omega
  rw[R0,Q0,fdiv_lit (by omega),c.1,c.2]
end Go.Proofs.Dbl
/- Plain facts: numbers with signs; pictures: each call comes to an end, and leaves a memory that may be. -/
namespace Go.Proofs.Dbl
open Go Go.TX Go.Proofs
set_option maxRecDepth 100000
set_option maxHeartbeats 0
set_option linter.unusedVariables false
set_option linter.unusedSimpArgs false
theorem set_mid (z:List Int){n:Nat}(u:Int)(h:1+n≤z.length):(((z.take 1++dec10 n u++z.drop (1+n)).set 0 45).drop 0).take (1+n)=45::dec10 n u:=by
 cases z with
 |nil=>simp at h
 |cons x r=>
  simp only[List.take_succ_cons,List.take_zero,List.cons_append,List.nil_append,List.set_cons_zero,List.drop_zero]
  rw[Nat.add_comm 1 n,List.take_succ_cons,List.take_append_of_le_length (by rw[dec10_length];omega),List.take_of_length_le (by rw[dec10_length];omega)]
theorem ten_tail {a:Int}{u:Nat}(hu1:1≤u)(hu:u<18446744073709551616)(z:List Int)(hz:z.length=24):
  (outOf (numDigits (u:Int)) fun(x12:Int)=>cond (decide ((0:Int)≤(1:Int)∧(1:Int)≤IntKind.wrap IntKind.i64 ((1:Int)+x12)∧IntKind.wrap IntKind.i64 ((1:Int)+x12)≤(24:Int))) (cond (decide ((0:Int)≤(u:Int)∧(u:Int)<(18446744073709551616:Int)∧Int.toNat (u:Int)<(10:Nat)^(Int.toNat (IntKind.wrap IntKind.i64 ((1:Int)+x12))-(1:Nat))∧(0:Nat)<Int.toNat (IntKind.wrap IntKind.i64 ((1:Int)+x12))-(1:Nat)∧(1:Nat)+(Int.toNat (IntKind.wrap IntKind.i64 ((1:Int)+x12))-(1:Nat))≤(24:Nat)∧Int.toNat (IntKind.wrap IntKind.i64 ((1:Int)+x12))-(1:Nat)<(4611686018427387904:Nat)))
   (cond (decide (a<(0:Int)))
    (cond (decide (List.length (List.set (List.take (1:Nat) z++dec10 (Int.toNat (IntKind.wrap IntKind.i64 ((1:Int)+x12))-(1:Nat)) (u:Int)++List.drop ((1:Nat)+(Int.toNat (IntKind.wrap IntKind.i64 ((1:Int)+x12))-(1:Nat))) z) (0:Nat) (45:Int))=(24:Nat))) (cond (decide ((0:Int)≤(0:Int)∧(0:Int)≤IntKind.wrap IntKind.i64 ((1:Int)+x12)∧IntKind.wrap IntKind.i64 ((1:Int)+x12)≤(24:Int)))
     (some (strOf (List.take (Int.toNat (IntKind.wrap IntKind.i64 ((1:Int)+x12))-(0:Nat)) (List.drop (0:Nat) (List.set (List.take (1:Nat) z++dec10 (Int.toNat (IntKind.wrap IntKind.i64 ((1:Int)+x12))-(1:Nat)) (u:Int)++List.drop ((1:Nat)+(Int.toNat (IntKind.wrap IntKind.i64 ((1:Int)+x12))-(1:Nat))) z) (0:Nat) (45:Int)))))) (none)) (none))
    (cond (decide (List.length (List.take (1:Nat) z++dec10 (Int.toNat (IntKind.wrap IntKind.i64 ((1:Int)+x12))-(1:Nat)) (u:Int)++List.drop ((1:Nat)+(Int.toNat (IntKind.wrap IntKind.i64 ((1:Int)+x12))-(1:Nat))) z)=(24:Nat))) (cond (decide ((0:Int)≤(1:Int)∧(1:Int)≤IntKind.wrap IntKind.i64 ((1:Int)+x12)∧IntKind.wrap IntKind.i64 ((1:Int)+x12)≤(24:Int)))
     (some (strOf (List.take (Int.toNat (IntKind.wrap IntKind.i64 ((1:Int)+x12))-(1:Nat)) (List.drop (1:Nat) (List.take (1:Nat) z++dec10 (Int.toNat (IntKind.wrap IntKind.i64 ((1:Int)+x12))-(1:Nat)) (u:Int)++List.drop ((1:Nat)+(Int.toNat (IntKind.wrap IntKind.i64 ((1:Int)+x12))-(1:Nat))) z))))) (none)) (none))) (none)) (none))=
  some (bs ((if a<0 then [45] else [])++digs 10 u)):=by
 obtain⟨e1,e2⟩:=numDigits_val hu1 hu
 have hp:=Lib.lt_pow_nDigits u
 have hq:=Lib.nDigits_pos u
 rw[e1]
 simp only[outOf]
 have hd:=dec10_nums u
 generalize Lib.nDigits u=m at*
 have w:IntKind.wrap IntKind.i64 ((1:Int)+(m:Int))=((1+m:Nat):Int):=by rw[wi,W_of ⟨by omega,by omega⟩];omega
 have hm:1+m-1=m:=by omega
 rw[w]
 simp only[Int.toNat_natCast,hm]
 have c1:decide ((0:Int)≤1∧(1:Int)≤((1+m:Nat):Int)∧((1+m:Nat):Int)≤24)=true:=decide_eq_true (by omega)
 have c2:decide ((0:Int)≤(u:Int)∧(u:Int)<(18446744073709551616:Int)∧u<10^m∧0<m∧1+m≤24∧m<4611686018427387904)=true:=decide_eq_true (by omega)
 have c3:decide ((0:Int)≤0∧(0:Int)≤((1+m:Nat):Int)∧((1+m:Nat):Int)≤24)=true:=decide_eq_true (by omega)
 rw[c1,c2,c3]
 simp only[cond_true]
 by_cases h:a<0
 ·rw[decide_eq_true h,if_pos h,decide_eq_true (by simp[dec10_length];omega)]
  simp only[cond_true,Nat.sub_zero]
  rw[set_mid z _ (by omega),hd]
  have:(45:Int)::nums (digs 10 u)=nums (45::digs 10 u):=rfl
  rw[this,strOf_nums]
  rfl
 ·rw[decide_eq_false h,if_neg h]
  simp only[cond_false]
  rw[decide_eq_true (by simp[dec10_length];omega)]
  simp only[cond_true]
  rw[mid z _ (by omega),hd,strOf_nums]
  rfl
theorem fmtInt_ten {n:Int}(hn:Cell n):fmtInt n 10=some (bs ((if n<0 then [45] else [])++digs 10 n.natAbs)):=by
 unfold Cell at hn
 unfold fmtInt fmtInt_t fmtInt0 fmtInt0_t
 have h10:((10:Int)==10)=true:=rfl
 rw[h10]
 simp only[cond_true]
 by_cases h:0≤n∧n<100
 ·have m1:fmtInt0_M1 n=some (.inl (bs (digs 10 n.natAbs))):=by
   unfold fmtInt0_M1 fmtInt0_M1_t
   rw[decide_eq_true h.1,decide_eq_true h.2]
   obtain⟨i,rfl⟩: ∃i:Nat,n=i:=⟨n.toNat,by omega⟩
   rw[small_eq (by omega)]
   rfl
  rw[m1,if_neg (by omega)]
  rfl
 ·have m1:fmtInt0_M1 n=some (.inr ()):=by
   unfold fmtInt0_M1 fmtInt0_M1_t
   by_cases h0:0≤n
   ·rw[decide_eq_true h0,decide_eq_false (by omega)];rfl
   ·rw[decide_eq_false h0];rfl
  have m2:fmtInt0_M2 n (IntKind.wrap IntKind.u64 n)=some (n.natAbs:Int):=by
   unfold fmtInt0_M2 fmtInt0_M2_t
   by_cases h0:n<0
   ·rw[decide_eq_true h0]
    simp only[cond_true]
    have e:IntKind.wrap IntKind.u64 ((0:Int)-IntKind.wrap IntKind.u64 n)=(n.natAbs:Int):=by rw[wu,wu];omega
    rw[e]
   ·rw[decide_eq_false h0]
    simp only[cond_false]
    have e:IntKind.wrap IntKind.u64 n=(n.natAbs:Int):=by rw[wu];omega
    rw[e]
  rw[m1,m2]
  simp only[sumOf]
  have ht:=ten_tail (a:=n) (u:=n.natAbs) (by omega) (by omega) [(0:Int),(0:Int),(0:Int),(0:Int),(0:Int),(0:Int),(0:Int),(0:Int),(0:Int),(0:Int),(0:Int),(0:Int),(0:Int),(0:Int),(0:Int),(0:Int),(0:Int),(0:Int),(0:Int),(0:Int),(0:Int),(0:Int),(0:Int),(0:Int)] rfl
  simp only[outOf] at ht⊢
  rw[ht]
theorem Text_eq {b:Nat}(h1:2≤b)(h2:b≤36){n:Int}(hn:Cell n):num_Text n (b:Int)=some (bs ((if n<0 then [45] else [])++caps b n.natAbs)):=by
 by_cases h10:b=10
 ·subst h10
  unfold num_Text num_Text_t
  have hg:goodB ((10:Nat):Int)=true:=rfl
  rw[good_eq,hg]
  simp only[outOf,Bool.not_true,cond_false]
  rw[show(((10:Nat):Int))=10 from rfl,fmtInt_ten hn]
  simp only[outOf]
  have hl:(digs 10 n.natAbs).length≤65:=digs_length 10 64 _ (by unfold Cell at hn;omega)
  rw[upper_ok (l:=(if n<0 then [45] else [])++digs 10 n.natAbs) (fun c hc=>by
   rcases List.mem_append.1 hc with h|h
   ·split at h
    ·simp only[List.mem_singleton] at h;subst h;decide
    ·cases h
   ·exact digs_ascii _ _ c h) (by
   simp only[List.length_append]
   split<;>simp<;>omega)]
  simp only[cond_true]
  rw[upperS_bs]
  unfold caps
  split<;>rfl
 ·exact Text_ne h1 h2 h10 hn
def cap (v:Nat):UInt8:=Lib.upperB (dch v)
theorem Sign_eq {v:Nat}(h:v<36):num_Sign (v:Int)=some (bs [cap v]):=by
 unfold num_Sign num_Sign_t num_Sign_M1 num_Sign_M1_t
 have hf:fmtInt (v:Int) ((36:Nat):Int)=_:=fmtInt_eq (by omega) (by omega) (by omega) (n:=(v:Int)) ⟨by omega,by omega⟩
 have h36:((36:Nat):Int)=36:=rfl
 rw[h36,if_neg (by omega),Int.natAbs_natCast,digs_small h] at hf
 rw[decide_eq_false (by omega),decide_eq_false (by omega)]
 simp only[cond_false,outOf,sumOf]
 rw[hf]
 simp only[List.nil_append]
 have hu:(ascii (bs [dch v])&&decide (ByteArray.size (bs [dch v])≤(140737488355328:Nat)))=true:=upper_ok (fun c hc=>by simp only[List.mem_singleton] at hc;subst hc;exact dch_ascii _) (by simp)
 rw[hu]
 rfl
theorem caps_length (b:Nat){k n:Nat}(h:n<2^k):(caps b n).length≤k+1:=by
 unfold caps Lib.toUpperA
 rw[List.length_map]
 exact digs_length b k n h
def lo_ (u:Nat):Int:=W (u:Int)
def hi_ (u:Nat):Int:=W ((u:Int)/18446744073709551616)
theorem low_of (q:Nat):IntKind.wrap IntKind.i64 ((q:Int)-(q:Int)/18446744073709551616*18446744073709551616)=lo_ q:=by
 rw[wi];unfold lo_;rw[W_eq];omega
theorem un_low (u:Nat):lo_ u%18446744073709551616=(u:Int)%18446744073709551616:=by unfold lo_;rw[mod_W]
theorem un_high {u:Nat}(hu:u<340282366920938463463374607431768211456):hi_ u%18446744073709551616=(u:Int)/18446744073709551616:=by
 unfold hi_;rw[mod_W];exact Int.emod_eq_of_lt (by omega) (by omega)
theorem div_parts {b:Nat}(b1:2≤b){u:Nat}(hu:u<340282366920938463463374607431768211456):
  ((u:Int)/18446744073709551616%b*18446744073709551616+(u:Int)%18446744073709551616)%b=((u%b:Nat):Int)∧
  W (((u:Int)/18446744073709551616%b*18446744073709551616+(u:Int)%18446744073709551616)/b)=lo_ (u/b)∧
  W ((u:Int)/18446744073709551616/b)=hi_ (u/b):=by
 have key:((u:Int)/18446744073709551616%b*18446744073709551616+(u:Int)%18446744073709551616)=(u:Int)-b*(((u:Int)/18446744073709551616/b)*18446744073709551616):=by
  have h:=Int.emod_add_mul_ediv ((u:Int)/18446744073709551616) b
  have h':=Int.emod_add_mul_ediv (u:Int) 18446744073709551616
  rw[← Int.mul_assoc]
  generalize (b:Int)*((u:Int)/18446744073709551616/b)=z at*
  omega
 have er:((u:Int)/18446744073709551616%b*18446744073709551616+(u:Int)%18446744073709551616)%b=((u%b:Nat):Int):=by
  rw[key,Int.sub_mul_emod_self_left];exact(Int.natCast_emod u b).symm
 have eq':((u:Int)/18446744073709551616%b*18446744073709551616+(u:Int)%18446744073709551616)/b=(u:Int)/b-((u:Int)/18446744073709551616/b)*18446744073709551616:=by
  rw[key,Int.sub_mul_ediv_left _ _ (by omega)]
 have eqh:(u:Int)/18446744073709551616/b=(u:Int)/b/18446744073709551616:=by
  rw[Int.ediv_ediv_of_nonneg (by omega),Int.ediv_ediv_of_nonneg (by omega),Int.mul_comm]
 have hub:((u:Int)/b)=((u/b:Nat):Int):=(Int.natCast_ediv u b).symm
 rw[er,eq',eqh,hub]
 refine⟨rfl, ?_,rfl⟩
 have:=low_of (u/b)
 rw[wi] at this
 exact this
theorem pdivide_eq {b:Nat}(b1:2≤b)(b2:b≤36){u:Nat}(hu:u<340282366920938463463374607431768211456):
  pic_divide (lo_ u) (hi_ u) (b:Int)=some (lo_ (u/b),hi_ (u/b),((u%b:Nat):Int)):=by
 unfold pic_divide pic_divide_t
 have el:IntKind.wrap IntKind.u64 (lo_ u)=(u:Int)%18446744073709551616:=by rw[wu,un_low]
 have eh:IntKind.wrap IntKind.u64 (hi_ u)=(u:Int)/18446744073709551616:=by rw[wu,un_high hu]
 have eb:IntKind.wrap IntKind.u64 (b:Int)=(b:Int):=by rw[wu];omega
 rw[el,eh,eb,decide_eq_false (by omega)]
 have hH0:(0:Int)≤(u:Int)/18446744073709551616:=by omega
 rw[Int.tmod_eq_emod_of_nonneg hH0,Int.tdiv_eq_ediv_of_nonneg hH0]
 have hm0:0≤(u:Int)/18446744073709551616%b:=Int.emod_nonneg _ (by omega)
 have hm1:(u:Int)/18446744073709551616%b<b:=Int.emod_lt_of_pos _ (by omega)
 rw[div64_eq b1 b2 hm0 hm1 (by omega) (by omega)]
 obtain⟨p1,p2,p3⟩:=div_parts b1 hu
 simp only[outOf,cond_false]
 rw[p1,wi,wi,wi,wu,W_mod,p2,p3]
 have:W ((u%b:Nat):Int)=((u%b:Nat):Int):=by
  have:=Nat.mod_lt u (show 0<b by omega)
  rw[W_of ⟨by omega,by omega⟩]
 rw[this]
def un (lo hi:Int):Nat:=(D lo hi).toNat
theorem un_lt (lo hi:Int):un lo hi<340282366920938463463374607431768211456:=by
 have:=D_range lo hi
 unfold un;omega
theorem un_parts {lo hi:Int}(h1:Cell lo)(h2:Cell hi):lo_ (un lo hi)=lo∧hi_ (un lo hi)=hi:=by
 have:=D_range lo hi
 have e:((un lo hi:Nat):Int)=D lo hi:=by unfold un;omega
 unfold lo_ hi_
 rw[e]
 unfold Cell at h1 h2
 unfold D W
 omega
theorem un_of {n:Nat}(h:n<340282366920938463463374607431768211456):un (lo_ n) (hi_ n)=n:=by
 have h1:=un_low n
 have h2:=un_high h
 unfold un D
 rw[h1,h2]
 omega
theorem lo_cell (n:Nat):Cell (lo_ n):=W_cell _
theorem hi_cell (n:Nat):Cell (hi_ n):=W_cell _
theorem Text_tot {b n:Int}(h1:2≤b)(h2:b≤36)(hn:Cell n):Tot (num_Text n b) fun v=>v.size≤100:=by
 obtain⟨k,rfl⟩: ∃k:Nat,b=k:=⟨b.toNat,by omega⟩
 rw[Text_eq (by omega) (by omega) hn]
 refine .ok ?_
 rw[bs_size,List.length_append]
 have:=caps_length k (k:=64) (n:=n.natAbs) (by unfold Cell at hn;omega)
 split<;>simp<;>omega
theorem UText_tot {b:Int}(n:Int)(h1:2≤b)(h2:b≤36):Tot (num_UText n b) fun v=>v.size≤100:=by
 obtain⟨k,rfl⟩: ∃k:Nat,b=k:=⟨b.toNat,by omega⟩
 rw[UText_eq (by omega) (by omega)]
 refine .ok ?_
 rw[bs_size]
 have:=caps_length k (k:=64) (n:=(n%18446744073709551616).toNat) (by omega)
 omega
theorem Sign_tot {v:Int}(h0:0≤v)(h:v<36):Tot (num_Sign v) fun s=>s.size=1:=by
 obtain⟨k,rfl⟩: ∃k:Nat,v=k:=⟨v.toNat,by omega⟩
 rw[Sign_eq (by omega)]
 exact .ok rfl
theorem divide_tot {lo hi b:Int}(h1:2≤b)(h2:b≤36)(c1:Cell lo)(c2:Cell hi):
  Tot (pic_divide lo hi b) fun v=>Cell v.1∧Cell v.2.1∧0≤v.2.2∧v.2.2<36∧(v.1=0∧v.2.1=0∨un v.1 v.2.1<un lo hi):=by
 obtain⟨k,rfl⟩: ∃k:Nat,b=k:=⟨b.toNat,by omega⟩
 obtain⟨p1,p2⟩:=un_parts c1 c2
 have hl:=un_lt lo hi
 have he:=pdivide_eq (b:=k) (by omega) (by omega) hl
 rw[p1,p2] at he
 rw[he]
 have hm:=Nat.mod_lt (un lo hi) (show 0<k by omega)
 refine .ok ⟨lo_cell _,hi_cell _,by show(0:Int)≤((un lo hi%k:Nat):Int);omega,by show((un lo hi%k:Nat):Int)<36;omega, ?_⟩
 show lo_ _=0∧hi_ _=0∨un (lo_ (un lo hi/k)) (hi_ (un lo hi/k))<_
 by_cases hz:un lo hi/k=0
 ·rw[hz];exact .inl ⟨by decide,by decide⟩
 ·have hd:un lo hi/k<un lo hi:=Nat.div_lt_self (Nat.pos_of_ne_zero (fun h=>hz (by rw[h];exact Nat.zero_div k))) (by omega)
  rw[un_of (by omega)]
  exact .inr hd
section
variable {n:Nat}{m:List Int}(h:Mem n m)(hn:n≤5120)
include h hn
theorem held_tot (u:Int):Tot (pic_held m u) fun v=>Cell v.1∧Cell v.2:=by
 unfold pic_held pic_held_t pic_area pic_area_t
 refine .bd (Q:=fun _=>True) (.cd (fun _=> .ok trivial) fun _=> .ok trivial) fun b _=> .cd (fun _=> .ok ⟨zero_cell,e9⟩) fun _=> ?_
 exact .bd (Get_tot h hn (wc _)) fun v hv=> .ok hv
theorem Base_tot (u:Int):Tot (pic_Base m u) fun v=>Cell v.2∧(v.2=0→2≤v.1∧v.1≤36):=by
 unfold pic_Base pic_Base_t pic_area pic_area_t
 refine .bd (Q:=fun _=>True) (.cd (fun _=> .ok trivial) fun _=> .ok trivial) fun b _=> .cd (fun _=> .ok ⟨e9,fun h=>by simp at h⟩) fun _=> ?_
 refine .bd (Get_tot h hn (wc _)) fun v hv=> .cd (fun hb=> .ok ⟨hv.2,fun h=>absurd h (by simpa using hb)⟩) fun _=> .cd (fun _=> .ok ⟨e24,fun h=>by simp at h⟩) fun h1=> .cd (fun _=> .ok ⟨e24,fun h=>by simp at h⟩) fun h2=> .ok ⟨zero_cell,fun _=> ?_⟩
 have:=of_decide_eq_false h1
 have:=of_decide_eq_false h2
 exact⟨by show 2≤v.1;omega,by show v.1≤36;omega⟩
theorem PBegin_tot (u:Int):Tot (pic_Begin m u) fun v=>Mem n v.1∧Cell v.2:=by
 unfold pic_Begin pic_Begin_t pic_area pic_area_t
 refine .bd (Q:=fun _=>True) (.cd (fun _=> .ok trivial) fun _=> .ok trivial) fun b _=> .cd (fun _=> .ok ⟨h,e9⟩) fun _=> ?_
 exact .bd (Put_tot h hn (wc _) (by unfold pic_end;exact wc _)) fun v hv=> .ok hv
omit h hn in
theorem pictured_tot (u a:Int):Tot (pic_pictured u a) fun _=>True:=by
 unfold pic_pictured pic_pictured_t
 exact .cd (fun _=> .ok trivial) fun _=> .ok trivial
theorem Hold_tot (u c:Int):Tot (pic_Hold m u c) fun v=>Mem n v.1∧Cell v.2:=by
 unfold pic_Hold pic_Hold_t
 refine .bd (held_tot h hn u) fun v ⟨v1,v2⟩=> .cd (fun _=> .ok ⟨h,v2⟩) fun _=> .cd (fun _=> .ok ⟨h,e17⟩) fun _=> ?_
 refine .bd (pictured_tot _ _) fun b _=> .cd (fun _=> .ok ⟨h,e17⟩) fun _=> ?_
 refine .bd (Put_tot h hn (wc _) (wc _)) fun w ⟨w1,w2⟩=> .cd (fun _=> .ok ⟨h,w2⟩) fun _=> ?_
 exact .bd (PutByte_tot w1 hn (wc _)) fun x ⟨x1,x2⟩=> .cd (fun _=> .ok ⟨h,x2⟩) fun _=> .ok ⟨x1,zero_cell⟩
theorem PSign_tot (u c:Int):Tot (pic_Sign m u c) fun v=>Mem n v.1∧Cell v.2:=by
 unfold pic_Sign pic_Sign_t pic_area pic_area_t
 refine .bd (Q:=fun _=>True) (.cd (fun _=> .ok trivial) fun _=> .ok trivial) fun b _=> .cd (fun _=> .ok ⟨h,e9⟩) fun _=> .cd (fun _=> ?_) fun _=> .ok ⟨h,zero_cell⟩
 exact .bd (Hold_tot h hn u 45) fun v hv=> .ok hv
theorem PEnd_tot (u:Int):Tot (pic_End m u) fun v=>Cell v.1∧Cell v.2.1∧Cell v.2.2:=by
 unfold pic_End pic_End_t
 refine .bd (held_tot h hn u) fun v ⟨v1,v2⟩=> .cd (fun _=> .ok ⟨zero_cell,zero_cell,v2⟩) fun _=> .cd (fun _=> ?_) fun _=> .ok ⟨v1,wc _,zero_cell⟩
 exact .bd (pictured_tot _ _) fun b _=> .cd (fun _=> .ok ⟨zero_cell,zero_cell,e9⟩) fun _=> .ok ⟨v1,wc _,zero_cell⟩
theorem PDigit_tot (u:Int){lo hi:Int}(c1:Cell lo)(c2:Cell hi):Tot (pic_Digit m u lo hi) fun v=>Mem n v.1∧Cell v.2.1∧Cell v.2.2.1∧Cell v.2.2.2∧(v.2.2.2=0→v.2.1=0∧v.2.2.1=0∨un v.2.1 v.2.2.1<un lo hi):=by
 unfold pic_Digit pic_Digit_t
 refine .bd (Base_tot h hn u) fun v ⟨v1,v2⟩=> .cd (fun hb=> .ok ⟨h,zero_cell,zero_cell,v1,fun _=> .inl ⟨rfl,rfl⟩⟩) fun hb=> ?_
 obtain⟨b1,b2⟩:=v2 (by simpa using hb)
 refine .bd (divide_tot b1 b2 c1 c2) fun q ⟨q1,q2,q3,q4,q5⟩=> .bd (Sign_tot q3 q4) fun s hs=> .ct (by rw[hs];decide) ?_
 exact .bd (Hold_tot h hn u _) fun w ⟨w1,w2⟩=> .cd (fun hw=> .ok ⟨h,zero_cell,zero_cell,w2,fun _=> .inl ⟨rfl,rfl⟩⟩) fun _=> .ok ⟨w1,q1,q2,zero_cell,fun _=>q5⟩
end
theorem all_loop {n:Nat}(hn:n≤5120){m0:List Int}(h0:Mem n m0)(u x1 x2:Int): ∀(k:Nat) (m:List Int) (lo hi:Int),Mem n m→Cell lo→Cell hi→un lo hi≤k→
  Tot (pic_All_L1 (m0,u,m,lo,hi,x1,x2)) fun v=>match v with| .inl v=>v.1=m0∧Cell v.2.1∧Cell v.2.2.1∧Cell v.2.2.2| .inr v=>Mem n v.1∧Cell v.2.1∧Cell v.2.2.1:=by
 intro k
 induction k with
 |zero=>
  intro m lo hi h c1 c2 hk
  obtain⟨v,ev,v1,v2,v3,v4,v5⟩:=PDigit_tot h hn u c1 c2
  have hp:pic_All_L1_pass (m0,u,m,lo,hi,x1,x2)=cond (v.2.2.2 != 0) (some (.inr (.inl (m0,v.2.2.2,0,0)))) (cond (v.2.1==(0:Int)&&(v.2.2.1==(0:Int)&&true)) (some (.inr (.inr (v.1,v.2.1,v.2.2.1,x1,x2)))) (some (.inl (m0,u,v.1,v.2.1,v.2.2.1,x1,x2)))):=by
   unfold pic_All_L1_pass pic_All_L1_t
   simp only
   rw[ev]
   rfl
  cases hb:(v.2.2.2 != 0)
  ·have hz:v.2.2.2=0:=by simpa using hb
   have hq:v.2.1=0∧v.2.2.1=0:=by
    rcases v5 hz with hq|hq
    ·exact hq
    ·omega
   rw[hb,hq.1,hq.2] at hp
   exact⟨_,runs_out hp,v1,zero_cell,zero_cell⟩
  ·rw[hb] at hp
   exact⟨_,runs_out hp,rfl,v4,zero_cell,zero_cell⟩
 |succ k ih=>
  intro m lo hi h c1 c2 hk
  obtain⟨v,ev,v1,v2,v3,v4,v5⟩:=PDigit_tot h hn u c1 c2
  have hp:pic_All_L1_pass (m0,u,m,lo,hi,x1,x2)=cond (v.2.2.2 != 0) (some (.inr (.inl (m0,v.2.2.2,0,0)))) (cond (v.2.1==(0:Int)&&(v.2.2.1==(0:Int)&&true)) (some (.inr (.inr (v.1,v.2.1,v.2.2.1,x1,x2)))) (some (.inl (m0,u,v.1,v.2.1,v.2.2.1,x1,x2)))):=by
   unfold pic_All_L1_pass pic_All_L1_t
   simp only
   rw[ev]
   rfl
  cases hb:(v.2.2.2 != 0)
  ·have hz:v.2.2.2=0:=by simpa using hb
   rcases v5 hz with hq|hq
   ·rw[hb,hq.1,hq.2] at hp
    exact⟨_,runs_out hp,v1,zero_cell,zero_cell⟩
   ·rw[hb] at hp
    cases h2:(v.2.1==(0:Int)&&(v.2.2.1==(0:Int)&&true))
    ·rw[h2] at hp
     obtain⟨r,er,hr⟩:=ih v.1 v.2.1 v.2.2.1 v1 v2 v3 (by omega)
     exact⟨r,(runs_next hp).trans er,hr⟩
    ·rw[h2] at hp
     exact⟨_,runs_out hp,v1,v2,v3⟩
  ·rw[hb] at hp
   exact⟨_,runs_out hp,rfl,v4,zero_cell,zero_cell⟩
theorem PAll_tot {n:Nat}{m:List Int}(h:Mem n m)(hn:n≤5120)(u:Int){lo hi:Int}(c1:Cell lo)(c2:Cell hi):Tot (pic_All m u lo hi) fun v=>Mem n v.1∧Cell v.2.1∧Cell v.2.2.1∧Cell v.2.2.2:=by
 unfold pic_All pic_All_t
 refine .bd (all_loop hn h u 0 0 _ m lo hi h c1 c2 (Nat.le_refl _)) fun v hv=> ?_
 cases v with
 |inl v=>exact .ok ⟨by show Mem n v.1;rw[hv.1];exact h,hv.2.2.1,hv.2.2.2,hv.2.1⟩
 |inr v=>exact .ok ⟨hv.1,hv.2.1,hv.2.2,zero_cell⟩
end Go.Proofs.Dbl
/- Plain facts: operations' needs and groups; names; entries: each call comes to an end. -/
namespace Go.Proofs.Dbl
open Go Go.TX Go.Proofs
set_option maxRecDepth 100000
set_option maxHeartbeats 0
set_option linter.unusedVariables false
set_option linter.unusedSimpArgs false
def grpV (o:Int):Int:=if o<0 then -1 else if o≤17 then 0 else if o≤74 then 1 else if o≤82 then 2 else if o≤88 then 3 else if o≤94 then 4 else if o≤97 then 5 else if o≤103 then 6 else if o≤110 then 7 else -1
def ndL:List Int:=[0,0,1,0,0,2,2,0,1,0,0,0,1,0,0,1,1,1,1,1,2,2,3,2,2,2,2,4,4,1,1,1,0,2,2,2,2,2,2,3,3,1,1,1,1,1,1,2,2,2,2,2,1,2,2,2,2,2,2,2,1,1,3,2,2,3,3,3,1,4,2,1,1,1,1,1,2,1,2,2,3,3,3,1,2,1,1,0,0,0,2,2,1,1,2,0,0,0,0,0,0,1,0,3,0,0,0,1,1,1,0]
def ndV (o:Int):Int:=if 0≤o∧o<111 then ndL.getD o.toNat 0 else 0
theorem grp_in:(List.range 111).all (fun n=>match op_Group (n:Int) with|some g=>g==grpV (n:Int)|none=>false)=true:=by kernel_rfl
theorem nd_in:(List.range 111).all (fun n=>match op_Needs (n:Int) with|some g=>g==ndV (n:Int)|none=>false)=true:=by kernel_rfl
theorem Group_eq (o:Int):op_Group o=some (grpV o):=by
 by_cases hf:o<0∨111≤o
 ·rw[group_far hf]
  congr 1
  unfold grpV
  rcases hf with h|h
  ·rw[if_pos h]
  ·rw[if_neg (by omega),if_neg (by omega),if_neg (by omega),if_neg (by omega),if_neg (by omega),if_neg (by omega),if_neg (by omega),if_neg (by omega),if_neg (by omega)]
 ·have:=List.all_eq_true.1 grp_in o.toNat (List.mem_range.2 (by omega))
  rw[Int.toNat_of_nonneg (by omega)] at this
  cases hg:op_Group o with
  |none=>rw[hg] at this;cases this
  |some g=>rw[hg] at this;rw[show g=grpV o by simpa using this]
theorem Needs_eq (o:Int):op_Needs o=some (ndV o):=by
 by_cases hf:o<0∨111≤o
 ·have h1:op_in o=some false:=by
   unfold op_in op_in_t
   by_cases h0:o≥0
   ·rw[ct h0,decide_eq_false (by omega)]
   ·rw[cf h0]
  unfold op_Needs op_Needs_t op_of op_of_t ndV
  rw[h1,if_neg (by omega)];rfl
 ·have:=List.all_eq_true.1 nd_in o.toNat (List.mem_range.2 (by omega))
  rw[Int.toNat_of_nonneg (by omega)] at this
  cases hg:op_Needs o with
  |none=>rw[hg] at this;cases this
  |some g=>rw[hg] at this;rw[show g=ndV o by simpa using this]
theorem nd_le: ∀x∈ndL,0≤x∧x≤4:=by decide
theorem ndV_le (o:Int):0≤ndV o∧ndV o≤4:=by
 unfold ndV
 split
 ·rename_i h
  rw[List.getD_eq_getElem?_getD]
  cases hg:ndL[o.toNat]? with
  |none=>exact⟨by decide,by decide⟩
  |some x=>exact nd_le x (List.mem_of_getElem? hg)
 ·exact⟨by decide,by decide⟩
theorem Within_tot (a b:Int):Tot (dict_within a b) fun v=>v=decide (0≤a∧a≤b):=by
 unfold dict_within dict_within_t
 refine .cd (fun h=> .ok ?_) fun h=> .ok ?_
 ·have:=of_decide_eq_true h
  rw[decide_eq_decide];omega
 ·have:=of_decide_eq_false h
  symm;rw[decide_eq_false_iff_not];omega
theorem Name_tot (o:Int):Tot (op_Name o) fun _=>True:=by
 unfold op_Name op_Name_t op_in op_in_t
 refine .bd (Q:=fun v=>v=decide (0≤o∧o<111)) ?_ fun v hv=> .cd (fun _=> .ok trivial) fun h=> .ct (of_nd (by rw[← hv];exact h)) (.ok trivial)
 refine .cd (fun h=> .ok ?_) fun h=> .ok ?_
 ·have:=of_decide_eq_true h
  rw[decide_eq_decide];omega
 ·have:=of_decide_eq_false h
  symm;rw[decide_eq_false_iff_not];omega
theorem Hidden_tot (o:Int):Tot (op_Hidden o) fun _=>True:=by
 unfold op_Hidden op_Hidden_t
 refine .bd (Name_tot o) fun v _=> .bd (Q:=fun _=>True) ?_ fun b _=> .ok trivial
 unfold hasPre1 hasPre1_t
 refine .bd (Q:=fun _=>True) ?_ fun b _=> .ok trivial
 unfold hasPre0 hasPre0_t
 refine .cd (fun h=> .ct ?_ (.ok trivial)) fun _=> .ok trivial
 have:=of_decide_eq_true h
 omega
theorem visible_tot (o:Int):Tot (dict_visible o) fun v=>v=true→0≤o∧o≤110:=by
 unfold dict_visible dict_visible_t
 refine .bd (Within_tot o 110) fun v hv=> .cd (fun h=> ?_) fun _=> .ok fun h=>by simp at h
 have:=of_decide_eq_true (hv.symm.trans h)
 exact .bd (Hidden_tot o) fun b _=> .ok fun _=>this
theorem capital_tot (c:Int):Tot (scan_capital c) fun _=>True:=by
 unfold scan_capital scan_capital_t
 exact .cd (fun _=> .cd (fun _=> .ok trivial) fun _=> .ok trivial) fun _=> .ok trivial
theorem upper_loop (n:Nat)(hn:n≤1000): ∀(k i:Nat) (l:List Int),n-i≤k→i≤n→Tot (scan_Upper_L1 (n,n,(n:Int),(i:Int),l)) fun _=>True:=by
 intro k
 have out: ∀l:List Int,Tot (scan_Upper_L1 (n,n,(n:Int),(n:Int),l)) fun _=>True:=fun l=>by
  refine⟨(n,l),runs_out ?_,trivial⟩
  unfold scan_Upper_L1_pass scan_Upper_L1_t
  simp only
  rw[decide_eq_false (by omega)]
  rfl
 induction k with
 |zero=>
  intro i l hk hi
  obtain rfl:i=n:=by omega
  exact out l
 |succ k ih=>
  intro i l hk hi
  by_cases hlt:i<n
  ·obtain⟨c,ec,_⟩:=capital_tot (List.getD l (0+i) 0)
   obtain⟨v,ev,_⟩:=ih (i+1) (List.set l (0+i) c) (by omega) (by omega)
   refine⟨v,(runs_next ?_).trans ev,trivial⟩
   unfold scan_Upper_L1_pass scan_Upper_L1_t
   simp only[Int.toNat_natCast]
   have w:IntKind.wrap IntKind.i64 ((i:Int)+1)=((i+1:Nat):Int):=by rw[wi,W_of ⟨by omega,by omega⟩];omega
   rw[decide_eq_true (show(i:Int)<(n:Int) by omega),decide_eq_true (show(0:Int)≤i∧(i:Int)<(n:Int) by omega),ec,w]
   rfl
  ·obtain rfl:i=n:=by omega
   exact out l
theorem Upper_tot {s:ByteArray}(h:s.size≤1000):Tot (scan_Upper s) fun _=>True:=by
 unfold scan_Upper scan_Upper_t
 exact .bd (upper_loop s.size h s.size 0 (bytesI s) (by omega) (by omega)) fun v _=> .ok trivial
theorem index_loop (l:List Int)(hn:l.length≤1000): ∀(k i:Nat),l.length-i≤k→i≤l.length→Tot (indexF_L1 (l,(l.length:Int),(i:Int))) fun _=>True:=by
 intro k
 have out:Tot (indexF_L1 (l,(l.length:Int),(l.length:Int))) fun _=>True:=by
  refine⟨.inr (),runs_out ?_,trivial⟩
  unfold indexF_L1_pass indexF_L1_t
  simp only
  rw[decide_eq_false (by omega)]
  rfl
 induction k with
 |zero=>
  intro i hk hi
  obtain rfl:i=l.length:=by omega
  exact out
 |succ k ih=>
  intro i hk hi
  by_cases hlt:i<l.length
  ·have w:IntKind.wrap IntKind.i64 ((i:Int)+1)=((i+1:Nat):Int):=by rw[wi,W_of ⟨by omega,by omega⟩];omega
   have hp:indexF_L1_pass (l,(l.length:Int),(i:Int))=cond (dict_named1 (List.getD l i 0)) (some (.inr (.inl (i:Int)))) (some (.inl (l,(l.length:Int),((i+1:Nat):Int)))):=by
    unfold indexF_L1_pass indexF_L1_t
    simp only[Int.toNat_natCast]
    rw[decide_eq_true (show(i:Int)<(l.length:Int) by omega),decide_eq_true (show(0:Int)≤i∧(i:Int)<(l.length:Int) by omega),w]
    rfl
   cases hb:dict_named1 (List.getD l i 0) with
   |true=>rw[hb] at hp;exact⟨_,runs_out hp,trivial⟩
   |false=>
    rw[hb] at hp
    obtain⟨v,ev,_⟩:=ih (i+1) (by omega) (by omega)
    exact⟨v,(runs_next hp).trans ev,trivial⟩
  ·obtain rfl:i=l.length:=by omega
   exact out
theorem contains_tot {l:List Int}(h:l.length≤1000):Tot (containsF l) fun _=>True:=by
 unfold containsF containsF_t indexF indexF_t
 refine .bd (Q:=fun _=>True) (.bd (index_loop l h l.length 0 (by omega) (by omega)) fun v _=> ?_) fun v _=> .ok trivial
 cases v with
 |inl v=>exact .ok trivial
 |inr v=>exact .ok trivial
theorem named_tot (s:ByteArray):Tot (dict_named s) fun _=>True:=by
 unfold dict_named dict_named_t
 have sz:Tot (dict_sized s) fun v=>v=true→s.size≤31:=by
  unfold dict_sized dict_sized_t
  refine .cd (fun _=> .ok fun h=> ?_) fun _=> .ok fun h=>by simp at h
  have:=of_decide_eq_true h
  omega
 refine .bd sz fun b hb=> .cd (fun h=> ?_) fun _=> .ok trivial
 have hs:=hb h
 refine .bd (Upper_tot (by omega)) fun u _=> .cd (fun _=> .bd (contains_tot ?_) fun x _=> .ok trivial) fun _=> .ok trivial
 rw[List.length_take];omega
theorem ESane_tot (s:ByteArray)(i:Bool)(k v th at_:Int):Tot (dict_Sane s i k v th at_) fun b=>b=true→(k=0→0≤v∧v≤110)∧(k=1∨k=4→PlaceP th at_)∧0≤k∧k≤4:=by
 have pl:0≤AddrV th at_→PlaceP th at_:=fun h=>by
  unfold AddrV at h
  split at h
  ·assumption
  ·omega
 unfold dict_Sane dict_Sane_t
 rw[Addr_eq]
 simp only[outOf_some]
 refine .bd (named_tot s) fun b _=> .cd (fun _=> .ok fun h=>by simp at h) fun _=> .cd (fun h0=> .bd (visible_tot v) fun x hx=> .cd (fun hh=> .ok fun _=> ?_) fun _=> .ok fun h=>by simp at h) fun h0=> .cd (fun h1=> .cd (fun _=> .ok fun h=> ?_) fun hh=>absurd h1 (by rw[hh];decide)) fun h1=> .cd (fun h4=> .ok fun h=> ?_) fun h4=> .cd (fun h2=> .ok fun _=> ?_) fun h2=> .ok fun h3=> ?_
 ·have h0:k=0:=by simpa using h0
  have:=hx hh
  exact⟨fun _=>this,fun h=>by omega,by omega,by omega⟩
 ·have h1:k=1:=by simpa using h1
  have:=pl (of_decide_eq_true h)
  exact⟨fun h=>by omega,fun _=>this,by omega,by omega⟩
 ·have h1:k=4:=by simpa using h4
  have:=pl (of_decide_eq_true h)
  exact⟨fun h=>by omega,fun _=>this,by omega,by omega⟩
 ·have h1:k=2:=by simpa using h2
  exact⟨fun h=>by omega,fun h=>by omega,by omega,by omega⟩
 ·have h1:k=3:=by simpa using h3
  exact⟨fun h=>by omega,fun h=>by omega,by omega,by omega⟩
end Go.Proofs.Dbl
/- What is done by the operations of group 0 (without EXECUTE): each comes to an end, and leaves a state that may be. -/
namespace Go.Proofs.Dbl
open Go Go.TX Go.Proofs
set_option maxRecDepth 100000
set_option maxHeartbeats 0
set_option linter.unusedVariables false
set_option linter.unusedSimpArgs false
abbrev Ev:Type:=Int×Int×Int×Int
abbrev Wd:Type:=ByteArray×Bool×Int×Int×Int×Int
abbrev W18:Type:=List Int×List Int×Int×Int×Int×List Int×ByteArray×Int×Int×List Ev×List (List (Int×Int))×List Wd×Int×Int×Bool×Int×Int×Int
structure Ctx where
 n:Nat
 me:Int
 ti:Int
 thr:List (List (Int×Int))
 wrd:List Wd
 lib:Int
 task:Int
 wl:Bool
def ResP (k n a:Int):Prop:=(k=0∧n=0∧a=0)∨k=1∨k=3∨(k=4∧1≤n∧n≤1073741824)∨k=5
def Ctx.OK (c:Ctx):Prop:=c.n≤5120∧Cell c.me∧Cell c.ti∧c.wrd.length≤1000000∧(∀ x∈c.wrd,Cell x.2.2.2.1)∧(∀ l∈c.thr,∀ x∈l,Cell x.2)
def Fit (c:Ctx)(w:W18):Prop:=
 TO w.1 w.2.1 w.2.2.1 w.2.2.2.1 w.2.2.2.2.1∧Mem c.n w.2.2.2.2.2.1∧w.2.2.2.2.2.2.1.size≤100000∧w.2.2.2.2.2.2.2.1=c.me∧w.2.2.2.2.2.2.2.2.1=c.ti∧w.2.2.2.2.2.2.2.2.2.1.length≤1000∧
 w.2.2.2.2.2.2.2.2.2.2.1=c.thr∧w.2.2.2.2.2.2.2.2.2.2.2.1=c.wrd∧w.2.2.2.2.2.2.2.2.2.2.2.2.1=c.lib∧w.2.2.2.2.2.2.2.2.2.2.2.2.2.1=c.task∧w.2.2.2.2.2.2.2.2.2.2.2.2.2.2.1=c.wl∧ResP w.2.2.2.2.2.2.2.2.2.2.2.2.2.2.2.1 w.2.2.2.2.2.2.2.2.2.2.2.2.2.2.2.2.1 w.2.2.2.2.2.2.2.2.2.2.2.2.2.2.2.2.2
def Out (c:Ctx)(th:Int):Prop:= ¬(0≤th∧th<c.lib)
def PL (c:Ctx)(th at_ k:Int):Prop:=Out c th∨(at_=0∧k=0)
def NLn (c:Ctx)(n:Int):Prop:= ∀t a:Int,dict_At n=some (t,a,true)→Out c t∨a=0
def Ctx.NL (c:Ctx):Prop:=(∀ x∈c.wrd,Out c x.2.2.2.2.1∨x.2.2.2.2.2=0)∧(∀ l∈c.thr,∀ x∈l,x.1=3→NLn c x.2)∧c.wl=false
def PLw (c:Ctx)(w:W18):Prop:=PL c w.2.2.1 w.2.2.2.1 w.2.2.2.2.2.2.2.2.2.2.2.2.2.2.2.1
def Post (c:Ctx)(v:Int×W18):Prop:=Cell v.1∧(v.1=0→Fit c v.2∧PLw c v.2)
def PostE (c:Ctx)(v:Int×W18):Prop:=Cell v.1∧(v.1=0→Fit c v.2∧PLw c v.2∧v.2.2.2.2.2.2.2.2.2.2.2.2.2.2.2.2.1=0)
section
variable {c:Ctx}{D R:List Int}{th at_ H:Int}{M:List Int}{o:ByteArray}{me ti:Int}{hi:List Ev}{thr:List (List (Int×Int))}{wrd:List Wd}{lib task:Int}{wl:Bool}{k n a:Int}
variable (g:Fit c (D,R,th,at_,H,M,o,me,ti,hi,thr,wrd,lib,task,wl,k,n,a))
include g
theorem Fit.task' {D' R':List Int}{th' at' H':Int}(h:TO D' R' th' at' H'):Fit c (D',R',th',at',H',M,o,me,ti,hi,thr,wrd,lib,task,wl,k,n,a):=⟨h,g.2⟩
theorem Fit.res' {D' R':List Int}{th' at' H' k' n' a':Int}(h:TO D' R' th' at' H')(hr:ResP k' n' a'):Fit c (D',R',th',at',H',M,o,me,ti,hi,thr,wrd,lib,task,wl,k',n',a'):=
 ⟨h,g.2.1,g.2.2.1,g.2.2.2.1,g.2.2.2.2.1,g.2.2.2.2.2.1,g.2.2.2.2.2.2.1,g.2.2.2.2.2.2.2.1,g.2.2.2.2.2.2.2.2.1,g.2.2.2.2.2.2.2.2.2.1,g.2.2.2.2.2.2.2.2.2.2.1,hr⟩
theorem Fit.t:TO D R th at_ H:=g.1
theorem pt' {e:Int}{D' R':List Int}{th' at' H':Int}(he:Cell e)(h:e=0→TO D' R' th' at' H'∧PL c th' at' k):Post c (e,D',R',th',at',H',M,o,me,ti,hi,thr,wrd,lib,task,wl,k,n,a):=⟨he,fun hz=>⟨⟨(h hz).1,g.2⟩,(h hz).2⟩⟩
variable (q:Out c th)
include q
theorem pt {e:Int}{D' R':List Int}{th' at' H':Int}(he:Cell e)(h:e=0→TO D' R' th' at' H')(ht:th'=th:=by first|rfl|assumption):Post c (e,D',R',th',at',H',M,o,me,ti,hi,thr,wrd,lib,task,wl,k,n,a):=⟨he,fun hz=>⟨⟨h hz,g.2⟩, .inl (ht▸q)⟩⟩
theorem to_tot {D' R':List Int}{th' at' H':Int}(h:TO D' R' th' at' H')(x:Int)(ht:th'=th:=by first|rfl|assumption):
  Tot (cond (decide (x<0)) (some ((-9:Int),D',R',th',at',H',M,o,me,ti,hi,thr,wrd,lib,task,wl,k,n,a)) (cond (decide (x≥4096)) (some ((-9:Int),D',R',th',at',H',M,o,me,ti,hi,thr,wrd,lib,task,wl,k,n,a)) (some ((0:Int),D',R',th',x,H',M,o,me,ti,hi,thr,wrd,lib,task,wl,k,n,a)))) (Post c):=by
 refine .cd (fun _=> .ok (pt g q e9 fun h=>by simp at h)) fun h1=> .cd (fun _=> .ok (pt g q e9 fun h=>by simp at h)) fun h2=> .ok (pt g q zero_cell fun _=>h.place ?_)
 have:=of_decide_eq_false h1
 have:=of_decide_eq_false h2
 have:=h.P
 unfold PlaceP at*
 omega
theorem push_p {D' R':List Int}{th' at' H' x:Int}(h:TO D' R' th' at' H')(hx:Cell x)(ht:th'=th:=by first|rfl|assumption):
  Tot (outOf (stk_Push D' 64 [x]) fun v=>some (v.2,v.1,R',th',at',H',M,o,me,ti,hi,thr,wrd,lib,task,wl,k,n,a)) (Post c):=by
 have:=h.lD
 exact .bd (push_tot (by omega) (by simp) h.cD (allc1 hx)) fun v ⟨v1,v2,v3,v4⟩=> .ok (pt g q v4 fun hz=>h.data (v2 hz) v1)
end
theorem getD_mem' {A:Type}{l:List A}{i:Nat}(h:i<l.length)(d:A):l.getD i d∈l:=by
 rw[List.getD_eq_getElem?_getD,List.getElem?_eq_getElem h]
 exact List.getElem_mem h
theorem Addr_nl {th at_:Int}:Tot (dict_Addr th at_) fun y=>Cell y∧ ∀t a:Int,dict_At y=some (t,a,true)→t=th∧a=at_:=by
 obtain⟨v,e,hv⟩:=Addr_tot (th:=th) (at_:=at_)
 refine⟨v,e,hv,fun t a h=> ?_⟩
 rw[Addr_eq] at e
 cases e
 by_cases hp:PlaceP th at_
 ·rw[At_Addr hp] at h
  cases h
  exact⟨rfl,rfl⟩
 ·have e1:AddrV th at_= -1:=if_neg hp
  rw[e1] at h
  have:dict_At (-1)=some (0,0,false):=by decide+kernel
  rw[this] at h
  cases h
theorem pop_n {D:List Int}{j:Nat}(h1:D.length≤64)(hn:j≤D.length)(hc:AllC D):Tot (stk_Pop D (j:Int)) fun v=>AllC v.1∧AllC v.2.1∧v.1.length≤64∧v.2.1.length=j:=
 (pop_tot (by omega) (by omega) hc).mono fun v ⟨v1,v2,v3,v4,v5,v6⟩=>⟨v1,v2,by omega,v4 (v6 hn)⟩
section
variable {c:Ctx}{D R:List Int}{th at_ H:Int}{M:List Int}{o:ByteArray}{me ti:Int}{hi:List Ev}{thr:List (List (Int×Int))}{wrd:List Wd}{lib task:Int}{wl:Bool}{k n a:Int}
variable (g:Fit c (D,R,th,at_,H,M,o,me,ti,hi,thr,wrd,lib,task,wl,k,n,a))
include g
variable (q:Out c th)
include q
theorem in_0 {x:Int}(hx:Cell x):Tot (inner0 0 x D R th at_ H M o me ti hi thr wrd lib task wl k n a) (Post c):=push_p g q g.t hx
theorem in_1 {x:Int}:Tot (inner0 1 x D R th at_ H M o me ti hi thr wrd lib task wl k n a) (Post c):=to_tot g q g.t x
theorem in_2 {x:Int}(hd:1≤D.length):Tot (inner0 2 x D R th at_ H M o me ti hi thr wrd lib task wl k n a) (Post c):=
 .bd (pop_n (j:=1) g.t.lD hd g.t.cD) fun v ⟨v1,v2,v3,v4⟩=> .ct (by rw[v4];decide) (.cd (fun _=>to_tot g q (g.t.data v3 v1) x) fun _=> .ok (pt g q zero_cell fun _=>g.t.data v3 v1))
omit q in
theorem in_3 {x:Int}(hx:Cell x)(hN:NLn c x)(hk:k=0):Tot (inner0 3 x D R th at_ H M o me ti hi thr wrd lib task wl k n a) (PostE c):=
 .bd (Enter_tot g.t hx) fun v ⟨v1,v2,v3⟩=> .ok ⟨v2,fun hz=>⟨⟨v1,g.2⟩,(hN _ _ (v3 hz)).imp id fun h=>⟨h,hk⟩,hk⟩⟩
omit q in
theorem in_0e {x:Int}(hx:Cell x)(hp:PL c th at_ k)(hk:k=0):Tot (inner0 0 x D R th at_ H M o me ti hi thr wrd lib task wl k n a) (PostE c):=
 .bd (push_tot (by have:=g.t.lD;omega) (by simp) g.t.cD (allc1 hx)) fun v ⟨v1,v2,v3,v4⟩=> .ok ⟨v4,fun hz=>⟨g.task' (g.t.data (v2 hz) v1),hp,hk⟩⟩
omit g q in
theorem Lib_tot (thr:List (List (Int×Int)))(wrd:List Wd)(lib th at_:Int):step_Lib thr wrd lib th at_=some (decide (0≤th∧th<lib)):=by
 unfold step_Lib step_Lib_t
 by_cases h:th≥0
 ·rw[decide_eq_true h]
  simp only[cond_true]
  congr 1;rw[decide_eq_decide];omega
 ·rw[decide_eq_false h]
  simp only[cond_false]
  congr 1;symm;rw[decide_eq_false_iff_not];omega
theorem in_4 {x:Int}(hw:wl=false):Tot (inner0 4 x D R th at_ H M o me ti hi thr wrd lib task wl k n a) (Post c):=by
 have el:lib=c.lib:=g.2.2.2.2.2.2.2.2.1
 exact .bd (Leave_tot g.t) fun v ⟨v1,v2,v3⟩=> .cd (fun he=> .ok ⟨v2,fun _=>⟨g.res' v1 (.inr (.inl rfl)), .inl ((v3 he).1▸q)⟩⟩) fun _=> .cd (fun _=> .bd (Q:=fun b=>b=decide (0≤v.2.2.1∧v.2.2.1<lib)) ⟨_,Lib_tot _ _ _ _ _,rfl⟩ fun b hb=> .cd (fun _=> .cd (fun _=> .ok (pt' g e9 fun h=>by simp at h)) fun h=>absurd h (by rw[hw];decide)) fun h=> .ok (pt' g v2 fun _=>⟨v1, .inl (by unfold Out;rw[← el];exact of_decide_eq_false (hb.symm.trans h))⟩)) fun h=> .ok (pt' g v2 fun hz=>absurd hz (by simpa using h))
theorem in_5 {x:Int}(hd:2≤D.length):Tot (inner0 5 x D R th at_ H M o me ti hi thr wrd lib task wl k n a) (Post c):=
 .bd (pop_n (j:=2) g.t.lD hd g.t.cD) fun v ⟨v1,v2,v3,v4⟩=> .cd (fun h=>absurd h (by decide)) fun _=> .ct (by rw[v4];decide) (.ct (by rw[v4];decide) (.bd (Begin_tot (g.t.data v3 v1) (getD_cell v2 _) (getD_cell v2 _)) fun w ⟨w1,w2,w3,w4⟩=> .ok (pt g q w2 fun _=>w1)))
theorem in_6 {x:Int}(hd:2≤D.length):Tot (inner0 6 x D R th at_ H M o me ti hi thr wrd lib task wl k n a) (Post c):=
 .bd (pop_n (j:=2) g.t.lD hd g.t.cD) fun v ⟨v1,v2,v3,v4⟩=> .cd (fun _=> .ct (by rw[v4];decide) (.ct (by rw[v4];decide) (.cd (fun _=>to_tot g q (g.t.data v3 v1) x) fun _=> .ct (by rw[v4];decide) (.ct (by rw[v4];decide) (.bd (Begin_tot (g.t.data v3 v1) (getD_cell v2 _) (getD_cell v2 _)) fun w ⟨w1,w2,w3,w4⟩=> .ok (pt g q w2 fun _=>w1)))))) fun h=>absurd h (by decide)
theorem in_7 {x:Int}:Tot (inner0 7 x D R th at_ H M o me ti hi thr wrd lib task wl k n a) (Post c):=
 .bd (Next_tot g.t 1) fun w ⟨w1,w2,w3,w4⟩=> .cd (fun _=> .ok (pt g q w2 fun _=>w1)) fun _=> .cd (fun _=> .ok (pt g q w2 fun _=>w1)) fun _=>to_tot g q w1 x
theorem in_8 {x:Int}(hd:1≤D.length):Tot (inner0 8 x D R th at_ H M o me ti hi thr wrd lib task wl k n a) (Post c):=
 .bd (pop_n (j:=1) g.t.lD hd g.t.cD) fun v ⟨v1,v2,v3,v4⟩=> .ct (by rw[v4];decide) (.bd (Next_tot (g.t.data v3 v1) _) fun w ⟨w1,w2,w3,w4⟩=> .cd (fun _=> .ok (pt g q w2 fun _=>w1)) fun _=> .cd (fun _=> .ok (pt g q w2 fun _=>w1)) fun _=>to_tot g q w1 x)
theorem in_9 {x:Int}:Tot (inner0 9 x D R th at_ H M o me ti hi thr wrd lib task wl k n a) (Post c):=
 .bd (Drop_tot g.t) fun w ⟨w1,w2,w3,w4⟩=> .ok (pt g q w2 fun _=>w1)
theorem in_10 {x:Int}:Tot (inner0 10 x D R th at_ H M o me ti hi thr wrd lib task wl k n a) (Post c):=
 .bd (Index_tot g.t 0) fun w ⟨w1,w2⟩=> .cd (fun _=> .ok (pt g q w2 fun _=>g.t)) fun _=>push_p g q g.t w1
theorem in_14 {x:Int}:Tot (inner0 14 x D R th at_ H M o me ti hi thr wrd lib task wl k n a) (Post c):=
 .bd (Index_tot g.t 0) fun w ⟨w1,w2⟩=> .cd (fun _=> .ok (pt g q w2 fun _=>g.t)) fun _=>push_p g q g.t w1
theorem in_11 {x:Int}:Tot (inner0 11 x D R th at_ H M o me ti hi thr wrd lib task wl k n a) (Post c):=
 .bd (Index_tot g.t 1) fun w ⟨w1,w2⟩=> .cd (fun _=> .ok (pt g q w2 fun _=>g.t)) fun _=>push_p g q g.t w1
theorem in_12 {x:Int}(hd:1≤D.length):Tot (inner0 12 x D R th at_ H M o me ti hi thr wrd lib task wl k n a) (Post c):=
 .bd (pop_n (j:=1) g.t.lD hd g.t.cD) fun v ⟨v1,v2,v3,v4⟩=> .ct (by rw[v4];decide) (.bd (Keep_tot (g.t.data v3 v1) (getD_cell v2 _)) fun w ⟨w1,w2,w3,w4⟩=> .ok (pt g q w2 fun _=>w1))
theorem in_13 {x:Int}:Tot (inner0 13 x D R th at_ H M o me ti hi thr wrd lib task wl k n a) (Post c):=
 .bd (Back_tot g.t) fun w ⟨w1,w2,w3,w4,w5⟩=> .cd (fun _=> .ok (pt g q w3 fun _=>w1)) fun _=>push_p g q w1 w2
theorem in_17 {x:Int}(hd:1≤D.length):Tot (inner0 17 x D R th at_ H M o me ti hi thr wrd lib task wl k n a) (Post c):=
 .bd (pop_n (j:=1) g.t.lD hd g.t.cD) fun v ⟨v1,v2,v3,v4⟩=> .ct (by rw[v4];decide) (.ok (pt g q (getD_cell v2 _) fun _=>g.t.data v3 v1))
theorem in_16 {x:Int}(hc:c.OK)(hN:c.NL)(hk:k=0)(hd:1≤D.length):Tot (inner0 16 x D R th at_ H M o me ti hi thr wrd lib task wl k n a) (Post c):=by
 have e13':Cell (-13):=e13
 have hw:wrd.length≤1000000:=by
  have:=hc.2.2.2.1
  have e:wrd=c.wrd:=g.2.2.2.2.2.2.2.1
  rw[e];exact this
 refine .bd (pop_n (j:=1) g.t.lD hd g.t.cD) fun v ⟨v1,v2,v3,v4⟩=> .ct (by rw[v4];decide) ?_
 have hv:=g.t.data v3 v1
 have w1:IntKind.wrap .i64 ((wrd.length:Int)-1)=(wrd.length:Int)-1:=by rw[wi,W_of ⟨by omega,by omega⟩]
 generalize List.getD v.2.1 0 0=qq
 rw[w1]
 refine .bd (Within_tot _ _) fun b hb=> .cd (fun _=> .ok (pt g q e13 fun h=>by simp at h)) fun hb2=> ?_
 have hq:0≤qq∧qq≤(wrd.length:Int)-1:=of_nd (by rw[← hb];exact hb2)
 have hq':0≤qq∧qq<(wrd.length:Int):=by omega
 refine .ct hq' ?_
 have hval:Out c (List.getD wrd (Int.toNat qq) (bytesOf [],false,(0:Int),(0:Int),(0:Int),(0:Int))).2.2.2.2.1∨(List.getD wrd (Int.toNat qq) (bytesOf [],false,(0:Int),(0:Int),(0:Int),(0:Int))).2.2.2.2.2=0:=by
  have e:wrd=c.wrd:=g.2.2.2.2.2.2.2.1
  exact hN.1 _ (e▸getD_mem' (by omega) _)
 generalize List.getD wrd (Int.toNat qq) (bytesOf [],false,(0:Int),(0:Int),(0:Int),(0:Int))=e at hval⊢
 refine .bd (ESane_tot _ _ _ _ _ _) fun s hs=> .cd (fun _=> .ok (pt g q e13 fun h=>by simp at h)) fun _=> .ct hq' ?_
 have fin:Tot (cond (decide (0≤qq∧qq<(wrd.length:Int))) (cond (e.2.2.1 != 1) (some ((-13:Int),v.1,R,th,at_,H,M,o,me,ti,hi,thr,wrd,lib,task,wl,k,n,a)) (cond (decide (0≤qq∧qq<(wrd.length:Int))) (outOf (dict_Addr e.2.2.2.2.1 e.2.2.2.2.2) fun y=>outOf (ret_Catch v.1 R th at_ H y) fun u=>some (u.2.2.2.2.2,u.1,u.2.1,u.2.2.1,u.2.2.2.1,u.2.2.2.2.1,M,o,me,ti,hi,thr,wrd,lib,task,wl,k,n,a)) none)) none) (Post c):=
  .ct hq' (.cd (fun _=> .ok (pt g q e13 fun h=>by simp at h)) fun _=> .ct hq' (.bd Addr_nl fun y hy=> .bd (Catch_tot hv hy.1) fun u ⟨u1,u2,u3⟩=> .ok (pt' g u2 fun hz=>⟨u1,by obtain⟨h1,h2⟩:=hy.2 _ _ (u3 hz);rw[h1,h2];exact hval.imp id fun h=>⟨h,hk⟩⟩)))
 exact .bd Addr_tot fun y hy=> .cd (fun _=>fin) fun _=> .cd (fun _=>fin) fun _=> .cd (fun _=>fin) fun _=>fin
theorem inner0_tot {op x:Int}(hc:c.OK)(hN:c.NL)(hk:k=0)(hn3:op=3→NLn c x)(hw:wl=false)(hx:Cell x)(h0:0≤op)(h1:op≤17)(h2:op≠15)(hd:ndV op≤D.length):Tot (inner0 op x D R th at_ H M o me ti hi thr wrd lib task wl k n a) (Post c):=by
 have hop:op=0∨op=1∨op=2∨op=3∨op=4∨op=5∨op=6∨op=7∨op=8∨op=9∨op=10∨op=11∨op=12∨op=13∨op=14∨op=16∨op=17:=by omega
 have hn: ∀(m:Int) (j:Nat),ndV m=(j:Int)→ndV m≤D.length→j≤D.length:=fun m j h1 h2=>by rw[h1] at h2;omega
 rcases hop with rfl|rfl|rfl|rfl|rfl|rfl|rfl|rfl|rfl|rfl|rfl|rfl|rfl|rfl|rfl|rfl|rfl
 ·exact in_0 g q hx
 ·exact in_1 g q
 ·exact in_2 g q (hn _ 1 rfl hd)
 ·exact(in_3 g hx (hn3 rfl) hk).mono fun v hv=>⟨hv.1,fun hz=>⟨(hv.2 hz).1,(hv.2 hz).2.1⟩⟩
 ·exact in_4 g q hw
 ·exact in_5 g q (hn _ 2 rfl hd)
 ·exact in_6 g q (hn _ 2 rfl hd)
 ·exact in_7 g q
 ·exact in_8 g q (hn _ 1 rfl hd)
 ·exact in_9 g q
 ·exact in_10 g q
 ·exact in_11 g q
 ·exact in_12 g q (hn _ 1 rfl hd)
 ·exact in_13 g q
 ·exact in_14 g q
 ·exact in_16 g q hc hN hk (hn _ 1 rfl hd)
 ·exact in_17 g q (hn _ 1 rfl hd)
end
end Go.Proofs.Dbl
/- What is done by the operations of the groups 2 to 6: each comes to an end, and leaves a state that may be. -/
namespace Go.Proofs.Dbl
open Go Go.TX Go.Proofs
set_option maxRecDepth 100000
set_option maxHeartbeats 0
set_option linter.unusedVariables false
set_option linter.unusedSimpArgs false
theorem UText_bad {b:Int}(h: ¬(2≤b∧b≤36))(n:Int):num_UText n b=some (bs []):=by
 unfold num_UText num_UText_t
 have hg:goodB b=false:=decide_eq_false h
 rw[good_eq,hg]
 rfl
theorem Text_bad {b:Int}(h: ¬(2≤b∧b≤36))(n:Int):num_Text n b=some (bs []):=by
 unfold num_Text num_Text_t
 have hg:goodB b=false:=decide_eq_false h
 rw[good_eq,hg]
 rfl
theorem Text_any {b n:Int}(hn:Cell n):Tot (num_Text n b) fun v=>v.size≤100:=by
 by_cases h:2≤b∧b≤36
 ·exact Text_tot h.1 h.2 hn
 ·rw[Text_bad h];exact .ok (by decide)
theorem UText_any (b n:Int):Tot (num_UText n b) fun v=>v.size≤100:=by
 by_cases h:2≤b∧b≤36
 ·exact UText_tot n h.1 h.2
 ·rw[UText_bad h];exact .ok (by decide)
theorem app_size (x y:ByteArray):(x++y).size=x.size+y.size:=by simp
section
variable {c:Ctx}{D R:List Int}{th at_ H:Int}{M:List Int}{o:ByteArray}{me ti:Int}{hi:List Ev}{thr:List (List (Int×Int))}{wrd:List Wd}{lib task:Int}{wl:Bool}{k n a:Int}
variable (g:Fit c (D,R,th,at_,H,M,o,me,ti,hi,thr,wrd,lib,task,wl,k,n,a))
include g
theorem Fit.m:Mem c.n M:=g.2.1
theorem Fit.oo:o.size≤100000:=g.2.2.1
theorem Fit.hh:hi.length≤1000:=g.2.2.2.2.2.1
variable (q:Out c th)
include q
theorem pm {e:Int}{D' M':List Int}(he:Cell e)(h:e=0→TO D' R th at_ H)(hm:Mem c.n M'):Post c (e,D',R,th,at_,H,M',o,me,ti,hi,thr,wrd,lib,task,wl,k,n,a):=⟨he,fun hz=>⟨⟨h hz,hm,g.2.2⟩, .inl q⟩⟩
theorem say_p {D':List Int}(h:TO D' R th at_ H){s:ByteArray}(hs:s.size≤10000):Tot (cond (decide (IntKind.wrap .i64 ((o.size:Int)+(s.size:Int))>1000)) (some ((-8:Int),D',R,th,at_,H,M,o,me,ti,hi,thr,wrd,lib,task,wl,k,n,a)) (cond (decide (((o.size+s.size:Nat):Int)>9223372036854775807)) none (some ((0:Int),D',R,th,at_,H,M,o++s,me,ti,hi,thr,wrd,lib,task,wl,k,n,a)))) (Post c):=by
 have ho:=g.oo
 refine .cd (fun _=> .ok (pt g q e8 fun h=>by simp at h)) fun hb=> ?_
 rw[decide_eq_false (show ¬(((o.size+s.size:Nat):Int)>9223372036854775807) by omega)]
 have hb':=of_decide_eq_false hb
 rw[wi,W_of ⟨by omega,by omega⟩] at hb'
 exact .ok ⟨zero_cell,fun _=>⟨⟨h,g.2.1,by show(o++s).size≤100000;rw[app_size];omega,g.2.2.2⟩, .inl q⟩⟩
theorem pushm_p {D' M' x:List Int}(h:TO D' R th at_ H)(hm:Mem c.n M')(hl:x.length≤10)(hx:AllC x):
  Tot (outOf (stk_Push D' 64 x) fun v=>some (v.2,v.1,R,th,at_,H,M',o,me,ti,hi,thr,wrd,lib,task,wl,k,n,a)) (Post c):=by
 have:=h.lD
 exact .bd (push_tot (by omega) (by omega) h.cD hx) fun v ⟨v1,v2,v3,v4⟩=> .ok (pm g q v4 (fun hz=>h.data (v2 hz) v1) hm)
theorem stored_p {D':List Int}(h:TO D' R th at_ H){v:List Int×Int}(hv:Mem c.n v.1∧Cell v.2):
  Tot (cond (v.2==0) (some (v.2,D',R,th,at_,H,v.1,o,me,ti,hi,thr,wrd,lib,task,wl,k,n,a)) (some (v.2,D',R,th,at_,H,M,o,me,ti,hi,thr,wrd,lib,task,wl,k,n,a))) (Post c):=
 .cd (fun _=> .ok (pm g q hv.2 (fun _=>h) hv.1)) fun _=> .ok (pm g q hv.2 (fun _=>h) g.m)
theorem digits_p {D':List Int}(h:TO D' R th at_ H){v:List Int×Int×Int×Int}(hv:Mem c.n v.1∧Cell v.2.1∧Cell v.2.2.1∧Cell v.2.2.2):
  Tot (cond (v.2.2.2==0) (cond (v.2.2.2 != 0) (some (v.2.2.2,D',R,th,at_,H,v.1,o,me,ti,hi,thr,wrd,lib,task,wl,k,n,a)) (outOf (stk_Push D' 64 [v.2.1,v.2.2.1]) fun u=>some (u.2,u.1,R,th,at_,H,v.1,o,me,ti,hi,thr,wrd,lib,task,wl,k,n,a)))
   (cond (v.2.2.2 != 0) (some (v.2.2.2,D',R,th,at_,H,M,o,me,ti,hi,thr,wrd,lib,task,wl,k,n,a)) (outOf (stk_Push D' 64 [v.2.1,v.2.2.1]) fun u=>some (u.2,u.1,R,th,at_,H,M,o,me,ti,hi,thr,wrd,lib,task,wl,k,n,a)))) (Post c):=
 .cd (fun _=> .cd (fun _=> .ok (pm g q hv.2.2.2 (fun _=>h) hv.1)) fun _=>pushm_p g q h hv.1 (by simp) ⟨hv.2.1,hv.2.2.1,trivial⟩) fun _=> .cd (fun _=> .ok (pm g q hv.2.2.2 (fun _=>h) g.m)) fun _=>pushm_p g q h g.m (by simp) ⟨hv.2.1,hv.2.2.1,trivial⟩
omit q in
theorem needs_p {op:Int}(hd:ndV op≤D.length):Tot (outOf (op_Needs op) fun x=>stk_Pop D x) fun v=>TO v.1 R th at_ H∧AllC v.2.1∧(v.2.1.length:Int)=ndV op:=by
 rw[Needs_eq]
 simp only[outOf_some]
 obtain⟨h0,h4⟩:=ndV_le op
 obtain⟨j,hj⟩: ∃j:Nat,ndV op=j:=⟨(ndV op).toNat,by omega⟩
 rw[hj] at hd⊢
 exact(pop_n (j:=j) g.t.lD (by omega) g.t.cD).mono fun v ⟨v1,v2,v3,v4⟩=>⟨g.t.data v3 v1,v2,by rw[v4]⟩
end
theorem idx0 {l:List Int}{m:Int}(h:(l.length:Int)=m)(hi:0<m):(0:Int)≤0∧(0:Int)<(l.length:Int):=by omega
theorem idx1 {l:List Int}{m:Int}(h:(l.length:Int)=m)(hi:1<m):(0:Int)≤1∧(1:Int)<(l.length:Int):=by omega
theorem idx2 {l:List Int}{m:Int}(h:(l.length:Int)=m)(hi:2<m):(0:Int)≤2∧(2:Int)<(l.length:Int):=by omega
theorem Tot.hit {X:Type}{b:Bool}{x y:Option X}{S:X→Prop}(hb:b=true)(h:Tot x S):Tot (cond b x y) S:=by rw[hb];exact h
theorem Tot.miss {X:Type}{b:Bool}{x y:Option X}{S:X→Prop}(hb:b=false)(h:Tot y S):Tot (cond b x y) S:=by rw[hb];exact h
section
variable {c:Ctx}{D R:List Int}{th at_ H:Int}{M:List Int}{o:ByteArray}{me ti:Int}{hi:List Ev}{thr:List (List (Int×Int))}{wrd:List Wd}{lib task:Int}{wl:Bool}{k n a:Int}
variable (hc:c.OK)(g:Fit c (D,R,th,at_,H,M,o,me,ti,hi,thr,wrd,lib,task,wl,k,n,a))
include hc g
variable (q:Out c th)
include q
theorem memory_tot {op:Int}(h0:75≤op)(h1:op≤82)(hd:ndV op≤D.length):Tot (work_memory op D R th at_ H M o me ti hi thr wrd lib task wl k n a) (Post c):=by
 have hN:=hc.1
 have hm:=g.m
 obtain⟨v,ev,v1,v2,v3⟩:=needs_p g hd
 have start: ∀(f:_→Option (Int×W18)),Tot (f v) (Post c)→Tot (outOf (op_Needs op) fun x=>outOf (stk_Pop D x) f) (Post c):=fun f hf=>by
  rw[Needs_eq] at ev⊢
  simp only[outOf_some] at ev⊢
  rw[ev]
  exact hf
 have hop:op=75∨op=76∨op=77∨op=78∨op=79∨op=80∨op=81∨op=82:=by omega
 have cc:=fun i=>getD_cell v2 i
 rcases hop with rfl|rfl|rfl|rfl|rfl|rfl|rfl|rfl
 ·exact start _ (.hit rfl (.ct (idx0 v3 (by decide)) (.bd (Read_tot hm hN _ _ (cc _)) fun u ⟨u1,u2⟩=> .cd (fun _=> .ok (pt g q u2 fun _=>v1)) fun _=>push_p g q v1 u1)))
 ·exact start _ (.miss rfl (.hit rfl (.ct (idx1 v3 (by decide)) (.ct (idx0 v3 (by decide)) (.bd (Write_tot hm hN _ _ (cc _) (cc _)) fun u hu=>stored_p g q v1 hu)))))
 ·exact start _ (.miss rfl (.miss rfl (.miss rfl (.miss rfl (.hit rfl (.ct (idx0 v3 (by decide)) (.bd (May_tot _ _ (cc _) (by unfold Cell;omega) _) fun b _=> .cd (fun _=> .ok (pt g q e9 fun h=>by simp at h)) fun _=> .ct (idx0 v3 (by decide)) (.bd (Byte_tot hm hN (cc _)) fun u ⟨u1,u2⟩=> .cd (fun _=> .ok (pt g q u2 fun _=>v1)) fun _=>push_p g q v1 u1))))))))
 ·exact start _ (.miss rfl (.miss rfl (.miss rfl (.miss rfl (.miss rfl (.hit rfl (.ct (idx1 v3 (by decide)) (.bd (May_tot _ _ (cc _) (by unfold Cell;omega) _) fun b _=> .cd (fun _=> .ok (pt g q e9 fun h=>by simp at h)) fun _=> .ct (idx1 v3 (by decide)) (.ct (idx0 v3 (by decide)) (.bd (PutByte_tot hm hN (cc _)) fun u hu=>stored_p g q v1 hu))))))))))
 ·exact start _ (.miss rfl (.miss rfl (.hit rfl (.ct (idx0 v3 (by decide)) (.ct (idx1 v3 (by decide)) (.bd (Read_tot hm hN _ _ (cc _)) fun u ⟨u1,u2⟩=> .cd (fun _=> .ok (pt g q u2 fun _=>v1)) fun _=> .bd (Write_tot hm hN _ _ (cc _) (wc _)) fun u hu=>stored_p g q v1 hu))))))
 ·exact start _ (.miss rfl (.miss rfl (.miss rfl (.miss rfl (.miss rfl (.miss rfl (.hit rfl (.ct (idx0 v3 (by decide)) (.ct (idx1 v3 (by decide)) (.bd (May_tot _ _ (cc _) (cc _) _) fun b _=> .cd (fun _=> .ok (pt g q e9 fun h=>by simp at h)) fun _=> .ct (idx0 v3 (by decide)) (.ct (idx1 v3 (by decide)) (.ct (idx2 v3 (by decide)) (.bd (Fill_tot hm hN (cc _) (cc _)) fun u hu=>stored_p g q v1 hu)))))))))))))
 ·exact start _ (.miss rfl (.miss rfl (.miss rfl (.miss rfl (.miss rfl (.miss rfl (.miss rfl (.ct (idx0 v3 (by decide)) (.ct (idx2 v3 (by decide)) (.bd (May_tot _ _ (cc _) (cc _) _) fun b _=> .cd (fun _=> .ok (pt g q e9 fun h=>by simp at h)) fun _=> .ct (idx1 v3 (by decide)) (.ct (idx2 v3 (by decide)) (.bd (May_tot _ _ (cc _) (cc _) _) fun b _=> .cd (fun _=> .ok (pt g q e9 fun h=>by simp at h)) fun _=> .ct (idx0 v3 (by decide)) (.ct (idx1 v3 (by decide)) (.ct (idx2 v3 (by decide)) (.bd (Move_tot hm hN (cc _) (cc _) (cc _)) fun u hu=>stored_p g q v1 hu)))))))))))))))
 ·exact start _ (.miss rfl (.miss rfl (.miss rfl (.hit rfl (.ct (idx0 v3 (by decide)) (.ct (idx1 v3 (by decide)) (.ct (idx2 v3 (by decide)) (.bd (May_tot _ _ (cc _) (by unfold Cell;omega) _) fun b _=> .cd (fun _=> .ok (pt g q e9 fun h=>by simp at h)) fun _=> .bd (Swap_tot hm hN (cc _) (cc _)) fun u ⟨u1,u2,u3⟩=> .cd (fun _=> .ok (pm g q u3 (fun _=>v1) u1)) fun _=>pushm_p g q v1 u1 (by simp) ⟨u2,trivial⟩))))))))
theorem output_tot {op:Int}(h0:83≤op)(h1:op≤88)(hd:ndV op≤D.length):Tot (work_output op D R th at_ H M o me ti hi thr wrd lib task wl k n a) (Post c):=by
 have hN:=hc.1
 have hm:=g.m
 obtain⟨v,ev,v1,v2,v3⟩:=needs_p g hd
 have start: ∀(f:_→Option (Int×W18)),Tot (f v) (Post c)→Tot (outOf (op_Needs op) fun x=>outOf (stk_Pop D x) f) (Post c):=fun f hf=>by
  rw[Needs_eq] at ev⊢
  simp only[outOf_some] at ev⊢
  rw[ev]
  exact hf
 have hop:op=83∨op=84∨op=85∨op=86∨op=87∨op=88:=by omega
 have cc:=fun i=>getD_cell v2 i
 have num: ∀(x:ByteArray) (e:Int),x.size≤100→Cell e→Tot (cond (decide (((x.size+1:Nat):Int)>9223372036854775807)) none (cond (e != 0) (some (e,v.1,R,th,at_,H,M,o,me,ti,hi,thr,wrd,lib,task,wl,k,n,a)) (cond (decide (IntKind.wrap .i64 ((o.size:Int)+((x++bytesOf [32]).size:Int))>1000)) (some ((-8:Int),v.1,R,th,at_,H,M,o,me,ti,hi,thr,wrd,lib,task,wl,k,n,a)) (cond (decide (((o.size+(x++bytesOf [32]).size:Nat):Int)>9223372036854775807)) none (some ((0:Int),v.1,R,th,at_,H,M,o++(x++bytesOf [32]),me,ti,hi,thr,wrd,lib,task,wl,k,n,a)))))) (Post c):=fun x e hx he=>by
  rw[decide_eq_false (show ¬(((x.size+1:Nat):Int)>9223372036854775807) by omega)]
  exact .miss rfl (.cd (fun _=> .ok (pt g q he fun _=>v1)) fun _=>say_p g q v1 (s:=x++bytesOf [32]) (by rw[app_size];have:(bytesOf [32]).size=1:=rfl;omega))
 rcases hop with rfl|rfl|rfl|rfl|rfl|rfl
 ·exact start _ (.hit rfl (.ct (idx0 v3 (by decide)) (say_p g q v1 (by rw[strOf_size];show(1:Nat)≤10000;decide))))
 ·exact start _ (.miss rfl (.hit rfl (.ct (idx0 v3 (by decide)) (.ct (idx1 v3 (by decide)) (.bd (May_tot _ _ (cc _) (cc _) _) fun b _=> .cd (fun _=> .ok (pt g q e9 fun h=>by simp at h)) fun _=> .ct (idx0 v3 (by decide)) (.ct (idx1 v3 (by decide)) (.bd (MText_tot hm hN (cc _) (cc _)) fun u ⟨u1,u2⟩=> .cd (fun _=> .ok (pt g q u2 fun _=>v1)) fun _=>say_p g q v1 (by omega))))))))
 ·exact start _ (.miss rfl (.miss rfl (.hit rfl (.ct (idx0 v3 (by decide)) (.bd (User_tot _) fun u _=> .bd (Base_tot hm hN _) fun b ⟨b1,_⟩=> .bd (Text_any (cc _)) fun x hx=>num x b.2 hx b1)))))
 ·exact start _ (.miss rfl (.miss rfl (.miss rfl (.hit rfl (.ct (idx0 v3 (by decide)) (.bd (User_tot _) fun u _=> .bd (Base_tot hm hN _) fun b ⟨b1,_⟩=> .bd (UText_any _ _) fun x hx=>num x b.2 hx b1))))))
 ·exact start _ (.miss rfl (.miss rfl (.miss rfl (.miss rfl (.hit rfl (say_p g q v1 (s:=bytesOf [10]) (by decide)))))))
 ·exact start _ (.miss rfl (.miss rfl (.miss rfl (.miss rfl (.miss rfl (say_p g q v1 (s:=bytesOf [32]) (by decide)))))))
theorem picture_tot {op:Int}(h0:89≤op)(h1:op≤97)(hd:ndV op≤D.length):Tot (work_picture op D R th at_ H M o me ti hi thr wrd lib task wl k n a) (Post c):=by
 have hN:=hc.1
 have hm:=g.m
 obtain⟨v,ev,v1,v2,v3⟩:=needs_p g hd
 obtain⟨u,eu,_⟩:=User_tot me
 have start: ∀(f:_→_→Option (Int×W18)),Tot (f v u) (Post c)→Tot (outOf (op_Needs op) fun x=>outOf (stk_Pop D x) fun _=>outOf (step_User me) fun _=>outOf (op_Needs op) fun x=>outOf (stk_Pop D x) fun y=>outOf (step_User me) fun z=>cond (decide (me=me)) (cond (decide (me=me)) (f y z) none) none) (Post c):=fun f hf=>by
  rw[Needs_eq] at ev⊢
  simp only[outOf_some] at ev⊢
  rw[ev]
  simp only[outOf_some,decide_true,cond_true]
  rw[eu]
  exact hf
 have hop:op=89∨op=90∨op=91∨op=92∨op=93∨op=94∨op=95∨op=96∨op=97:=by omega
 have cc:=fun i=>getD_cell v2 i
 rcases hop with rfl|rfl|rfl|rfl|rfl|rfl|rfl|rfl|rfl
 ·exact start _ (.hit rfl (.bd (PBegin_tot hm hN _) fun w hw=>stored_p g q v1 hw))
 ·exact start _ (.miss rfl (.hit rfl (.ct (idx0 v3 (by decide)) (.ct (idx1 v3 (by decide)) (.bd (PDigit_tot hm hN _ (cc _) (cc _)) fun w ⟨w1,w2,w3,w4,_⟩=>digits_p g q v1 ⟨w1,w2,w3,w4⟩)))))
 ·exact start _ (.miss rfl (.miss rfl (.hit rfl (.ct (idx0 v3 (by decide)) (.ct (idx1 v3 (by decide)) (.bd (PAll_tot hm hN _ (cc _) (cc _)) fun w hw=>digits_p g q v1 hw))))))
 ·exact start _ (.miss rfl (.miss rfl (.miss rfl (.hit rfl (.ct (idx0 v3 (by decide)) (.bd (Hold_tot hm hN _ _) fun w hw=>stored_p g q v1 hw))))))
 ·exact start _ (.miss rfl (.miss rfl (.miss rfl (.miss rfl (.hit rfl (.ct (idx0 v3 (by decide)) (.bd (PSign_tot hm hN _ _) fun w hw=>stored_p g q v1 hw)))))))
 ·exact start _ (.miss rfl (.miss rfl (.miss rfl (.miss rfl (.miss rfl (.hit rfl (.bd (PEnd_tot hm hN _) fun w ⟨w1,w2,w3⟩=> .cd (fun _=> .ok (pt g q w3 fun _=>v1)) fun _=>pushm_p g q v1 hm (by simp) ⟨w1,w2,trivial⟩)))))))
 ·exact start _ (.miss rfl (.miss rfl (.miss rfl (.miss rfl (.miss rfl (.miss rfl (.miss rfl (.miss rfl (push_p g q v1 (wc _))))))))))
 ·exact start _ (.miss rfl (.miss rfl (.miss rfl (.miss rfl (.miss rfl (.miss rfl (.hit rfl (.bd (Put_tot hm hN (wc _) (by unfold Cell;omega)) fun w hw=>stored_p g q v1 hw))))))))
 ·exact start _ (.miss rfl (.miss rfl (.miss rfl (.miss rfl (.miss rfl (.miss rfl (.miss rfl (.hit rfl (.bd (Put_tot hm hN (wc _) (by unfold Cell;omega)) fun w hw=>stored_p g q v1 hw)))))))))
theorem tasks_tot {op:Int}(h0:98≤op)(h1:op≤103)(hd:ndV op≤D.length):Tot (work_tasks op D R th at_ H M o me ti hi thr wrd lib task wl k n a) (Post c):=by
 have e1:me=c.me:=g.2.2.2.1
 have e2:ti=c.ti:=g.2.2.2.2.1
 have hn: ∀(m:Int) (j:Nat),ndV m=(j:Int)→ndV m≤D.length→j≤D.length:=fun m j h1 h2=>by rw[h1] at h2;omega
 have hop:op=98∨op=99∨op=100∨op=101∨op=102∨op=103:=by omega
 rcases hop with rfl|rfl|rfl|rfl|rfl|rfl
 ·exact push_p g q g.t (by rw[e1];exact hc.2.1)
 ·exact push_p g q g.t (by rw[e2];exact hc.2.2.1)
 ·exact .ok ⟨zero_cell,fun _=>⟨g.res' g.t (.inr (.inr (.inl rfl))), .inl q⟩⟩
 ·refine .bd (pop_n (j:=1) g.t.lD (hn _ 1 rfl hd) g.t.cD) fun v ⟨v1,v2,v3,v4⟩=> .ct (by rw[v4];decide) (.ok ⟨zero_cell,fun _=>⟨g.res' (g.t.data v3 v1) (.inr (.inr (.inr (.inl ⟨rfl, ?_⟩)))), .inl q⟩⟩)
  generalize List.getD v.2.1 0 0=x
  split<;>(try split)<;>omega
 ·exact .ok ⟨zero_cell,fun _=>⟨g.res' g.t (.inr (.inl rfl)), .inl q⟩⟩
 ·refine .bd (pop_n (j:=3) g.t.lD (hn _ 3 rfl hd) g.t.cD) fun v ⟨v1,v2,v3,v4⟩=> ?_
  have hh:=g.hh
  have note: ∀x:Ev,Tot (cond (decide ((hi.length:Int)≥400)) (some ((-8:Int),v.1,R,th,at_,H,M,o,me,ti,hi,thr,wrd,lib,task,wl,k,n,a)) (cond (decide (hi.length≤2147483648)) (cond (decide ((0:Int)≤2∧(2:Int)<(v.2.1.length:Int))) (cond (decide ((0:Int)≤1∧(1:Int)<(v.2.1.length:Int))) (cond (decide ((0:Int)≤0∧(0:Int)<(v.2.1.length:Int))) (cond (decide (hi.length+[x].length≤2147483648)) (some ((0:Int),v.1,R,th,at_,H,M,o,me,ti,List.take (hi.length+[x].length) (List.drop 0 (List.take hi.length (List.drop 0 hi)++[x])),thr,wrd,lib,task,wl,k,n,a)) none) none) none) none) none)) (Post c):=fun x=>by
   refine .cd (fun _=> .ok (pt g q e8 fun h=>by simp at h)) fun hb=> .ct (by omega) (.ct (by rw[v4];decide) (.ct (by rw[v4];decide) (.ct (by rw[v4];decide) (.ct (by simp only[List.length_singleton];omega) ?_))))
   have hb':=of_decide_eq_false hb
   refine .ok ⟨zero_cell,fun _=>⟨⟨g.t.data v3 v1,g.2.1,g.2.2.1,g.2.2.2.1,g.2.2.2.2.1, ?_,g.2.2.2.2.2.2⟩, .inl q⟩⟩
   show(List.take _ _).length≤1000
   rw[List.length_take]
   simp only[List.length_singleton]
   omega
  exact .cd (fun _=> .cd (fun _=> .ok (pt g q e21 fun h=>by simp at h)) fun _=>note _) fun _=>note _
end
end Go.Proofs.Dbl
/- What an instruction does, and what a step is: each comes to an end, and leaves a state that may be. -/
namespace Go.Proofs.Dbl
open Go Go.TX Go.Proofs
set_option maxRecDepth 100000
set_option maxHeartbeats 0
set_option linter.unusedVariables false
set_option linter.unusedSimpArgs false
theorem grp_of (op:Int):(grpV op=0→0≤op∧op≤17)∧(grpV op=1→18≤op∧op≤74)∧(grpV op=2→75≤op∧op≤82)∧(grpV op=3→83≤op∧op≤88)∧(grpV op=4→89≤op∧op≤94)∧(grpV op=5→95≤op∧op≤97)∧(grpV op=6→98≤op∧op≤103):=by
 unfold grpV
 (repeat' split)<;>refine⟨?_, ?_, ?_, ?_, ?_, ?_, ?_⟩<;>omega
theorem orE_tot {X:Type}{x y:Option X}{S:X→Prop}(h:Tot x S):Tot (orE x y) S:=by
 obtain⟨v,rfl,hv⟩:=h
 exact⟨v,rfl,hv⟩
theorem orE_none {X:Type}{x y:Option X}{S:X→Prop}(hx:x=none)(h:Tot y S):Tot (orE x y) S:=by
 subst hx
 exact h
section
variable {c:Ctx}{D R:List Int}{th at_ H:Int}{M:List Int}{o:ByteArray}{me ti:Int}{hi:List Ev}{thr:List (List (Int×Int))}{wrd:List Wd}{lib task:Int}{wl:Bool}{k n a:Int}
variable (hc:c.OK)(g:Fit c (D,R,th,at_,H,M,o,me,ti,hi,thr,wrd,lib,task,wl,k,n,a))
include hc g
variable (hN:c.NL)(qo:Out c th)(hk:k=0)
include hN qo hk
theorem one1_tot {op x:Int}(hn3:op=3→NLn c x)(hx:Cell x)(h2:op≠15)(hd:ndV op≤D.length):Tot (one1 op x D R th at_ H M o me ti hi thr wrd lib task wl k n a) (Post c):=by
 obtain⟨g0,g1,g2,g3,g4,g5,g6⟩:=grp_of op
 unfold one1 one1_t
 rw[Group_eq]
 simp only[outOf_some]
 have hw:wl=false:=Eq.trans g.2.2.2.2.2.2.2.2.2.2.1 hN.2.2
 have asks:Post c ((0:Int),D,R,th,at_,H,M,o,me,ti,hi,thr,wrd,lib,task,wl,(5:Int),op,x):=⟨zero_cell,fun _=>⟨g.res' g.t (.inr (.inr (.inr (.inr rfl)))), .inl qo⟩⟩
 refine .cd (fun h=> ?_) fun _=> .cd (fun h=> ?_) fun _=> .cd (fun h=> ?_) fun _=> .cd (fun h=> ?_) fun _=> .cd (fun h=> .hit h ?_) fun _=> .cd (fun h=> ?_) fun _=> .cd (fun h=> ?_) fun _=> .ok asks
 ·have:=g0 (by simpa using h)
  exact .bd (inner0_tot g qo hc hN hk hn3 hw hx this.1 this.2 h2 hd) fun v hv=> .ok hv
 ·obtain⟨d,e,ed,d1,d2,d3⟩:=Do_fine (o:=op) g.t.cD g.t.lD
  rw[ed]
  exact .ok (pt g qo d3 fun _=>g.t.data d2 d1)
 ·have:=g2 (by simpa using h)
  exact .bd (memory_tot hc g qo this.1 this.2 hd) fun v hv=> .ok hv
 ·have:=g3 (by simpa using h)
  exact .bd (output_tot hc g qo this.1 this.2 hd) fun v hv=> .ok hv
 ·have:=g4 (by simpa using h)
  exact .bd (picture_tot hc g qo this.1 (by omega) hd) fun v hv=> .ok hv
 ·have:=g5 (by simpa using h)
  exact .bd (picture_tot hc g qo (by omega) this.2 hd) fun v hv=> .ok hv
 ·have:=g6 (by simpa using h)
  exact .bd (tasks_tot hc g qo this.1 this.2 hd) fun v hv=> .ok hv
end
theorem nl0 {c:Ctx}:NLn c 0:=fun t a h=>by
 have:dict_At 0=some (0,0,true):=by decide+kernel
 rw[this] at h
 cases h
 exact .inr rfl
def FitE (c:Ctx)(w:W18):Prop:=Fit c w∧PLw c w∧w.2.2.2.2.2.2.2.2.2.2.2.2.2.2.2.1=0
theorem exec_loop {c:Ctx}(hc:c.OK)(l:List (Int×Int))(hl: ∀x∈l,(x.1=0∨(x.1=3∧NLn c x.2))∧Cell x.2)(hn:l.length≤100): ∀(j i:Nat) (w:W18),l.length-i≤j→i≤l.length→FitE c w→
  Tot (work_execute_L1 (l,(l.length:Int),(i:Int),w)) fun v=>match v with| .inl v=>Post c v| .inr v=>FitE c v:=by
 intro j
 have out: ∀w:W18,FitE c w→Tot (work_execute_L1 (l,(l.length:Int),(l.length:Int),w)) fun v=>match v with| .inl v=>Post c v| .inr v=>FitE c v:=fun w hw=>by
  refine⟨.inr w,runs_out ?_,hw⟩
  unfold work_execute_L1_pass work_execute_L1_t
  simp only
  rw[decide_eq_false (by omega)]
  rfl
 induction j with
 |zero=>
  intro i w hk hi hw
  obtain rfl:i=l.length:=by omega
  exact out w hw
 |succ j ih=>
  intro i w hk hi hw
  by_cases hlt:i<l.length
  ·obtain⟨D,R,th,at_,H,M,o,me,ti,hi',thr,wrd,lib,task,wl,k,n,a⟩:=w
   have hm:l.getD i (0,0)∈l:=by
    rw[List.getD_eq_getElem?_getD,List.getElem?_eq_getElem hlt]
    exact List.getElem_mem hlt
   obtain⟨h1,h2⟩:=hl _ hm
   have hin:Tot (inner0 (l.getD i (0,0)).1 (l.getD i (0,0)).2 D R th at_ H M o me ti hi' thr wrd lib task wl k n a) (PostE c):=by
    rcases h1 with h1|⟨h1,h3⟩
    ·rw[h1];exact in_0e hw.1 h2 hw.2.1 hw.2.2
    ·rw[h1];exact in_3 hw.1 h2 h3 hw.2.2
   obtain⟨v,ev,v1,v2⟩:=hin
   have w1:IntKind.wrap IntKind.i64 ((i:Int)+1)=((i+1:Nat):Int):=by rw[wi,W_of ⟨by omega,by omega⟩];omega
   have hp:work_execute_L1_pass (l,(l.length:Int),(i:Int),D,R,th,at_,H,M,o,me,ti,hi',thr,wrd,lib,task,wl,k,n,a)=cond (v.1 != 0) (some (.inr (.inl v))) (some (.inl (l,(l.length:Int),((i+1:Nat):Int),v.2))):=by
    unfold work_execute_L1_pass work_execute_L1_t
    simp only[Int.toNat_natCast]
    rw[decide_eq_true (show(i:Int)<(l.length:Int) by omega),decide_eq_true (show(0:Int)≤i∧(i:Int)<(l.length:Int) by omega),w1]
    simp only[cond_true]
    rw[ev]
    rfl
   cases hb:(v.1 != 0) with
   |true=>rw[hb] at hp;exact⟨_,runs_out hp,v1,fun hz=>⟨(v2 hz).1,(v2 hz).2.1⟩⟩
   |false=>
    rw[hb] at hp
    obtain⟨r,er,hr⟩:=ih (i+1) v.2 (by omega) (by omega) (v2 (by simpa using hb))
    exact⟨r,(runs_next hp).trans er,hr⟩
  ·obtain rfl:i=l.length:=by omega
   exact out w hw
section
variable {c:Ctx}{D R:List Int}{th at_ H:Int}{M:List Int}{o:ByteArray}{me ti:Int}{hi:List Ev}{thr:List (List (Int×Int))}{wrd:List Wd}{lib task:Int}{wl:Bool}{k n a:Int}
variable (hc:c.OK)(g:Fit c (D,R,th,at_,H,M,o,me,ti,hi,thr,wrd,lib,task,wl,k,n,a))
include hc g
variable (hN:c.NL)(qo:Out c th)(hk:k=0)
include hN qo hk
theorem execute_tot (hd:1≤D.length):Tot (work_execute D R th at_ H M o me ti hi thr wrd lib task wl k n a) (Post c):=by
 have ew:wrd=c.wrd:=g.2.2.2.2.2.2.2.1
 have hw:wrd.length≤1000000:=by rw[ew];exact hc.2.2.2.1
 refine .bd (pop_n (j:=1) g.t.lD hd g.t.cD) fun v ⟨v1,v2,v3,v4⟩=> .ct (by rw[v4];decide) ?_
 have hv:=g.t.data v3 v1
 have gv:Fit c (v.1,R,th,at_,H,M,o,me,ti,hi,thr,wrd,lib,task,wl,k,n,a):=g.task' hv
 have w1:IntKind.wrap .i64 ((wrd.length:Int)-1)=(wrd.length:Int)-1:=by rw[wi,W_of ⟨by omega,by omega⟩]
 generalize List.getD v.2.1 0 0=q
 rw[w1]
 refine .bd (Within_tot _ _) fun b hb=> .cd (fun _=> .ok (pt g qo e13 fun h=>by simp at h)) fun hb2=> ?_
 have hq:0≤q∧q≤(wrd.length:Int)-1:=of_nd (by rw[← hb];exact hb2)
 have hq':0≤q∧q<(wrd.length:Int):=by omega
 refine .ct hq' ?_
 have hnl:Out c (List.getD wrd (Int.toNat q) (bytesOf [],false,(0:Int),(0:Int),(0:Int),(0:Int))).2.2.2.2.1∨(List.getD wrd (Int.toNat q) (bytesOf [],false,(0:Int),(0:Int),(0:Int),(0:Int))).2.2.2.2.2=0:=hN.1 _ (ew▸getD_mem' (by omega) _)
 have hval:Cell (List.getD wrd (Int.toNat q) (bytesOf [],false,(0:Int),(0:Int),(0:Int),(0:Int))).2.2.2.1:=by
  have hm:wrd.getD (Int.toNat q) (bytesOf [],false,(0:Int),(0:Int),(0:Int),(0:Int))∈wrd:=by
   have hlt:q.toNat<wrd.length:=by omega
   rw[List.getD_eq_getElem?_getD,List.getElem?_eq_getElem hlt]
   exact List.getElem_mem hlt
  exact hc.2.2.2.2.1 _ (ew▸hm)
 generalize List.getD wrd (Int.toNat q) (bytesOf [],false,(0:Int),(0:Int),(0:Int),(0:Int))=e at hval hnl⊢
 refine .bd (ESane_tot _ _ _ _ _ _) fun s hs=> .cd (fun _=> .ok (pt g qo e13 fun h=>by simp at h)) fun hs2=> .ct hq' ?_
 obtain⟨s1,s2,s3,s4⟩:=hs (by simpa using hs2)
 refine .bd Addr_nl fun y ⟨hy,hy2⟩=> ?_
 have hyn:NLn c y:=fun t a h=>by obtain⟨h1,h2⟩:=hy2 t a h;rw[h1,h2];exact hnl
 have run: ∀(l:List (Int×Int)),(∀ x∈l,(x.1=0∨(x.1=3∧NLn c x.2))∧Cell x.2)→l.length≤100→ ∀f1 f2,(∀ v,f1 v=some v)→(∀ w:W18,f2 w=some ((0:Int),w))→Tot (outOf (work_execute_L1 (l,(l.length:Int),(0:Int),v.1,R,th,at_,H,M,o,me,ti,hi,thr,wrd,lib,task,wl,k,n,a)) fun z=>sumOf z f1 f2) (Post c):=fun l hl hn f1 f2 h1 h2=>by
  refine .bd (exec_loop hc l hl hn l.length 0 _ (by omega) (by omega) ⟨gv, .inl qo,hk⟩) fun z hz=> ?_
  cases z with
  |inl z=>show Tot (f1 z) (Post c);rw[h1];exact .ok hz
  |inr z=>show Tot (f2 z) (Post c);rw[h2];exact .ok ⟨zero_cell,fun _=>⟨hz.1,hz.2.1⟩⟩
 refine .cd (fun h0=> .ct hq' (.cd (fun hne=> ?_) fun _=> .cd (fun _=> .ok (pt g qo e21 fun h=>by simp at h)) fun h15=> ?_)) fun h0=> .cd (fun h1=> .ct hq' (.cd (fun _=> ?_) fun hne=> ?_)) fun h1=> .cd (fun h4=> .ct hq' (.cd (fun _=> ?_) fun hne=> ?_)) fun h4=> .ct hq' (.cd (fun _=> ?_) fun hne=> ?_)
 ·exact absurd h0 (by rw[bne_iff_ne] at hne;simpa using hne)
 ·rw[Needs_eq]
  simp only[outOf_some]
  refine .cd (fun _=> .ok (pt g qo e4 fun h=>by simp at h)) fun hlt=> .bd (one1_tot hc gv hN qo hk (fun _=>nl0) zero_cell ?_ ?_) fun u hu=> .ok hu
  ·simpa using h15
  ·have:=of_decide_eq_false hlt
   omega
 ·exact run _ (fun x hx=>by rw[List.mem_singleton] at hx;subst hx;exact⟨.inr ⟨rfl,hyn⟩,hy⟩) (by simp) _ _ (fun _=>rfl) fun _=>rfl
 ·exact absurd hne (by rw[show e.2.2.1=1 by simpa using h1];decide)
 ·exact run _ (fun x hx=>by
   rcases List.mem_cons.1 hx with hx|hx
   ·subst hx;exact⟨.inl rfl,hval⟩
   ·rw[List.mem_singleton] at hx;subst hx;exact⟨.inr ⟨rfl,hyn⟩,hy⟩) (by simp) _ _ (fun _=>rfl) fun _=>rfl
 ·exact absurd hne (by rw[show e.2.2.1=4 by simpa using h4];decide)
 ·exact run _ (fun x hx=>by rw[List.mem_singleton] at hx;subst hx;exact⟨.inl rfl,hval⟩) (by simp) _ _ (fun _=>rfl) fun _=>rfl
 ·exact absurd hne (by
   have:e.2.2.1≠0:=by simpa using h0
   simpa using this)
theorem work_one_tot {op x:Int}(hn3:op=3→NLn c x)(hx:Cell x)(hd:ndV op≤D.length):Tot (work_one op x D R th at_ H M o me ti hi thr wrd lib task wl k n a) (Post c):=by
 unfold work_one
 by_cases h2:op=15
 ·subst h2
  refine orE_none ?_ ?_
  ·unfold one1 one1_t
   rw[Group_eq]
   rfl
  ·unfold one2 one2_t
   rw[Group_eq]
   simp only[outOf_some]
   refine .hit rfl (.bd (Q:=Post c) ?_ fun v hv=> .ok hv)
   unfold work_inner
   refine orE_none rfl ?_
   have hd':1≤D.length:=by
    have:ndV 15=1:=rfl
    omega
   exact .bd (execute_tot hc g hN qo hk hd') fun v hv=> .ok hv
 ·exact orE_tot (one1_tot hc g hN qo hk hn3 hx h2 hd)
end
end Go.Proofs.Dbl
/- A step, and some in a row: each comes to an end, and leaves a state that may be. -/
namespace Go.Proofs.Dbl
open Go Go.TX Go.Proofs
set_option maxRecDepth 100000
set_option maxHeartbeats 0
set_option linter.unusedVariables false
set_option linter.unusedSimpArgs false
set_option linter.unusedSectionVars false
theorem getD_mem {A:Type}{l:List A}{i:Nat}(h:i<l.length)(d:A):l.getD i d∈l:=by
 rw[List.getD_eq_getElem?_getD,List.getElem?_eq_getElem h]
 exact List.getElem_mem h
abbrev W10:Type:=List Int×List Int×Int×Int×Int×List Int×ByteArray×Int×Int×List Ev
abbrev W13:Type:=List Int×List Int×Int×Int×Int×List Int×ByteArray×Int×Int×List Ev×Int×Int×Int
def Given (c:Ctx)(w:W10):Prop:=
 AllC w.1∧AllC w.2.1∧Mem c.n w.2.2.2.2.2.1∧w.2.2.2.2.2.2.1.size≤100000∧w.2.2.2.2.2.2.2.1=c.me∧w.2.2.2.2.2.2.2.2.1=c.ti∧w.2.2.2.2.2.2.2.2.2.length≤1000
def May10 (c:Ctx)(w:W10):Prop:=
 TO w.1 w.2.1 w.2.2.1 w.2.2.2.1 w.2.2.2.2.1∧Mem c.n w.2.2.2.2.2.1∧w.2.2.2.2.2.2.1.size≤100000∧w.2.2.2.2.2.2.2.1=c.me∧w.2.2.2.2.2.2.2.2.1=c.ti∧w.2.2.2.2.2.2.2.2.2.length≤1000
theorem May10.given {c:Ctx}{w:W10}(h:May10 c w):Given c w:=⟨h.1.cD,h.1.cR,h.2⟩
def ResQ (k n a:Int):Prop:=ResP k n a∨(k=2∧n≠0)
def May13 (c:Ctx)(w:W13):Prop:=
 TO w.1 w.2.1 w.2.2.1 w.2.2.2.1 w.2.2.2.2.1∧Mem c.n w.2.2.2.2.2.1∧w.2.2.2.2.2.2.1.size≤100000∧w.2.2.2.2.2.2.2.1=c.me∧w.2.2.2.2.2.2.2.2.1=c.ti∧w.2.2.2.2.2.2.2.2.2.1.length≤1000∧ResQ w.2.2.2.2.2.2.2.2.2.2.1 w.2.2.2.2.2.2.2.2.2.2.2.1 w.2.2.2.2.2.2.2.2.2.2.2.2
def PLz (c:Ctx)(w:W13):Prop:=PL c w.2.2.1 w.2.2.2.1 w.2.2.2.2.2.2.2.2.2.2.1
section
variable {c:Ctx}{D R:List Int}{th at_ H:Int}{M:List Int}{o:ByteArray}{me ti:Int}{hi:List Ev}(hc:c.OK)(g:May10 c (D,R,th,at_,H,M,o,me,ti,hi))
include hc g
theorem SThrow_tot {e:Int}(q:Out c th)(he:Cell e):Tot (step_Throw c.thr c.wrd c.lib D R th at_ H M o me ti hi e) fun v=>May13 c v∧PLz c v:=by
 have t:TO D R th at_ H:=g.1
 unfold step_Throw step_Throw_t
 rw[saneS t.1]
 simp only[outOf_some]
 have ok: ∀{D R:List Int} {th at_ H k n a:Int},TO D R th at_ H→Out c th→ResQ k n a→Tot (some (D,R,th,at_,H,M,o,me,ti,hi,k,n,a)) (fun v=>May13 c v∧PLz c v):=fun t q r=> .ok ⟨⟨t,g.2.1,g.2.2.1,g.2.2.2.1,g.2.2.2.2.1,g.2.2.2.2.2,r⟩, .inl q⟩
 have r0:ResQ 0 0 0:= .inl (.inl ⟨rfl,rfl,rfl⟩)
 refine .cd (fun _=>ok t q r0) fun hz=> ?_
 have rd:ResQ 2 e 0:= .inr ⟨rfl,by simpa using hz⟩
 refine .bd (Throw_tot t he) fun v ⟨v1,v2⟩=> .cd (fun _=> ?_) fun hc=> ?_
 ·rw[Lib_tot]
  simp only[outOf_some]
  have out: ∀{b:Bool},decide (0≤v.2.2.1∧v.2.2.1<c.lib)=b→(!b)=true→Out c v.2.2.1:=fun h1 h2=>of_decide_eq_false (h1.trans (by simpa using h2))
  exact .cd (fun hb=> .cd (fun _=> .cd (fun _=>ok v1 (out rfl hb) r0) fun _=>ok v1 (out rfl hb) rd) fun _=>ok v1 (out rfl hb) rd) fun _=> .cd (fun _=> .cd (fun _=>ok t q r0) fun _=>ok t q rd) fun _=>ok t q rd
 ·have q':Out c v.2.2.1:=(v2 hc).1▸q
  exact .cd (fun _=>ok v1 q' r0) fun _=>ok v1 q' rd
theorem fetch_tot:Tot (step_fetch c.thr c.wrd c.lib th at_) fun v=>v.2.2=true→Cell v.2.1∧at_+1<4096∧(c.NL→v.1=3→NLn c v.2.1):=by
 have hp:PlaceP th at_:=TO.P (D:=D) (R:=R) (H:=H) g.1
 unfold PlaceP at hp
 unfold step_fetch step_fetch_t
 refine .cd (fun _=> .ok fun h=>by simp at h) fun h1=> ?_
 have h1':=of_decide_eq_false h1
 have ht:0≤th∧th<(c.thr.length:Int):=by omega
 refine .ct ht (.cd (fun _=> .ok fun h=>by simp at h) fun h2=> .cd (fun _=> .ok fun h=>by simp at h) fun h3=> .ct ht ?_)
 have h2':=of_decide_eq_false h2
 have h3':=of_decide_eq_false h3
 rw[wi,W_of ⟨by omega,by omega⟩] at h3'
 have ha:0≤at_∧at_<((c.thr.getD (Int.toNat th) []).length:Int):=by omega
 refine .ct ha (.ok fun _=>⟨?_,by omega,fun hN=>hN.2.1 _ (getD_mem (by omega) _) _ (getD_mem (by omega) _)⟩)
 have hl:c.thr.getD (Int.toNat th) []∈c.thr:=getD_mem (by omega) _
 have hx:(c.thr.getD (Int.toNat th) []).getD (Int.toNat at_) (0,0)∈c.thr.getD (Int.toNat th) []:=getD_mem (by omega) _
 exact hc.2.2.2.2.2 _ hl _ hx
end
theorem ssane_same {c:Ctx}{D R:List Int}{th at_ H:Int}{M:List Int}{o:ByteArray}{me ti:Int}{hi:List Ev}(g:May10 c (D,R,th,at_,H,M,o,me,ti,hi)):Tot (step_sane D R th at_ H M o me ti hi) fun v=>May10 c v∧v=(D,R,th,at_,H,M,o,me,ti,hi):=by
 have t:TO D R th at_ H:=g.1
 rw[saneS t.1]
 exact .ok ⟨g,rfl⟩
theorem Step_ent {c:Ctx}{D R:List Int}{th at_ H:Int}{M:List Int}{o:ByteArray}{me ti:Int}{hi:List Ev}(hc:c.OK)(hl:c.task=c.me)(g:May10 c (D,R,th,at_,H,M,o,me,ti,hi))(hN:c.NL)(q:Out c th):Tot (step_Step c.thr c.wrd c.lib D R th at_ H M o me ti hi) fun v=>May13 c v∧PLz c v:=by
 unfold step_Step step_Step_t
 refine .bd (ssane_same g) fun s ⟨hs,hs2⟩=> ?_
 have qs:Out c s.2.2.1:=by rw[hs2];exact q
 refine .bd (fetch_tot hc hs) fun f hf=> .cd (fun _=> .bd (SThrow_tot hc hs qs e9) fun v hv=> .ok hv) fun hb=> ?_
 obtain⟨f1,f2,f3⟩:=hf (by simpa using hb)
 have hp:=hs.1.P
 have hp':PlaceP s.2.2.1 (IntKind.wrap .i64 (s.2.2.2.1+1)):=by
  unfold PlaceP at hp⊢
  rw[wi,W_of ⟨by omega,by omega⟩]
  omega
 have hs':May10 c (s.1,s.2.1,s.2.2.1,IntKind.wrap .i64 (s.2.2.2.1+1),s.2.2.2.2):=⟨hs.1.place hp',hs.2⟩
 rw[Lib_tot,Group_eq]
 simp only[outOf_some]
 refine .cd (fun _=> .bd (SThrow_tot hc hs' qs e21) fun v hv=> .ok hv) fun _=> ?_
 rw[Needs_eq]
 simp only[outOf_some]
 refine .cd (fun _=> .bd (SThrow_tot hc hs' qs e4) fun v hv=> .ok hv) fun hd=> ?_
 have hd':=of_decide_eq_false hd
 let c':Ctx:={c with wl:=decide (0≤s.2.2.1∧s.2.2.1<c.lib)}
 have hc':c'.OK:=hc
 have hwl:decide (0≤s.2.2.1∧s.2.2.1<c.lib)=false:=decide_eq_false qs
 have hN':c'.NL:=⟨hN.1,hN.2.1,hwl⟩
 have gf:Fit c' (s.1,s.2.1,s.2.2.1,IntKind.wrap .i64 (s.2.2.2.1+1),s.2.2.2.2.1,s.2.2.2.2.2.1,s.2.2.2.2.2.2.1,s.2.2.2.2.2.2.2.1,s.2.2.2.2.2.2.2.2.1,s.2.2.2.2.2.2.2.2.2,c.thr,c.wrd,c.lib,s.2.2.2.2.2.2.2.1,decide (0≤s.2.2.1∧s.2.2.1<c.lib),0,0,0):=
  ⟨hs'.1,hs'.2.1,hs'.2.2.1,hs'.2.2.2.1,hs'.2.2.2.2.1,hs'.2.2.2.2.2,rfl,rfl,rfl,hs.2.2.2.1.trans hl.symm,rfl, .inl ⟨rfl,rfl,rfl⟩⟩
 refine .bd (work_one_tot hc' gf hN' qs rfl (f3 hN) f1 (by omega)) fun v ⟨v1,v2⟩=> .cd (fun _=> .bd (SThrow_tot hc hs' qs v1) fun u hu=> .ok hu) fun hz=> .ok ?_
 obtain⟨⟨w1,w2,w3,w4,w5,w6,_,_,_,_,_,w7⟩,w8⟩:=v2 (by simpa using hz)
 exact⟨⟨w1,w2,w3,w4,w5,w6, .inl w7⟩,w8⟩
end Go.Proofs.Dbl
/- The library is entered by its words alone: the law over plain data. -/
namespace Go.Proofs.Dbl
open Go Go.TX Go.Proofs
set_option maxRecDepth 100000
set_option maxHeartbeats 0
set_option linter.unusedVariables false
set_option linter.unusedSimpArgs false
set_option linter.unusedSectionVars false
theorem Few11 (l:List Wd)(hl:l.length≤4611686018427387904):Tot (r11_Few l) fun b=>b=true→l.length≤600:=by
 have loop: ∀(j i:Nat),l.length-i≤j→i≤l.length→Tot (r11_Few_L1 (l,(i:Int))) fun v=>v= .inl false∨v= .inr l:=by
  intro j
  have out:Tot (r11_Few_L1 (l,(l.length:Int))) fun v=>v= .inl false∨v= .inr l:=by
   refine⟨.inr l,runs_out ?_, .inr rfl⟩
   unfold r11_Few_L1_pass r11_Few_L1_t
   simp only
   rw[decide_eq_false (by omega)]
   rfl
  induction j with
  |zero=>
   intro i hk hi
   obtain rfl:i=l.length:=by omega
   exact out
  |succ j ih=>
   intro i hk hi
   by_cases hlt:i<l.length
   ·have w:IntKind.wrap IntKind.i64 ((i:Int)+1)=((i+1:Nat):Int):=by rw[wi,W_of ⟨by omega,by omega⟩];omega
    obtain⟨b,hp⟩: ∃b:Bool,r11_Few_L1_pass (l,(i:Int))=cond b (some (.inr (.inl false))) (some (.inl (l,((i+1:Nat):Int)))):=by
     refine⟨decide (((l.getD i (bytesOf [],false,(0:Int),(0:Int),(0:Int),(0:Int))).1.size:Int)>100), ?_⟩
     unfold r11_Few_L1_pass r11_Few_L1_t
     simp only[Int.toNat_natCast]
     rw[decide_eq_true (show(i:Int)<(l.length:Int) by omega),decide_eq_true (show(0:Int)≤i∧(i:Int)<(l.length:Int) by omega),w]
     rfl
    cases b with
    |true=>exact⟨_,runs_out hp, .inl rfl⟩
    |false=>
     obtain⟨v,ev,hv⟩:=ih (i+1) (by omega) (by omega)
     exact⟨v,(runs_next hp).trans ev,hv⟩
   ·obtain rfl:i=l.length:=by omega
    exact out
 unfold r11_Few r11_Few_t
 refine .bd (loop l.length 0 (by omega) (by omega)) fun v hv=> ?_
 rcases hv with rfl|rfl
 ·exact .ok fun h=>by cases h
 ·exact .ok fun h=>by have:=of_decide_eq_true h;omega
theorem Few14 (thr:List (List (Int×Int)))(wrd:List Wd)(lib:Int)(D R:List Int)(th at_ H:Int)(M:List Int)(o:ByteArray)(me ti:Int)(hi:List Ev)(h1:thr.length≤4611686018427387904)(h2:wrd.length≤4611686018427387904):
  Tot (r14_Few thr wrd lib D R th at_ H M o me ti hi) fun b=>b=true→wrd.length≤600∧M.length≤5120∧o.size≤1000∧hi.length≤450∧D.length≤100∧R.length≤100:=by
 have loop: ∀(j i:Nat),thr.length-i≤j→i≤thr.length→Tot (r14_Few_L1 ((i:Int),thr,wrd,lib,D,R,th,at_,H,M,o,me,ti,hi)) fun v=>v= .inl false∨v= .inr (thr,wrd,lib,D,R,th,at_,H,M,o,me,ti,hi):=by
  intro j
  have out:Tot (r14_Few_L1 ((thr.length:Int),thr,wrd,lib,D,R,th,at_,H,M,o,me,ti,hi)) fun v=>v= .inl false∨v= .inr (thr,wrd,lib,D,R,th,at_,H,M,o,me,ti,hi):=by
   refine⟨.inr (thr,wrd,lib,D,R,th,at_,H,M,o,me,ti,hi),runs_out ?_, .inr rfl⟩
   unfold r14_Few_L1_pass r14_Few_L1_t
   simp only
   rw[decide_eq_false (by omega)]
   rfl
  induction j with
  |zero=>
   intro i hk hi
   obtain rfl:i=thr.length:=by omega
   exact out
  |succ j ih=>
   intro i hk hi'
   by_cases hlt:i<thr.length
   ·have w:IntKind.wrap IntKind.i64 ((i:Int)+1)=((i+1:Nat):Int):=by rw[wi,W_of ⟨by omega,by omega⟩];omega
    obtain⟨b,hp⟩: ∃b:Bool,r14_Few_L1_pass ((i:Int),thr,wrd,lib,D,R,th,at_,H,M,o,me,ti,hi)=cond b (some (.inr (.inl false))) (some (.inl (((i+1:Nat):Int),thr,wrd,lib,D,R,th,at_,H,M,o,me,ti,hi))):=by
     refine⟨decide (((thr.getD i []).length:Int)>200), ?_⟩
     unfold r14_Few_L1_pass r14_Few_L1_t
     simp only[Int.toNat_natCast]
     rw[decide_eq_true (show(i:Int)<(thr.length:Int) by omega),decide_eq_true (show(0:Int)≤i∧(i:Int)<(thr.length:Int) by omega),w]
     rfl
    cases b with
    |true=>exact⟨_,runs_out hp, .inl rfl⟩
    |false=>
     obtain⟨v,ev,hv⟩:=ih (i+1) (by omega) (by omega)
     exact⟨v,(runs_next hp).trans ev,hv⟩
   ·obtain rfl:i=thr.length:=by omega
    exact out
 have no: ∀{Q:Prop},(false=true→Q):=fun h=>by cases h
 unfold r14_Few r14_Few_t
 refine .bd (loop thr.length 0 (by omega) (by omega)) fun v hv=> ?_
 rcases hv with rfl|rfl
 ·exact .ok no
 ·refine .cd (fun _=> .bd (Few11 wrd h2) fun b hb=> .cd (fun hb'=> .bd (Q:=fun b=>b=true→D.length≤100∧R.length≤100) ?_ fun b' h13=> .cd (fun h13'=> .cd (fun hm=> .cd (fun ho=> .ok fun hh=>⟨hb hb', ?_, ?_, ?_,h13 h13'⟩) fun _=> .ok no) fun _=> .ok no) fun _=> .ok no) fun _=> .ok no) fun _=> .ok no
  ·unfold r13_Few r13_Few_t
   refine .cd (fun h1=> .ok fun h2=> ?_) fun _=> .ok no
   have h1':((D.length:Nat):Int)≤100:=of_decide_eq_true h1
   have h2':((R.length:Nat):Int)≤100:=of_decide_eq_true h2
   omega
  ·have h:((M.length:Nat):Int)≤5120:=of_decide_eq_true hm
   omega
  ·have h:((o.size:Nat):Int)≤1000:=of_decide_eq_true ho
   omega
  ·have h:((hi.length:Nat):Int)≤450:=of_decide_eq_true hh
   omega
theorem entries_eq (l:List Wd)(hl:l.length≤3000000000000):l14_entries l=some l:=by
 have loop: ∀(j i:Nat),l.length-i≤j→i≤l.length→l14_entries_L1 (l,i,(i:Int),l.take i)=some (l.length,l):=by
  intro j
  have out:l14_entries_L1 (l,l.length,(l.length:Int),l.take l.length)=some (l.length,l):=by
   refine runs_out ?_
   unfold l14_entries_L1_pass l14_entries_L1_t
   simp only
   rw[decide_eq_false (by omega),List.take_length]
   rfl
  induction j with
  |zero=>
   intro i hk hi
   obtain rfl:i=l.length:=by omega
   exact out
  |succ j ih=>
   intro i hk hi
   by_cases hlt:i<l.length
   ·have w:IntKind.wrap IntKind.i64 ((i:Int)+1)=((i+1:Nat):Int):=by rw[wi,W_of ⟨by omega,by omega⟩];omega
    refine(runs_next (d':=(l,i+1,((i+1:Nat):Int),l.take (i+1))) ?_).trans (ih (i+1) (by omega) (by omega))
    unfold l14_entries_L1_pass l14_entries_L1_t
    simp only[l14_entry,Int.toNat_natCast]
    rw[decide_eq_true (show(i:Int)<(l.length:Int) by omega),decide_eq_true (show(0:Int)≤i∧(i:Int)<(l.length:Int) by omega),w]
    simp only[cond_true,List.length_singleton]
    rw[decide_eq_true (show i+1≤3000000000000 by omega)]
    have e:List.take i (List.drop 0 (List.take i l))++[l.getD i (bytesOf [],false,(0:Int),(0:Int),(0:Int),(0:Int))]=l.take (i+1):=by
     rw[List.drop_zero,List.take_take,Nat.min_self,List.take_add_one,List.getElem?_eq_getElem hlt,List.getD_eq_getElem?_getD,List.getElem?_eq_getElem hlt]
     rfl
    simp only[cond_true]
    exact congrArg (fun z=>some (Sum.inl (l,i+1,((i+1:Nat):Int),z))) e
   ·obtain rfl:i=l.length:=by omega
    exact out
 unfold l14_entries l14_entries_t
 have h0:=loop l.length 0 (by omega) (by omega)
 rw[List.take_zero] at h0
 rw[show((0:Nat):Int)=0 from rfl] at h0
 rw[h0]
 simp only[outOf_some,List.drop_zero,List.take_length]
theorem prog_eq (thr:List (List (Int×Int)))(wrd:List Wd)(lib:Int)(hl:wrd.length≤3000000000000):l14_prog thr wrd lib=some (thr,wrd,lib):=by
 unfold l14_prog l14_prog_t
 rw[entries_eq wrd hl]
 rfl
def OKw (lib:Int)(x:Wd):Prop:= ¬(0≤x.2.2.2.2.1∧x.2.2.2.2.1<lib)∨x.2.2.2.2.2=0
def OKi (lib:Int)(x:Int×Int):Prop:=x.1=3→ ∀t a:Int,dict_At x.2=some (t,a,true)→ ¬(0≤t∧t<lib)∨a=0
theorem take_next {A:Type}{l:List A}{i:Nat}(hlt:i<l.length)(d:A){P:A→Prop}(h: ∀x∈l.take i,P x)(hx:P (l.getD i d)): ∀x∈l.take (i+1),P x:=by
 intro x hm
 rw[List.take_add_one,List.getElem?_eq_getElem hlt] at hm
 rw[List.getD_eq_getElem?_getD,List.getElem?_eq_getElem hlt] at hx
 rcases List.mem_append.1 hm with hm|hm
 ·exact h x hm
 ·simp only[Option.toList_some,List.mem_singleton] at hm
  subst hm
  exact hx
section
variable (thr:List (List (Int×Int)))(wrd:List Wd)(lib:Int)(D R:List Int)(th at_ H:Int)(M:List Int)(o:ByteArray)(me ti:Int)(hi:List Ev)
theorem words_loop (h2:wrd.length≤3000000000000): ∀(j i:Nat),wrd.length-i≤j→i≤wrd.length→(∀ x∈wrd.take i,OKw lib x)→
  Tot (lawEnters_L1 (true,(i:Int),thr,wrd,lib,D,R,th,at_,H,M,o,me,ti,hi,thr,wrd,lib)) fun v=>v= .inl true∨(v= .inr (true,thr,wrd,lib,D,R,th,at_,H,M,o,me,ti,hi,thr,wrd,lib)∧ ∀x∈wrd,OKw lib x):=by
 intro j
 have out:(∀ x∈wrd.take wrd.length,OKw lib x)→Tot (lawEnters_L1 (true,(wrd.length:Int),thr,wrd,lib,D,R,th,at_,H,M,o,me,ti,hi,thr,wrd,lib)) fun v=>v= .inl true∨(v= .inr (true,thr,wrd,lib,D,R,th,at_,H,M,o,me,ti,hi,thr,wrd,lib)∧ ∀x∈wrd,OKw lib x):=fun hx=>by
  rw[List.take_length] at hx
  refine⟨.inr (true,thr,wrd,lib,D,R,th,at_,H,M,o,me,ti,hi,thr,wrd,lib),runs_out ?_, .inr ⟨rfl,hx⟩⟩
  unfold lawEnters_L1_pass lawEnters_L1_t
  simp only
  rw[decide_eq_false (by omega)]
  rfl
 induction j with
 |zero=>
  intro i hk hi' hx
  obtain rfl:i=wrd.length:=by omega
  exact out hx
 |succ j ih=>
  intro i hk hi' hx
  by_cases hlt:i<wrd.length
  ·have w:IntKind.wrap IntKind.i64 ((i:Int)+1)=((i+1:Nat):Int):=by rw[wi,W_of ⟨by omega,by omega⟩];omega
   obtain⟨b,hp,hb⟩: ∃b:Bool,lawEnters_L1_pass (true,(i:Int),thr,wrd,lib,D,R,th,at_,H,M,o,me,ti,hi,thr,wrd,lib)=cond b (some (.inr (.inl true))) (some (.inl (true,((i+1:Nat):Int),thr,wrd,lib,D,R,th,at_,H,M,o,me,ti,hi,thr,wrd,lib)))∧(b=false→OKw lib (wrd.getD i (bytesOf [],false,(0:Int),(0:Int),(0:Int),(0:Int)))):=by
    generalize hz:wrd.getD i (bytesOf [],false,(0:Int),(0:Int),(0:Int),(0:Int))=z
    refine⟨decide (0≤z.2.2.2.2.1∧z.2.2.2.2.1<lib)&&(z.2.2.2.2.2 != 0), ?_, ?_⟩
    ·unfold lawEnters_L1_pass lawEnters_L1_t
     simp only[Int.toNat_natCast]
     rw[decide_eq_true (show(i:Int)<(wrd.length:Int) by omega),decide_eq_true (show(0:Int)≤i∧(i:Int)<(wrd.length:Int) by omega),w,hz,Lib_tot]
     simp only[outOf_some,cond_true]
     cases decide (0≤z.2.2.2.2.1∧z.2.2.2.2.1<lib)<;>cases (z.2.2.2.2.2 != 0)<;>rfl
    ·intro h
     unfold OKw
     by_cases h1:0≤z.2.2.2.2.1∧z.2.2.2.2.1<lib
     ·rw[decide_eq_true h1] at h
      exact .inr (by simpa using h)
     ·exact .inl h1
   cases b with
   |true=>exact⟨_,runs_out hp, .inl rfl⟩
   |false=>
    obtain⟨v,ev,hv⟩:=ih (i+1) (by omega) (by omega) (take_next hlt _ hx (hb rfl))
    exact⟨v,(runs_next hp).trans ev,hv⟩
  ·obtain rfl:i=wrd.length:=by omega
   exact out hx
theorem calls_loop (k:Nat)(hk0:k<thr.length)(h1:thr.length≤4611686018427387904)(l:List (Int×Int))(hl:thr.getD k []=l)(h3:l.length≤4611686018427387904): ∀(j i:Nat),l.length-i≤j→i≤l.length→(∀ x∈l.take i,OKi lib x)→
  Tot (lawEnters_L3 (true,(k:Int),(i:Int),thr,wrd,lib,D,R,th,at_,H,M,o,me,ti,hi,thr,wrd,lib)) fun v=>v= .inl true∨(v= .inr (true,(k:Int),thr,wrd,lib,D,R,th,at_,H,M,o,me,ti,hi,thr,wrd,lib)∧ ∀x∈l,OKi lib x):=by
 subst hl
 intro j
 have dk:=decide_eq_true (show(0:Int)≤k∧(k:Int)<(thr.length:Int) by omega)
 have out:(∀ x∈(thr.getD k []).take (thr.getD k []).length,OKi lib x)→Tot (lawEnters_L3 (true,(k:Int),((thr.getD k []).length:Int),thr,wrd,lib,D,R,th,at_,H,M,o,me,ti,hi,thr,wrd,lib)) fun v=>v= .inl true∨(v= .inr (true,(k:Int),thr,wrd,lib,D,R,th,at_,H,M,o,me,ti,hi,thr,wrd,lib)∧ ∀x∈thr.getD k [],OKi lib x):=fun hx=>by
  rw[List.take_length] at hx
  refine⟨.inr (true,(k:Int),thr,wrd,lib,D,R,th,at_,H,M,o,me,ti,hi,thr,wrd,lib),runs_out ?_, .inr ⟨rfl,hx⟩⟩
  unfold lawEnters_L3_pass lawEnters_L3_t
  simp only[Int.toNat_natCast]
  rw[dk,decide_eq_false (Int.lt_irrefl _)]
  rfl
 induction j with
 |zero=>
  intro i hk hi' hx
  obtain rfl:i=(thr.getD k []).length:=by omega
  exact out hx
 |succ j ih=>
  intro i hk hi' hx
  by_cases hlt:i<(thr.getD k []).length
  ·have w:IntKind.wrap IntKind.i64 ((i:Int)+1)=((i+1:Nat):Int):=by rw[wi,W_of ⟨by omega,by omega⟩];omega
   obtain⟨b,hp,hb⟩: ∃b:Bool,lawEnters_L3_pass (true,(k:Int),(i:Int),thr,wrd,lib,D,R,th,at_,H,M,o,me,ti,hi,thr,wrd,lib)=cond b (some (.inr (.inl true))) (some (.inl (true,(k:Int),((i+1:Nat):Int),thr,wrd,lib,D,R,th,at_,H,M,o,me,ti,hi,thr,wrd,lib)))∧(b=false→OKi lib ((thr.getD k []).getD i ((0:Int),(0:Int)))):=by
    generalize hz:(thr.getD k []).getD i ((0:Int),(0:Int))=z
    obtain⟨u,hu⟩:=At_eq z.2
    refine⟨(z.1==3)&&(u.2.2&&(decide (0≤u.1∧u.1<lib)&&(u.2.1 != 0))), ?_, ?_⟩
    ·unfold lawEnters_L3_pass lawEnters_L3_t
     simp only[Int.toNat_natCast]
     rw[dk,decide_eq_true (show(i:Int)<((thr.getD k []).length:Int) by omega),decide_eq_true (show(0:Int)≤i∧(i:Int)<((thr.getD k []).length:Int) by omega),w,hz,hu]
     simp only[outOf_some,cond_true,Lib_tot]
     cases z.1==3<;>cases u.2.2<;>cases decide (0≤u.1∧u.1<lib)<;>cases (u.2.1 != 0)<;>rfl
    ·intro h h3 t a hta
     rw[hta] at hu
     cases hu
     by_cases h1:0≤t∧t<lib
     ·rw[decide_eq_true h1,h3] at h
      exact .inr (by simpa using h)
     ·exact .inl h1
   cases b with
   |true=>exact⟨_,runs_out hp, .inl rfl⟩
   |false=>
    obtain⟨v,ev,hv⟩:=ih (i+1) (by omega) (by omega) (take_next hlt _ hx (hb rfl))
    exact⟨v,(runs_next hp).trans ev,hv⟩
  ·obtain rfl:i=(thr.getD k []).length:=by omega
   exact out hx
theorem threads_loop (h1:thr.length≤4611686018427387904)(h3: ∀l∈thr,l.length≤4611686018427387904): ∀(j i:Nat),thr.length-i≤j→i≤thr.length→(∀ l∈thr.take i,∀ x∈l,OKi lib x)→
  Tot (lawEnters_L2 (true,(i:Int),thr,wrd,lib,D,R,th,at_,H,M,o,me,ti,hi,thr,wrd,lib)) fun v=>v= .inl true∨(v= .inr (true,D,R,th,at_,H,M,o,me,ti,hi,thr,wrd,lib)∧ ∀l∈thr,∀ x∈l,OKi lib x):=by
 intro j
 have out:(∀ l∈thr.take thr.length,∀ x∈l,OKi lib x)→Tot (lawEnters_L2 (true,(thr.length:Int),thr,wrd,lib,D,R,th,at_,H,M,o,me,ti,hi,thr,wrd,lib)) fun v=>v= .inl true∨(v= .inr (true,D,R,th,at_,H,M,o,me,ti,hi,thr,wrd,lib)∧ ∀l∈thr,∀ x∈l,OKi lib x):=fun hx=>by
  rw[List.take_length] at hx
  refine⟨.inr (true,D,R,th,at_,H,M,o,me,ti,hi,thr,wrd,lib),runs_out ?_, .inr ⟨rfl,hx⟩⟩
  unfold lawEnters_L2_pass lawEnters_L2_t
  simp only
  rw[decide_eq_false (by omega)]
  rfl
 induction j with
 |zero=>
  intro i hk hi' hx
  obtain rfl:i=thr.length:=by omega
  exact out hx
 |succ j ih=>
  intro i hk hi' hx
  by_cases hlt:i<thr.length
  ·have w:IntKind.wrap IntKind.i64 ((i:Int)+1)=((i+1:Nat):Int):=by rw[wi,W_of ⟨by omega,by omega⟩];omega
   have hm:thr.getD i []∈thr:=getD_mem hlt _
   obtain⟨u,eu,hu⟩:=calls_loop thr wrd lib D R th at_ H M o me ti hi i hlt h1 _ rfl (h3 _ hm) _ 0 (Nat.le_refl _) (by omega) (fun x hx=>by simp at hx)
   have hp:lawEnters_L2_pass (true,(i:Int),thr,wrd,lib,D,R,th,at_,H,M,o,me,ti,hi,thr,wrd,lib)=sumOf u (fun x=>some (.inr (.inl x))) (fun x=>some (.inl (x.1,IntKind.wrap IntKind.i64 (x.2.1+(1:Int)),x.2.2.1,x.2.2.2.1,x.2.2.2.2.1,x.2.2.2.2.2.1,x.2.2.2.2.2.2.1,x.2.2.2.2.2.2.2.1,x.2.2.2.2.2.2.2.2.1,x.2.2.2.2.2.2.2.2.2.1,x.2.2.2.2.2.2.2.2.2.2.1,x.2.2.2.2.2.2.2.2.2.2.2.1,x.2.2.2.2.2.2.2.2.2.2.2.2.1,x.2.2.2.2.2.2.2.2.2.2.2.2.2.1,x.2.2.2.2.2.2.2.2.2.2.2.2.2.2.1,x.2.2.2.2.2.2.2.2.2.2.2.2.2.2.2.1,x.2.2.2.2.2.2.2.2.2.2.2.2.2.2.2.2.1,x.2.2.2.2.2.2.2.2.2.2.2.2.2.2.2.2.2))):=by
    unfold lawEnters_L2_pass lawEnters_L2_t
    simp only
    rw[decide_eq_true (show(i:Int)<(thr.length:Int) by omega)]
    rw[show(0:Int)=((0:Nat):Int) from rfl,eu]
    rfl
   rcases hu with rfl|⟨rfl,hu⟩
   ·exact⟨_,runs_out hp, .inl rfl⟩
   ·have hp':lawEnters_L2_pass (true,(i:Int),thr,wrd,lib,D,R,th,at_,H,M,o,me,ti,hi,thr,wrd,lib)=some (.inl (true,((i+1:Nat):Int),thr,wrd,lib,D,R,th,at_,H,M,o,me,ti,hi,thr,wrd,lib)):=by
     rw[hp]
     simp only[sumOf]
     rw[w]
    obtain⟨v,ev,hv⟩:=ih (i+1) (by omega) (by omega) (take_next hlt _ hx hu)
    exact⟨v,(runs_next hp').trans ev,hv⟩
  ·obtain rfl:i=thr.length:=by omega
   exact out hx
end
theorem enters_eq (thr:List (List (Int×Int)))(wrd:List Wd)(lib:Int)(D R:List Int)(th at_ H:Int)(M:List Int)(o:ByteArray)(me ti:Int)(hi:List Ev)
  (h1:thr.length≤4611686018427387904) (h2:wrd.length≤3000000000000) (h3: ∀l∈thr,l.length≤4611686018427387904) (cD:AllC D) (cR:AllC R) (bM:Bytes M) (cme:Cell me) (cti:Cell ti) (cw: ∀x∈wrd,Cell x.2.2.2.1) (ct: ∀l∈thr,∀ x∈l,Cell x.2):
  lawEnters thr wrd lib D R th at_ H M o me ti hi=some true:=by
 obtain⟨b,eb,hb⟩:=Few14 thr wrd lib D R th at_ H M o me ti hi h1 (by omega)
 unfold lawEnters lawEnters_t
 rw[prog_eq thr wrd lib h2,eb]
 simp only[outOf_some]
 cases b with
 |false=>rfl
 |true=>
  obtain⟨w1,w2,w3,w4,_⟩:=hb rfl
  simp only[Bool.not_true,cond_false,l14_state,l14_task]
  rw[Sane_eq]
  simp only[outOf_some]
  by_cases hs:SaneP D R th at_ H
  ·rw[decide_eq_true hs,Lib_tot]
   simp only[outOf_some,Bool.not_true,cond_false]
   by_cases hq:0≤th∧th<lib
   ·rw[decide_eq_true hq];rfl
   ·rw[decide_eq_false hq]
    simp only[cond_false]
    obtain⟨v,ev,hv⟩:=words_loop thr wrd lib D R th at_ H M o me ti hi h2 _ 0 (Nat.le_refl _) (by omega) (fun x hx=>by simp at hx)
    rw[show((0:Nat):Int)=0 from rfl] at ev
    rw[ev]
    rcases hv with rfl|⟨rfl,hw⟩
    ·rfl
    simp only[outOf_some,sumOf]
    obtain⟨u,eu,hu⟩:=threads_loop thr wrd lib D R th at_ H M o me ti hi h1 h3 _ 0 (Nat.le_refl _) (by omega) (fun x hx=>by simp at hx)
    rw[show((0:Nat):Int)=0 from rfl] at eu
    rw[eu]
    rcases hu with rfl|⟨rfl,ht⟩
    ·rfl
    simp only[outOf_some,sumOf]
    have hc:(Ctx.mk M.length me ti thr wrd lib me false).OK:=⟨w2,cme,cti,by show wrd.length≤1000000;omega,cw,ct⟩
    have hg:May10 (Ctx.mk M.length me ti thr wrd lib me false) (D,R,th,at_,H,M,o,me,ti,hi):=⟨⟨hs,cD,cR⟩,⟨bM,rfl⟩,by show o.size≤100000;omega,rfl,rfl,by show hi.length≤1000;omega⟩
    have hN:(Ctx.mk M.length me ti thr wrd lib me false).NL:=⟨fun x hx=>hw x hx,fun l hl x hx=>ht l hl x hx,rfl⟩
    obtain⟨v,ev,_,hv⟩:=Step_ent hc rfl hg hN hq
    rw[show step_Step thr wrd lib D R th at_ H M o me ti hi=some v from ev]
    simp only[outOf_some,cond_true]
    rw[Lib_tot]
    simp only[outOf_some]
    rcases hv with hv|⟨ha,hk⟩
    ·rw[decide_eq_false (show ¬(0≤v.2.2.1∧v.2.2.1<lib) from hv)];rfl
    ·rw[ha,hk]
     cases decide (0≤v.2.2.1∧v.2.2.1<lib)<;>rfl
  ·rw[decide_eq_false hs];rfl
end Go.Proofs.Dbl
