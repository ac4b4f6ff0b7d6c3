/- copy, numbers, comparisons, conversions: the machine does what the evaluator says. -/
import Derived.Test.YtgchjlbhmfbgaaaGreatDoorTxI
import Derived.Laws.StructEq
namespace Go.TX
set_option linter.unusedSectionVars false
variable [Globals]
variable {P:Program}
def Src (P:Program)(c:Ctx)(s:Sh)(l:List s.Den)(x:Value):Prop:=
  (Builtin.lenOf x).run P c.w= .ok l.length c.w∧
  ∀m,m≤l.length→ ∃vs:List Value,(Builtin.firstCells s.width m x).run P c.w= .ok vs.toArray c.w∧Elems c s (l.take m) vs
theorem copy_row {t e:TypeId}{s':Sh}{r0 i n:Nat}{l xs':List s'.Den}{H:Heap}(hu:P.underlying t=some (.slice e))(hat:H.at r0= .row s' l)(hw:some s'.width=sizeT P e)(hw0:0<s'.width)
  {c:Ctx} {va vx:Value} {ty:TypeId} {ts:List TypeId} (ha:Rep c (.msl r0 i n) va) (hsrc:Src P c s' xs' vx) (hh:HRel c H.at) (hf:Fresh c H.length):
  SemRes P (Builtin.copy_ (t::ts).toArray ty #[va,vx]) c H (.lit (.int .i64 (min xs'.length n:Nat))) (H.set r0 (.row s' (l.take i++xs'.take n++l.drop (i+min xs'.length n)))):=by
 have hlt:r0<H.length:=lt_of_at hat (by simp)
 obtain⟨hl,hv⟩:=hsrc
 obtain⟨vs,hv1,hv2⟩:=hv (min xs'.length n) (Nat.min_le_left _ _)
 have htk:xs'.take (min xs'.length n)=xs'.take n:=by
  rcases Nat.le_total xs'.length n with h|h
  ·rw[Nat.min_eq_left h,List.take_length,List.take_of_length_le h]
  ·rw[Nat.min_eq_right h]
 rw[htk] at hv2
 have hvl:=hv2.length
 simp only[List.length_take] at hvl
 have hrun: ∀(base:Option Addr) (cap:Nat) (W':World),(match base with|some a=>(storeCells a vs).run P c.w|none=> .ok () c.w)= .ok () W'→
   (Builtin.copy_ (t::ts).toArray ty #[.slice base n cap,vx]).run P c.w= .ok (.int .i64 (min xs'.length n:Nat)) W':=by
  intro base cap W' hst
  unfold Builtin.copy_
  simp only[List.getElem?_toArray,List.getElem?_cons_zero,List.getElem?_cons_succ,Sem.run_bind,run_underlying_ok hu,Result.andThen_ok,run_sizeOf_ok hw.symm,hl]
  rw[show Nat.min xs'.length n=min xs'.length n from rfl,hv1]
  simp only[Result.andThen_ok,goInt]
  cases base with
  |none=>simp only[Result.ok.injEq,true_and] at hst;subst hst;rfl
  |some a=>
   have hst:(storeCells a vs).run P c.w= .ok () W':=hst
   simp only[Sem.run_bind];rw[hst];rfl
 rcases ha with ⟨rfl,ad,rfl⟩|⟨b,o,w,m,z',cap,e1,rfl,e3,e4,e5⟩
 ·have hvs0:vs=[]:=List.length_eq_zero_iff.1 (by rw[hvl];simp)
  have hsame:l.take i++xs'.take 0++l.drop (i+min xs'.length 0)=l:=by simp
  rw[hsame]
  have hset:H.set r0 (.row s' l)=H:=by
   apply List.ext_getElem?
   intro q
   by_cases hq:r0=q
   ·subst hq
    rw[List.getElem?_set_self hlt]
    have:=hat
    simp only[Heap.at,List.getD_eq_getElem?_getD] at this
    rw[List.getElem?_eq_getElem hlt] at this⊢
    simpa using this.symm
   ·rw[List.getElem?_set_ne hq]
  rw[hset]
  refine SemRes.same (hrun ad 0 c.w (by rw[hvs0];cases ad<;>simp[storeCells])) rfl hh hf
 ·have ho:=hh.obj r0
  rw[hat] at ho
  rcases ho with ⟨_,h6⟩|⟨b',o',cs,ty',fr,h6,h7,h8,h9⟩
  ·rw[e1] at h6;simp at h6
  rw[e1] at h6
  simp only[Option.some.injEq,Loc.real.injEq] at h6
  obtain⟨rfl,rfl,rfl,rfl,rfl⟩:=h6
  obtain⟨hb1,hel⟩:=elems_at hw0 h9
  have hel0:=hel
  have hosl:=hel.length
  have hmn:min xs'.length n≤n:=Nat.min_le_right _ _
  generalize hq0:min xs'.length n=q0 at*
  have hvl:vs.length=q0*s'.width:=by rw[hvl,Nat.min_comm,hq0]
  have hiq:(i+q0)*s'.width≤l.length*s'.width:=Nat.mul_le_mul_right _ (by omega)
  have hsz:l=[]∨o+(i+q0)*s'.width≤cs.size:=hb1.imp id fun h=>by omega
  rw[Nat.add_mul] at hiq hsz
  by_cases hvs0:vs=[]
  ·have hq00:q0=0:=by
    rw[hvs0] at hvl
    rcases Nat.mul_eq_zero.1 hvl.symm with h|h<;>omega
   subst hq00
   have hxt:xs'.take n=[]:=by rw[← htk];simp
   have hsame:l.take i++xs'.take n++l.drop (i+0)=l:=by rw[hxt];simp
   rw[hsame]
   have hset:H.set r0 (.row s' l)=H:=by
    apply List.ext_getElem?
    intro q
    by_cases hq:r0=q
    ·subst hq
     rw[List.getElem?_set_self hlt]
     have:=hat
     simp only[Heap.at,List.getD_eq_getElem?_getD] at this
     rw[List.getElem?_eq_getElem hlt] at this⊢
     simpa using this.symm
    ·rw[List.getElem?_set_ne hq]
   rw[hset]
   exact SemRes.same (hrun _ cap c.w (by rw[hvs0];simp[storeCells])) rfl hh hf
  ·have hsz:o+(i*s'.width+q0*s'.width)≤cs.size:=hsz.resolve_left (by
    rintro rfl
    simp only[List.length_nil,Nat.zero_mul] at hiq
    exact hvs0 (List.length_eq_zero_iff.1 (by omega)))
   have hst:=run_storeCells_ok (P:=P) (ty:=ty') (fr:=fr) (b:=b) (o:=o+i*s'.width) vs 0 cs c.w h7 h8 (by omega) hv2.cell
   rw[Nat.add_zero] at hst
   have hnew:(l.take i++xs'.take n++l.drop (i+q0)).length=l.length:=by
    simp only[List.length_append,List.length_take,List.length_drop];omega
   obtain⟨g1,g2,g3⟩:=move_set hh (ob:= .cells (overV cs (o+i*s'.width) vs) ty' fr) (x:= .row s' (l.take i++xs'.take n++l.drop (i+q0))) e1 (by rw[hat];rfl) hlt rfl (fun hlater=>by
    refine .inr ⟨b,o,overV cs (o+i*s'.width) vs,ty',fr,by rw[hnew,overV_size];exact e1, ?_,by simpa [overV_size] using h8,at_of_elems ((((hel.take i).append hv2).append (hel.drop (i+q0))).mono hlater) fun q hq=> ?_⟩
    ·show(setB c.w b _).heap[b]? =_
     rw[setB_heap,if_pos rfl,if_pos (lt_of_heap h7)]
    ·rw[overV_get _ _ _ _ (by omega)]
     simp only[List.length_append,List.length_take,List.length_drop,hosl,hvl] at hq
     have hVl:((cs.toList.drop o).take (l.length*s'.width)).length=l.length*s'.width:=hosl
     rw[Nat.add_mul] at hq
     by_cases hA:q<i*s'.width
     ·rw[if_neg (by omega),List.append_assoc,List.getElem?_append_left (by rw[List.length_take,hVl];omega),List.getElem?_take_of_lt hA,List.getElem?_take_of_lt (by omega),List.getElem?_drop,Array.getElem?_toList]
     ·rw[List.append_assoc,List.getElem?_append_right (by rw[List.length_take,hVl];omega),List.length_take,hVl,Nat.min_eq_left (by omega)]
      by_cases hB:q<i*s'.width+q0*s'.width
      ·rw[if_pos (by omega),List.getElem?_append_left (by omega)]
       congr 1;omega
      ·rw[if_neg (by omega),List.getElem?_append_right (by omega),List.getElem?_drop,hvl,Nat.add_mul,
        show i*s'.width+q0*s'.width+(q-i*s'.width-q0*s'.width)=q by omega,List.getElem?_take_of_lt (by omega),List.getElem?_drop,Array.getElem?_toList])
   exact⟨_,_,hrun _ cap _ hst,rfl,g1,fun q hq=>hf q (by simpa using hq),g2,g3⟩
theorem obj_swap {c:Ctx}{H:Heap}{r:Nat}{x y:AObj}(hat:H.at r=x)(hlt:r<H.length)(ho:y.owns=x.owns)(himp:ObjRel c r x→ObjRel c r y)(hh:HRel c H.at):HRel c (Heap.at (H.set r y)):=by
 have how: ∀k,(Heap.at (H.set r y) k).owns=(H.at k).owns:=fun k=>by
  rw[at_set _ hlt];split
  ·rename_i h;subst h;rw[hat];exact ho
  ·rfl
 have hown: ∀b,Own c (Heap.at (H.set r y)) b→Own c H.at b:=fun b ⟨k,o,w,n,z,h1,h2⟩=>⟨k,o,w,n,z,h1,by rwa[how] at h2⟩
 refine⟨fun k=> ?_,fun k k' b' o1 w1 n1 z1 o2 w2 n2 z2 h1 h2 h3 h4=>hh.uniq k k' b' _ _ _ _ _ _ _ _ h1 h2 (by rwa[how] at h3) (by rwa[how] at h4),hh.imm,fun b hb=>hh.sep b (hown b hb),hh.glob⟩
 rw[at_set _ hlt]
 split
 ·rename_i hk;subst hk;have:=hh.obj k;rw[hat] at this;exact himp this
 ·exact hh.obj k
theorem own_swap {c:Ctx}{H:Heap}{r:Nat}{y:AObj}(hlt:r<H.length)(ho:y.owns=(H.at r).owns)(b:Nat):Own c (Heap.at (H.set r y)) b↔Own c H.at b:=by
 have how: ∀k,(Heap.at (H.set r y) k).owns=(H.at k).owns:=fun k=>by
  rw[at_set _ hlt];split
  ·rename_i h;subst h;exact ho
  ·rfl
 exact⟨fun⟨k,o,w,n,z,h1,h2⟩=>⟨k,o,w,n,z,h1,by rwa[how] at h2⟩,fun⟨k,o,w,n,z,h1,h2⟩=>⟨k,o,w,n,z,h1,by rwa[how]⟩⟩
theorem Step.swap {c c':Ctx}{H H1 H' H1':HF}(h:Step c H1 c' H1')(e1: ∀b,Own c H1 b↔Own c H b)(e2: ∀b,Own c' H' b↔Own c' H1' b):Step c H c' H' where
 os:=h.os
 tape:=h.tape
 output:=h.output
 size:=h.size
 keep:=fun b hb hn=>h.keep b hb fun ho=>hn ((e1 b).1 ho)
 own:=fun b hb=>(h.own b ((e2 b).1 hb)).imp_left fun ho=>(e1 b).1 ho
 imm:=h.imm
 imm':=fun b hb=>(h.imm' b hb).imp_right fun ho=>ho.imp_left fun ho=>(e1 b).1 ho
theorem copyC_sound {α:Type}{t:TypeId}{a:AV}{x:Option ((s:Sh)×List s.Den)}{H:Heap}{k:Kont α}{r:α}(h:copyC P t a x H k=some r):
  ∃v H',k v H'=some r∧ ∀c va vx ty ts,Rep c a va→(∀ s l,x=some ⟨s,l⟩→0<s.width→Src P c s l vx)→HRel c H.at→Fresh c H.length→SemRes P (Builtin.copy_ (t::ts).toArray ty #[va,vx]) c H v H':=by
 unfold copyC at h
 split at h
 case h_2=>simp at h
 rename_i e r0 i n hu
 split at h
 case h_3=>simp at h
 ·rename_i s l m s' xs' hat
  split at h
  case isFalse=>simp at h
  rename_i hss
  subst hss
  dsimp only at h
  split at h
  case isFalse=>simp at h
  rename_i hw
  obtain⟨hw,hw0⟩:=hw
  rcases cond_some h with ⟨hb,h⟩|⟨_,h⟩
  case inr=>cases h
  have hb:=of_decide_eq_true hb
  refine⟨_,_,h,fun c va vx ty ts ha hvx hh hf=> ?_⟩
  have hlt:r0<H.length:=lt_of_at hat (by simp)
  have ho:=hh.obj r0
  rw[hat] at ho
  obtain⟨j,hlen,hrow⟩:=ho
  have hat1:Heap.at (H.set r0 (.row s' (l++j))) r0= .row s' (l++j):=by rw[at_set _ hlt,if_pos rfl]
  have hh1:HRel c (Heap.at (H.set r0 (.row s' (l++j)))):=obj_swap hat hlt rfl (fun _=>hrow) hh
  have key:=copy_row (P:=P) (ty:=ty) (ts:=ts) hu hat1 hw hw0 ha (hvx _ _ rfl hw0) hh1 (by rw[List.length_set];exact hf)
  obtain⟨v',c',g1,g2,g3,g4,g5,g6⟩:=key
  rw[List.set_set] at g3 g4 g5
  have hq:=Nat.min_le_right xs'.length n
  
  have hnew:(l++j).take i++xs'.take n++(l++j).drop (i+min xs'.length n)=(l.take i++xs'.take n++l.drop (i+min xs'.length n))++j.drop (i+min xs'.length n-l.length):=by
   rw[List.take_append_of_le_length hb,List.drop_append];simp only[List.append_assoc]
  have hin:i+min xs'.length n≤(l++j).length∨min xs'.length n=0:=by
   rcases ha with ⟨rfl,_⟩|⟨b,o,w,m1,z,cap,e1,_,e3,e4,e5⟩
   ·right;simp
   ·left
    rcases hrow with ⟨_,h6⟩|⟨b',o',cs,ty',fr,h6,_⟩
    ·rw[e1] at h6;simp at h6
    ·rw[e1] at h6
     simp only[Option.some.injEq,Loc.real.injEq] at h6
     omega
  have hnl:((l.take i++xs'.take n++l.drop (i+min xs'.length n))++j.drop (i+min xs'.length n-l.length)).length=m:=by
   simp only[List.length_append,List.length_take,List.length_drop] at hlen hin⊢
   omega
  have at2:Heap.at (H.set r0 (.row s' ((l++j).take i++xs'.take n++(l++j).drop (i+min xs'.length n)))) r0= .row s' ((l++j).take i++xs'.take n++(l++j).drop (i+min xs'.length n)):=by rw[at_set _ hlt,if_pos rfl]
  have g3':=obj_swap (y:= .raw s' (l.take i++xs'.take n++l.drop (i+min xs'.length n)) m) at2 (by rw[List.length_set];exact hlt) rfl (fun hr=>⟨_,hnl,by rw[← hnew];exact hr⟩) g3
  rw[List.set_set] at g3'
  refine⟨v',c',g1,g2,g3',by rw[List.length_set] at g4 ⊢; exact g4,g5.swap (fun b=>own_swap hlt (by rw[hat];rfl) b) (fun b=> ?_),g6⟩
  rw[own_swap hlt (by rw[hat];rfl),own_swap hlt (by rw[hat];rfl)]
 ·rename_i s l s' xs' hat
  split at h
  case isFalse=>simp at h
  rename_i hss
  subst hss
  dsimp only at h
  split at h
  case isFalse=>simp at h
  rename_i hw
  obtain⟨hw,hw0⟩:=hw
  exact⟨_,_,h,fun c va vx ty ts ha hvx hh hf=>copy_row hu hat hw hw0 ha (hvx _ _ rfl hw0) hh hf⟩
theorem copyA_sound {α:Type}{t:TypeId}{a x:AV}{H:Heap}{k:Kont α}{r:α}(h:copyA P t a x H k=some r):
  ∃v H',k v H'=some r∧ ∀c va vx ty ts,Rep c a va→Rep c x vx→HRel c H.at→Fresh c H.length→SemRes P (Builtin.copy_ (t::ts).toArray ty #[va,vx]) c H v H':=by
 have plain:copyC P t a (content H x) H k=some r→ ∃v H',k v H'=some r∧ ∀c va vx ty ts,Rep c a va→Rep c x vx→HRel c H.at→Fresh c H.length→SemRes P (Builtin.copy_ (t::ts).toArray ty #[va,vx]) c H v H':=fun h=>by
  obtain⟨v,H',h1,h2⟩:=copyC_sound h
  exact⟨v,H',h1,fun c va vx ty ts ha hx hh hf=>h2 c va vx ty ts ha (fun s l e h0=>content_sound (P:=P) e h0 hx hh) hh hf⟩
 unfold copyA at h
 split at h
 ·rename_i q j p
  split at h
  ·rename_i s l m hat
   rcases cond_some h with ⟨hb,h⟩|⟨_,h⟩
   case inr=>cases h
   have hb:=of_decide_eq_true hb
   obtain⟨v,H',h1,h2⟩:=copyC_sound h
   refine⟨v,H',h1,fun c va vx ty ts ha hx hh hf=>h2 c va vx ty ts ha (fun s' l' e h0=> ?_) hh hf⟩
   simp only[Option.some.injEq,Sigma.mk.injEq] at e
   obtain⟨rfl,e⟩:=e
   cases e
   have hlt:q<H.length:=lt_of_at hat (by simp)
   have ho:=hh.obj q
   rw[hat] at ho
   obtain⟨jj,hlen,hrow⟩:=ho
   have hh1:HRel c (Heap.at (H.set q (.row s (l++jj)))):=obj_swap hat hlt rfl (fun _=>hrow) hh
   have e2:content (H.set q (.row s (l++jj))) (.msl q j p)=some ⟨s,(l.drop j).take p⟩:=by
    unfold content
    simp only
    rw[at_set _ hlt,if_pos rfl]
    simp only
    rw[List.drop_append_of_le_length (by omega),List.take_append_of_le_length (by rw[List.length_drop];omega)]
   exact content_sound (P:=P) e2 h0 hx hh1
  ·exact plain h
 ·exact plain h
theorem intA_sound {α:Type}{op:BinOp}{k:IntKind}{x y:Int}{c:AV→Option α}{r:α}(h:intA op k x y c=some r)(hs:op≠ .shl∧op≠ .shr):
  ∃v,c (.lit v)=some r∧ ∀(t:TypeId) (w:World),(binOp op t (.int k x) (.int k y)).run P w= .ok v w:=by
 cases op<;>simp only[intA] at h
 case shl=>exact absurd rfl hs.1
 case shr=>exact absurd rfl hs.2
 case quo=>
  rcases cond_some h with ⟨_,h⟩|⟨h0,h⟩
  ·simp at h
  ·have h0:=of_decide_eq_false h0
   exact⟨_,h,fun t w=>by simp[binOp,Op.intDiv,h0]⟩
 case rem=>
  rcases cond_some h with ⟨_,h⟩|⟨h0,h⟩
  ·simp at h
  ·have h0:=of_decide_eq_false h0
   exact⟨_,h,fun t w=>by simp[binOp,Op.intDiv,h0]⟩
 all_goals exact⟨_,h,fun t w=>by simp[binOp,Op.intArith,Op.intBits,Op.intCmp,ibits_def,ibits0]⟩
theorem shiftA_sound {α:Type}{op:BinOp}{k k':IntKind}{x y:Int}{c:AV→Option α}{r:α}(h:shiftA op k x y c=some r)(hs:op= .shl∨op= .shr):
  ∃v,c (.lit v)=some r∧ ∀(t:TypeId) (w:World),(binOp op t (.int k x) (.int k' y)).run P w= .ok v w:=by
 rcases hs with rfl|rfl<;>simp only[shiftA] at h<;>rcases cond_some h with ⟨_,h⟩|⟨h0,h⟩
 ·simp at h
 ·have h0:=of_decide_eq_false h0
  exact⟨_,h,fun t w=>by simp only[binOp,Op.shift,if_neg h0,Sem.run_pure]⟩
 ·simp at h
 ·have h0:=of_decide_eq_false h0
  exact⟨_,h,fun t w=>by simp only[binOp,Op.shift,if_neg h0,Sem.run_pure]⟩
theorem strA_sound {α:Type}{op:BinOp}{x y:ByteArray}{c:AV→Option α}{r:α}(h:strA op x y c=some r):
  ∃v,c (.lit v)=some r∧ ∀(t:TypeId) (w:World),(binOp op t (.string x) (.string y)).run P w= .ok v w:=by
 cases op<;>simp only[strA] at h
 case add=>
  rcases cond_some h with ⟨_,h⟩|⟨h0,h⟩
  ·simp at h
  ·have h0:=of_decide_eq_false h0
   exact⟨_,h,fun t w=>by simp only[binOp,Op.stringOp,if_neg h0,Sem.run_pure]⟩
 all_goals first
  |(simp at h;done)
  |exact⟨_,h,fun t w=>by simp[binOp,Op.stringOp]⟩
def ValOf (P:Program)(c:Ctx)(t:TypeId)(xs:List AV)(v:Value):Prop:=
 (isAggT P t=true→ ∃vs,v= .agg vs∧RepL c xs vs.toList)∧(isAggT P t=false→ ∀a,xs=[a]→Rep c a v)
theorem part_val {c:Ctx}{t:TypeId}{d:TypeDesc}{n off:Nat}{xs:List AV}{vs:Array Value}{w:World}(hd:P.underlying t=some d)(hn:sizeT P t=some n)(h:RepL c xs vs.toList)
  (hs:isAggT P t=false→ ∃a,(xs.drop off).take n=[a]): ∃v,(part t vs off).run P w= .ok v w∧ValOf P c t ((xs.drop off).take n) v:=by
 by_cases hagg:isAggT P t=true
 ·refine⟨.agg (vs.extract off (off+n)),by simp[part,run_isAgg_ok hd,hagg,run_sizeOf_ok hn],fun _=>⟨_,rfl, ?_⟩,fun h=>by simp[hagg] at h⟩
  have:(vs.extract off (off+n)).toList=(vs.toList.drop off).take n:=by simp[List.extract_eq_take_drop]
  rw[this]
  exact(h.drop off).take n
 ·have hagg:isAggT P t=false:=by simpa using hagg
  obtain⟨a,ha⟩:=hs hagg
  have hx:xs[off]? =some a:=by
   have h1:((xs.drop off).take n)[0]? =some a:=by rw[ha];rfl
   have hn0:0<n:=by
    rcases Nat.eq_zero_or_pos n with h|h
    ·subst h;simp at ha
    ·exact h
   rw[List.getElem?_take_of_lt hn0,List.getElem?_drop] at h1
   simpa using h1
  obtain⟨v,h1,h2⟩:=h.get off hx
  refine⟨v, ?_,fun h=>by simp[hagg] at h,fun _ b hb=> ?_⟩
  ·simp only[Array.getElem?_toList] at h1
   simp[part,run_isAgg_ok hd,hagg,h1]
  ·rw[ha] at hb;cases hb;exact h2
theorem eqA_scalar {n:Nat}{t:TypeId}{xs ys:List AV}{b:Bool}(h:eqA P n t xs ys=some b):(∃ d,P.underlying t=some d)∧(isAggT P t=false→(∃ a,xs=[a])∧ ∃a,ys=[a]):=by
 cases n with
 |zero=>simp[eqA] at h
 |succ n=>
  unfold eqA at h
  split at h
  case h_5=>simp at h
  all_goals
   rename_i hu
   refine⟨⟨_,hu⟩,fun hagg=> ?_⟩
   simp[isAggT,hu] at hagg
   try exact⟨⟨_,rfl⟩,_,rfl⟩
theorem eqA_sound: ∀(n:Nat) (t:TypeId) (xs ys:List AV) (b:Bool),eqA P n t xs ys=some b→ ∀(c:Ctx) (vx vy:Value) (d:Nat) (w:World),n≤d→
  ValOf P c t xs vx→ValOf P c t ys vy→(Op.equalIn d t vx vy).run P w= .ok b w
 |0,_,_,_,_,h=>by simp[eqA] at h
 |n+1,t,xs,ys,b,h=>by
  intro c vx vy d w hd hx hy
  obtain⟨d,rfl⟩: ∃e,d=e+1:=⟨d-1,by omega⟩
  unfold eqA at h
  split at h
  case h_5=>simp at h
  ·rename_i kk k a k' b' hu
   have hagg:isAggT P t=false:=by simp[isAggT,hu]
   have h1:=hx.2 hagg _ rfl
   have h2:=hy.2 hagg _ rfl
   rw[show vx=_ from h1,show vy=_ from h2]
   split at h
   ·rename_i hk;subst hk
    simp only[Option.some.injEq] at h;subst h
    exact run_equalIn_int w d t k kk a b' hu
   ·simp at h
  ·rename_i a b' hu
   have hagg:isAggT P t=false:=by simp[isAggT,hu]
   rw[show vx=_ from hx.2 hagg _ rfl,show vy=_ from hy.2 hagg _ rfl]
   simp only[Option.some.injEq] at h;subst h
   exact run_equalIn_bool' w d t a b' hu
  ·rename_i a b' hu
   have hagg:isAggT P t=false:=by simp[isAggT,hu]
   rw[show vx=_ from hx.2 hagg _ rfl,show vy=_ from hy.2 hagg _ rfl]
   simp only[Option.some.injEq] at h;subst h
   simp[Op.equalIn,run_underlying_ok hu]
  ·rename_i fs hu
   have hagg:isAggT P t=true:=by simp[isAggT,hu]
   obtain⟨vs,rfl,hvs⟩:=hx.1 hagg
   obtain⟨us,rfl,hus⟩:=hy.1 hagg
   split at h
   ·simp at h
   rename_i hst
   have hfo:P.fieldsOf t=fs:=by simp[Program.fieldsOf,hu]
   rw[run_equalIn_struct w d t vs us (by rw[hfo];exact hu) (by simpa using hst),hfo]
   generalize fs.toList=l at h
   clear hu hfo hx hy
   induction l generalizing b with
   |nil=>simp only[List.foldr_nil,Option.some.injEq] at h;subst h;simp[Op.eqFields]
   |cons f l ih=>
    simp only[List.foldr_cons] at h
    simp only[Op.eqFields]
    split at h
    ·rename_i hname
     rw[if_neg (by simp[hname])]
     exact ih b h
    ·rename_i hname
     rw[if_pos hname]
     split at h
     ·simp at h
     rename_i m hm
     split at h
     case h_2=>simp at h
     rename_i b1 b2 hb1 hb2
     simp only[Option.some.injEq] at h
     subst h
     obtain⟨⟨df,hdf⟩,hsc⟩:=eqA_scalar hb1
     obtain⟨v1,g1,g2⟩:=part_val (off:=f.offset) (w:=w) hdf hm hvs (fun h=>(hsc h).1)
     obtain⟨v2,g3,g4⟩:=part_val (off:=f.offset) (w:=w) hdf hm hus (fun h=>(hsc h).2)
     have g5:=eqA_sound n f.type _ _ b1 hb1 c v1 v2 d w (by omega) g2 g4
     simp only[Sem.run_bind,g1,Result.andThen_ok,g3,g5,Sem.run_ite,Sem.run_pure]
     cases b1
     ·simp
     ·simp only[Bool.not_true,Bool.false_eq_true,if_false,Bool.true_and]
      exact ih b2 hb2
theorem run_eqFunc {t:TypeId}{ps rs:Array TypeId}{vr:Bool}(hu:P.underlying t=some (.func ps rs vr))(d:Nat)(w:World):
  (Op.equalIn (d+1) t .nilFunc .nilFunc).run P w= .ok true w∧ ∀f a b,(Op.equalIn (d+1) t (.func f a b) .nilFunc).run P w= .ok false w∧(Op.equalIn (d+1) t .nilFunc (.func f a b)).run P w= .ok false w:=by
 refine⟨by simp[Op.equalIn,run_underlying_ok hu],fun f a b=>⟨by simp[Op.equalIn,run_underlying_ok hu],by simp[Op.equalIn,run_underlying_ok hu]⟩⟩
theorem equalA_sound {t:TypeId}{x y:AV}{b:Bool}(h:equalA P t x y=some b){c:Ctx}{vx vy:Value}(hx:Rep c x vx)(hy:Rep c y vy)(op:BinOp)(hop:op= .eql∨op= .neq)(p q:Operand)(w:World):
  (do eqGuard op t p q vx vy;binOp op t vx vy:Sem Value).run P w= .ok (.bool (if op= .eql then b else !b)) w:=by
 have bools: ∀(a b:Bool),eqGuard op t p q (.bool a) (.bool b)=pure ():=fun a b=>by
  rcases hop with rfl|rfl<;>rfl
 have fin: ∀(ps rs:Array TypeId) (vr:Bool),P.underlying t=some (.func ps rs vr)→ ∀v,(v= .nilFunc∧b=true)∨(∃ f a1 a2,v= .func f a1 a2∧b=false)→
   (do eqGuard op t p q v .nilFunc;binOp op t v .nilFunc:Sem Value).run P w= .ok (.bool (if op= .eql then b else !b)) w∧
   (do eqGuard op t p q .nilFunc v;binOp op t .nilFunc v:Sem Value).run P w= .ok (.bool (if op= .eql then b else !b)) w:=by
  intro ps rs vr hu' v hv
  have e1:=fun d=>run_eqFunc (P:=P) hu' d w
  have g: ∀x y:Value,(x= .nilFunc∨ ∃f a1 a2,x= .func f a1 a2)→(y= .nilFunc∨ ∃f a1 a2,y= .func f a1 a2)→eqGuard op t p q x y=pure ():=by
   rintro x y (rfl|⟨f,a1,a2,rfl⟩) (rfl|⟨f',a1',a2',rfl⟩)<;>rcases hop with rfl|rfl<;>rfl
  rcases hv with ⟨rfl,rfl⟩|⟨f,a1,a2,rfl,rfl⟩
  ·rw[g _ _ (.inl rfl) (.inl rfl)]
   have:=(e1 9999).1
   rcases hop with rfl|rfl
   ·simp only[pure_bind,binOp,Sem.run_bind,Op.equal,Op.maxDepth,this,Result.andThen_ok,Sem.run_pure];exact⟨rfl,rfl⟩
   ·simp only[pure_bind,binOp,Sem.run_bind,Op.equal,Op.maxDepth,this,Result.andThen_ok,Sem.run_pure];exact⟨rfl,rfl⟩
  ·rw[g _ _ (.inl rfl) (.inr ⟨_,_,_,rfl⟩),g _ _ (.inr ⟨_,_,_,rfl⟩) (.inl rfl)]
   have h1:=((e1 9999).2 f a1 a2).1
   have h2:=((e1 9999).2 f a1 a2).2
   rcases hop with rfl|rfl
   ·simp only[pure_bind,binOp,Sem.run_bind,Op.equal,Op.maxDepth,h1,h2,Result.andThen_ok,Sem.run_pure];exact⟨rfl,rfl⟩
   ·simp only[pure_bind,binOp,Sem.run_bind,Op.equal,Op.maxDepth,h1,h2,Result.andThen_ok,Sem.run_pure];exact⟨rfl,rfl⟩
 have nilf: ∀(z:AV) (v:Value),isNilFunc z=some b→Rep c z v→(v= .nilFunc∧b=true)∨(∃ f a1 a2,v= .func f a1 a2∧b=false):=by
  intro z v hz hv
  unfold isNilFunc at hz
  split at hz
  ·simp only[Option.some.injEq] at hz;subst hz;exact .inl ⟨hv,rfl⟩
  ·simp only[Option.some.injEq] at hz;subst hz;exact .inr ⟨_,_,_,hv,rfl⟩
  ·simp only[Option.some.injEq] at hz;subst hz
   obtain⟨x1,x2,e,_⟩:=hv
   exact .inr ⟨_,_,_,e,rfl⟩
  ·simp at hz
 unfold equalA at h
 split at h
 ·rename_i a b' hu
  rw[show vx=_ from hx,show vy=_ from hy]
  simp only[Option.some.injEq] at h;subst h
  have he:=run_equalIn_bool' (P:=P) w 9999 t a b' hu
  rcases hop with rfl|rfl
  ·simp only[bools,pure_bind]
   simp only[binOp,Sem.run_bind,Op.equal,Op.maxDepth,he,Result.andThen_ok,Sem.run_pure,if_true]
  ·simp only[bools,pure_bind]
   simp only[binOp,Sem.run_bind,Op.equal,Op.maxDepth,he,Result.andThen_ok,Sem.run_pure]
   rfl
 ·rename_i hu
  rw[show vy=_ from hy]
  exact(fin _ _ _ hu _ (nilf _ _ h hx)).1
 ·rename_i hu _
  rw[show vx=_ from hx]
  exact(fin _ _ _ hu _ (nilf _ _ h hy)).2
 ·rename_i fs xs ys hu
  split at h
  ·simp at h
  rename_i hg
  have hg:P.eqGuardType P.depth t=false:=by simpa using hg
  have hagg:isAggT P t=true:=by simp[isAggT,hu]
  obtain⟨vs,rfl,hvs⟩:=hx
  obtain⟨us,rfl,hus⟩:=hy
  have hgd:=run_eqGuard_agg (P:=P) w op t p q vs us hg
  have hval: ∀(l:List AV) (ws:Array Value),RepL c l ws.toList→ValOf P c t l (.agg ws):=fun l ws hl=>
   ⟨fun _=>⟨ws,rfl,hl⟩,fun h=>by simp[hagg] at h⟩
  have he:=eqA_sound (P:=P) 9 t xs ys b h c _ _ 10000 w (by omega) (hval _ _ hvs) (hval _ _ hus)
  rcases hop with rfl|rfl
  ·simp only[Sem.run_bind,hgd,Result.andThen_ok,run_eql_struct,he,if_true]
  ·simp only[Sem.run_bind,hgd,Result.andThen_ok,run_neq_struct,he];rfl
 ·simp at h
theorem nilSl_sound {α:Type}{t:TypeId}{x y:AV}{k:Bool→Option α}{r:α}(h:nilSl P t x y k=some r):
  k false=some r∧ ∀c vx vy,Rep c x vx→Rep c y vy→ ∀(op:BinOp),(op= .eql∨op= .neq)→ ∀(p q:Operand) (w:World),(do eqGuard op t p q vx vy;binOp op t vx vy:Sem Value).run P w= .ok (.bool (if op= .eql then false else true)) w:=by
 have fin: ∀(e:TypeId) (a:Addr) (n cap:Nat),P.underlying t=some (.slice e)→ ∀(op:BinOp),(op= .eql∨op= .neq)→ ∀(p q:Operand) (w:World),(do eqGuard op t p q (.slice (some a) n cap) (.slice none 0 0);binOp op t (.slice (some a) n cap) (.slice none 0 0):Sem Value).run P w= .ok (.bool (if op= .eql then false else true)) w:=by
  intro e a n cap hu op hop p q w
  have g:eqGuard op t p q (.slice (some a) n cap) (.slice none 0 0)=pure ():=by rcases hop with rfl|rfl<;>rfl
  have hd: ∀d,(Op.equalIn (d+1) t (.slice (some a) n cap) (.slice none 0 0)).run P w= .ok false w:=fun d=>by simp[Op.equalIn,run_underlying_ok hu]
  have he:=hd 9999
  rw[g]
  rcases hop with rfl|rfl
  ·simp only[pure_bind,binOp,Sem.run_bind,Op.equal,Op.maxDepth,he,Result.andThen_ok,Sem.run_pure,if_true]
  ·simp only[pure_bind,binOp,Sem.run_bind,Op.equal,Op.maxDepth,he,Result.andThen_ok,Sem.run_pure];rfl
 unfold nilSl at h
 split at h
 ·rename_i e s l f hu
  rcases cond_some h with ⟨_,h⟩|⟨hl,h⟩
  ·cases h
  refine⟨h,fun c vx vy hx hy op hop p q w=> ?_⟩
  obtain⟨ad,cap,rfl,g2,g3,g4⟩:=hx
  rw[show vy=_ from hy]
  rcases g4 with rfl|⟨b,o,rfl,_⟩
  ·simp at hl
  ·exact fin _ _ _ _ hu op hop p q w
 ·rename_i e r0 i n hu
  obtain⟨hn,h⟩:=cond_none h
  have hn:=of_decide_eq_true hn
  refine⟨h,fun c vx vy hx hy op hop p q w=> ?_⟩
  rw[show vy=_ from hy]
  rcases hx with ⟨rfl,_⟩|⟨b,o,w',m,z,cap,e1,rfl,_⟩
  ·omega
  ·exact fin _ _ _ _ hu op hop p q w
 ·cases h
theorem binA_sound {α:Type}{op:BinOp}{t:TypeId}{x y:AV}{k:AV→Option α}{r:α}(h:binA P op t x y k=some r):
  ∃v,k (.lit v)=some r∧ ∀c vx vy,Rep c x vx→Rep c y vy→ ∀(p q:Operand) (w:World),(do eqGuard op t p q vx vy;binOp op t vx vy:Sem Value).run P w= .ok v w:=by
 have guardInt: ∀(op:BinOp) (p q:Operand) (ka kb:IntKind) (a b:Int),eqGuard op t p q (.int ka a) (.int kb b)=pure ():=fun op p q ka kb a b=>by cases op<;>rfl
 have guardStr: ∀(op:BinOp) (p q:Operand) (a b:ByteArray),eqGuard op t p q (.string a) (.string b)=pure ():=fun op p q a b=>by cases op<;>rfl
 unfold binA at h
 split at h
 ·rename_i ka a kb b
  split at h
  ·obtain⟨v,h1,h2⟩:=shiftA_sound (P:=P) (k':=kb) h (.inl rfl)
   refine⟨v,h1,fun c vx vy hx hy p q w=> ?_⟩
   rw[show vx=_ from hx,show vy=_ from hy,guardInt]
   simpa using h2 t w
  ·obtain⟨v,h1,h2⟩:=shiftA_sound (P:=P) (k':=kb) h (.inr rfl)
   refine⟨v,h1,fun c vx vy hx hy p q w=> ?_⟩
   rw[show vx=_ from hx,show vy=_ from hy,guardInt]
   simpa using h2 t w
  ·rename_i hs1 hs2
   split at h
   case isFalse=>simp at h
   rename_i hk;subst hk
   obtain⟨v,h1,h2⟩:=intA_sound (P:=P) h ⟨hs1,hs2⟩
   refine⟨v,h1,fun c vx vy hx hy p q w=> ?_⟩
   rw[show vx=_ from hx,show vy=_ from hy,guardInt]
   simpa using h2 t w
 ·rename_i a b
  obtain⟨v,h1,h2⟩:=strA_sound (P:=P) h
  refine⟨v,h1,fun c vx vy hx hy p q w=> ?_⟩
  rw[show vx=_ from hx,show vy=_ from hy,guardStr]
  simpa using h2 t w
 ·split at h
  ·split at h
   case h_2=>
    obtain⟨h1,h2⟩:=nilSl_sound h
    exact⟨_,h1,fun c vx vy hx hy p q w=>by simpa using h2 c vx vy hx hy .eql (.inl rfl) p q w⟩
   rename_i b hb
   refine⟨_,h,fun c vx vy hx hy p q w=> ?_⟩
   simpa using equalA_sound hb hx hy .eql (.inl rfl) p q w
  ·split at h
   case h_2=>
    obtain⟨h1,h2⟩:=nilSl_sound h
    exact⟨_,h1,fun c vx vy hx hy p q w=>by simpa using h2 c vx vy hx hy .neq (.inr rfl) p q w⟩
   rename_i b hb
   refine⟨_,h,fun c vx vy hx hy p q w=> ?_⟩
   simpa using equalA_sound hb hx hy .neq (.inr rfl) p q w
  ·simp at h
theorem unA_sound {α:Type}{op:UnOp}{x:AV}{k:AV→Option α}{r:α}(h:unA op x k=some r):
  ∃v,k (.lit v)=some r∧ ∀c vx,Rep c x vx→ ∀w,(Op.unary op vx).run P w= .ok v w:=by
 unfold unA at h
 split at h
 case h_4=>simp at h
 all_goals
  refine⟨_,h,fun c vx hx w=> ?_⟩
  rw[show vx=_ from hx]
  simp[Op.unary,Op.intArith,Op.intBits,ibits_def,ibits0]
end Go.TX
