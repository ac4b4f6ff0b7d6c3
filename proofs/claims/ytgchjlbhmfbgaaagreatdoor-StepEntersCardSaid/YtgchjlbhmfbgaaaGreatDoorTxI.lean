/- What is appended and copied lies where the evaluator says. -/
import Derived.Test.YtgchjlbhmfbgaaaGreatDoorTxH
namespace Go.TX
set_option linter.unusedVariables false
set_option linter.unusedSimpArgs false
set_option linter.unusedSectionVars false
variable [Globals]
variable {P:Program}
theorem growBy_stop {newLen c:Nat}(h:c≥newLen): ∀r,Builtin.growBy newLen r c=c
 |0=>rfl
 |r+1=>by simp[Builtin.growBy,h]
theorem growBy_le {newLen:Nat}: ∀(r c:Nat),c<newLen→Builtin.growBy newLen r c≤newLen+(newLen+768)/4
 |0,c,h=>by simp only[Builtin.growBy];omega
 |r+1,c,h=>by
  simp only[Builtin.growBy]
  rw[if_neg (by omega)]
  rcases Nat.lt_or_ge (c+(c+768)/4) newLen with h1|h1
  ·exact growBy_le r _ h1
  ·rw[growBy_stop h1];omega
theorem nextcap_le {need cap:Nat}(h:cap<need):Builtin.nextslicecap need cap≤2*need+1024:=by
 unfold Builtin.nextslicecap
 split
 ·omega
 ·split
  ·omega
  ·have:=growBy_le (newLen:=need) 4 cap h
   omega
theorem nextcap_less {need cap:Nat}(h:cap<need):Builtin.nextslicecap need cap≤need+need/4+512:=by
 unfold Builtin.nextslicecap
 split
 ·omega
 ·split
  ·omega
  ·have:=growBy_le (newLen:=need) 4 cap h
   omega
theorem run_append_in {t t2 ty e:TypeId}{d:TypeDesc}{w n cap m:Nat}{base:Option Addr}{x:Value}{vs:Array Value}{W:World}(hu:P.underlying t=some (.slice e))(hw:sizeT P e=some w)
  (hd:P.underlying t2=some d) (hd': ∀k,d≠ .int k) (hl:(Builtin.lenOf x).run P W= .ok m W) (hv:(Builtin.firstCells w m x).run P W= .ok vs W) (hle:n+m≤cap):
  (Builtin.append_ #[t,t2] ty #[.slice base n cap,x]).run P W=
   (match base with|some a=>(storeCells (a.add (n*w)) vs.toList).run P W|none=> .ok () W).andThen fun _ W'=> .ok (.slice base (n+m) cap) W':=by
 unfold Builtin.append_
 cases d with
 |int k=>exact absurd rfl (hd' k)
 |_=>
  simp only[List.getElem?_toArray,List.getElem?_cons_zero,List.getElem?_cons_succ,Sem.run_bind,run_underlying_ok hu,Result.andThen_ok,run_sizeOf_ok hw,run_underlying_ok hd,Sem.run_pure,Bool.false_eq_true,
   if_false,hl,Bool.not_false,if_true]
  rw[if_pos hle]
  simp only[Sem.run_bind,hv,Result.andThen_ok]
  cases base with
  |none=>simp
  |some a=>simp
theorem run_append_out {t t2 ty e:TypeId}{d:TypeDesc}{w n cap m:Nat}{base:Option Addr}{x:Value}{os vs:Array Value}{W:World}{i:TypeInfo}{z:Value}(hu:P.underlying t=some (.slice e))(hw:sizeT P e=some w)
  (hd:P.underlying t2=some d) (hd': ∀k,d≠ .int k) (hl:(Builtin.lenOf x).run P W= .ok m W) (hv:(Builtin.firstCells w m x).run P W.drew= .ok vs W.drew)
  (ho:(Builtin.firstCells w n (.slice base n cap)).run P W.drew= .ok os W.drew)
  (hi:P.info? e=some i) (hz:i.zero=some z) (hb:i.bytes≤16384) (hb0:i.bytes≠0) (hle: ¬n+m≤cap) (hmost:n+m≤mostOf i.bytes):
  ∃newCap,n+m≤newCap∧(Builtin.append_ #[t,t2] ty #[.slice base n cap,x]).run P W=
   .ok (.slice (some ⟨W.heap.size,0,none⟩) (n+m) newCap) (W.drew.alloc (.cells (os++vs++Builtin.zeroCells z.cells (newCap-(n+m))) e)):=by
 refine⟨(n+m)+W.tape W.drawn (.appendCap (n+m) cap e)%(2^63-(n+m)),by omega, ?_⟩
 have hcap: ¬Builtin.nextslicecap (n+m) cap*i.bytes>2^48:=by
  have h1:=nextcap_less (show cap<n+m by omega)
  unfold mostOf mostLen at hmost
  by_cases h56:i.bytes=56
  ·rw[if_pos h56] at hmost
   rw[h56]
   omega
  ·rw[if_neg h56] at hmost
   have h2:Builtin.nextslicecap (n+m) cap≤4294968320:=by omega
   have h3:Builtin.nextslicecap (n+m) cap*i.bytes≤4294968320*16384:=Nat.mul_le_mul h2 hb
   omega
 unfold Builtin.append_
 have hWd:({heap:=W.heap,tape:=W.tape,drawn:=W.drawn+1,os:=W.os,output:=W.output}:World)=W.drew:=rfl
 cases d with
 |int k=>exact absurd rfl (hd' k)
 |_=>
  simp only[List.getElem?_toArray,List.getElem?_cons_zero,List.getElem?_cons_succ,Sem.run_bind,run_underlying_ok hu,Result.andThen_ok,run_sizeOf_ok hw,run_underlying_ok hd,Sem.run_pure,Bool.false_eq_true,
   if_false,hl,Bool.not_false,if_true]
  rw[if_neg hle]
  simp only[Sem.run_bind,run_typeInfo_ok hi,Result.andThen_ok,hb0,or_self,and_false,if_false,hcap,run_choose,Question.forced,Bool.false_eq_true,Question.cut,run_askRoom]
  simp only[hWd,Result.andThen_ok,Sem.run_bind,ho,hv,run_zeroValue_ok hi hz,newRow,run_newObj,Sem.run_pure]
  rfl
theorem zeroCells_size (z:Array Value)(n:Nat):(Builtin.zeroCells z n).size=n*z.size:=by simp[Builtin.zeroCells]
def drewC (c:Ctx):Ctx:=⟨c.w.drew,c.I,c.js⟩
theorem drew_later (c:Ctx):Later c (drewC c):=⟨fun _ h=>⟨h,rfl⟩,fun _ _ h=>h⟩
theorem drew_rel {c:Ctx}{H:HF}(hh:HRel c H):HRel (drewC c) H∧Step c H (drewC c) H∧Stay c (drewC c):=
 move_world hh (w':=c.w.drew) rfl rfl rfl rfl
theorem obj_new {c:Ctx}{s:Sh}{l:List s.Den}{os vs:List Value}{rest:Array Value}{e:TypeId}{N:Nat}{H:Nat}(hl:Elems c s l (os++vs))(hN:N=c.w.heap.size)
  (hlater:Later c ⟨c.w.alloc (.cells (os.toArray++vs.toArray++rest) e),c.I,upd c.js H (.real N 0 s.width l.length (os.toArray++vs.toArray++rest).size)⟩):
  ObjRel ⟨c.w.alloc (.cells (os.toArray++vs.toArray++rest) e),c.I,upd c.js H (.real N 0 s.width l.length (os.toArray++vs.toArray++rest).size)⟩ H (.row s l):=by
 subst hN
 refine .inr ⟨c.w.heap.size,0,_,e,(0,0),upd_eq, ?_,noFz0 _,at_of_elems (hl.mono hlater) fun j hj=> ?_⟩
 ·show(c.w.heap.push _)[_]? =_;simp
 ·rw[Nat.zero_add,← Array.getElem?_toList,Array.toList_append,Array.toList_append,List.getElem?_append_left (by simpa using hj)]
theorem appendA_sound {α:Type}{t t2:TypeId}{d:TypeDesc}{a x:AV}{H:Heap}{k:Kont α}{r:α}(h:appendA P t a x H k=some r)(hd:P.underlying t2=some d)(hd': ∀k,d≠ .int k):
  ∃v H',k v H'=some r∧ ∀c va vx ty,Rep c a va→Rep c x vx→HRel c H.at→Fresh c H.length→SemRes P (Builtin.append_ #[t,t2] ty #[va,vx]) c H v H':=by
 unfold appendA at h
 split at h
 case h_2=>simp at h
 rename_i e hu
 split at h
 case h_2=>simp at h
 rename_i s i z hs hi hz
 split at h
 case isFalse=>simp at h
 rename_i hok
 obtain⟨hw,hb,hb0,hpos,hzl⟩:=hok
 split at h
 case h_2=>simp at h
 rename_i s' xs hx
 split at h
 case isFalse=>simp at h
 rename_i hss
 subst hss
 dsimp only at h
 have hw0:0<s'.width:=by omega
 have hsz:sizeT P e=some s'.width:=by simp[sizeT,hi,hw]
 
 have out: ∀(l0:List s'.Den) (r0:Option Nat) (c:Ctx) (base:Option Addr) (cap:Nat) (vx:Value) (ty:TypeId) (os:List Value),Rep c x vx→HRel c H.at→Fresh c H.length→
   (Builtin.firstCells s'.width l0.length (.slice base l0.length cap)).run P c.w.drew= .ok os.toArray c.w.drew→Elems c s' l0 os→ ¬l0.length+xs.length≤cap→l0.length+xs.length≤mostOf i.bytes→
   (∀ q,r0=some q→q<H.length)→
   SemRes P (Builtin.append_ #[t,t2] ty #[.slice base l0.length cap,vx]) c H (.msl H.length 0 (l0.length+xs.length)) ((match r0 with|none=>H|some q=>H.set q .gone)++[.row s' (l0++xs)]):=by
  intro l0 r0 c base cap vx ty os hvx hh hf hos hel hcap hmost hr0
  obtain⟨hh1,st1,sy1⟩:=drew_rel hh
  have hvx1:=Rep.mono (drew_later c) _ hvx
  obtain⟨hl,_⟩:=content_sound hx hw0 (typed_rep hvx) hh
  obtain⟨_,hv⟩:=content_sound (P:=P) (c:=drewC c) hx hw0 (typed_rep hvx1) hh1
  obtain⟨vs,hv1,hv2⟩:=hv xs.length (Nat.le_refl _)
  rw[List.take_length] at hv2
  obtain⟨i',zv,hi',hzero,hzr⟩:=zeroT_rep (c:=c) hz
  rw[hi] at hi';cases hi'
  have hzs:zv.cells.size=s'.width:=by rw[← Array.length_toList,hzr.length,hzl]
  obtain⟨newCap,hnc,hrun⟩:=run_append_out (ty:=ty) hu hsz hd hd' hl hv1 hos hi hzero hb hb0 hcap hmost
  have hf1:Fresh (drewC c) H.length:=hf
  have hel1:=Elems.mono (drew_later c) hel
  have hlen1:=hel1.length
  have hlen2:=hv2.length
  generalize hrest:Builtin.zeroCells zv.cells (newCap-(l0.length+xs.length))=rest at hrun
  have hrs:rest.size=(newCap-(l0.length+xs.length))*s'.width:=by rw[← hrest,zeroCells_size,hzs]
  have htot:(os.toArray++vs.toArray++rest).size=newCap*s'.width:=by
   simp only[Array.size_append,List.size_toArray,hlen1,hlen2,hrs,← Nat.add_mul]
   congr 1;omega
  have hone:=obj_new (c:=drewC c) (l:=l0++xs) (os:=os) (vs:=vs) (rest:=rest) (e:=e) (N:=c.w.heap.size) (H:=H.length) (hel1.append hv2) rfl
  rw[List.length_append] at hone
  have fin: ∀c':Ctx,c'=⟨c.w.drew.alloc (.cells (os.toArray++vs.toArray++rest) e),c.I,upd c.js H.length (.real c.w.heap.size 0 s'.width (l0.length+xs.length) (os.toArray++vs.toArray++rest).size)⟩→
    Rep c' (.msl H.length 0 (l0.length+xs.length)) (.slice (some ⟨c.w.heap.size,0,none⟩) (l0.length+xs.length) newCap):=fun c' hc=>by
   subst hc
   exact .inr ⟨c.w.heap.size,0,s'.width,l0.length+xs.length,_,newCap,upd_eq,by simp,hnc,by omega,by rw[htot];simp⟩
  cases r0 with
  |none=>
   obtain⟨g1,g2,g3,g4⟩:=move_alloc hh1 hf1 (.cells (os.toArray++vs.toArray++rest) e) (.row s' (l0++xs)) 0 s'.width (l0.length+xs.length) _ hone
   exact⟨_,_,hrun,fin _ rfl,g1,g4,st1.trans g2,sy1.trans g3⟩
  |some q=>
   obtain⟨g1,g2,g3,g4⟩:=move_alloc_gone hh1 hf1 (hr0 q rfl) (.cells (os.toArray++vs.toArray++rest) e) (.row s' (l0++xs)) 0 s'.width (l0.length+xs.length) _ hone
   exact⟨_,_,hrun,fin _ rfl,g1,g4,st1.trans g2,sy1.trans g3⟩
 split at h
 ·rename_i s2 lw cx hta
  split at h
  case isFalse=>simp at h
  rename_i hss
  subst hss
  dsimp only at h
  obtain⟨hcx,h⟩:=cond_none h
  split at h
  ·obtain⟨hm,h⟩:=cond_none h
   have hm:=of_decide_eq_true hm
   refine⟨_,_,h,fun c va vx ty ha hvx hh hf=> ?_⟩
   have ha':Rep c (.sl s2 [] cx) va:=hta▸typed_rep (P:=P) (t:=t) ha
   obtain⟨ad,cap,rfl,g2,g3,g4⟩:=ha'
   have hcap:cap=0:=by simpa using g3 hcx
   subst hcap
   by_cases hx0:xs.length=0
   ·have hxn:xs=[]:=List.length_eq_zero_iff.1 hx0
    obtain⟨hl,hv⟩:=content_sound (P:=P) hx hw0 (typed_rep hvx) hh
    obtain⟨vs,hv1,hv2⟩:=hv xs.length (Nat.le_refl _)
    have hvs0:vs=[]:=by
     have:=hv2.length
     rw[List.take_length,hx0] at this
     exact List.length_eq_zero_iff.1 (by omega)
    have hrun:=run_append_in (ty:=ty) (n:=0) (cap:=0) (base:=ad) hu hsz hd hd' hl hv1 (by omega)
    obtain⟨g1,g2,g3,g4⟩:=move_virt hh hf s2
    refine⟨.slice ad (0+xs.length) 0,_, ?_, ?_, ?_, ?_, ?_,g3⟩
    ·simp only[List.length_nil]
     rw[hrun,hvs0]
     cases ad<;>simp[storeCells]
    ·exact .inl ⟨hx0,ad,by rw[hx0]⟩
    ·rw[hxn];exact g1
    ·rw[hxn];exact g4
    ·rw[hxn];exact g2
   ·have:=out [] none c ad 0 vx ty [] hvx hh hf (by cases ad<;>simp[Builtin.firstCells,loadCells,loadCellsFrom]) rfl (by simp only[List.length_nil];omega) (by simpa using hm) (by simp)
    simpa using this
  ·rename_i dd ds hold
   clear hold
   generalize dd::ds=l' at*
   rcases cond_some h with ⟨hemp,h⟩|⟨hemp,h⟩
   ·have hxn:xs=[]:=by simpa using hemp
    refine⟨_,_,h,fun c va vx ty ha hvx hh hf=> ?_⟩
    have ha':Rep c (.sl s2 l' cx) va:=hta▸typed_rep (P:=P) (t:=t) ha
    obtain⟨ad,cap,rfl,g2,g3,g4⟩:=ha'
    have hcap:cap=l'.length:=by simpa using g3 hcx
    subst hcap
    obtain⟨hl,hv⟩:=content_sound (P:=P) hx hw0 (typed_rep hvx) hh
    obtain⟨vs,hv1,hv2⟩:=hv xs.length (Nat.le_refl _)
    have hx0:xs.length=0:=by rw[hxn];rfl
    have hvs0:vs=[]:=by
     have:=hv2.length
     rw[List.take_length,hx0] at this
     exact List.length_eq_zero_iff.1 (by omega)
    have hrun:=run_append_in (ty:=ty) (n:=l'.length) (cap:=l'.length) (base:=ad) hu hsz hd hd' hl hv1 (by omega)
    refine SemRes.same (v':= .slice ad (l'.length+xs.length) l'.length) ?_ ?_ hh hf
    ·rw[hrun,hvs0]
     cases ad<;>simp[storeCells]
    ·rw[hx0,Nat.add_zero]
     exact⟨ad,l'.length,rfl,Nat.le_refl _,fun _=>rfl,g4⟩
   ·obtain⟨hm,h⟩:=cond_none h
    have hm:=of_decide_eq_true hm
    have hxn:xs≠[]:=by simpa using hemp
    refine⟨_,_,h,fun c va vx ty ha hvx hh hf=> ?_⟩
    have ha':Rep c (.sl s2 l' cx) va:=hta▸typed_rep (P:=P) (t:=t) ha
    have ha1:=Rep.mono (drew_later c) _ ha'
    have hcon:content H (.sl s2 l' cx)=some ⟨s2,l'⟩:=rfl
    obtain⟨_,hv⟩:=content_sound (P:=P) hcon hw0 ha1 (drew_rel hh).1
    obtain⟨os,ho1,ho2⟩:=hv l'.length (Nat.le_refl _)
    obtain⟨_,hv⟩:=content_sound (P:=P) hcon hw0 ha' hh
    obtain⟨os',ho1',ho2'⟩:=hv l'.length (Nat.le_refl _)
    rw[List.take_length] at ho2'
    obtain⟨ad,cap,rfl,g2,g3,g4⟩:=ha'
    have hcap:cap=l'.length:=by simpa using g3 hcx
    subst hcap
    have hos:os'=os:=by
     have e1:(Builtin.firstCells s2.width l'.length (.slice ad l'.length l'.length)).run P c.w.drew= .ok os'.toArray c.w.drew:=by
      rcases g4 with rfl|⟨b,o,rfl,g5,cs,ty',fr,g6,g7⟩
      ·have:=ho2'.length
       simp only[List.length_nil,Nat.zero_mul] at this
       rw[List.length_eq_zero_iff.1 this]
       cases ad<;>simp[Builtin.firstCells,loadCells,loadCellsFrom]
      ·have hb1:=(elems_at hw0 g7).1
       rcases hb1 with rfl|hb1
       ·have:=ho2'.length
        simp only[List.length_nil,Nat.zero_mul] at this
        rw[List.length_eq_zero_iff.1 this]
        simp[Builtin.firstCells,loadCells,loadCellsFrom]
       ·simp only[Builtin.firstCells] at ho1'⊢
        rw[run_loadCells_ok g6 hb1] at ho1'
        rw[run_loadCells_ok (w:=c.w.drew) g6 hb1]
        simp only[Result.ok.injEq,and_true] at ho1'⊢
        exact ho1'
     rw[show(drewC c).w=c.w.drew from rfl] at ho1
     rw[e1] at ho1
     simpa using ho1
    subst hos
    exact out l' none c ad l'.length vx ty os' hvx hh hf ho1 ho2' (by
     have:0<xs.length:=List.length_pos_iff.2 hxn
     omega) hm (by simp)
 ·rename_i r0 j n hta
  split at h
  case h_2=>simp at h
  rename_i s2 l' hat
  split at h
  case isFalse=>simp at h
  rename_i hss
  subst hss
  dsimp only at h
  split at h
  case isTrue=>simp at h
  rename_i hnr
  obtain⟨hm,h⟩:=cond_none h
  have hm:=of_decide_eq_true hm
  have hlt:r0<H.length:=lt_of_at hat (by simp)
  refine⟨_,_,h,fun c va vx ty ha hvx hh hf=> ?_⟩
  have ha':Rep c (.msl r0 j n) va:=hta▸typed_rep (P:=P) (t:=t) ha
  have hcon:content H (.msl r0 j n)=some ⟨s2,(l'.drop j).take n⟩:=by simp[content,hat]
  obtain⟨hl,hv⟩:=content_sound (P:=P) hx hw0 (typed_rep hvx) hh
  obtain⟨vs,hv1,hv2⟩:=hv xs.length (Nat.le_refl _)
  rw[List.take_length] at hv2
  have hvl:=hv2.length
  rcases ha' with ⟨rfl,ad,rfl⟩|⟨b,o,w,m,z',cap,e1,rfl,e3,e4,e5⟩
  ·by_cases hx0:xs.length=0
   ·have hxn:xs=[]:=List.length_eq_zero_iff.1 hx0
    have hvs0:vs=[]:=List.length_eq_zero_iff.1 (by rw[hvl,hx0];simp)
    have hrun:=run_append_in (ty:=ty) (n:=0) (cap:=0) (base:=ad) hu hsz hd hd' hl hv1 (by omega)
    obtain⟨g1,g2,g3,g4⟩:=move_virt_gone hh hf hlt s2
    refine⟨.slice ad (0+xs.length) 0,_, ?_, ?_, ?_, ?_, ?_,g3⟩
    ·rw[hrun,hvs0]
     cases ad<;>simp[storeCells]
    ·exact .inl ⟨by omega,ad,by rw[hx0]⟩
    ·rw[hxn];exact g1
    ·rw[hxn];exact g4
    ·rw[hxn];exact g2
   ·have:=out [] (some r0) c ad 0 vx ty [] hvx hh hf (by cases ad<;>simp[Builtin.firstCells,loadCells,loadCellsFrom]) rfl (by simp only[List.length_nil];omega) (by simpa using hm) (by simpa using hlt)
    simpa using this
  ·have ho:=hh.obj r0
   rw[hat] at ho
   rcases ho with ⟨_,h6⟩|⟨b',o',cs,ty',fr,h6,h7,h8,h9⟩
   ·rw[e1] at h6;simp at h6
   rw[e1] at h6
   simp only[Option.some.injEq,Loc.real.injEq] at h6
   obtain⟨rfl,rfl,rfl,rfl,rfl⟩:=h6
   have hl0:((l'.drop j).take n).length=n:=by simp;omega
   have hrow: ∀k (hk:k<((l'.drop j).take n).length),∃ us,RepD c s2 ((l'.drop j).take n)[k] us∧us.length=s2.width∧ ∀q,q<s2.width→cs[o+j*s2.width+k*s2.width+q]? =us[q]? :=fun k hk=>by
    rw[hl0] at hk
    obtain⟨us,g1,g2,g3⟩:=h9 (j+k) (by omega)
    refine⟨us,by simpa using g1,g2,fun q hq=> ?_⟩
    rw[← g3 q hq]
    congr 1
    rw[Nat.add_mul];omega
   obtain⟨hb1,hel⟩:=elems_at hw0 hrow
   have hbound:o+j*s2.width+cap*s2.width≤cs.size:=by rw[Nat.add_mul] at e5;omega
   have hosl:=hel.length
   rw[hl0] at hosl hel hb1
   by_cases hin:n+xs.length≤cap
   ·have hrun:=run_append_in (ty:=ty) (base:=some ⟨b,o+j*s2.width,none⟩) hu hsz hd hd' hl hv1 hin
    have hmul:(n+xs.length)*s2.width≤cap*s2.width:=Nat.mul_le_mul_right _ hin
    rw[Nat.add_mul] at hmul
    have hst:=run_storeCells_ok (P:=P) (ty:=ty') (fr:=fr) (b:=b) (o:=o+j*s2.width+n*s2.width) vs 0 cs c.w h7 h8 (by omega) hv2.cell
    rw[Nat.add_zero] at hst
    obtain⟨g1,g2,g3,g4⟩:=move_adopt hh hf e1 (by rw[hat];rfl) hlt (.cells (overV cs (o+j*s2.width+n*s2.width) vs) ty' fr) (.row s2 ((l'.drop j).take n++xs)) (o+j*s2.width) s2.width (n+xs.length) cs.size (fun hlater=>by
     refine .inr ⟨b,o+j*s2.width,overV cs (o+j*s2.width+n*s2.width) vs,ty',fr, ?_, ?_,by simpa [overV_size] using h8,at_of_elems ((hel.append hv2).mono hlater) fun q hq=> ?_⟩
     ·rw[List.length_append,hl0,overV_size];exact upd_eq
     ·show(setB c.w b _).heap[b]? =_
      rw[setB_heap,if_pos rfl,if_pos (lt_of_heap h7)]
     ·rw[overV_get _ _ _ _ (by omega)]
      rw[List.length_append,hosl,hvl] at hq
      by_cases hq1:q<n*s2.width
      ·rw[if_neg (by omega),List.getElem?_append_left (by omega),List.getElem?_take_of_lt hq1,List.getElem?_drop,Array.getElem?_toList]
      ·rw[if_pos (by omega),List.getElem?_append_right (by omega),hosl]
       congr 1;omega)
    refine⟨.slice (some ⟨b,o+j*s2.width,none⟩) (n+xs.length) cap,_, ?_, ?_,g1,g4,g2,g3⟩
    ·rw[hrun]
     simp only[addr_add]
     rw[hst]
     rfl
    ·exact .inr ⟨b,o+j*s2.width,s2.width,n+xs.length,cs.size,cap,upd_eq,by simp,hin,by omega,by simp;omega⟩
   ·have hos1:(Builtin.firstCells s2.width n (.slice (some ⟨b,o+j*s2.width,none⟩) n cap)).run P c.w.drew= .ok ((cs.toList.drop (o+j*s2.width)).take (n*s2.width)).toArray c.w.drew:=by
     have hmul:n*s2.width≤cap*s2.width:=Nat.mul_le_mul_right _ e3
     simp only[Builtin.firstCells]
     rw[run_loadCells_ok (w:=c.w.drew) h7 (by omega)]
     simp only[Result.ok.injEq,and_true]
     apply Array.ext'
     simp[List.extract_eq_take_drop]
    have:=out ((l'.drop j).take n) (some r0) c (some ⟨b,o+j*s2.width,none⟩) cap vx ty _ hvx hh hf (by rw[hl0];exact hos1) hel (by rw[hl0];exact hin) (by rw[hl0];exact hm) (by simpa using hlt)
    rw[hl0] at this
    exact this
 ·simp at h
theorem run_append_zeros {t t2 ty e:TypeId}{kk k1:IntKind}{w:Nat}{base:Option Addr}{n:Int}{W:World}{i:TypeInfo}{z:Value}(hu:P.underlying t=some (.slice e))(hw:sizeT P e=some w)
  (hd:P.underlying t2=some (.int kk)) (ho:(Builtin.firstCells w 0 (.slice base 0 0)).run P W.drew= .ok #[] W.drew)
  (hi:P.info? e=some i) (hz:i.zero=some z) (hb:i.bytes≤16384) (hb0:i.bytes≠0) (hw0:0<w) (h1:1≤n) (h2:n≤(mostLen:Int)):
  ∃newCap,n.toNat≤newCap∧(Builtin.append_ #[t,t2] ty #[.slice base 0 0, .int k1 n]).run P W=
   .ok (.slice (some ⟨W.heap.size,0,none⟩) (0+n.toNat) newCap) (W.drew.alloc (.cells (#[]++Builtin.zeroCells z.cells n.toNat++Builtin.zeroCells z.cells (newCap-(0+n.toNat))) e)):=by
 refine⟨(0+n.toNat)+W.tape W.drawn (.appendCap (0+n.toNat) 0 e)%(2^63-(0+n.toNat)),by omega, ?_⟩
 have hm:n≤2147483648:=h2
 have hn:IntKind.i64.wrap n=n:=i64_id (by omega) hm
 have hle: ¬0+n.toNat≤0:=by omega
 have hbig: ¬n*(i.bytes:Int)>2^48:=by
  have:n*(i.bytes:Int)≤2147483648*16384:=Int.mul_le_mul hm (by omega) (by omega) (by omega)
  omega
 have hneed: ¬(((0+n.toNat:Nat):Int)>IntKind.i64.max∧(True∨i.bytes=0)):=by
  rintro ⟨h,_⟩
  have:IntKind.i64.max=9223372036854775807:=by decide
  omega
 have hcap: ¬Builtin.nextslicecap (0+n.toNat) 0*i.bytes>2^48:=by
  have g1:=nextcap_le (show 0<0+n.toNat by omega)
  have g2:Builtin.nextslicecap (0+n.toNat) 0≤4294968320:=by omega
  have g3:Builtin.nextslicecap (0+n.toNat) 0*i.bytes≤4294968320*16384:=Nat.mul_le_mul g2 hb
  omega
 have hnw: ¬n.toNat*w=0:=by
  have:0<n.toNat*w:=Nat.mul_pos (by omega) hw0
  omega
 have hWd:({heap:=W.heap,tape:=W.tape,drawn:=W.drawn+1,os:=W.os,output:=W.output}:World)=W.drew:=rfl
 unfold Builtin.append_
 simp only[List.getElem?_toArray,List.getElem?_cons_zero,List.getElem?_cons_succ,Sem.run_bind,run_underlying_ok hu,Result.andThen_ok,run_sizeOf_ok hw,run_underlying_ok hd,Sem.run_pure,
   if_true,asInt,asIntOf,hn,run_typeInfo_ok hi]
 rw[if_neg (show ¬n<0 by omega)]
 simp only[Sem.run_bind,Sem.run_pure,Result.andThen_ok,run_typeInfo_ok hi]
 rw[if_neg hbig]
 simp only[Sem.run_bind,Sem.run_pure,Result.andThen_ok]
 rw[if_neg hle]
 simp only[Sem.run_bind,run_typeInfo_ok hi,Result.andThen_ok,true_or]
 rw[if_neg (show ¬(((0+n.toNat:Nat):Int)>IntKind.i64.max∧True) from fun h=>hneed ⟨h.1, .inl trivial⟩)]
 simp only[Sem.run_bind,Sem.run_pure,run_typeInfo_ok hi,Result.andThen_ok]
 rw[if_neg hcap]
 simp only[Sem.run_bind,Sem.run_pure,run_typeInfo_ok hi,Result.andThen_ok,run_choose,Question.forced,Bool.false_eq_true,Question.cut,run_askRoom,Bool.not_true,hnw,if_false]
 simp only[hWd,Result.andThen_ok,Sem.run_bind,ho,run_zeroValue_ok hi hz,newRow,run_newObj,Sem.run_pure]
 rfl
theorem appendZ_sound {α:Type}{t t2:TypeId}{kk:IntKind}{a x:AV}{H:Heap}{k:Kont α}{r:α}(h:appendZ P t a x H k=some r)(hd:P.underlying t2=some (.int kk)):
  ∃v H',k v H'=some r∧ ∀c va vx ty,Rep c a va→Rep c x vx→HRel c H.at→Fresh c H.length→SemRes P (Builtin.append_ #[t,t2] ty #[va,vx]) c H v H':=by
 unfold appendZ at h
 split at h
 case h_2=>simp at h
 rename_i e k1 n hu
 split at h
 case h_2=>simp at h
 rename_i s i z hs hi hz
 split at h
 case h_2=>simp at h
 rename_i d hdn
 split at h
 case isFalse=>simp at h
 rename_i hok
 obtain⟨hw,hb,hb0,hpos⟩:=hok
 split at h
 case h_2=>simp at h
 rename_i s' cx hta
 split at h
 case isFalse=>simp at h
 rename_i hss
 subst hss
 obtain⟨hcx,h⟩:=cond_none h
 obtain⟨hm,h⟩:=cond_none h
 obtain⟨m1,m2⟩:=of_decide_eq_true hm
 refine⟨_,_,h,fun c va vx ty ha hvx hh hf=> ?_⟩
 have ha':Rep c (.sl s' [] cx) va:=hta▸typed_rep (P:=P) (t:=t) ha
 obtain⟨ad,cap,rfl,g2,g3,g4⟩:=ha'
 have hcap:cap=0:=by simpa using g3 hcx
 subst hcap
 rw[show vx=_ from hvx]
 have hw0:0<s'.width:=by omega
 have hsz:sizeT P e=some s'.width:=by simp[sizeT,hi,hw]
 obtain⟨hh1,st1,sy1⟩:=drew_rel hh
 have hf1:Fresh (drewC c) H.length:=hf
 obtain⟨i',zv,hi',hzero,hzr⟩:=zeroT_rep (c:=drewC c) hz
 rw[hi] at hi';cases hi'
 have hdz:RepD (drewC c) s' d zv.cells.toList:=down_all hzr hdn
 have hzl:zv.cells.toList.length=s'.width:=hdz.len
 have hzs:zv.cells.size=s'.width:=by rw[← Array.length_toList,hzl]
 have hos:(Builtin.firstCells s'.width 0 (.slice ad 0 0)).run P c.w.drew= .ok #[] c.w.drew:=by
  cases ad with
  |none=>rfl
  |some a=>simp[Builtin.firstCells,loadCells,loadCellsFrom]
 obtain⟨newCap,hnc,hrun⟩:=run_append_zeros (ty:=ty) (k1:=k1) hu hsz hd hos hi hzero hb hb0 hw0 m1 m2
 have hz1:(Builtin.zeroCells zv.cells n.toNat).toList=(List.replicate n.toNat zv.cells.toList).flatten:=by
  have:=zeros_eq (n:=n.toNat) hzl hw0
  unfold Builtin.zeroCells
  rw[hzs]
  simpa [hzs] using this
 generalize hrest:Builtin.zeroCells zv.cells (newCap-(0+n.toNat))=rest at hrun
 have hrs:rest.size=(newCap-(0+n.toNat))*s'.width:=by rw[← hrest,zeroCells_size,hzs]
 have hfs:(Builtin.zeroCells zv.cells n.toNat).size=n.toNat*s'.width:=by rw[zeroCells_size,hzs]
 generalize hvs:Builtin.zeroCells zv.cells n.toNat=vs at*
 have htot:(#[]++vs++rest).size=newCap*s'.width:=by
  simp only[Array.size_append,hfs,hrs,← Nat.add_mul]
  rw[show(#[]:Array Value).size=0 from rfl,Nat.zero_add,← Nat.add_mul]
  congr 1;omega
 obtain⟨q1,q2,q3,q4⟩:=move_alloc hh1 hf1 (.cells (#[]++vs++rest) e) (.row s' (List.replicate n.toNat d)) 0 s'.width n.toNat (#[]++vs++rest).size (fun hl=>by
  refine .inr ⟨c.w.heap.size,0, #[]++vs++rest,e,(0,0), ?_, ?_,noFz0 _,fun j hj=> ?_⟩
  ·rw[List.length_replicate];exact upd_eq
  ·show(c.w.heap.push _)[_]? =_;simp
  ·simp only[List.length_replicate] at hj
   refine⟨zv.cells.toList,by simpa using RepD.mono hl s' hdz,hzl,fun q hq=> ?_⟩
   have hlt:0+j*s'.width+q<vs.size:=by
    rw[hfs,Nat.zero_add]
    have:(j+1)*s'.width≤n.toNat*s'.width:=Nat.mul_le_mul_right _ hj
    rw[Nat.add_mul,Nat.one_mul] at this
    omega
   rw[Array.getElem?_append_left (by simpa using hlt),Array.empty_append,← Array.getElem?_toList,hz1,Nat.zero_add,flat_get hzl _ _ _ hj hq])
 refine⟨_,_,hrun, ?_,q1,q4,st1.trans q2,sy1.trans q3⟩
 refine .inr ⟨c.w.heap.size,0,s'.width,n.toNat,_,newCap,upd_eq,by simp,by omega,by omega, ?_⟩
 rw[htot];simp
end Go.TX
