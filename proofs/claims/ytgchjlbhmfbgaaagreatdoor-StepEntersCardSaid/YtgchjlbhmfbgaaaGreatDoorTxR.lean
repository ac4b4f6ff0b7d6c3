/- A function's contract from its evaluation. -/
import Derived.Test.YtgchjlbhmfbgaaaGreatDoorTxQ
import Derived.Laws.Externs
namespace Go.TX
set_option linter.unusedSectionVars false
variable [Globals]
variable {P:Program}
def resOf (tmps:Array Value):ResultVar→Sem Value
 | .tmp t=>pure (tmps.getD t undef)
 | .cell a t=>do loadVar t (← asAddr (tmps.getD a undef))
theorem Slots.getD {c:Ctx}{a:Act}{s:List AV}(h:Slots c a s)(t:Nat):Rep c (s.getD t .any) (a.tmps.getD t undef):=by
 rw[List.getD_eq_getElem?_getD]
 cases ht:s[t]? with
 |none=>exact trivial
 |some v=>exact h.rep t v ht
theorem resultA_sound {α:Type}{st:St}: ∀(l:List ResultVar) (k:List AV→Option α) (r:α),resultA P st l k=some r→
  ∃vs,k vs=some r∧vs.length=l.length∧ ∀a c,Sim a c st→ ∃vals,(l.mapM (resOf a.tmps)).run P c.w= .ok vals c.w∧RepL c vs vals
 |[],k,r,h=>⟨[],h,rfl,fun a c _=>⟨[],rfl,rfl⟩⟩
 | .tmp t::l,k,r,h=>by
  obtain⟨vs,h1,h2,h3⟩:=resultA_sound l _ r h
  refine⟨_,h1,by simp[h2],fun a c hs=> ?_⟩
  obtain⟨vals,h4,h5⟩:=h3 a c hs
  exact⟨_::vals,by simp[resOf,h4],_,_,rfl,hs.slots.getD t,h5⟩
 | .cell p t::l,k,r,h=>by
  unfold resultA at h
  obtain⟨v,h1,h2⟩:=loadA_sound h
  obtain⟨vs,h3,h4,h5⟩:=resultA_sound l _ r h1
  refine⟨_,h3,by simp[h4],fun a c hs=> ?_⟩
  obtain⟨vals,h6,h7⟩:=h5 a c hs
  obtain⟨v',h8,h9⟩:=h2 c _ (hs.slots.getD p) hs.heap
  refine⟨v'::vals, ?_,_,_,rfl,h9,h7⟩
  have h10:(resOf a.tmps (.cell p t)).run P c.w= .ok v' c.w:=by
   show(do loadVar t (← asAddr (a.tmps.getD p undef)):Sem Value).run P c.w=_
   revert h8
   unfold Instr.loadAt
   generalize a.tmps.getD p undef=x
   unfold Instr.sureAddr asAddr
   cases x with
   |pointer x=>cases x<;>simp[stuck]
   |_=>simp[stuck]
  simp[h10,h6]
def listVal:List Value→Value
 |[v]=>v
 |l=> .tuple l.toArray
theorem run_results {fn:Func}{tmps:Array Value}{vals:List Value}{w w':World}(h:(fn.results.toList.mapM (resOf tmps)).run P w= .ok vals w'):
  (results fn tmps).run P w= .ok (listVal vals) w':=by
 have e:results fn tmps=(do let vs ←fn.results.mapM (resOf tmps);pure (if h:vs.size=1 then vs[0] else .tuple vs)):=rfl
 rw[e,Array.mapM_eq_mapM_toList]
 simp only[Sem.run_bind,map_eq_pure_bind,h,Result.andThen_ok,Sem.run_pure]
 congr 1
 match vals with
 |[]=>rfl
 |[v]=>rfl
 |_::_::_=>simp[listVal]
theorem freezeA_at {H:Heap}{i:Nat}(hi: ∀s l,H.at i≠ .row s l)(a:AV):(freezeA H a).2.at i=H.at i:=by
 unfold freezeA
 split
 ·rename_i r j n
  split
  ·rename_i s l hat
   have hlt:=lt_of_at hat (by simp)
   dsimp only
   rw[at_set _ hlt]
   split
   ·rename_i h;subst h;exact absurd hat (hi s l)
   ·rfl
  ·rfl
  ·rfl
 ·rfl
theorem freezeL_at {i:Nat}: ∀(l:List AV) (H:Heap),(∀ s l,H.at i≠ .row s l)→(freezeL H l).2.at i=H.at i
 |[],H,_=>rfl
 |a::l,H,hi=>by
  have h1:=freezeA_at hi a
  have h2:=freezeL_at l (freezeA H a).2 (by rw[h1];exact hi)
  exact h2.trans h1
theorem frzBoxes_sound: ∀(n i:Nat) (c:Ctx) (H:Heap),HRel c H.at→Fresh c H.length→
  ∃c1:Ctx,c1.w=c.w∧c1.js=c.js∧HRel c1 (frzBoxes n i H).at∧(frzBoxes n i H).length=H.length∧Step c H.at c1 (frzBoxes n i H).at∧Stay c c1
 |0,i,c,H,hh,_=>⟨c,rfl,rfl,hh,rfl, .refl _ _, .refl _⟩
 |n+1,i,c,H,hh,hf=>by
  cases hi:H.at i with
  |box l=>
   have e:frzBoxes (n+1) i H=frzBoxes n (i+1) ((freezeL H l).2.set i (.box (freezeL H l).1)):=by
    rw[frzBoxes,hi]
   rw[e]
   have ho:=hh.obj i
   rw[hi] at ho
   obtain⟨b,cs,ty,fr,h1,h2,h3,h4⟩:=ho
   obtain⟨c1,e1,e2,e3,e4,e5,e6,e7⟩:=freezeL_sound l c H cs.toList h4 hh hf
   have hat:(freezeL H l).2.at i= .box l:=(freezeL_at l H (by rw[hi];simp)).trans hi
   have hlt:i<(freezeL H l).2.length:=lt_of_at hat (by simp)
   have hval: ∀vs,RepL c1 l vs→vs=cs.toList→RepL c1 (freezeL H l).1 vs:=fun vs _ hvs=>by subst hvs;exact e3
   have how: ∀k,(Heap.at ((freezeL H l).2.set i (.box (freezeL H l).1)) k).owns=((freezeL H l).2.at k).owns:=fun k=>by
    rw[at_set _ hlt];split
    ·rename_i h;subst h;rw[hat];rfl
    ·rfl
   have hown: ∀q,Own c1 (Heap.at ((freezeL H l).2.set i (.box (freezeL H l).1))) q→Own c1 (freezeL H l).2.at q:=fun q ⟨k,o,w,n,z,g1,g2⟩=>⟨k,o,w,n,z,g1,by rwa[how] at g2⟩
   have g1:HRel c1 (Heap.at ((freezeL H l).2.set i (.box (freezeL H l).1))):=by
    refine⟨fun k=> ?_,fun k k' b o w n z o' w' n' z' h1 h2 h3 h4=>e4.uniq k k' b _ _ _ _ _ _ _ _ h1 h2 (by rwa[how] at h3) (by rwa[how] at h4),e4.imm,fun b hb=>e4.sep b (hown b hb),e4.glob⟩
    rw[at_set _ hlt]
    split
    ·rename_i h;subst h
     exact⟨b,cs,ty,fr,by rw[e2];exact h1,by rw[e1];exact h2,h3,e3⟩
    ·exact e4.obj k
   have g2:Step c1 (freezeL H l).2.at c1 (Heap.at ((freezeL H l).2.set i (.box (freezeL H l).1))):=
    ⟨rfl,rfl,rfl,Nat.le_refl _,fun _ _ _=>rfl,fun b hb=> .inl (hown b hb),fun _ h=>h,fun _ h=> .inl h⟩
   obtain⟨c2,f1,f2,f3,f4,f5,f6⟩:=frzBoxes_sound n (i+1) c1 _ g1 (by simp only[List.length_set];rw[e5];intro r hr;rw[e2];exact hf r hr)
   exact⟨c2,f1.trans e1,f2.trans e2,f3,f4.trans (by simp[e5]),e6.trans (g2.trans f5),e7.trans f6⟩
  |_=>
   have e':frzBoxes (n+1) i H=frzBoxes n (i+1) H:=by rw[frzBoxes,hi]
   rw[e'];exact frzBoxes_sound n (i+1) c H hh hf
def listV:List AV→AV
 |[a]=>a
 |l=> .tup l
theorem listV_rep {c:Ctx}{l:List AV}{vs:List Value}(h:RepL c l vs):Rep c (listV l) (listVal vs):=by
 match l,vs,h with
 |[],[],_=>exact⟨#[],rfl,rfl⟩
 |[],_::_,h=>cases h
 |[a],[v],⟨v1,v2,e,h1,h2⟩=>cases e;exact h1
 |[a],[],⟨v1,v2,e,h1,h2⟩=>cases e
 |[a],_::_::_,⟨v1,v2,e,h1,h2⟩=>cases e;cases h2
 |a::b::l,[],⟨v1,v2,e,h1,h2⟩=>cases e
 |a::b::l,[_],⟨v1,v2,e,h1,⟨_,_,e2,_⟩⟩=>cases e;cases e2
 |a::b::l,v::v'::vs,h=>exact⟨(v::v'::vs).toArray,rfl,by simpa using h⟩
def FinRes (P:Program)(fn:Func)(n0:Nat)(st:St)(v:AV)(H':Heap):Prop:=
 ∀a c,Sim a c st→ ∃v' c',(results fn a.tmps).run P c.w= .ok v' c.w∧c'.w=c.w∧Rep c' v v'∧HRel c' H'.at∧Fresh c' H'.length∧Step c st.h.at c' H'.at∧ ∀r,r<n0→ ∀l,c.js r=some l→c'.js r=some l
theorem gc_fin {fn:Func}{n0:Nat}{st:St}{v:AV}{H:Heap}{F:List Nat}{s:List AV}(hc:ClosedL H F)(hs: ∀q∈refsL [v],q∈F)(hn:F.take n0=List.range n0){u:AV}(hsu:renL F.idxOf [v]=s)(hu:s=[u])
  (h:FinRes P fn n0 st v H):FinRes P fn n0 st u (local_ H F):=fun a c hsim=>by
 obtain⟨v',c',h1,h2,h3,h4,h5,h6,h7⟩:=h a c hsim
 obtain⟨g1,g2,g3,g4⟩:=gc_step hc h4
 have:u=ren F.idxOf v:=by rw[hu] at hsu;simp[renL] at hsu;exact hsu.symm
 subst this
 exact⟨v',ctxL c' F,h1,h2,rep_ren g3 v (fun q hq=>hs q (by simpa [refsL] using hq)) h3,g1,g2,h6.trans g4,fun r hr l hl=>gc_stay hn r hr l (h7 r hr l hl)⟩
theorem settleA_sound {α:Type}{H:Heap}{a:AV}{k:Heap→Option α}{r:α}(h:settleA H a k=some r):
  ∃H1,k H1=some r∧H1.length=H.length∧ ∀c,HRel c H.at→HRel c H1.at∧ ∀b,Own c H1.at b↔Own c H.at b:=by
 have same:k H=some r→ ∃H1,k H1=some r∧H1.length=H.length∧ ∀c,HRel c H.at→HRel c H1.at∧ ∀b,Own c H1.at b↔Own c H.at b:=fun h=>⟨H,h,rfl,fun _ hh=>⟨hh,fun _=>Iff.rfl⟩⟩
 unfold settleA at h
 split at h
 ·rename_i q i n
  split at h
  ·rename_i s l m hat
   obtain⟨hb,h⟩:=cond_none h
   have hb:=of_decide_eq_true hb
   have hlt:q<H.length:=lt_of_at hat (by simp)
   refine⟨_,h,by simp,fun c hh=>⟨obj_swap hat hlt rfl (fun⟨j,h1,h2⟩=> ?_) hh,fun b=>own_swap hlt (by rw[hat];rfl) b⟩⟩
   have hj:j=[]:=List.length_eq_zero_iff.1 (by rw[List.length_append] at h1;omega)
   subst hj
   rw[List.append_nil] at h2
   exact h2
  ·exact same h
 ·exact same h
theorem finishA_sound {α:Type}{fn:Func}{own:Bool}{n0:Nat}{st:St}{k:Kont α}{r:α}(h:finishA P fn own n0 st k=some r): ∃v H',k v H'=some r∧FinRes P fn n0 st v H':=by
 unfold finishA at h
 obtain⟨vs,h1,h2,h3⟩:=resultA_sound _ _ _ h
 have e: ∀l:List AV,(match l with|[a]=>a|l=> .tup l:AV)=listV l:=fun l=>by
  match l with
  |[]=>rfl
  |[_]=>rfl
  |_::_::_=>rfl
 have base:FinRes P fn n0 st (listV (typedL P fn.resultTypes.toList vs)) st.h:=fun a c hs=>by
  obtain⟨vals,g1,g2⟩:=h3 a c hs
  exact⟨_,c,run_results g1,rfl,listV_rep (typedL_rep g2),hs.heap,hs.fresh, .refl _ _,fun _ _ _ h=>h⟩
 have h1:(if own then gcA n0 [listV (typedL P fn.resultTypes.toList vs)] st.h fun s H=>match s with|[v]=>k v H|_=>none
   else settleA st.h (listV (typedL P fn.resultTypes.toList vs)) fun h=>gcA n0 [(freezeV h (listV (typedL P fn.resultTypes.toList vs))).1] (frzBoxes n0 0 (freezeV h (listV (typedL P fn.resultTypes.toList vs))).2) fun s H=>match s with|[v]=>k v H|_=>none)=some r:=by
  rw[← e];exact h1
 generalize listV (typedL P fn.resultTypes.toList vs)=v at h1 base
 cases own with
 |true=>
  simp only[if_true] at h1
  obtain⟨F,g1,g2,g3,g4⟩:=gcA_ok h1
  exact⟨_,_,g4,gc_fin g1 g2 g3 rfl rfl base⟩
 |false=>
  simp only[Bool.false_eq_true,if_false] at h1
  obtain⟨H1,h1,hlen,hset⟩:=settleA_sound h1
  obtain⟨F,g1,g2,g3,g4⟩:=gcA_ok h1
  refine⟨_,_,g4,gc_fin g1 g2 g3 rfl rfl fun a c hs=> ?_⟩
  obtain⟨v',c',h1,h2,h3,h4,h5,h6,h7⟩:=base a c hs
  obtain⟨h4,how⟩:=hset c' h4
  rw[← hlen] at h5
  have h6:Step c st.h.at c' H1.at:=h6.swap (fun _=>Iff.rfl) how
  obtain⟨c1,e1,e2,e3,e4,e5,e6,e7⟩:=freezeV_sound h3 h4 h5
  obtain⟨c2,f1,f2,f3,f4,f5,f6⟩:=frzBoxes_sound n0 0 c1 _ e4 (by rw[e5];intro r hr;rw[e2];exact h5 r hr)
  exact⟨v',c2,h1,(f1.trans e1).trans h2,Rep.mono (Later.of_step e4 f5 f6) _ e3,f3,by rw[f4,e5];intro r hr;rw[f2,e2];exact h5 r hr,h6.trans (e6.trans f5),fun r hr l hl=>f6 _ _ (e7 _ _ (h7 r hr l hl))⟩
theorem skips_rep {c:Ctx}: ∀n,RepL c (List.replicate n skipV) (List.replicate n undef)
 |0=>rfl
 |n+1=> .cons rfl (skips_rep n)
theorem sim_start {c:Ctx}{args:List AV}{vs:List Value}{H:Heap}{n:Nat}(hv:RepL c args vs)(hh:HRel c H.at)(hf:Fresh c H.length):
  Sim {tmps:=vs.toArray++Array.replicate (n-vs.toArray.size) undef,defers:=[]} c ⟨args++List.replicate (n-args.length) skipV,H⟩:=by
 have hl:=hv.length
 have hrep:RepL c (args++List.replicate (n-args.length) skipV) (vs++List.replicate (n-args.length) undef):=hv.append (skips_rep _)
 refine⟨⟨by simp[hl],fun t v ht=> ?_⟩,hh,hf⟩
 obtain⟨v',h1,h2⟩:=hrep.get t ht
 have:(vs.toArray++Array.replicate (n-vs.toArray.size) undef)[t]? =some v':=by
  rw[← h1,← Array.getElem?_toList];simp[hl]
 show Rep c v ((vs.toArray++Array.replicate (n-vs.toArray.size) undef).getD t undef)
 rw[Array.getD_eq_getD_getElem?,this];exact h2
theorem good_of {E:Env}(hE:E.OK P)(hmix:P.follows .mixedOrders=true){f:FuncId}{fn:Func}{code:Code}(hf:P.funcs[f]? =some fn)(hb:fn.body=some code)(hname:(fn.name== "runtime.NumGoroutine")=false)
  (own:Bool) {sp:Spec}
  (hs: ∀(α:Type) (args:List AV) (H:Heap) (k:Kont α) (r:α),sp α args H k=some r→
   ∃(h:Hints) (fuel:Nat),h.OK P code∧h.n0=H.length∧evFun P E h own fn code fuel args H k=some r):Good P f sp:=fun α args H k r hr=>by
 obtain⟨h,fuel,h1,h2,h3⟩:=hs α args H k r hr
 unfold evFun at h3
 obtain⟨e,st',h4,h5⟩:=ev_sound hE hmix h1 fuel [] code _ _ r rfl h3
 have fin: ∀e,(e= .normal∨e= .ret)→finishA P fn own H.length st' k=some r→CodeRes P h.n0 code e ⟨args++List.replicate (fn.ntmps-args.length) skipV,H⟩ st'→ ∃v H',k v H'=some r∧CallRes P f args H v H':=by
  intro e he hfin hcode
  obtain⟨v,H',g1,g2⟩:=finishA_sound hfin
  refine⟨v,H',g1,fun c vs hv hh hfr o a next Q hk=> ?_⟩
  have hcall:(callFunc f vs.toArray).run P c.w= .ok (.enter f vs.toArray) c.w:=by
   have h1:fn.name≠ "runtime.NumGoroutine" :=by simpa using hname
   simp[callFunc,hf,h1,hb]
  rw[hcall,Oper.upon_enter]
  refine calls_of_wp hf hb (hcode.wp (sim_start hv hh hfr) fun a' c' hm=> ?_)
  obtain⟨v',c2,e1,e2,e3,e4,e5,e6,e7⟩:=g2 a' c' hm.sim
  have hnext:next (a.put o.dst v') c'.w:=by
   have:=hk v' c2 e3 e4 e5 (hm.step.trans e6) fun q l hl=>by
    have hq:q<H.length:=by
     rcases Nat.lt_or_ge q H.length with h|h
     ·exact h
     ·rw[hfr q h] at hl;cases hl
    exact e7 q hq l (hm.stay q (by rw[h2];exact hq) l hl)
   rwa[e2] at this
  rcases he with rfl|rfl
  ·exact⟨hm.defers,v',e1,hnext⟩
  ·exact⟨hm.defers,v',e1,hnext⟩
 cases e with
 |normal=>exact fin _ (.inl rfl) h4 h5
 |ret=>exact fin _ (.inr rfl) h4 h5
 |exit i=>cases h4
 |goto i=>cases h4
 |panic ch=>cases h4
 |outgrown=>cases h4
theorem good_extern {f:FuncId}{fn:Func}{e:Array Value→Sem Value}(hf:P.funcs[f]? =some fn)(hname:(fn.name== "runtime.NumGoroutine")=false)(hb:fn.body.isNone=true)(hn:Extern.findNext fn=none)(he:Extern.find fn=some e)
  {sp:Spec} (hs: ∀(α:Type) (args:List AV) (H:Heap) (k:Kont α) (r:α),sp α args H k=some r→
   ∃v,k v H=some r∧ ∀c vs,RepL c args vs→ ∃v',(e vs.toArray).run P c.w= .ok v' c.w∧Rep c v v'):Good P f sp:=fun α args H k r hr=>by
 obtain⟨v,h1,h2⟩:=hs α args H k r hr
 refine⟨v,H,h1,fun c vs hv hh hfr o a next Q hk=> ?_⟩
 obtain⟨v',h3,h4⟩:=h2 c vs hv
 rw[run_callFunc_extern hf hname hb hn he,h3]
 exact hk v' c h4 hh hfr (.refl _ _) (.refl _)
end Go.TX
