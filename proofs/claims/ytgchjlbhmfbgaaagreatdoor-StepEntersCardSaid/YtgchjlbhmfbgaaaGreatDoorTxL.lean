/- Each operation: the machine does what the evaluator says. -/
import Derived.Test.YtgchjlbhmfbgaaaGreatDoorTxY
namespace Go.TX
set_option linter.unusedSectionVars false
variable [Globals]
variable {P:Program}
theorem mxA_sound {a b d:AV}(h:mxA a b=some d){c:Ctx}{va vb:Value}(ha:Rep c a va)(hb:Rep c b vb)(w:World): ∃v,(Builtin.max2 va vb).run P w= .ok v w∧Rep c d v:=by
 unfold mxA at h
 split at h
 ·simp only[Option.some.injEq] at h;subst h
  rw[show va=_ from ha,show vb=_ from hb]
  exact⟨_,by simp only[Builtin.max2,Sem.run_pure],rfl⟩
 ·simp at h
theorem mnA_sound {a b d:AV}(h:mnA a b=some d){c:Ctx}{va vb:Value}(ha:Rep c a va)(hb:Rep c b vb)(w:World): ∃v,(Builtin.min2 va vb).run P w= .ok v w∧Rep c d v:=by
 unfold mnA at h
 split at h
 ·simp only[Option.some.injEq] at h;subst h
  rw[show va=_ from ha,show vb=_ from hb]
  exact⟨_,by simp only[Builtin.min2,Sem.run_pure],rfl⟩
 ·simp at h
theorem fold_sound {f:AV→AV→Option AV}{g:Value→Value→Sem Value}{c:Ctx}{w:World}
  (hfg: ∀{a b d va vb},f a b=some d→Rep c a va→Rep c b vb→ ∃v,(g va vb).run P w= .ok v w∧Rep c d v):
  ∀(l:List AV) (a d:AV) (vs:List Value) (va:Value),l.foldlM f a=some d→RepL c l vs→Rep c a va→ ∃v,(vs.foldlM g va).run P w= .ok v w∧Rep c d v
 |[],a,d,vs,va,h,hl,ha=>by
  rw[show vs=[] from hl]
  simp only[List.foldlM_nil,Option.pure_def,Option.some.injEq] at h
  subst h
  exact⟨va,by simp,ha⟩
 |x::l,a,d,vs,va,h,⟨v,vs',h1,h2,h3⟩,ha=>by
  subst h1
  simp only[List.foldlM_cons,Option.bind_eq_bind,Option.bind_eq_some_iff] at h
  obtain⟨e,he,h⟩:=h
  obtain⟨ve,g1,g2⟩:=hfg he ha h2
  obtain⟨vd,g3,g4⟩:=fold_sound hfg l e d vs' ve h h3 g2
  exact⟨vd,by simp[List.foldlM_cons,g1,g3],g4⟩
theorem builtinA_sound {α:Type}{b:Builtin}{ts:Array TypeId}{args:List AV}{H:Heap}{k:Kont α}{r:α}(h:builtinA P b ts.toList args H k=some r):
  ∃v H',k v H'=some r∧((b= .len∨b= .cap∨b= .max∨b= .min)→H'=H)∧ ∀c (vs:Array Value) ty consts,RepL c args vs.toList→HRel c H.at→Fresh c H.length→
   ∃m:Sem Value,builtin b ts ty consts vs=(do pure (.value (← m)))∧SemRes P m c H v H':=by
 unfold builtinA at h
 split at h
 case h_8=>simp at h
 ·rename_i t ts' a hts
  have hts:ts=(t::ts').toArray:=by rw[← hts]
  subst hts
  have one: ∀{c:Ctx} {vs:Array Value},RepL c [a] vs.toList→ ∃x,vs= #[x]∧Rep c a x:=by
   rintro c vs ⟨x,vs',h1,h2,h3⟩
   rw[show vs'=[] from h3] at h1
   exact⟨x,by apply Array.ext';rw[h1],h2⟩
  split at h
  case h_6=>simp at h
  ·rename_i s l x hu
   refine⟨_,_,h,fun _=>rfl,fun c vs ty consts hv hh hf=>⟨_,rfl, ?_⟩⟩
   obtain⟨y,rfl,hy⟩:=one hv
   obtain⟨ad,cap,rfl,_⟩:=hy
   exact .same (by simp[Builtin.len_,run_underlying_ok hu,goInt]) rfl hh hf
  ·rename_i r0 i n hu
   refine⟨_,_,h,fun _=>rfl,fun c vs ty consts hv hh hf=>⟨_,rfl, ?_⟩⟩
   obtain⟨y,rfl,hy⟩:=one hv
   rcases hy with ⟨rfl,ad,rfl⟩|⟨b,o,w,m,z,cap,_,rfl,_⟩
   ·exact .same (by simp[Builtin.len_,run_underlying_ok hu,goInt]) rfl hh hf
   ·exact .same (by simp[Builtin.len_,run_underlying_ok hu,goInt]) rfl hh hf
  ·rename_i x hu
   refine⟨_,_,h,fun _=>rfl,fun c vs ty consts hv hh hf=>⟨_,rfl, ?_⟩⟩
   obtain⟨y,rfl,hy⟩:=one hv
   rw[show y=_ from hy]
   exact .same (by simp[Builtin.len_,run_underlying_ok hu,goInt]) rfl hh hf
  ·rename_i n e hu
   refine⟨_,_,h,fun _=>rfl,fun c vs ty consts hv hh hf=>⟨_,rfl, ?_⟩⟩
   obtain⟨y,rfl,hy⟩:=one hv
   exact .same (by simp[Builtin.len_,run_underlying_ok hu,goInt]) rfl hh hf
  ·rename_i kt et r0 hu
   split at h
   case h_2=>simp at h
   rename_i ks vs0 l hat
   refine⟨_,_,h,fun _=>rfl,fun c vs ty consts hv hh hf=>⟨_,rfl, ?_⟩⟩
   obtain⟨y,rfl,hy⟩:=one hv
   obtain⟨b,o,w,n,z,h1,rfl⟩:=hy
   have ho:=hh.obj r0
   rw[hat] at ho
   obtain⟨b',es,clk,h2,h3,h4,_⟩:=ho
   rw[h1] at h2;simp only[Option.some.injEq,Loc.real.injEq] at h2
   obtain⟨rfl,_⟩:=h2
   exact .same (by simp[Builtin.len_,run_underlying_ok hu,goInt,getObj,Sem.run,h3,h4]) rfl hh hf
 ·rename_i t t2 a x hts
  have hts:ts= #[t,t2]:=by apply Array.ext';rw[hts]
  subst hts
  have hd:(∃ d,P.underlying t2=some d∧(∀ k,d≠ .int k)∧appendA P t a x H k=some r)∨(∃ kk,P.underlying t2=some (.int kk)∧appendZ P t a x H k=some r):=by
   cases hd:P.underlying t2 with
   |none=>simp[hd] at h
   |some d=>
    cases d with
    |int kk=>exact .inr ⟨kk,rfl,by simpa [hd] using h⟩
    |_=>exact .inl ⟨_,rfl,by simp,by simpa [hd] using h⟩
  have hboth: ∃v H',k v H'=some r∧ ∀c va vx ty,Rep c a va→Rep c x vx→HRel c H.at→Fresh c H.length→SemRes P (Builtin.append_ #[t,t2] ty #[va,vx]) c H v H':=by
   rcases hd with ⟨d,hd,hd',h⟩|⟨kk,hd,h⟩
   ·exact appendA_sound h hd hd'
   ·exact appendZ_sound h hd
  obtain⟨v,H',h1,h2⟩:=hboth
  refine⟨v,H',h1,by simp,fun c vs ty consts hv hh hf=>⟨_,rfl, ?_⟩⟩
  obtain⟨y1,vs1,e1,e2,y2,vs2,e3,e4,e5⟩:=hv
  rw[show vs2=[] from e5] at e3
  subst e3
  have:vs= #[y1,y2]:=by apply Array.ext';rw[e1]
  subst this
  exact h2 c y1 y2 ty e2 e4 hh hf
 ·rename_i t ts' a hts
  have hts:ts=(t::ts').toArray:=by rw[← hts]
  subst hts
  split at h
  case h_2=>simp at h
  rename_i e s l x hu
  obtain⟨hx,h⟩:=cond_none h
  refine⟨_,_,h,fun _=>rfl,fun c vs ty consts hv hh hf=>⟨_,rfl, ?_⟩⟩
  obtain⟨y,vs',h1,⟨ad,cap,rfl,_,g3,_⟩,h3⟩:=hv
  rw[show vs'=[] from h3] at h1
  have:vs= #[.slice ad l.length cap]:=by apply Array.ext';rw[h1]
  subst this
  rw[g3 hx]
  exact .same (by simp[Builtin.cap_,run_underlying_ok hu,goInt]) rfl hh hf
 ·rename_i t ts' a x hts
  have hts:ts=(t::ts').toArray:=by rw[← hts]
  subst hts
  obtain⟨v,H',h1,h2⟩:=copyA_sound h
  refine⟨v,H',h1,by simp,fun c vs ty consts hv hh hf=>⟨_,rfl, ?_⟩⟩
  obtain⟨y1,vs1,e1,e2,y2,vs2,e3,e4,e5⟩:=hv
  rw[show vs2=[] from e5] at e3
  subst e3
  have:vs= #[y1,y2]:=by apply Array.ext';rw[e1]
  subst this
  exact h2 c y1 y2 ty ts' e2 e4 hh hf
 ·rename_i t ts' m key hts
  have hts:ts=(t::ts').toArray:=by rw[← hts]
  subst hts
  obtain⟨H',h1,h2⟩:=mapDelA_sound (ts':=ts') h
  refine⟨_,H',h1,by simp,fun c vs ty consts hv hh hf=>⟨_,rfl, ?_⟩⟩
  obtain⟨y1,vs1,e1,e2,y2,vs2,e3,e4,e5⟩:=hv
  rw[show vs2=[] from e5] at e3
  subst e3
  have:vs= #[y1,y2]:=by apply Array.ext';rw[e1]
  subst this
  exact h2 c y1 y2 ty e2 e4 hh hf
 ·rename_i a l
  split at h
  case h_2=>simp at h
  rename_i d hd
  refine⟨_,_,h,fun _=>rfl,fun c vs ty consts hv hh hf=>⟨_,rfl, ?_⟩⟩
  obtain⟨v0,vs',e1,e2,e3⟩:=hv
  obtain⟨v,g1,g2⟩:=fold_sound (P:=P) (w:=c.w) (fun h1 h2 h3=>mxA_sound h1 h2 h3 c.w) l a d vs' v0 hd e3 e2
  exact .same (by simp only[Builtin.max_,e1];exact g1) g2 hh hf
 ·rename_i a l
  split at h
  case h_2=>simp at h
  rename_i d hd
  refine⟨_,_,h,fun _=>rfl,fun c vs ty consts hv hh hf=>⟨_,rfl, ?_⟩⟩
  obtain⟨v0,vs',e1,e2,e3⟩:=hv
  obtain⟨v,g1,g2⟩:=fold_sound (P:=P) (w:=c.w) (fun h1 h2 h3=>mnA_sound h1 h2 h3 c.w) l a d vs' v0 hd e3 e2
  exact .same (by simp only[Builtin.min_,e1];exact g1) g2 hh hf
theorem repL_operands {c:Ctx}{ρ:Operand→AV}{e:Operand→Value}: ∀(l:List Operand),(∀ x∈l,Rep c (ρ x) (e x))→RepL c (l.map ρ) (l.map e)
 |[],_=>rfl
 |x::l,h=> .cons (h x (by simp)) (repL_operands l fun y hy=>h y (by simp[hy]))
theorem callA_sound {α:Type}{E:Env}(hE:E.OK P){ρ:Operand→AV}{cl:Call}{H:Heap}{k:Kont α}{r:α}(h:callA P E ρ cl H k=some r):
  ∃v H',k v H'=some r∧(Op.mut (.call cl)=false→H'=H)∧ ∀(o:Oper) (a:Act) (c:Ctx),o.op= .call cl→(∀ x∈cl.operands,Rep c (ρ x) (a.eval x))→HRel c H.at→Fresh c H.length→
   ∀(next:Act→World→Prop) (Q:Exit→Act→World→Prop),Goes c H o a v H' next→o.wp P a c.w next Q:=by
 unfold callA at h
 dsimp only at h
 split at h
 case h_3=>simp at h
 ·rename_i b hb
  obtain⟨v,H',h1,h2,h3⟩:=builtinA_sound h
  refine⟨v,H',h1,fun hm=>h2 ?_,fun o a c ho hop hh hf next Q hk=> ?_⟩
  ·simp only[Op.mut,hb] at hm
   revert hm;cases b<;>simp
  ·have hargs:RepL c (cl.args.toList.map ρ) (cl.args.map a.eval).toList:=by
    rw[Array.toList_map]
    exact repL_operands _ fun x hx=>hop x (by simp[Call.operands];exact .inr (by simpa using hx))
   have key: ∀consts,o.upon P a next Q ((builtin b cl.argTypes o.type consts (cl.args.map a.eval)).run P c.w):=fun consts=>by
    obtain⟨m,hm,v',c',g1,g2,g3,g4,g5,g6⟩:=h3 c (cl.args.map a.eval) o.type consts hargs hh hf
    simp only[hm,Sem.run_bind,g1,Result.andThen_ok,Sem.run_pure]
    exact hk v' c' g2 g3 g4 g5 g6
   unfold Oper.wp execOp
   simp only[ho,resolve,hb,pure_bind,invoke]
   exact key _
 ·rename_i f hf0
  have hargs: ∀{a:Act} {c:Ctx},(∀ x∈cl.operands,Rep c (ρ x) (a.eval x))→Rep c (ρ f) (a.eval f)∧RepL c (cl.args.toList.map ρ) (cl.args.toList.map a.eval):=fun hop=>
   ⟨hop f (by simp[Call.operands,hf0]),repL_operands _ fun x hx=>hop x (by simp[Call.operands];exact .inr (by simpa using hx))⟩
  split at h
  case h_2=>simp at h
  rename_i g first caps hg
  obtain⟨v,H',h1,h2⟩:=callFn_sound hE h
  refine⟨v,H',h1,fun hm=>by simp[Op.mut,hf0] at hm,fun o a c ho hop hh hf next Q hk=> ?_⟩
  obtain⟨e1,e2⟩:=hargs hop
  rw[hg] at e1
  obtain⟨x,y,e3,e4,e5⟩:=e1
  have:=h2 c _ (e4.append ((typedL_rep e2).append e5)) hh hf o a next Q hk
  unfold Oper.wp execOp
  simp only[ho,resolve,hf0,e3,Deferred.ofValue,pure_bind,invoke]
  have he:(x.toList++(List.map a.eval cl.args.toList++y.toList)).toArray=x++cl.args.map a.eval++y:=by
   apply Array.ext';simp
  rw[he] at this
  exact this
theorem opA_sound {α:Type}{E:Env}(hE:E.OK P){ρ:Operand→AV}{o:Oper}{H:Heap}{k:Kont α}{r:α}(h:opA P E ρ o H k=some r):
  ∃v H',k v H'=some r∧OpRes P o ρ H v H'∧(Op.mut o.op=false→ ∃new,H'=H++new):=by
 have noNew: ∀H:Heap,∃ new:Heap,H=H++new:=fun H=>⟨[],by simp⟩
 unfold opA at h
 split at h
 case h_29=>simp at h
 ·rename_i x ho
  refine⟨_,_,h,fun a c hop hh hf next Q hk=> ?_,fun _=>noNew _⟩
  exact wp_same (by simp[execOp,ho]) (typed_rep (hop x (by simp[ho,Op.operands]))) hh hf hk
 ·rename_i x ho
  refine⟨_,_,h,fun a c hop hh hf next Q hk=> ?_,fun _=>noNew _⟩
  exact wp_same (by simp[execOp,ho]) (typed_rep (hop x (by simp[ho,Op.operands]))) hh hf hk
 ·rename_i cnd x y ho
  split at h
  case h_2=>simp at h
  rename_i t ht
  have hc: ∀{a:Act} {c:Ctx},(∀ x∈o.op.operands,Rep c (ρ x) (a.eval x))→a.eval cnd= .bool t:=fun hop=>by
   have:=hop cnd (by simp[ho,Op.operands])
   rw[ht] at this;exact this
  rcases cond_some h with ⟨rfl,h⟩|⟨rfl,h⟩
  ·refine⟨_,_,h,fun a c hop hh hf next Q hk=> ?_,fun _=>noNew _⟩
   exact wp_same (by simp[execOp,ho,hc hop,asBool]) (typed_rep (hop x (by simp[ho,Op.operands]))) hh hf hk
  ·refine⟨_,_,h,fun a c hop hh hf next Q hk=> ?_,fun _=>noNew _⟩
   exact wp_same (by simp[execOp,ho,hc hop,asBool]) (typed_rep (hop y (by simp[ho,Op.operands]))) hh hf hk
 ·rename_i t ho
  obtain⟨v,new,h1,h2⟩:=allocA_sound h
  refine⟨v,H++new,h1,fun a c hop hh hf next Q hk=> ?_,fun _=>⟨new,rfl⟩⟩
  exact wp_of_sem (by simp only[execOp,ho]) (h2 c hh hf) hk
 ·rename_i t x ho
  split at h
  case h_2=>simp at h
  rename_i cs hcs
  refine⟨_,_,h,fun a c hop hh hf next Q hk=> ?_,fun _=>⟨_,rfl⟩⟩
  exact wp_of_sem (m:=Instr.box t (a.eval x)) (by simp only[execOp,ho]) (box_sound hcs hh hf (typed_rep (hop x (by simp[ho,Op.operands])))) hk
 ·rename_i t ps ho
  obtain⟨v,h1,h2⟩:=buildA_sound h
  refine⟨v,H,h1,fun a c hop hh hf next Q hk=> ?_,fun _=>noNew _⟩
  obtain⟨v',g1,g2⟩:=h2 c (ps.toList.map fun p=>(p.1,a.eval p.2)) (by simp) (by
   simp only[List.map_map]
   have:=repL_operands (c:=c) (ρ:=ρ) (e:=a.eval) (ps.toList.map (·.2)) (fun x hx=>hop x (by simpa [ho,Op.operands] using hx))
   simp only[List.map_map] at this
   exact this)
  refine wp_same ?_ g2 hh hf hk
  have he:(ps.map fun(i,x)=>(i,a.eval x))=(ps.toList.map fun p=>(p.1,a.eval p.2)).toArray:=by
   apply Array.ext';simp
  simp only[execOp,ho,he,Sem.run_bind,g1,Result.andThen_ok,Sem.run_pure]
 ·rename_i t n ps ho
  obtain⟨v,h1,h2⟩:=buildSliceA_sound h
  refine⟨v,H,h1,fun a c hop hh hf next Q hk=> ?_,fun _=>noNew _⟩
  have:=h2 c (ps.toList.map fun p=>(p.1,a.eval p.2)) (by simp) (by
   simp only[List.map_map]
   have:=repL_operands (c:=c) (ρ:=ρ) (e:=a.eval) (ps.toList.map (·.2)) (fun x hx=>hop x (by simpa [ho,Op.operands] using hx))
   simp only[List.map_map] at this
   exact this) hh hf
  refine wp_of_sem ?_ this hk
  have he:(ps.map fun(i,x)=>(i,a.eval x))=(ps.toList.map fun p=>(p.1,a.eval p.2)).toArray:=by
   apply Array.ext';simp
  simp only[execOp,ho,he]
 ·rename_i t x ho
  obtain⟨v,h1,h2⟩:=loadA_sound h
  refine⟨v,H,h1,fun a c hop hh hf next Q hk=> ?_,fun _=>noNew _⟩
  obtain⟨v',g1,g2⟩:=h2 c (a.eval x) (hop x (by simp[ho,Op.operands])) hh
  exact wp_same (by simp only[execOp,ho,Sem.run_bind,g1,Result.andThen_ok,Sem.run_pure]) g2 hh hf hk
 ·rename_i t x y ho
  obtain⟨H',h1,h2⟩:=storeA_sound h
  refine⟨_,H',h1,fun a c hop hh hf next Q hk=> ?_,fun hm=>by simp[ho,Op.mut] at hm⟩
  obtain⟨c',g1,g2,g3,g4,g5⟩:=h2 c (a.eval x) (a.eval y) (hop x (by simp[ho,Op.operands])) (hop y (by simp[ho,Op.operands])) hh hf
  unfold Oper.wp
  simp only[execOp,ho,Sem.run_bind,g1,Result.andThen_ok,Sem.run_pure,Oper.upon]
  exact hk undef c' rfl g2 g3 g4 g5
 ·rename_i x ho
  have hx: ∀{a:Act} {c:Ctx},(∀ x∈o.op.operands,Rep c (ρ x) (a.eval x))→Rep c (ρ x) (a.eval x):=fun hop=>hop x (by simp[ho,Op.operands])
  split at h
  case h_4=>simp at h
  ·rename_i r0 i off he
   refine⟨_,_,h,fun a c hop hh hf next Q hk=> ?_,fun _=>noNew _⟩
   have:=hx hop
   rw[he] at this
   obtain⟨b,o',w,n,z,e1,e2,e3⟩:=this
   exact wp_same (v:= .ptr r0 i off) (v':=a.eval x) (by simp only[execOp,ho,e3,Sem.run_pure]) ⟨b,o',w,n,z,e1,e2,e3⟩ hh hf hk
  ·rename_i s l i off he
   refine⟨_,_,h,fun a c hop hh hf next Q hk=> ?_,fun _=>noNew _⟩
   have:=hx hop
   rw[he] at this
   obtain⟨b,o',e1,e2,e3,e4⟩:=this
   exact wp_same (v:= .pel s l i off) (v':=a.eval x) (by simp only[execOp,ho,e4,Sem.run_pure]) ⟨b,o',e1,e2,e3,e4⟩ hh hf hk
  ·rename_i g fa fb he
   refine⟨_,_,h,fun a c hop hh hf next Q hk=> ?_,fun _=>noNew _⟩
   have:=hx hop
   rw[he] at this
   obtain⟨x1,x2,e1,e2⟩:=this
   exact wp_same (v:= .clo (.func g) fa fb) (v':=a.eval x) (by simp only[execOp,ho,e1,Sem.run_pure]) ⟨x1,x2,e1,e2⟩ hh hf hk
 ·rename_i op t x y yt ho
  obtain⟨v,h1,h2⟩:=binA_sound (P:=P) h
  refine⟨_,H,h1,fun a c hop hh hf next Q hk=> ?_,fun _=>noNew _⟩
  have:=h2 c (a.eval x) (a.eval y) (hop x (by simp[ho,Op.operands])) (hop y (by simp[ho,Op.operands])) x y c.w
  simp only[Sem.run_bind] at this
  exact wp_same (v:= .lit v) (v':=v) (by simp only[execOp,ho,Sem.run_bind];rw[this];rfl) (show v=v from rfl) hh hf hk
 ·rename_i op t x ho
  obtain⟨v,h1,h2⟩:=unA_sound (P:=P) h
  refine⟨_,H,h1,fun a c hop hh hf next Q hk=> ?_,fun _=>noNew _⟩
  have:=h2 c (a.eval x) (hop x (by simp[ho,Op.operands])) c.w
  exact wp_same (v:= .lit v) (v':=v) (by simp only[execOp,ho,Sem.run_bind,this,Result.andThen_ok,Sem.run_pure]) (show v=v from rfl) hh hf hk
 ·rename_i t1 t2 x ho
  split at h
  ·rename_i e he
   obtain⟨v,new,h1,h2⟩:=convN_sound he h
   refine⟨v,H++new,h1,fun a c hop hh hf next Q hk=> ?_,fun _=>⟨new,rfl⟩⟩
   exact wp_of_sem (by simp only[execOp,ho]) (h2 c (a.eval x) (hop x (by simp[ho,Op.operands])) hh hf) hk
  obtain⟨v,h1,h2⟩:=convA_sound h
  refine⟨v,H,h1,fun a c hop hh hf next Q hk=> ?_,fun _=>noNew _⟩
  obtain⟨v',g1,g2⟩:=h2 c (a.eval x) (hop x (by simp[ho,Op.operands])) hh
  exact wp_same (by simp only[execOp,ho,Sem.run_bind,g1,Result.andThen_ok,Sem.run_pure]) g2 hh hf hk
 ·rename_i g fa fb ho
  refine⟨_,_,h,fun a c hop hh hf next Q hk=> ?_,fun _=>noNew _⟩
  refine wp_same (v:= .clo g (fa.toList.map ρ) (fb.toList.map ρ)) (v':= .func g (fa.map a.eval) (fb.map a.eval)) (by simp[execOp,ho,Instr.makeFunc]) ⟨_,_,rfl, ?_, ?_⟩ hh hf hk
  ·rw[Array.toList_map];exact repL_operands _ fun x hx=>hop x (by simp[ho,Op.operands];exact .inl (by simpa using hx))
  ·rw[Array.toList_map];exact repL_operands _ fun x hx=>hop x (by simp[ho,Op.operands];exact .inr (by simpa using hx))
 ·rename_i t l cp ho
  obtain⟨v,H',h1,h2,h3⟩:=makeSliceA_sound h
  refine⟨v,H',h1,fun a c hop hh hf next Q hk=> ?_,fun _=>h2⟩
  exact wp_of_sem (by simp only[execOp,ho]) (h3 c (a.eval l) (a.eval cp) (hop l (by simp[ho,Op.operands])) (hop cp (by simp[ho,Op.operands])) hh hf) hk
 ·rename_i t x lo hi mx ho
  obtain⟨v,h1,h2⟩:=sliceA_sound h
  refine⟨v,H,h1,fun a c hop hh hf next Q hk=> ?_,fun _=>noNew _⟩
  have ro: ∀z:Option Operand,(∀ y,z=some y→y∈o.op.operands)→RepO c (z.map ρ) (z.map a.eval):=fun z hz=>by
   cases z with
   |none=>trivial
   |some y=>exact hop y (hz y rfl)
  exact wp_of_sem (by simp only[execOp,ho]) (h2 c (a.eval x) _ _ _ (hop x (by simp[ho,Op.operands])) (ro lo fun y hy=>by simp[ho,Op.operands,hy]) (ro hi fun y hy=>by simp[ho,Op.operands,hy]) (ro mx fun y hy=>by simp[ho,Op.operands,hy]) hh hf) hk
 ·rename_i t x f ho
  obtain⟨v,h1,h2⟩:=fieldAddrA_sound h
  refine⟨v,H,h1,fun a c hop hh hf next Q hk=> ?_,fun _=>noNew _⟩
  obtain⟨v',g1,g2⟩:=h2 c (a.eval x) (hop x (by simp[ho,Op.operands]))
  exact wp_same (by simp only[execOp,ho,Sem.run_bind,g1,Result.andThen_ok,Sem.run_pure]) g2 hh hf hk
 ·rename_i t x f ho
  obtain⟨v,h1,h2⟩:=fieldA_sound h
  refine⟨v,H,h1,fun a c hop hh hf next Q hk=> ?_,fun _=>noNew _⟩
  obtain⟨v',g1,g2⟩:=h2 c (a.eval x) (hop x (by simp[ho,Op.operands]))
  exact wp_same (by simp only[execOp,ho,Sem.run_bind,g1,Result.andThen_ok,Sem.run_pure]) g2 hh hf hk
 ·rename_i t x i ho
  obtain⟨v,h1,h2⟩:=indexAddrA_sound h
  refine⟨v,H,h1,fun a c hop hh hf next Q hk=> ?_,fun _=>noNew _⟩
  obtain⟨v',g1,g2⟩:=h2 c (a.eval x) (a.eval i) (hop x (by simp[ho,Op.operands])) (hop i (by simp[ho,Op.operands])) hh
  exact wp_same (by simp only[execOp,ho,Sem.run_bind,g1,Result.andThen_ok,Sem.run_pure]) g2 hh hf hk
 ·rename_i t x i ho
  unfold indexA at h
  split at h
  case h_2=>simp at h
  rename_i xs kk n he hi
  split at h
  case h_2=>simp at h
  rename_i hu
  obtain⟨hb,h⟩:=cond_none h
  obtain⟨b1,b2⟩:=of_decide_eq_true hb
  refine⟨_,_,h,fun a c hop hh hf next Q hk=> ?_,fun _=>noNew _⟩
  have hx:=hop x (by simp[ho,Op.operands])
  have hy:=hop i (by simp[ho,Op.operands])
  rw[he] at hx;rw[hi] at hy
  have hlt:n.toNat<xs.size:=by omega
  have hg:xs[n.toNat]? =some (xs.data.toList.getD n.toNat 0):=by
   have e1:xs[n.toNat]? =some xs[n.toNat]:=getElem?_pos xs n.toNat hlt
   rw[e1,List.getD_eq_getElem?_getD]
   have hlt':n.toNat<xs.data.toList.length:=hlt
   rw[List.getElem?_eq_getElem hlt']
   rfl
  exact wp_same (v:= .lit (.int .u8 ((xs.data.toList.getD n.toNat 0).toNat:Nat))) (by
   simp only[execOp,ho,show a.eval x=_ from hx,show a.eval i=_ from hy,Instr.index,asIntOf,Sem.run_bind,Sem.run_pure,Result.andThen_ok,run_underlying_ok hu,b1,if_true,hg]) (show _=_ from rfl) hh hf hk
 ·rename_i x i ho
  split at h
  case h_2=>simp at h
  rename_i l he
  split at h
  case h_2=>simp at h
  rename_i v hv
  refine⟨v,H,h,fun a c hop hh hf next Q hk=> ?_,fun _=>noNew _⟩
  have hx:=hop x (by simp[ho,Op.operands])
  rw[he] at hx
  obtain⟨vs,e1,e2⟩:=hx
  obtain⟨v',e3,e4⟩:=e2.get i hv
  simp only[Array.getElem?_toList] at e3
  exact wp_same (v':=v') (by simp only[execOp,ho,e1,Instr.extract,e3,Sem.run_bind,Sem.run_pure,Result.andThen_ok]) e4 hh hf hk
 ·rename_i cl ho
  obtain⟨v,H',h1,h2,h3⟩:=callA_sound hE h
  refine⟨v,H',h1,fun a c hop hh hf next Q hk=>h3 o a c ho (by rw[ho] at hop;exact hop) hh hf next Q hk,fun hm=> ?_⟩
  rw[ho] at hm
  rw[h2 hm];exact noNew _
 ·rename_i t x ho
  obtain⟨v,new,hx,h1,h2⟩:=makeMapA_sound h
  refine⟨v,H++new,h1,fun a c hop hh hf next Q hk=> ?_,fun _=>⟨new,rfl⟩⟩
  cases x with
  |some x=>cases hx
  |none=>exact wp_of_sem (by simp only[execOp,ho,Option.map_none]) (h2 c hh hf) hk
 ·rename_i t x i ok ho
  obtain⟨v,h1,h2⟩:=lookupA_sound h
  refine⟨v,H,h1,fun a c hop hh hf next Q hk=> ?_,fun _=>noNew _⟩
  obtain⟨v',g1,g2⟩:=h2 c (a.eval x) (a.eval i) (hop x (by simp[ho,Op.operands])) (hop i (by simp[ho,Op.operands])) hh
  exact wp_same (by simp only[execOp,ho,Sem.run_bind,g1,Result.andThen_ok,Sem.run_pure]) g2 hh hf hk
 ·rename_i t m i x ho
  obtain⟨H',h1,h2⟩:=mapPutA_sound h
  refine⟨_,H',h1,fun a c hop hh hf next Q hk=> ?_,fun hm=>by simp[ho,Op.mut] at hm⟩
  obtain⟨c',g1,g2,g3,g4,g5⟩:=h2 c (a.eval m) (a.eval i) (a.eval x) (hop m (by simp[ho,Op.operands])) (hop i (by simp[ho,Op.operands])) (hop x (by simp[ho,Op.operands])) hh hf
  unfold Oper.wp
  simp only[execOp,ho,Sem.run_bind,g1,Result.andThen_ok,Sem.run_pure,Oper.upon]
  exact hk undef c' rfl g2 g3 g4 g5
 ·rename_i t m i x ho
  obtain⟨H',h1,h2⟩:=mapPutA_sound h
  refine⟨_,H',h1,fun a c hop hh hf next Q hk=> ?_,fun hm=>by simp[ho,Op.mut] at hm⟩
  obtain⟨c',g1,g2,g3,g4,g5⟩:=h2 c (a.eval m) (a.eval i) (a.eval x) (hop m (by simp[ho,Op.operands])) (hop i (by simp[ho,Op.operands])) (hop x (by simp[ho,Op.operands])) hh hf
  unfold Oper.wp
  simp only[execOp,ho,Sem.run_bind,g1,Result.andThen_ok,Sem.run_pure,Oper.upon]
  exact hk undef c' rfl g2 g3 g4 g5
 ·rename_i t x ho
  obtain⟨v,new,h1,h2⟩:=rangeA_sound h
  refine⟨v,H++new,h1,fun a c hop hh hf next Q hk=> ?_,fun _=>⟨new,rfl⟩⟩
  exact wp_of_sem (by simp only[execOp,ho]) (h2 c (a.eval x) (hop x (by simp[ho,Op.operands])) hh hf) hk
 ·rename_i x s ho
  obtain⟨v,H',h1,h2⟩:=nextA_sound (P:=P) h
  refine⟨v,H',h1,fun a c hop hh hf next Q hk=> ?_,fun hm=>by simp[ho,Op.mut] at hm⟩
  exact wp_of_sem (by simp only[execOp,ho]) (h2 c (a.eval x) o.type (hop x (by simp[ho,Op.operands])) hh hf) hk
end Go.TX
