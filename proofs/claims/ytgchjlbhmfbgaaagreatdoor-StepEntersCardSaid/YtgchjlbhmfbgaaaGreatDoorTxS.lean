/- From a contract to a given row: arguments as they are read, abstract ones. -/
import Derived.Test.YtgchjlbhmfbgaaaGreatDoorTxR
import Derived.Carry
import Derived.SizedLaws
import Derived.JoinedOf
import Derived.WideShapes
import Derived.DataReads
import Derived.ChangeArms
import Derived.RowKit
namespace Go.TX
set_option linter.unusedSectionVars false
variable [Globals]
open Go.ChangeShapes
variable {P:Program}
def Sh.low:Sh→Nat
 | .int .i64=>8
 | .int _=>1
 | .bool=>1
 | .str=>16
 | .unit=>0
 | .pair a b=>a.low+b.low
 | .sl _=>24
def Sh.Fits (B:Nat):(s:Sh)→s.Den→Prop
 | .int k,n=>k.min≤n∧n≤k.max
 | .bool,_=>True
 | .str,b=>b.size≤B
 | .unit,_=>True
 | .pair a b,d=>a.Fits B d.1∧b.Fits B d.2
 | .sl e,l=>(l.length≤B∧l.length*e.low≤B)∧ ∀x∈l,e.Fits B x
def shL:List Sh→Sh
 |[]=> .unit
 |[s]=>s
 |s::l=> .pair s (shL l)
def laidF (P:Program)(lt:TypeId→Bool)(z:Nat):Nat→List Field→Bool
 |o,[]=>decide (o=z)
 |o,f::fs=>decide (f.offset=o)&&lt f.type&&laidF P lt z (o+P.cellsOf f.type) fs
def laidT (P:Program):Nat→TypeId→Bool
 |0,_=>false
 |n+1,t=>
  match P.underlying t with
  |some (.int _)|some .bool|some .string=>true
  |some (.struct fs)=>laidF P (laidT P n) (P.cellsOf t) 0 fs.toList
  |some (.slice e)=>decide (0<P.cellsOf e)&&decide (0<P.bytesOf e)&&(match shOf P n e with|some s=>decide (s.low≤P.bytesOf e)|none=>false)&&laidT P n e
  |_=>false
structure Meas (P:Program)(H:Type)(B:Nat)(M:TypeId→DataW H→Prop):Prop where
 str: ∀t b,M t (.lit (.string b))→b.length≤B
 sl: ∀t e es sp,P.underlying t=some (.slice e)→M t (.slice es sp)→(0<P.bytesOf e→es.length≤B∧es.length*P.bytesOf e≤B)∧ ∀x∈es,M e x
 ag: ∀t fs parts,P.underlying t=some (.struct fs)→M t (.agg parts)→ ∀(i:Nat) (f:Field) (x:DataW H),fs[i]? =some f→parts[i]? =some x→M f.type x
def inC (w:World):Ctx:=⟨w,(· <w.heap.size),fun _=>none⟩
def shStep (P:Program)(n:Nat)(f:Field)(acc:Option (Option Sh)):Option (Option Sh):=
 match shOf P n f.type,acc with
 |some s,some none=>some (some s)
 |some s,some (some r)=>some (some (.pair s r))
 |_,_=>none
theorem shOf_struct {n:Nat}: ∀{fs:List Field} {s:Option Sh},fs.foldr (shStep P n) (some none)=some s→
  ∃ss,fs.mapM (fun f=>shOf P n f.type)=some ss∧s.getD .unit=shL ss∧(s=none↔ss=[]):=by
 intro fs
 induction fs with
 |nil=>intro s h;simp at h;subst h;exact⟨[],rfl,rfl,by simp⟩
 |cons f fs ih=>
  intro s h
  rw[List.foldr_cons] at h
  generalize fs.foldr (shStep P n) (some none)=g at h ih
  unfold shStep at h
  cases hf:shOf P n f.type with
  |none=>rw[hf] at h;cases h
  |some sf=>
   rw[hf] at h
   cases g with
   |none=>cases h
   |some r=>
    obtain⟨ss,h1,h2,h3⟩:=ih rfl
    cases r with
    |none=>
     cases h
     have:=h3.1 rfl
     subst this
     exact⟨[sf],by simp[hf,h1],rfl,by simp⟩
    |some r=>
     cases h
     refine⟨sf::ss,by simp[hf,h1], ?_,by simp⟩
     cases ss with
     |nil=>exact absurd (h3.2 rfl) (by simp)
     |cons a l=>simp only[Option.getD_some] at h2 ⊢; rw[h2];rfl
theorem shL_mk {c:Ctx}{B:Nat}: ∀(ss:List Sh) (pieces:List (List Value)),pieces.length=ss.length→
  (∀ (i:Nat) (s:Sh) (cs:List Value),ss[i]? =some s→pieces[i]? =some cs→ ∃d:s.Den,RepD c s d cs∧s.Fits B d)→ ∃d:(shL ss).Den,RepD c (shL ss) d pieces.flatten∧(shL ss).Fits B d
 |[],[],_,_=>⟨(),rfl,trivial⟩
 |[s],[p],_,h=>by
  obtain⟨d,h1,h2⟩:=h 0 s p rfl rfl
  exact⟨d,by rw[List.flatten_cons,List.flatten_nil,List.append_nil];exact h1,h2⟩
 |s::s2::ss,p::ps,hl,h=>by
  obtain⟨d1,h1,h2⟩:=h 0 s p rfl rfl
  obtain⟨d2,h3,h4⟩:=shL_mk (s2::ss) ps (by simpa using hl) fun i s cs h1 h2=>h (i+1) s cs (by simpa using h1) (by simpa using h2)
  exact⟨(d1,d2),⟨p,ps.flatten,rfl,h1,h3⟩,h2,h4⟩
theorem laidF_flat {lt:TypeId→Bool}{z:Nat}{cs:List Value}: ∀(fs:List Field) (o:Nat),laidF P lt z o fs=true→cs.length=z→
  (fs.map fun f=>(cs.drop f.offset).take (P.cellsOf f.type)).flatten=cs.drop o
 |[],o,h,hz=>by
  simp only[laidF,decide_eq_true_eq] at h
  subst h
  rw[List.map_nil,List.flatten_nil,List.drop_eq_nil_of_le (by omega)]
 |f::fs,o,h,hz=>by
  simp only[laidF,Bool.and_eq_true,decide_eq_true_eq] at h
  rw[List.map_cons,List.flatten_cons,laidF_flat fs _ h.2 hz,h.1.1,← List.drop_drop]
  exact List.take_append_drop _ _
theorem laidF_mem {lt:TypeId→Bool}{z:Nat}: ∀(fs:List Field) (o:Nat),laidF P lt z o fs=true→ ∀f∈fs,lt f.type=true
 |f::fs,o,h,g,hg=>by
  simp only[laidF,Bool.and_eq_true,decide_eq_true_eq] at h
  rcases List.mem_cons.1 hg with rfl|hg
  ·exact h.1.2
  ·exact laidF_mem fs _ h.2 g hg
theorem list_of {α:Type}{Q:Nat→α→Prop}: ∀n:Nat,(∀ i,i<n→ ∃d,Q i d)→ ∃l:List α,l.length=n∧ ∀(i:Nat) (h:i<l.length),Q i l[i]
 |0,_=>⟨[],rfl,fun i h=>by simp at h⟩
 |n+1,h=>by
  obtain⟨l,h1,h2⟩:=list_of n fun i hi=>h i (by omega)
  obtain⟨d,hd⟩:=h n (by omega)
  refine⟨l++[d],by simp[h1],fun i hi=> ?_⟩
  rw[List.getElem_append]
  split
  ·exact h2 i _
  ·have:i=n:=by simp at hi;omega
   subst this;simpa using hd
theorem cells_bind {H:Type}{w:World}{base:Nat}{a:Addr}{n:Nat}{g:List Value→Option H}{x:H}(h:(w.cells? base a n).bind g=some x):
  ∃vs,vs.length=n∧(∀ j,j<n→w.cell? (a.add j)=vs[j]?)∧g vs=some x:=by
 cases hc:w.cells? base a n with
 |none=>rw[hc] at h;cases h
 |some vs=>
  rw[hc] at h
  unfold World.cells? at hc
  split at hc
  ·refine⟨vs,by simpa using mapM_some_length hc,fun j hj=> ?_,h⟩
   exact mapM_some_get hc j j (by simp[hj])
  ·cases hc
theorem add_off {a:Addr}{b o m:Nat}(ha:a=⟨b,o,none⟩):a.add m=⟨b,o+m,none⟩:=by
 subst ha
 exact addr_add b o m
theorem cell_inv {w:World}{a:Addr}{v:Value}(h:w.cell? a=some v): ∃b o cs ty fr,a=⟨b,o,none⟩∧w.heap[b]? =some (.cells cs ty fr):=by
 have hs:=World.cell?_spot h
 obtain⟨b,o,sp⟩:=a
 simp only at hs
 subst hs
 unfold World.cell? at h
 split at h
 ·rename_i cs ty fr hb
  exact⟨b,o,cs,ty,fr,rfl,hb⟩
 ·cases h
theorem trod_rep {H:Type}{enc:TypeId×Value→H}{w:World}{base:Nat}{spare:Nat→Bool}{held:Bool}{B:Nat}{M:TypeId→DataW H→Prop}(hM:Meas P H B M):
  ∀(n fuel:Nat) (t:TypeId) (s:Sh) (cs:List Value) (d:DataW H) (ps:List MemPlace),shOf P n t=some s→laidT P n t=true→DataW.trod enc P w base spare held fuel t cs=some (d,ps)→M t d→
   ∃den:s.Den,RepD (inC w) s den cs∧s.Fits B den
 |0,_,_,_,_,_,_,h,_,_,_=>by simp[shOf] at h
 |n+1,fuel,t,s,cs,d,ps,hs,hl,h,hm=>by
  have ih:=fun fuel t s cs d ps=>trod_rep (enc:=enc) (w:=w) (base:=base) (spare:=spare) (held:=held) hM n fuel t s cs d ps
  unfold shOf at hs
  unfold laidT at hl
  split at hs
  ·-- int
   rename_i k hu
   cases hs
   obtain⟨m,rfl,_,hw⟩:=DataW.trod_int hu h
   simp only[Lit.wf,Bool.and_eq_true,decide_eq_true_eq] at hw
   exact⟨m,rfl,hw⟩
  ·rename_i hu
   cases hs
   obtain⟨b,rfl,_⟩:=DataW.trod_bool hu h
   exact⟨b,rfl,trivial⟩
  ·rename_i hu
   cases hs
   obtain⟨b,rfl,e,_⟩:=DataW.trod_string hu h
   cases e
   have:=hM.str t _ hm
   exact⟨b,rfl,by show b.size≤B;simpa using this⟩
  ·-- struct
   rename_i fs hu
   rw[hu] at hl
   dsimp only at hl
   simp only[Option.map_eq_some_iff] at hs
   obtain⟨s0,hs,rfl⟩:=hs
   obtain⟨ss,h1,h2,_⟩:=shOf_struct hs
   rw[h2]
   obtain⟨xs,m,rfl,e,hlen,hxl,hx⟩:=DataW.trod_struct hu h
   cases e
   have hflat:=laidF_flat (P:=P) (cs:=cs) fs.toList 0 hl hlen
   rw[List.drop_zero] at hflat
   rw[← hflat]
   refine shL_mk ss _ (by rw[List.length_map,mapM_some_length h1]) fun i s' cs' hi hc=> ?_
   rw[List.getElem?_map] at hc
   cases hf:fs.toList[i]? with
   |none=>rw[hf] at hc;cases hc
   |some f=>
    rw[hf] at hc
    cases hc
    have hf':fs[i]? =some f:=by simpa using hf
    have hget:=hx i f hf'
    cases hxi:xs[i]? with
    |none=>rw[List.getElem?_eq_none_iff,hxl] at hxi;have:=(Array.getElem?_eq_some_iff.1 hf').1;omega
    |some x=>
     rw[hxi] at hget
     have hsh:=mapM_some_get h1 i f hf
     rw[hi] at hsh
     exact ih m f.type s' _ x.1 x.2 hsh (laidF_mem fs.toList 0 hl f (List.mem_of_getElem? hf)) hget (hM.ag t fs _ hu hm i f x.1 hf' (by simp[hxi]))
  ·-- slice
   rename_i e hu
   rw[hu] at hl
   dsimp only at hl
   simp only[Bool.and_eq_true,decide_eq_true_eq] at hl
   obtain⟨⟨⟨hl1,hl2⟩,hlow⟩,hl3⟩:=hl
   simp only[Option.map_eq_some_iff] at hs
   obtain⟨s0,hs,rfl⟩:=hs
   rw[hs] at hlow
   have hlow:=of_decide_eq_true hlow
   rcases DataW.trod_slice hu h with ⟨rfl,_⟩|⟨a,len,cap,elems,rest,m,rfl,rfl,e1,_,hle,hcm,hel,hget,_,_⟩
   ·exact⟨[],⟨_,rfl,none,0,rfl,by simp,by simp, .inl rfl⟩,⟨Nat.zero_le _,by simp⟩,by simp⟩
   ·cases e1
    have hme:=hM.sl t e _ _ hu hm
    have hlenB:=hme.1 hl2
    rw[List.length_map,hel] at hlenB
    have hlenL:len*s0.low≤B:=Nat.le_trans (Nat.mul_le_mul_left _ hlow) hlenB.2
    have each: ∀i,i<len→ ∃d:s0.Den,s0.Fits B d∧ ∃vs,RepD (inC w) s0 d vs∧ ∀j,j<P.cellsOf e→w.cell? ((a.add (i*P.cellsOf e)).add j)=vs[j]? :=fun i hi=>by
     have hg:=hget i hi
     have hei:elems[i]? =some elems[i]:=List.getElem?_eq_getElem (by omega)
     rw[hei] at hg
     obtain⟨vs,g1,g2,g3⟩:=cells_bind hg
     obtain⟨d,f1,f2⟩:=ih m e s0 vs elems[i].1 elems[i].2 hs hl3 g3 (hme.2 _ (List.mem_map.2 ⟨_,List.getElem_mem (by omega),rfl⟩))
     exact⟨d,f2,vs,f1,g2⟩
    obtain⟨l,l1,l2⟩:=list_of len each
    refine⟨l,⟨_,rfl,some a,cap,by rw[l1],by rw[l1];exact hle,by simp, ?_⟩,by rw[l1];exact⟨hlenB.1,hlenL⟩,fun x hx=> ?_⟩
    ·by_cases h0:len=0
     ·exact .inl (List.length_eq_zero_iff.1 (by omega))
     ·right
      have hw:s0.width=P.cellsOf e∧ ∃v,w.cell? a=some v:=by
       obtain⟨_,vs,f1,f2⟩:=l2 0 (by omega)
       obtain⟨d,vs',g1,g2,_⟩: ∃(d:s0.Den) (vs':List Value),vs'.length=P.cellsOf e∧RepD (inC w) s0 d vs'∧True:=by
        have hg:=hget 0 (by omega)
        have hei:elems[0]? =some elems[0]:=List.getElem?_eq_getElem (by omega)
        rw[hei] at hg
        obtain⟨vs,g1,g2,g3⟩:=cells_bind hg
        obtain⟨d,f1,f2⟩:=ih m e s0 vs elems[0].1 elems[0].2 hs hl3 g3 (hme.2 _ (List.mem_map.2 ⟨_,List.getElem_mem (by omega),rfl⟩))
        exact⟨d,vs,g1,f1,trivial⟩
       have hwid:s0.width=P.cellsOf e:=by rw[← g1,RepD.len s0 g2]
       refine⟨hwid, ?_⟩
       have hv:=f2 0 hl1
       have hvl:=RepD.len s0 f1
       rw[List.getElem?_eq_getElem (by omega)] at hv
       simp only[Nat.zero_mul] at hv
       exact⟨_,by simpa [Addr.add] using hv⟩
      obtain⟨hwid,v,hv⟩:=hw
      obtain⟨b,o,cs,ty,fr,ha,hb⟩:=cell_inv hv
      refine⟨b,o,by rw[ha],lt_of_heap hb,cs,ty,fr,hb,fun i hi=> ?_⟩
      obtain⟨_,vs,f1,f2⟩:=l2 i hi
      refine⟨vs,f1,RepD.len s0 f1,fun j hj=> ?_⟩
      have:=f2 j (by omega)
      rw[add_off ha,addr_add,cell_at hb] at this
      rw[hwid];exact this
    ·obtain⟨i,hi,rfl⟩:=List.getElem_of_mem hx
     exact(l2 i hi).1
  ·cases hs
@[reducible] def DenL : List Sh → Type
 |[]=>Unit
 |s::l=>s.Den×DenL l
def FitsL (B:Nat):(l:List Sh)→DenL l→Prop
 |[],_=>True
 |s::l,d=>s.Fits B d.1∧FitsL B l d.2
def argAV (P:Program)(t:TypeId)(s:Sh)(d:s.Den):AV:=
 if isAggT P t then .agg (up s d) else match up s d with|[a]=>a|_=> .any
def argsAV (P:Program):List TypeId→(l:List Sh)→DenL l→List AV
 |t::ts,s::l,d=>argAV P t s d.1::argsAV P ts l d.2
 |_,_,_=>[]
theorem okWide_cells {w:World}{r:Reach}{base:Nat}{t:TypeId}{v:Value}{s:Sh}{n:Nat}(h:Value.okWide P w r base t v)(hs:shOf P (n+1) t=some s):
  if isAggT P t then ∃cs,v= .agg cs else v.cells= #[v]:=by
 unfold shOf at hs
 unfold isAggT
 split at hs
 ·rename_i k hu;obtain⟨n,rfl⟩:=Go.WideShapes.okWide_int hu h;rw[hu];rfl
 ·rename_i hu;obtain⟨n,rfl⟩:=Go.WideShapes.okWide_bool hu h;rw[hu];rfl
 ·rename_i hu;obtain⟨n,rfl⟩:=Go.WideShapes.okWide_string hu h;rw[hu];rfl
 ·rename_i fs hu;obtain⟨n,rfl,_⟩:=Go.WideShapes.okWide_struct hu h;rw[hu];exact⟨_,rfl⟩
 ·rename_i e hu;obtain⟨a,b,c,rfl⟩:=Go.WideShapes.okWide_slice hu h;rw[hu];rfl
 ·cases hs
theorem argAV_rep {c:Ctx}{w:World}{r:Reach}{base:Nat}{t:TypeId}{v:Value}{s:Sh}{n:Nat}(hs:shOf P (n+1) t=some s)(h:Value.okWide P w r base t v){d:s.Den}(hd:RepD c s d v.cells.toList):Rep c (argAV P t s d) v:=by
 have h1:=okWide_cells h hs
 unfold argAV
 split
 ·rename_i ha
  rw[if_pos ha] at h1
  obtain⟨cs,rfl⟩:=h1
  exact⟨cs,rfl,up_rep s hd⟩
 ·rename_i ha
  rw[if_neg ha] at h1
  have h2:=up_rep s hd
  rw[h1] at h2
  generalize up s d=l at h2
  match l,h2 with
  |[a],⟨_,_,e,h3,_⟩=>cases e;exact h3
  |[],_=>exact trivial
  |_::_::_,_=>exact trivial
theorem args_rep {H:Type}{enc:TypeId×Value→H}{w W:World}{r:Reach}{b0 base:Nat}{spare:Nat→Bool}{held:Bool}{B:Nat}{M:TypeId→DataW H→Prop}(hM:Meas P H B M):
  ∀(ts:List TypeId) (shs:List Sh) (vs:List Value) (ds:List (DataW H)) (ps:List MemPlace),ts.mapM (shOf P 9)=some shs→ts.all (laidT P 9)=true→DataW.TrodAll enc P w base spare held ts vs ds ps→
   (∀ (j:Nat) (t:TypeId) (v:Value),ts[j]? =some t→vs[j]? =some v→Value.okWide P W r b0 t v)→(∀ (j:Nat) (t:TypeId) (d:DataW H),ts[j]? =some t→ds[j]? =some d→M t d)→
   ∃d:DenL shs,FitsL B shs d∧RepL (inC w) (argsAV P ts shs d) vs∧ds.length=ts.length
 |[],shs,vs,ds,ps,hs,_,h,_,_=>by
  obtain⟨rfl,rfl,_⟩:=trodAll_nil h
  simp at hs
  subst hs
  exact⟨(),trivial,rfl,rfl⟩
 |t::ts,shs,vs,ds,ps,hs,hl,h,hok,hm=>by
  obtain⟨v,vs1,d,ds1,a,b,rfl,rfl,rfl,⟨fuel,h1⟩,h2⟩:=trodAll_cons h
  simp only[List.mapM_cons,Option.bind_eq_bind,Option.bind_eq_some_iff,Option.pure_def,Option.some.injEq] at hs
  obtain⟨s,hs1,shs1,hs2,rfl⟩:=hs
  simp only[List.all_cons,Bool.and_eq_true] at hl
  obtain⟨d2,e1,e2,e3⟩:=args_rep hM ts shs1 vs1 ds1 b hs2 hl.2 h2 (fun j t v hj hv=>hok (j+1) t v (by simpa using hj) (by simpa using hv)) fun j t v hj hv=>hm (j+1) t v (by simpa using hj) (by simpa using hv)
  obtain⟨d1,g1,g2⟩:=trod_rep hM 9 fuel t s _ d a hs1 hl.1 h1 (hm 0 t d rfl rfl)
  exact⟨(d1,d2),⟨g2,e1⟩, .cons (argAV_rep hs1 (hok 0 t v rfl rfl) g1) e2,by simp[e3]⟩
theorem calls_of_res {f:FuncId}{fn:Func}{code:Code}(hf:P.funcs[f]? =some fn)(hb:fn.body=some code)(hname:(fn.name== "runtime.NumGoroutine")=false){args:List AV}{H H':Heap}{v:AV}(h:CallRes P f args H v H')
  {c:Ctx} {vs:List Value} (hv:RepL c args vs) (hh:HRel c H.at) (hfr:Fresh c H.length):
  Calls P f vs.toArray c.w fun e w'=> ∃v' c',e= .returned v'∧c'.w=w'∧Rep c' v v'∧Step c H.at c' H'.at:=by
 let o:Oper:={dst:=some 0,op:= .move (.tmp 0),type:=0,pos:= "",after:= #[],guard:=none}
 let a:Act:={tmps:= #[undef],defers:=[]}
 have hcall:(callFunc f vs.toArray).run P c.w= .ok (.enter f vs.toArray) c.w:=by
  have h1:fn.name≠ "runtime.NumGoroutine" :=by simpa using hname
  simp[callFunc,hf,h1,hb]
 have:=h c vs hv hh hfr o a (fun a' w'=> ∃c',c'.w=w'∧Rep c' v (a'.tmps.getD 0 undef)∧Step c H.at c' H'.at) (fun _ _ _=>False) fun v' c' g1 g2 g3 g4 g5=>⟨c',rfl,by simpa [o,a,Act.put] using g1,g4⟩
 rw[hcall,Oper.upon_enter] at this
 refine this.mono fun e w' he=> ?_
 cases e with
 |returned v'=>
  obtain⟨c',h1,h2,h3⟩:=he
  exact⟨v',c',rfl,h1,by simpa [o,a,Act.put] using h2,h3⟩
 |panicked ch=>exact he.elim
 |outgrown=>obtain⟨_,_,h⟩:=he;exact h.elim
theorem inC_rel (w:World)(hg:Glob (inC w)):HRel (inC w) (Heap.at [])∧Fresh (inC w) ([]:Heap).length:=by
 refine⟨⟨fun r=> ?_,fun r r' b o w n z o' w' n' z' h=>by simp[inC] at h,fun b h=>h,fun b ⟨r,o,w,n,z,h,_⟩=>by simp[inC] at h,hg⟩,fun _ _=>rfl⟩
 rw[at_ge (Nat.zero_le _)];trivial
theorem inC_below {w:World}{c':Ctx}{H':HF}(h:Step (inC w) (Heap.at []) c' H'):RowKit.Below w.heap.size w c'.w:=
 ⟨h.os,h.tape,h.output,h.size,fun k hk=>h.keep k hk fun⟨r,o,w,n,z,h,_⟩=>by simp[inC] at h⟩
theorem trods_stay {H:Type}{enc:TypeId×Value→H}(hl:laidOutB P=true){W W':World}(hb:RowKit.Below W.heap.size W W'): ∀(ts:List TypeId) (vs:List Value) (ds:List (DataW H)) (ps:List MemPlace),
  ts.all (fun t=>P.readableRec t&&decide (t<P.types.size))=true→DataW.TrodAll enc P W 0 (fun _=>true) true ts vs ds ps→(∀ x∈ps,x.block<W.heap.size)→
   DataW.TrodAll enc P W' 0 (fun b=>decide (b<W.heap.size)) true ts vs ds ps
 |[],vs,ds,ps,_,h,_=>by
  obtain⟨rfl,rfl,rfl⟩:=trodAll_nil h
  rfl
 |t::ts,vs,ds,ps,hr,h,hlt=>by
  obtain⟨v,vs1,d,ds1,a,b,rfl,rfl,rfl,h1,h2⟩:=trodAll_cons h
  simp only[List.all_cons,Bool.and_eq_true,decide_eq_true_eq] at hr
  exact⟨a,b,RowKit.Below.trod hl hr.1.1 hr.1.2 h1 hb fun x hx=>hlt x (by simp[hx]),trods_stay hl hb ts vs1 ds1 b (by simpa using hr.2) h2 fun x hx=>hlt x (by simp[hx]),rfl⟩
theorem weights_elem {H:Type}{e:TypeId}{n:Nat}: ∀(l:List (DataW H)) (x:DataW H),x∈l→n∈x.weights P e→n∈DataW.weightsAll P e l
 |y::l,x,hx,hn=>by
  simp only[DataW.weightsAll,List.mem_append]
  rcases List.mem_cons.1 hx with rfl|hx
  ·exact .inl hn
  ·exact .inr (weights_elem l x hx hn)
theorem meas_weights (P:Program)(H:Type):Meas P H reachBytes fun t d=> ∀n∈d.weights P t,n≤reachBytes where
 str t b h:=h _ (by simp[DataW.weights])
 sl t e es sp hu h:=by
  refine⟨fun hb=> ?_,fun x hx n hn=>h n ?_⟩
  ·have:=h ((es.length+sp.length)*P.bytesOf e) (by simp[DataW.weights,hu])
   have h2:es.length*1≤(es.length+sp.length)*P.bytesOf e:=Nat.mul_le_mul (by omega) hb
   have h3:es.length*P.bytesOf e≤(es.length+sp.length)*P.bytesOf e:=Nat.mul_le_mul (by omega) (Nat.le_refl _)
   exact⟨by omega,by omega⟩
  ·simp only[DataW.weights,hu,List.mem_cons,List.mem_append]
   exact .inr (.inl (weights_elem es x hx hn))
 ag t fs parts hu h i f x hf hx n hn:=h n (by
  simp only[DataW.weights,hu]
  exact DataW.weights_mem_each (j:=i) (by simp[hf]) hx n hn)
theorem meas_said (P:Program)(H:Type)(ts:List TypeId)(ds:List (DataW H))(h:(DataW.weightsEach P ts ds).all (· ≤reachBytes)=true):
  ∃M,Meas P H reachBytes M∧ ∀(j:Nat) (t:TypeId) (d:DataW H),ts[j]? =some t→ds[j]? =some d→M t d:=
 ⟨_,meas_weights P H,fun _ _ _ h1 h2 n hn=>of_decide_eq_true (List.all_eq_true.1 h n (DataW.weights_mem_each h1 h2 n hn))⟩
end Go.TX
