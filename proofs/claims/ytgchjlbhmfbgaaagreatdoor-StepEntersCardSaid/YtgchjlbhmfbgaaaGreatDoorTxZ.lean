/- Contracts of the library that leave old memory as it was, as contracts of the evaluator's. -/
import Derived.Test.YtgchjlbhmfbgaaaGreatDoorTxW
import Derived.Shelf.Strings.OnBuilder
import Derived.OpenShut
import Derived.Lib.ItoaNum
import Derived.Sort.Row
import Derived.Deep.Draws
import Derived.LaidHandle
import Derived.Stop.Joined
namespace Go.TX
set_option linter.unusedSectionVars false
variable [Globals]
open Go.RowKit
variable {P:Program}
theorem move_below {c:Ctx}{H:HF}(hr:HRel c H){w':World}(hb:Below c.w.heap.size c.w w'):
  HRel ⟨w',c.I,c.js⟩ H∧Step c H ⟨w',c.I,c.js⟩ H∧Stay c ⟨w',c.I,c.js⟩:=by
 have hl:Later c ⟨w',c.I,c.js⟩:=⟨fun b h=>⟨h,hb.block b (hr.imm b h)⟩,fun _ _ h=>h⟩
 exact⟨⟨fun r=>(hr.obj r).mono hl fun b o' w' n' z' hj ho=>hb.block b ((hr.obj r).lt hj ho),hr.uniq,fun b h=>Nat.lt_of_lt_of_le (hr.imm b h) hb.size,hr.sep,hr.glob.of hl.imm⟩,
  ⟨hb.os,hb.tape,hb.output,hb.size,fun b h _=>hb.block b h,fun _ h=> .inl h,fun _ h=>h,fun _ h=> .inl h⟩,fun _ _ h=>h⟩
theorem good_below {f:FuncId}{fn:Func}{code:Code}(hf:P.funcs[f]? =some fn)(hb:fn.body=some code)(hname:(fn.name== "runtime.NumGoroutine")=false){sp:Spec}
  (hs: ∀(α:Type) (args:List AV) (H:Heap) (k:Kont α) (r:α),sp α args H k=some r→
   ∃u,k (.lit u) H=some r∧ ∀c vs,RepL c args vs→Calls P f vs.toArray c.w fun e w'=>e= .returned u∧Below c.w.heap.size c.w w'):Good P f sp:=fun α args H k r hr=>by
 obtain⟨u,h1,h2⟩:=hs α args H k r hr
 refine⟨.lit u,H,h1,fun c vs hv hh hfr o a next Q hk=> ?_⟩
 have hcall:(callFunc f vs.toArray).run P c.w= .ok (.enter f vs.toArray) c.w:=by
  have h1:fn.name≠ "runtime.NumGoroutine" :=by simpa using hname
  simp[callFunc,hf,h1,hb]
 rw[hcall,Oper.upon_enter]
 refine(h2 c vs hv).mono fun e w' ⟨he,hw⟩=> ?_
 obtain⟨g1,g2,g3⟩:=move_below hh hw
 subst he
 exact hk u ⟨w',c.I,c.js⟩ rfl g1 (fun q hq=>hfr q hq) g2 g3
def ascii (s:ByteArray):Bool:=s.data.toList.all fun b=>decide (b.toNat<128)
def upperS (s:ByteArray):ByteArray:=⟨(Lib.toUpperA s.data.toList).toArray⟩
def toUpper_sp:Spec:=fun _ args H k=>
 match args with
 |[.lit (.string s)]=>cond (ascii s&&decide (s.size≤140737488355328)) (k (.lit (.string (upperS s))) H) none
 |_=>none
theorem toUpper_good {f:FuncId}{fn:Func}{code:Code}(hf:P.funcs[f]? =some fn)(hb:fn.body=some code)(hname:(fn.name== "runtime.NumGoroutine")=false)
  (h: ∀(s:ByteArray) (w:World),s.size≤140737488355328→(∀ (j:Nat) (b:UInt8),s.data.toList[j]? =some b→b.toNat<128)→
   Calls P f #[.string s] w fun e w'=>e= .returned (.string ⟨(Lib.toUpperA s.data.toList).toArray⟩)∧Below w.heap.size w w'):Good P f toUpper_sp:=
 good_below hf hb hname fun α args H k r hr=>by
  unfold toUpper_sp at hr
  split at hr
  ·rename_i s
   rcases cond_some hr with ⟨h1,hr⟩|⟨_,hr⟩
   ·simp only[Bool.and_eq_true,decide_eq_true_eq,ascii,List.all_eq_true] at h1
    refine⟨_,hr,fun c vs hv=> ?_⟩
    obtain⟨_,_,rfl,rfl,h3⟩:=hv
    have h3:_=[]:=h3
    subst h3
    exact h s c.w h1.2 fun j b hj=>h1.1 b (List.mem_of_getElem? hj)
   ·cases hr
  ·cases hr
def len64_sp:Spec:=fun _ args H k=>
 match args with
 |[.lit (.int .u64 x)]=>cond (decide (0≤x∧x≤18446744073709551615)) (k (.lit (.int .i64 (held (Lib.bitLen x.toNat:Nat)))) H) none
 |_=>none
theorem len64_good {f:FuncId}{fn:Func}{code:Code}(hf:P.funcs[f]? =some fn)(hb:fn.body=some code)(hname:(fn.name== "runtime.NumGoroutine")=false)
  (h: ∀(x:Int) (w:World),0≤x→x≤18446744073709551615→Calls P f #[.int .u64 x] w fun e w'=>e= .returned (.int .i64 (Lib.bitLen x.toNat:Nat))∧w'=w):Good P f len64_sp:=
 good_below hf hb hname fun α args H k r hr=>by
  unfold len64_sp at hr
  split at hr
  ·rename_i x
   obtain⟨h1,hr⟩:=cond_none hr
   have h1:=of_decide_eq_true h1
   refine⟨_,hr,fun c vs hv=> ?_⟩
   obtain⟨_,_,rfl,rfl,h3⟩:=hv
   have h3:_=[]:=h3
   subst h3
   rw[held_is]
   exact(h x c.w h1.1 h1.2).mono fun e w' ⟨he,hw⟩=>⟨he,hw▸Below.refl _ _⟩
  ·cases hr
def byteC (l:List Int):Bool:=l.all fun x=>decide (0≤x∧x<256)
def dec10 (n:Nat)(u:Int):List Int:=(List.range n).map fun t=>((Lib.dg u.toNat (n-1-t)).toNat:Int)
def fmt10_sp:Spec:=fun _ args H k=>
 match args with
 |[.msl r i n, .lit (.int .u64 u)]=>
  match H.at r with
  | .row (.int .u8) l=>cond (byteC l&&decide (0≤u∧u<18446744073709551616∧u.toNat<10^n∧0<n∧i+n≤l.length∧n<4611686018427387904))
    (k (.lit (.tuple #[])) (H.set r (.row (.int .u8) (l.take i++dec10 n u++l.drop (i+n))))) none
  |_=>none
 |_=>none
theorem dec10_length (n:Nat)(u:Int):(dec10 n u).length=n:=by simp[dec10]
theorem fmt10_get (l:List Int)(i n:Nat)(u:Int)(h:i+n≤l.length)(j:Nat):
  (l.take i++dec10 n u++l.drop (i+n))[j]? =if i≤j∧j<i+n then some ((Lib.dg u.toNat (n-1-(j-i))).toNat:Int) else l[j]? :=by
 have h1:(l.take i).length=i:=by simp;omega
 have h2:=dec10_length n u
 by_cases c1:j<i
 ·rw[if_neg (by omega),List.append_assoc,List.getElem?_append_left (by omega),List.getElem?_take,if_pos c1]
 ·by_cases c2:j<i+n
  ·rw[if_pos ⟨by omega,c2⟩,List.append_assoc,List.getElem?_append_right (by omega),List.getElem?_append_left (by omega),h1]
   simp only[dec10,List.getElem?_map,List.getElem?_range (show j-i<n by omega),Option.map_some]
  ·rw[if_neg (by omega),List.getElem?_append_right (by simp[h1,h2];omega),List.getElem?_drop]
   congr 1
   simp[h1,h2];omega
theorem fmt10_good {f:FuncId}{fn:Func}{code:Code}(hf:P.funcs[f]? =some fn)(hb:fn.body=some code)(hname:(fn.name== "runtime.NumGoroutine")=false)
  (h: ∀(blk off cap:Nat) (u:Nat) (d:Array UInt8) (w:World),Sort.Holds (fun(b:UInt8)=>Value.int .u8 (b.toNat:Int)) w blk off d→u<10^d.size→u<18446744073709551616→d.size<4611686018427387904→
   Calls P f #[.slice (some ⟨blk,off,none⟩) d.size cap, .int .u64 u] w fun e w'=>
    e= .returned (.tuple #[])∧ ∃(n v':Nat) (dk:Array UInt8),w'=(Sort.putRow (fun(b:UInt8)=>Value.int .u8 (b.toNat:Int)) w blk off dk).drewN n∧Lib.FmtInv d.size u 0 v' dk):Good P f fmt10_sp:=fun α args H k r hr=>by
 unfold fmt10_sp at hr
 split at hr
 case h_2=>cases hr
 rename_i rr i n u
 split at hr
 case h_2=>cases hr
 rename_i l hat
 obtain⟨hb1,hr⟩:=cond_none hr
 simp only[Bool.and_eq_true,decide_eq_true_eq,byteC,List.all_eq_true] at hb1
 obtain⟨hby,hu0,hu64,hun,hn0,hin,hn62⟩:=hb1
 refine⟨_,_,hr,fun c vs hv hh hfr o a next Q hk=> ?_⟩
 obtain⟨v1,_,rfl,hx,v2,_,rfl,rfl,h3⟩:=hv
 have h3:_=[]:=h3
 subst h3
 have hcall:(callFunc f [v1, .int .u64 u].toArray).run P c.w= .ok (.enter f [v1, .int .u64 u].toArray) c.w:=by
  have h1:fn.name≠ "runtime.NumGoroutine" :=by simpa using hname
  simp[callFunc,hf,h1,hb]
 rw[hcall,Oper.upon_enter]
 rcases hx with ⟨h0,_⟩|⟨b,o',w,m,z,cap,hj,rfl,hcap,him,hz⟩
 ·omega
 have ho:=hh.obj rr
 rw[hat] at ho
 rcases ho with ⟨_,h6⟩|⟨b',oo,cs,ty,fr,h6,h7,h8,h9⟩
 ·rw[hj] at h6;cases h6
 rw[hj] at h6
 simp only[Option.some.injEq,Loc.real.injEq] at h6
 obtain⟨rfl,rfl,rfl,rfl,rfl⟩:=h6
 have cell: ∀j (hjl:j<l.length),cs[o'+j]? =some (.int .u8 l[j]):=fun j hjl=>by
  obtain⟨vs,e1,e2,e3⟩:=h9 j hjl
  have e1:vs=[.int .u8 l[j]]:=e1
  subst e1
  have:=e3 0 (by simp[Sh.width])
  simpa [Sh.width] using this
 have hrow:(Sh.int IntKind.u8).width=1:=rfl
 let d:Array UInt8:=(((l.drop i).take n).map fun x=>UInt8.ofNat x.toNat).toArray
 have hds:d.size=n:=by simp[d];omega
 have hdv: ∀j (hj:j<n),d[j]! =UInt8.ofNat (l[i+j]'(by omega)).toNat:=fun j hj=>by
  rw[getElem!_pos d j (by omega)]
  simp[d,List.getElem_take,List.getElem_drop]
 have hH:Sort.Holds (fun(b:UInt8)=>Value.int .u8 (b.toNat:Int)) c.w b (o'+i*1) d:=fun j hj=>by
  rw[hds] at hj
  have hc:=cell (i+j) (by omega)
  refine⟨?_, ?_⟩
  ·rw[cell_at h7,hdv j hj,show o'+i*1+j=o'+(i+j) by omega,hc]
   have hb:=hby l[i+j] (List.getElem_mem _)
   have:(UInt8.ofNat (l[i+j]).toNat).toNat=(l[i+j]).toNat:=by simp;omega
   show _=some (Value.int .u8 ((UInt8.ofNat (l[i+j]).toNat).toNat:Int))
   rw[this];congr 2;omega
  ·rw[frozen_at h7]
   have hlt:o'+i*1+j<cs.size:=by
    rcases Nat.lt_or_ge (o'+i*1+j) cs.size with h|h
    ·exact h
    ·rw[show o'+(i+j)=o'+i*1+j by omega,Array.getElem?_eq_none h] at hc;cases hc
   have:=h8 _ hlt
   have h9:decide (fr.1≤o'+i*1+j)=false∨decide (o'+i*1+j<fr.2)=false:=by
    by_cases q:fr.1≤o'+i*1+j
    ·exact .inr (decide_eq_false fun q2=>this ⟨q,q2⟩)
    ·exact .inl (decide_eq_false q)
   rcases h9 with h9|h9<;>rw[h9]<;>simp
 have:=h b (o'+i*1) cap u.toNat d c.w hH (by rw[hds];exact hun) (by omega) (by rw[hds];exact hn62)
 rw[hds,show(u.toNat:Int)=u by omega] at this
 refine this.mono fun e w' ⟨he,q,v',dk,hw,hinv⟩=> ?_
 subst he
 let cs':Array Value:=Sort.putCells (fun(b:UInt8)=>Value.int .u8 (b.toNat:Int)) (o'+i*1) dk cs
 have hset:Sort.putRow (fun(b:UInt8)=>Value.int .u8 (b.toNat:Int)) c.w b (o'+i*1) dk=setB c.w b (.cells cs' ty fr):=by
  unfold Sort.putRow Sort.mapBlock setB
  congr 1
  apply Array.ext_getElem?
  intro q
  rw[Array.getElem?_modify,Array.getElem?_setIfInBounds]
  by_cases hq:b=q
  ·subst hq
   have hlt:=lt_of_heap h7
   rw[if_pos rfl,if_pos rfl,if_pos hlt,h7]
   rfl
  ·simp[hq]
 have hcs:cs'.size=cs.size:=by simp[cs',Sort.putCells]
 have hlt:rr<H.length:=lt_of_at hat (by simp)
 obtain⟨g1,g2,g3⟩:=move_set hh (ob:= .cells cs' ty fr) (x:= .row (.int .u8) (l.take i++dec10 n u++l.drop (i+n))) hj (by rw[hat];rfl) hlt rfl (fun _=>by
  have hlen:(l.take i++dec10 n u++l.drop (i+n)).length=l.length:=by simp[dec10_length];omega
  refine .inr ⟨b,o',cs',ty,fr, ?_, ?_, ?_,fun j hjl=>⟨[.int .u8 (l.take i++dec10 n u++l.drop (i+n))[j]],rfl,rfl,fun j2 hj2=> ?_⟩⟩
  ·rw[hlen,hcs];exact hj
  ·rw[setB_heap,if_pos rfl,if_pos (lt_of_heap h7)]
  ·rw[hcs];exact h8
  ·have hj2:j2<1:=hj2
   obtain rfl:j2=0:=by omega
   have hjl':j<l.length:=by rw[← hlen];exact hjl
   have hg:=fmt10_get l i n u hin j
   rw[List.getElem?_eq_getElem hjl] at hg
   have hc:=cell j hjl'
   show cs'[o'+j*1+0]? =some _
   rw[show o'+j*1+0=o'+j by omega]
   have hlt:o'+j<cs.size:=by
    rcases Nat.lt_or_ge (o'+j) cs.size with h|h
    ·exact h
    ·rw[Array.getElem?_eq_none h] at hc;cases hc
   rw[Array.getElem?_eq_getElem hlt] at hc
   simp only[cs',Sort.putCells,Array.getElem?_mapIdx,Array.getElem?_eq_getElem hlt,Option.map_some]
   congr 1
   have hcv:=Option.some.inj hc
   rw[hcv]
   by_cases q1:i≤j∧j<i+n
   ·rw[if_pos q1] at hg
    have hg:=Option.some.inj hg
    have e1:=hinv.size
    rw[if_pos ⟨by omega,by omega⟩,hg]
    have e2:=hinv.done (o'+j-(o'+i*1)) (Nat.zero_le _) (by omega)
    rw[e2,show o'+j-(o'+i*1)=j-i by omega]
   ·rw[if_neg q1,List.getElem?_eq_getElem hjl'] at hg
    have hg:=Option.some.inj hg
    rw[if_neg (by have:=hinv.size;omega),hg])
 have hwh:w'={setB c.w b (.cells cs' ty fr) with drawn:=w'.drawn}:=by rw[hw,hset];rfl
 obtain⟨k1,k2,k3⟩:=move_world g1 (w':=w') (by rw[hwh]) (by rw[hwh]) (by rw[hwh]) (by rw[hwh])
 exact hk _ ⟨w',c.I,c.js⟩ rfl k1 (fun q hq=>hfr q (by simpa using hq)) (g2.trans k2) (g3.trans k3)
theorem laidVars_mem {w:World}{n:String}{d:DataW Unit}: ∀{l:List (String×DataW Unit)} {ps:List MemPlace},DataW.LaidVars P w l ps→(n,d)∈l→
  ∃g t cs fuel p,P.globalNamed n=some g∧(P.globals[g]?).map (·.type)=some t∧w.var? P n=some cs∧DataW.trod (fun _=>()) P w 0 (fun _=>true) false fuel t cs.toList=some (d,p)
 |(m,e)::l,ps,⟨g,t,cs,fuel,p,q,h1,h2,h3,h4,h5,_⟩,hm=>by
  rcases List.mem_cons.1 hm with h|h
  ·cases h;exact⟨g,t,cs,fuel,p,h1,h2,h3,h4⟩
  ·exact laidVars_mem h5 h
theorem laidMetH_mem {w:World}{laid:List (String×DataW Unit)}(h:laidMetH P laid w){n:String}{d:DataW Unit}(hm:(n,d)∈laid)(hn:d.handleName?.isNone=true):
  ∃g t cs fuel p,P.globalNamed n=some g∧(P.globals[g]?).map (·.type)=some t∧w.var? P n=some cs∧DataW.trod (fun _=>()) P w 0 (fun _=>true) false fuel t cs.toList=some (d,p):=by
 unfold laidMetH at h
 split at h
 ·obtain⟨ps,h1,_⟩:=h
  exact laidVars_mem h1 hm
 ·obtain⟨⟨ps,h1,_⟩,_⟩:=h
  exact laidVars_mem h1 (List.mem_filter.2 ⟨hm,hn⟩)
theorem table_of_laid {W:World}{laid:List (String×DataW Unit)}(h:laidMetH P laid W){n:String}{k:IntKind}{l:List Int}{g:Nat}{t e:TypeId}{m:Nat}
  (hm:(n,(.agg (l.map fun x=> .lit (.int k x)):DataW Unit))∈laid) (hg:P.globalNamed n=some g) (ht:(P.globals[g]?).map (·.type)=some t) (hu:P.underlying t=some (.array m e))
  (he:P.underlying e=some (.int k)) (hc:P.cellsOf e=1):g<W.heap.size∧Holds W g 0 (RepD (inC W) (.int k)) 1 l:=by
 obtain⟨g',t',cs,fuel,p,h1,h2,h3,h4⟩:=laidMetH_mem h hm rfl
 obtain rfl:=Option.some.inj (h1.symm.trans hg)
 obtain rfl:=Option.some.inj (h2.symm.trans ht)
 obtain⟨xs,m',rfl,e1,e2,e3,e4⟩:=DataW.trod_array hu h4
 simp only[Prod.mk.injEq,DataW.agg.injEq] at e1
 have hl:l.length=m:=by
  have:=congrArg List.length e1.1
  simpa [e3] using this
 unfold World.var? at h3
 rw[hg] at h3
 simp only[Option.bind_some] at h3
 split at h3
 ·rename_i cs' ty fr hw
  cases h3
  refine⟨lt_of_heap hw,_,ty,fr,hw,fun i hi=> ?_⟩
  have h5:=e4 i (by omega)
  rw[hc] at h5
  obtain⟨x,hx⟩: ∃x,xs[i]? =some x:=⟨_,List.getElem?_eq_getElem (by omega)⟩
  rw[hx] at h5
  obtain⟨z,f1,f2,_⟩:=DataW.trod_int he h5
  have f3:l[i]=z:=by
   have:=congrArg (·[i]?) e1.1
   simp only[List.getElem?_map,hx,f2,List.getElem?_eq_getElem hi,Option.map_some] at this
   simpa using this
  refine⟨[.int k l[i]],rfl,rfl,fun j hj=> ?_⟩
  obtain rfl:j=0:=by omega
  have:=congrArg (·[0]?) f1
  simp only[List.getElem?_take,List.getElem?_drop,Array.getElem?_toList] at this
  simpa [f3] using this
 ·cases h3
theorem law_lifted_laid {C:Checked}{os:Os}{f:FuncId}{fn:Func}{code:Code}{a:Assume}{s:ChangeSpec}{conds:List PathCond}{tb:TypeId}{shs:List Sh}{B:Nat}{H:Type}{enc:TypeId×Value→H}
  {laid:List (String×DataW Unit)}
  (own:ownKnob C.prog.godebug=none) (started:os.Started) (noInit:C.prog.inits.idxOf? f=none) (hfn:C.prog.funcs[f]? =some fn) (hb:fn.body=some code) (hname:(fn.name== "runtime.NumGoroutine")=false)
  (witness: ∃(w:World) (tape:Tape) (i:Input),w.os=os∧(w.forCall tape i).Shaped C.prog∧i.vars=[]∧Input.okWide C.prog (w.forCall tape i) .any w.heap.size f i∧
   ((s.pre enc C.prog fn conds false (w.forCall tape i).memory i.args∧laidMetH C.prog laid (w.forCall tape i).memory)∧sizedMet enc C.prog fn (OpenSpec.ofChange s) false (w.forCall tape i).memory i.args)∧
    a.holds C.prog (lone (Frame.enter C.prog f i.args .normal) [] (w.forCall tape i)))
  (hlaid:laidOutB C.prog=true) (hread:fn.params.toList.all (fun t=>C.prog.readableRec t&&decide (t<C.prog.types.size))=true) (hlay:fn.params.toList.all (laidT C.prog 9)=true)
  (hsh:fn.params.toList.mapM (shOf C.prog 9)=some shs) (hres:fn.resultTypes= #[tb]) (htb:C.prog.underlying tb=some .bool) (hvars:s.vars=[])
  (hspec: ∀ds:List (DataW H),ds.length=fn.params.toList.length→s.fn H ds={results:=[.lit (.bool true)],args:=ds})
  (hmeas: ∀(ts:List TypeId) (ds:List (DataW H)),(DataW.weightsEach C.prog ts ds).all (· ≤reachBytes)=true→ ∃M,Meas C.prog H B M∧ ∀(j:Nat) (t:TypeId) (d:DataW H),ts[j]? =some t→ds[j]? =some d→M t d)
  (run: ∀d:DenL shs,FitsL B shs d→ ∃sp,Good C.prog f sp∧ ∃H',sp (AV×Heap) (argsAV C.prog fn.params.toList shs d) [] (fun v H=>some (v,H))=some (.lit (.bool true),H'))
  (hglob: ∀W,laidMetH C.prog laid W→Glob (inC W)):
  ReturnsInHanded a C os f .any (fun w args=>(s.pre enc C.prog fn conds false w args∧laidMetH C.prog laid w)∧sizedMet enc C.prog fn (OpenSpec.ofChange s) false w args) (s.post enc C.prog fn false true false false):=by
 refine returnsInHanded_of_change_and (X:=fun w _=>laidMetH C.prog laid w) (fun _ _ _ hh h=>h.of_heap hh) own started noInit hfn witness ?_
 intro W base args ds gs before hval hW _ hwt hL _
 have hW':=hW
 obtain⟨p,q,hA,hV,rfl,_,_⟩:=hW
 have hgs:gs=[]∧q=[]:=by
  rw[hvars] at hV
  match gs,q,hV with
  |[],_,h=>exact⟨rfl,h⟩
  |_::_,_,h=>exact h.elim
 obtain⟨rfl,rfl⟩:=hgs
 have hlt: ∀x∈p,x.block<W.heap.size:=fun x hx=>by simpa using hW'.lt x (by simpa using hx)
 rw[List.append_nil] at hwt
 have hpv:s.plain.varTypes C.prog=[]:=by
  have:s.plain.vars=[]:=hvars
  simp[DataSpec.varTypes,this]
 rw[hpv,List.append_nil] at hwt
 obtain⟨M,hM,hMd⟩:=hmeas _ _ hwt
 obtain⟨d,e1,e2,e3⟩:=args_rep (P:=C.prog) (w:=W) hM fn.params.toList shs args.toList ds p hsh hlay hA (fun j t v h1 h2=>hval j t v (by simpa using h1) (by simpa using h2)) hMd
 obtain⟨sp,g1,H',g2⟩:=run d e1
 obtain⟨v,H1,g3,g4⟩:=g1 _ _ _ _ _ g2
 cases g3
 obtain⟨r1,r2⟩:=inC_rel W (hglob W hL)
 have hc:=calls_of_res hfn hb hname g4 e2 r1 r2
 have ha:args.toList.toArray=args:=by simp
 rw[ha] at hc
 refine hc.mono fun e W' ⟨v',c',h1,h2,h3,h4⟩=> ?_
 have h3:v'= .bool true:=h3
 subst h1 h2 h3
 have hbel:=inC_below h4
 refine⟨_,rfl,ds,[],p++[],[],p,[],hW', ?_, ?_, ?_,hbel.frame _,fun h=>by cases h⟩
 ·rw[List.append_nil,hspec ds e3,hres]
  refine⟨[],[],⟨1, ?_⟩,rfl,rfl⟩
  simp[DataW.trod,htb,Value.cells]
 ·rw[List.append_nil,hspec ds e3]
  exact trods_stay hlaid hbel _ _ _ _ hread hA hlt
 ·rw[List.append_nil,hspec ds e3,hvars]
  rfl
end Go.TX
