/- New variables, aggregates, slice literals, fields and elements: the machine does what the evaluator says. -/
import Derived.Test.YtgchjlbhmfbgaaaGreatDoorTxE
import Derived.Great.BuildSlice
namespace Go.TX
set_option linter.unusedSectionVars false
variable [Globals]
variable {P:Program}
theorem noFz0 (z:Nat):NoFz (0,0) z:=fun _ _ h=>by simp at h
theorem new_box {c:Ctx}{H:Heap}(hh:HRel c H.at)(hf:Fresh c H.length){t:TypeId}{cs:List AV}{v:Value}(hv:RepL c cs v.cells.toList):
  SemRes P (do pure (.pointer (some (← newVar t v)))) c H (.ptr H.length 0 0) (H++[.box cs]):=by
 obtain⟨g1,g2,g3,g4⟩:=move_alloc hh hf (.cells v.cells t) (.box cs) 0 v.cells.size 1 v.cells.size (fun hl=>
  ⟨c.w.heap.size,v.cells,t,(0,0),upd_eq,by show(c.w.heap.push _)[_]? =_;simp,noFz0 _,RepL.mono hl _ hv⟩)
 refine⟨.pointer (some ⟨c.w.heap.size,0,none⟩),_, ?_, ?_,g1,g4,g2,g3⟩
 ·simp only[newVar,newRow,Sem.run_bind,run_newObj,Sem.run_pure,Result.andThen_ok];rfl
 ·exact⟨_,_,_,_,_,upd_eq,by omega,by simp⟩
theorem alloc_sound {t:TypeId}{cs:List AV}(h:zeroT P t=some cs){c:Ctx}{H:Heap}(hh:HRel c H.at)(hf:Fresh c H.length):
  SemRes P (Instr.alloc t true (.tuple #[])) c H (.ptr H.length 0 0) (H++[.box cs]):=by
 obtain⟨i,z,hi,hz,hv⟩:=zeroT_rep (c:=c) h
 obtain⟨v',c',h1,h2⟩:=new_box (P:=P) hh hf (t:=t) hv
 refine⟨v',c', ?_,h2⟩
 simp only[Instr.alloc,Sem.run_bind,run_zeroValue_ok hi hz,Result.andThen_ok]
 exact h1
theorem arrT_info {t:TypeId}{s:Sh}{n:Nat}(h:arrT P t=some (s,n)): ∃e,P.underlying t=some (.array n e)∧some s.width=sizeT P e∧sizeT P t=some (n*s.width)∧0<n∧0<s.width:=by
 unfold arrT at h
 split at h
 ·rename_i m e hu
  split at h
  ·split at h
   ·rename_i g;cases h;exact⟨e,hu,g.2.2.1,g.2.2.2,g.1,g.2.1⟩
   ·cases h
  ·cases h
 ·cases h
theorem allocA_sound {α:Type}{t:TypeId}{H:Heap}{k:Kont α}{r:α}(h:allocA P t H k=some r):
  ∃v new,k v (H++new)=some r∧ ∀c,HRel c H.at→Fresh c H.length→SemRes P (Instr.alloc t true (.tuple #[])) c H v (H++new):=by
 unfold allocA at h
 split at h
 case h_1=>cases h
 rename_i zs hz
 split at h
 ·rename_i s n hat
  split at h
  case isFalse=>cases h
  rename_i hzl
  split at h
  case h_2=>cases h
  rename_i l hl
  refine⟨_,_,h,fun c hh hf=> ?_⟩
  obtain⟨i,z,hi,hz0,hv⟩:=zeroT_rep (c:=c) hz
  have hll:l.length=n:=by rw[downAll_len _ _ hl,chunks_len]
  obtain⟨e,_,_,_,hn0,hw0⟩:=arrT_info hat
  obtain⟨g1,g2,g3,g4⟩:=move_alloc hh hf (.cells z.cells t) (.row s l) 0 s.width l.length z.cells.size (fun hlater=>by
   refine .inr ⟨c.w.heap.size,0,z.cells,t,(0,0),upd_eq,by show(c.w.heap.push _)[_]? =_;simp,noFz0 _,fun i hi=> ?_⟩
   obtain⟨us,e1,e2,e3⟩:=chunks_rep rfl n zs z.cells.toList l hv hzl hl i hi
   exact⟨us,RepD.mono hlater s e1,e2,fun j hj=>by rw[← e3 j hj];simp⟩)
  refine⟨.pointer (some ⟨c.w.heap.size,0,none⟩),_, ?_,⟨_,_,_,_,_,upd_eq,by omega,by simp⟩,g1,g4,g2,g3⟩
  simp only[Instr.alloc,Sem.run_bind,run_zeroValue_ok hi hz0,Result.andThen_ok,newVar,newRow,run_newObj,Sem.run_pure];rfl
 ·refine⟨_,_,h,fun c hh hf=> ?_⟩
  exact alloc_sound hz hh hf
theorem box_sound {t:TypeId}{a:AV}{cs:List AV}(h:a.cells=some cs){c:Ctx}{H:Heap}(hh:HRel c H.at)(hf:Fresh c H.length){x:Value}(hx:Rep c a x):
  SemRes P (Instr.box t x) c H (.ptr H.length 0 0) (H++[.box cs]):=new_box hh hf (hx.cells h)
theorem foldl_over (off:Nat): ∀(l:List Value) (j:Nat) (cs:Array Value),
  (l.zipIdx j).foldl (fun cs (c,k)=>cs.setIfInBounds (off+k) c) cs=overV cs (off+j) l
 |[],_,_=>rfl
 |v::l,j,cs=>by
  rw[List.zipIdx_cons,List.foldl_cons,foldl_over off l (j+1),overV,Nat.add_assoc]
theorem fillA_sound {c:Ctx}{place:Nat→Option (Nat×Nat)}: ∀(parts:List (Nat×AV)) (parts':List (Nat×Value)) (cells cells':List AV) (cs:Array Value),
  parts.map (·.1)=parts'.map (·.1)→RepL c (parts.map (·.2)) (parts'.map (·.2))→RepL c cells cs.toList→fillA place cells parts=some cells'→
  ∃cs',Instr.fill place cs parts'=some cs'∧RepL c cells' cs'.toList
 |[],[],cells,cells',cs,_,_,hc,h=>by
  simp only[fillA,Option.some.injEq] at h
  subst h
  exact⟨cs,rfl,hc⟩
 |[],_::_,_,_,_,h,_,_,_=>by simp at h
 |_::_,[],_,_,_,h,_,_,_=>by simp at h
 |(i,a)::parts,(i',v)::parts',cells,cells',cs,hi,hp,hc,h=>by
  have hi':i::parts.map (·.1)=i'::parts'.map (·.1):=hi
  obtain⟨hi1,hi2⟩:=List.cons.inj hi'
  subst hi1
  obtain⟨v0,vs0,h1,h2,h3⟩:=hp
  obtain⟨h1a,h1b⟩:=List.cons.inj h1
  subst h1a h1b
  simp only[fillA] at h
  split at h
  case h_2=>simp at h
  rename_i off size l hpl hcl
  split at h
  case isFalse=>simp at h
  rename_i hb
  have hx:=h2.cells hcl
  have hl:=hx.length
  have hcl':=hc.length
  simp only[Array.length_toList] at hl hcl'
  obtain⟨cs',h4,h5⟩:=fillA_sound parts parts' _ cells' (overV cs off v.cells.toList) hi2 h3 (over_rep hc hx (by omega)) h
  refine⟨cs', ?_,h5⟩
  simp only[Instr.fill,hpl]
  rw[if_neg (by simp;omega)]
  rw[← Array.foldl_toList,Array.toList_zipIdx,foldl_over off v.cells.toList 0 cs]
  exact h4
theorem typed_parts {c:Ctx}(ty:Nat→TypeId)(g:Nat→Bool): ∀(parts:List (Nat×AV)) (vs:List Value),RepL c (parts.map (·.2)) vs→
  RepL c ((parts.map fun p=>(p.1,if g p.1 then typed P (ty p.1) p.2 else p.2)).map (·.2)) vs
 |[],_,h=>h
 |(i,a)::parts,_,⟨v,vs,h1,h2,h3⟩=>by
  refine⟨v,vs,h1, ?_,typed_parts ty g parts vs h3⟩
  dsimp only
  split
  ·exact typed_rep h2
  ·exact h2
theorem places_ok: ∀(fs:List Field),(fs.all fun f=>(sizeT P f.type).isSome)=true→
  fs.mapM (fun f=>(P.info? f.type).map fun i=>(f.offset,i.size))=some (fs.map fun f=>(f.offset,(sizeT P f.type).getD 0))
 |[],_=>rfl
 |f::fs,h=>by
  simp only[List.all_cons,Bool.and_eq_true] at h
  obtain⟨h1,h2⟩:=h
  obtain⟨n,hn⟩:=Option.isSome_iff_exists.1 h1
  obtain⟨i,hi,hs⟩:=sizeT_info hn
  simp[List.mapM_cons,hi,places_ok fs h2,hn,hs]
theorem buildA_sound {α:Type}{t:TypeId}{parts:List (Nat×AV)}{H:Heap}{k:Kont α}{r:α}(h:buildA P t parts H k=some r):
  ∃v,k v H=some r∧ ∀c (ps:List (Nat×Value)),parts.map (·.1)=ps.map (·.1)→RepL c (parts.map (·.2)) (ps.map (·.2))→
   ∃v',(Instr.build t ps.toArray).run P c.w= .ok v' c.w∧Rep c v v':=by
 unfold buildA at h
 split at h
 case h_3=>simp at h
 ·rename_i fs z hu hz
  split at h
  case h_2=>simp at h
  rename_i cs hfill
  split at h
  case isFalse=>simp at h
  rename_i hall
  refine⟨_,h,fun c ps hi hp=> ?_⟩
  obtain⟨i,zv,hinfo,hzero,hzr⟩:=zeroT_rep (c:=c) hz
  have hall':(fs.toList.all fun f=>(sizeT P f.type).isSome)=true:=by simpa using hall
  have hpl: ∀n:Nat,(match (fs[n]? :Option Field) with|some f=>(sizeT P f.type).map fun n=>(f.offset,n)|none=>none)=((fs.toList.map fun(f:Field)=>(f.offset,(sizeT P f.type).getD 0)).toArray[n]?):=fun n=>by
   rw[show(fs.toList.map fun(f:Field)=>(f.offset,(sizeT P f.type).getD 0)).toArray[n]? =((fs[n]?).map fun(f:Field)=>(f.offset,(sizeT P f.type).getD 0)) by simp]
   cases hf:fs[n]? with
   |none=>rfl
   |some f=>
    have:(sizeT P f.type).isSome=true:=by
     have:=List.all_eq_true.1 hall' f (by rw[Array.mem_toList_iff];exact Array.mem_of_getElem? hf)
     exact this
    obtain⟨m,hm⟩:=Option.isSome_iff_exists.1 this
    simp[hm]
  have hty:RepL c ((parts.map fun p=>(p.1,match fs[p.1]? with|some f=>typed P f.type p.2|none=>p.2)).map (·.2)) (ps.map (·.2)):=by
   have:=typed_parts (P:=P) (c:=c) (fun i=>((fs[i]?).map (·.type)).getD 0) (fun i=>(fs[i]?).isSome) parts _ hp
   refine Eq.mp ?_ this
   congr 2
   apply List.map_congr_left
   intro p _
   cases fs[p.1]? <;>rfl
  obtain⟨cs',h1,h2⟩:=fillA_sound _ ps z cs zv.cells (by rw[← hi,List.map_map];rfl) hty hzr hfill
  refine⟨.agg cs', ?_,cs',rfl,h2⟩
  apply run_build
  unfold Program.built
  simp only[hinfo,hu,hzero,places_ok _ hall']
  rw[← h1]
  congr 1
  funext n
  exact(hpl n).symm
 ·rename_i m e z hu hz
  split at h
  case h_2=>simp at h
  rename_i n hn
  split at h
  case h_2=>simp at h
  rename_i cs hfill
  refine⟨_,h,fun c ps hi hp=> ?_⟩
  obtain⟨i,zv,hinfo,hzero,hzr⟩:=zeroT_rep (c:=c) hz
  obtain⟨ie,hie,hes⟩:=sizeT_info hn
  obtain⟨cs',h1,h2⟩:=fillA_sound _ ps z cs zv.cells (by rw[← hi,List.map_map];rfl)
   (by simpa using typed_parts (P:=P) (c:=c) (fun _=>e) (fun _=>true) parts _ hp) hzr hfill
  refine⟨.agg cs', ?_,cs',rfl,h2⟩
  apply run_build
  unfold Program.built
  simp only[hinfo,hu,hzero,hie,hes]
  exact h1
theorem zeros_eq {z:List Value}{w n:Nat}(hz:z.length=w)(_h0:0<w):
  ((Array.range (n*w)).map (fun i=>z.toArray[i%z.toArray.size]!)).toList=(List.replicate n z).flatten:=by
 apply List.ext_getElem?
 intro i
 simp only[Array.toList_map,Array.toList_range,List.getElem?_map,List.size_toArray,hz]
 induction n generalizing i with
 |zero=>simp
 |succ n ih=>
  rw[List.replicate_succ,List.flatten_cons]
  by_cases hi:i<w
  ·rw[List.getElem?_append_left (by omega),List.getElem?_range (by rw[Nat.add_mul];omega)]
   simp only[Option.map_some,Nat.mod_eq_of_lt hi]
   rw[List.getElem?_eq_getElem (by omega)]
   simp[hz,hi]
  ·rw[List.getElem?_append_right (by omega),hz,← ih (i-w)]
   by_cases h2:i<(n+1)*w
   ·rw[List.getElem?_range h2,List.getElem?_range (by rw[Nat.add_mul] at h2;omega)]
    simp only[Option.map_some]
    rw[show i%w=(i-w)%w from Nat.mod_eq_sub_mod (by omega)]
   ·rw[List.getElem?_eq_none (by simp;omega),List.getElem?_eq_none (by simp;rw[Nat.add_mul] at h2;omega)]
theorem RepL.replicate {c:Ctx}{z:List AV}{zs:List Value}(h:RepL c z zs): ∀n,RepL c (List.replicate n z).flatten (List.replicate n zs).flatten
 |0=>rfl
 |n+1=>by simpa [List.replicate_succ] using h.append (RepL.replicate h n)
theorem buildSliceA_sound {α:Type}{t:TypeId}{n:Nat}{parts:List (Nat×AV)}{H:Heap}{k:Kont α}{r:α}(h:buildSliceA P t n parts H k=some r):
  ∃v,k v H=some r∧ ∀c (ps:List (Nat×Value)),parts.map (·.1)=ps.map (·.1)→RepL c (parts.map (·.2)) (ps.map (·.2))→HRel c H.at→Fresh c H.length→
   SemRes P (Instr.buildSlice t n ps.toArray) c H v H:=by
 unfold buildSliceA at h
 split at h
 case h_2=>simp at h
 rename_i e hu
 split at h
 case h_2=>simp at h
 rename_i w z hw hz
 split at h
 case isFalse=>simp at h
 rename_i hok
 obtain⟨hzl,hsmall,hpos⟩:=hok
 split at h
 case h_2=>simp at h
 rename_i cs hfill
 split at h
 case h_2=>simp at h
 rename_i s hs
 split at h
 case isFalse=>simp at h
 rename_i hsw
 split at h
 case h_2=>simp at h
 rename_i l hl
 refine⟨_,h,fun c ps hi hp hh hf=> ?_⟩
 obtain⟨i,zv,hinfo,hzero,hzr⟩:=zeroT_rep (c:=c) hz
 obtain⟨ie,hie,hes⟩:=sizeT_info hw
 rw[hinfo] at hie;cases hie
 have hzvl:zv.cells.toList.length=w:=by rw[hzr.length,hzl]
 have hty:=typed_parts (P:=P) (c:=c) (fun _=>e) (fun _=>true) parts _ hp
 obtain⟨cs',h1,h2⟩:=fillA_sound _ ps _ cs ((List.replicate n zv.cells.toList).flatten).toArray (by rw[← hi,List.map_map];rfl) (by simpa using hty) (by simpa using hzr.replicate n) hfill
 have hcsl:cs.length=n*w:=by
  have hlen: ∀(ps:List (Nat×AV)) (cells cells':List AV),fillA (fun i=>some (i*w,w)) cells ps=some cells'→cells'.length=cells.length:=by
   intro ps
   induction ps with
   |nil=>intro cells cells' h;simp only[fillA,Option.some.injEq] at h;rw[h]
   |cons p ps ih=>
    intro cells cells' h
    simp only[fillA] at h
    split at h
    case h_2=>simp at h
    split at h
    case isFalse=>simp at h
    rename_i hb
    rw[ih _ _ h]
    simp only[over,List.length_append,List.length_take,List.length_drop]
    omega
  rw[hlen _ _ _ hfill]
  simp[hzl]
 have hrun:(Instr.buildSlice t n ps.toArray).run P c.w= .ok (.slice (some ⟨c.w.heap.size,0,none⟩) n n) (c.w.alloc (.cells cs' e)):=by
  by_cases hn0:n*w=0
  ·have hn:n=0:=by
    rcases Nat.mul_eq_zero.1 hn0 with h|h<;>omega
   subst hn
   have hf0:Instr.fill (fun i=>some (i*w,w)) #[] ps=some cs':=by simpa using h1
   have hf1:Instr.fill (fun i=>some (i*w,w)) (Array.map (fun x=>default) (Array.range 0)) ps=some cs':=by rw[← hf0];congr 1;simp
   simp[Instr.buildSlice,run_underlying_ok hu,run_sizeOf_ok hw,newRow,hf1]
  ·have:=run_buildSlice c.w t e n ps.toArray cs' i zv hu hinfo hzero (by rw[hes];omega) (by rw[hes];exact hn0) (by
    rw[hes,← h1]
    congr 1
    apply Array.ext'
    simpa using zeros_eq (n:=n) hzvl hpos)
   exact this
 obtain⟨g1,g2,g3⟩:=move_imm hh (.cells cs' e)
 refine⟨_,_,hrun, ?_,g1,hf,g2,g3⟩
 have hll:l.length=n:=by rw[downAll_len _ _ hl,chunks_len]
 subst hll
 refine⟨_,_,rfl,Nat.le_refl _,fun _=>rfl, .inr ⟨c.w.heap.size,0,rfl, .inr rfl, ?_⟩⟩
 have hr:=chunks_rep (c:=_) hsw l.length cs cs'.toList l (RepL.mono (Later.of_step hh g2 g3) cs h2) hcsl (hsw▸hl)
 refine⟨cs',e,(0,0),by show(c.w.heap.push _)[_]? =_;simp,fun i hi=> ?_⟩
 obtain⟨us,h3,h4,h5⟩:=hr i hi
 exact⟨us,h3,h4,fun j hj=>by rw[← h5 j hj];simp⟩
theorem fieldAddrA_sound {α:Type}{t:TypeId}{a:AV}{f:Nat}{H:Heap}{k:Kont α}{r:α}(h:fieldAddrA P t a f H k=some r):
  ∃v,k v H=some r∧ ∀c x,Rep c a x→ ∃v',(Instr.fieldAt t x f).run P c.w= .ok v' c.w∧Rep c v v':=by
 unfold fieldAddrA at h
 split at h
 case h_2=>simp at h
 rename_i fs hu
 split at h
 case h_2=>simp at h
 rename_i fd hfd
 split at h
 case h_2=>simp at h
 rename_i n hn
 split at h
 case isTrue=>simp at h
 rename_i hn0
 have key: ∀(c:Ctx) (b o:Nat),(Instr.fieldAt t (.pointer (some ⟨b,o,none⟩)) f).run P c.w= .ok (.pointer (some ⟨b,o+fd.offset,none⟩)) c.w:=fun c b o=>by
  simp[Instr.fieldAt,run_underlying_ok hu,hfd,Instr.sureAddr,fieldPlace,run_sizeOf_ok hn,hn0,addr_add]
 split at h
 case h_3=>simp at h
 ·refine⟨_,h,fun c x hx=> ?_⟩
  obtain⟨b,o,w,n,z,h1,h2,rfl⟩:=hx
  exact⟨_,key c _ _,b,o,w,n,z,h1,h2,by simp[Nat.add_assoc]⟩
 ·refine⟨_,h,fun c x hx=> ?_⟩
  obtain⟨b,o,h1,h2,h3,rfl⟩:=hx
  exact⟨_,key c _ _,b,o,h1,h2,h3,by simp[Nat.add_assoc]⟩
theorem fieldA_sound {α:Type}{t:TypeId}{a:AV}{f:Nat}{H:Heap}{k:Kont α}{r:α}(h:fieldA P t a f H k=some r):
  ∃v,k v H=some r∧ ∀c x,Rep c a x→ ∃v',(Instr.field t x f).run P c.w= .ok v' c.w∧Rep c v v':=by
 unfold fieldA at h
 split at h
 case h_2=>simp at h
 rename_i fs cs hu
 split at h
 case h_2=>simp at h
 rename_i fd hfd
 obtain⟨v,h1,_,h2⟩:=readA_sound h
 refine⟨v,h1,fun c x hx=> ?_⟩
 obtain⟨vs,rfl,h3⟩:=hx
 obtain⟨v',h4,h5⟩:=h2 c vs.toList h3 c.w
 refine⟨v', ?_,h5⟩
 simpa [Instr.field,run_underlying_ok hu,hfd,asAgg] using h4
theorem cond_some {α:Type}{b:Bool}{x y:Option α}{r:α}(h:cond b x y=some r):(b=true∧x=some r)∨(b=false∧y=some r):=by
 cases b
 ·exact .inr ⟨rfl,h⟩
 ·exact .inl ⟨rfl,h⟩
theorem cond_none {α:Type}{b:Bool}{x:Option α}{r:α}(h:cond b x none=some r):b=true∧x=some r:=by
 cases b
 ·simp at h
 ·exact⟨rfl,h⟩
theorem indexAddrA_sound {α:Type}{t:TypeId}{a ix:AV}{H:Heap}{k:Kont α}{r:α}(h:indexAddrA P t a ix H k=some r):
  ∃v,k v H=some r∧ ∀c x y,Rep c a x→Rep c ix y→HRel c H.at→ ∃v',(Instr.indexAt t x y).run P c.w= .ok v' c.w∧Rep c v v':=by
 unfold indexAddrA at h
 split at h
 case h_3=>simp at h
 ·rename_i e kd i hu
  have key: ∀(c:Ctx) (b o n cap w:Nat),sizeT P e=some w→0≤i→i<(n:Int)→
    (Instr.indexAt t (.slice (some ⟨b,o,none⟩) n cap) (.int kd i)).run P c.w= .ok (.pointer (some ⟨b,o+i.toNat*w,none⟩)) c.w:=fun c b o n cap w hw h0 h1=>by
   simp[Instr.indexAt,asIntOf,run_underlying_ok hu,run_sizeOf_ok hw,addr_add,h0,h1]
  split at h
  case h_3=>simp at h
  ·rename_i s l x
   split at h
   case isFalse=>simp at h
   rename_i hw
   obtain⟨hb,h⟩:=cond_none h
   simp only[decide_eq_true_eq] at hb
   refine⟨_,h,fun c x y hx hy _=> ?_⟩
   rw[show y=_ from hy]
   obtain⟨a,cap,rfl,h2,h3,h4⟩:=hx
   rcases h4 with rfl|⟨b,o,rfl,h5,h6⟩
   ·exfalso;simp only[List.length_nil] at hb;omega
   ·exact⟨_,key c b o _ cap _ hw.symm hb.1 hb.2,b,o,h5,h6,by omega,by simp⟩
  ·rename_i rr j n
   split at h
   case h_3=>simp at h
   all_goals
    rename_i s l hat
    split at h
    case isFalse=>simp at h
    rename_i hw
    obtain⟨hb,h⟩:=cond_none h
    simp only[decide_eq_true_eq] at hb
    refine⟨_,h,fun c x y hx hy hh=> ?_⟩
    rw[show y=_ from hy]
    rcases hx with ⟨h1,_⟩|⟨b,o,w,m,z,cap,h1,rfl,h3,h4,h5⟩
    ·exfalso;omega
    ·have ho:=hh.obj rr
     rw[hat] at ho
     have hww:w=s.width:=by
      rcases ho with ⟨_,h6⟩|ho
      ·rw[h1] at h6;simp at h6
      ·first
        |(obtain⟨b',o',cs,ty,fr,h6,_⟩:=ho;rw[h1] at h6;simp only[Option.some.injEq,Loc.real.injEq] at h6;exact h6.2.2.1)
        |(obtain⟨b',o',z',h6,_⟩:=ho;rw[h1] at h6;simp only[Option.some.injEq,Loc.real.injEq] at h6;exact h6.2.2.1)
     subst hww
     refine⟨_,key c b _ n cap _ hw.symm hb.1 hb.2,b,o,_,m,z,h1,by omega, ?_⟩
     simp[Nat.add_mul,Nat.add_assoc]
 ·rename_i n e kd i hu
  have key: ∀(c:Ctx) (b o w:Nat),sizeT P e=some w→0≤i→i<(n:Int)→
    (Instr.indexAt t (.pointer (some ⟨b,o,none⟩)) (.int kd i)).run P c.w= .ok (.pointer (some ⟨b,o+i.toNat*w,none⟩)) c.w:=fun c b o w hw h0 h1=>by
   simp[Instr.indexAt,asIntOf,run_underlying_ok hu,run_sizeOf_ok hw,addr_add,h0,h1,Instr.sureAddr]
  split at h
  case h_3=>simp at h
  ·rename_i rr j off w hw
   have old:cond (decide (0≤i∧i<(n:Int))) (k (.ptr rr j (off+i.toNat*w)) H) none=some r→
     ∃v,k v H=some r∧ ∀c x y,Rep c (.ptr rr j off) x→Rep c (.lit (.int kd i)) y→HRel c H.at→ ∃v',(Instr.indexAt t x y).run P c.w= .ok v' c.w∧Rep c v v':=fun h=>by
    obtain⟨hb,h⟩:=cond_none h
    simp only[decide_eq_true_eq] at hb
    refine⟨_,h,fun c x y hx hy _=> ?_⟩
    rw[show y=_ from hy]
    obtain⟨b,o,w',n',z,h1,h2,rfl⟩:=hx
    exact⟨_,key c _ _ w hw hb.1 hb.2,b,o,w',n',z,h1,h2,by simp[Nat.add_assoc]⟩
   split at h
   ·rename_i s l hro
    split at h
    ·rename_i s' m hat
     split at h
     ·rename_i hss
      subst hss
      split at h
      case isFalse=>cases h
      rename_i hoff
      subst hoff
      obtain⟨hb,h⟩:=cond_none h
      simp only[decide_eq_true_eq] at hb
      refine⟨_,h,fun c x y hx hy hh=> ?_⟩
      rw[show y=_ from hy]
      obtain⟨hi,b,o,cs,ty,fr,rfl,h4,h5,h6,h7⟩:=(ptr_cells hh hx).2.1 _ _ hro
      obtain⟨e',hu',hwe,_⟩:=arrT_info hat
      rw[hu] at hu'
      cases hu'
      rw[hw] at hwe
      cases hwe
      refine⟨_,key c _ _ _ hw hb.1 hb.2.1,b,o,_,_,_,h4,hb.2.2, ?_⟩
      simp[Nat.add_mul,Nat.add_assoc]
     ·exact old h
    ·exact old h
   ·exact old h
  ·rename_i s l j off w hw
   split at h
   ·rename_i hso
    obtain⟨rfl,rfl⟩:=hso
    obtain⟨hb,h⟩:=cond_none h
    simp only[decide_eq_true_eq] at hb
    refine⟨_,h,fun c x y hx hy _=> ?_⟩
    rw[show y=_ from hy]
    obtain⟨b,o,h1,h2,h3,rfl⟩:=hx
    exact⟨_,key c _ _ _ hw hb.1 hb.2.1,b,o,h1,h2,hb.2.2,by simp[Nat.add_mul,Nat.add_assoc]⟩
   ·obtain⟨hb,h⟩:=cond_none h
    simp only[decide_eq_true_eq] at hb
    refine⟨_,h,fun c x y hx hy _=> ?_⟩
    rw[show y=_ from hy]
    obtain⟨b,o,h1,h2,h3,rfl⟩:=hx
    exact⟨_,key c _ _ w hw hb.1 hb.2,b,o,h1,h2,h3,by simp[Nat.add_assoc]⟩
end Go.TX
