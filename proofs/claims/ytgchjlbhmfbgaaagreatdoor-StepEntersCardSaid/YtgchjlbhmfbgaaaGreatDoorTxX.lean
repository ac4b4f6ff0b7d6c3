/- Maps: the machine does what the evaluator says. -/
import Derived.Test.YtgchjlbhmfbgaaaGreatDoorTxK
namespace Go.TX
set_option linter.unusedVariables false
set_option linter.unusedSimpArgs false
set_option linter.unusedSectionVars false
variable [Globals]
variable {P:Program}
theorem ba_eq {a b:ByteArray}(h:(a==b)=true):a=b:=by
  have h2:(a.data==b.data)=true:=h
  cases a;cases b
  simpa using h2
def MEs {K V:Type}(RK:K→Value→Prop)(RV:V→Value→Prop):List (K×V)→List MapEntry→Prop
  |[],es=>es=[]
  |p::l,es=> ∃e es',es=e::es'∧RK p.1 e.key∧RV p.2 e.val∧MEs RK RV l es'
theorem MEs.snoc {K V:Type}{RK:K→Value→Prop}{RV:V→Value→Prop}{k:K}{v:V}{e:MapEntry}(hk:RK k e.key)(hv:RV v e.val):
    ∀{l:List (K×V)} {es:List MapEntry},MEs RK RV l es→MEs RK RV (l++[(k,v)]) (es++[e])
  |[],es,h=>by rw[show es=[] from h];exact⟨e,[],rfl,hk,hv,rfl⟩
  |p::l,_,⟨e1,es',h1,h2,h3,h4⟩=>by subst h1;exact⟨e1,_,rfl,h2,h3,MEs.snoc hk hv h4⟩
theorem MEs.len {K V:Type}{RK:K→Value→Prop}{RV:V→Value→Prop}: ∀{l:List (K×V)} {es:List MapEntry},MEs RK RV l es→es.length=l.length
  |[],es,h=>by rw[show es=[] from h];rfl
  |p::l,_,⟨e1,es',h1,h2,h3,h4⟩=>by subst h1;simp[MEs.len h4]
theorem MEs.get {K V:Type}{RK:K→Value→Prop}{RV:V→Value→Prop}: ∀{l:List (K×V)} {es:List MapEntry},MEs RK RV l es→
    ∀i (h:i<l.length),∃ e,es[i]? =some e∧RK l[i].1 e.key∧RV l[i].2 e.val
  |[],es,_,i,h=>by simp at h
  |p::l,_,⟨e1,es',h1,h2,h3,h4⟩,i,h=>by
    subst h1
    cases i with
    |zero=>exact⟨e1,rfl,h2,h3⟩
    |succ i=>simpa using MEs.get h4 i (by simpa using h)
theorem MEs.of {K V:Type}{RK:K→Value→Prop}{RV:V→Value→Prop}: ∀{l:List (K×V)} {es:List MapEntry},es.length=l.length→
    (∀ i (h:i<l.length),∃ e,es[i]? =some e∧RK l[i].1 e.key∧RV l[i].2 e.val)→MEs RK RV l es
  |[],es,hl,_=>List.length_eq_zero_iff.1 hl
  |p::l,[],hl,_=>by simp at hl
  |p::l,e::es,hl,h=>by
    obtain⟨e',h1,h2,h3⟩:=h 0 (by simp)
    simp at h1;subst h1
    exact⟨e,es,rfl,h2,h3,MEs.of (by simpa using hl) fun i hi=>by
      have:=h (i+1) (by simpa using hi)
      simpa only[List.getElem?_cons_succ,List.getElem_cons_succ] using this⟩
theorem find_spec {K V:Type}[BEq K]{RK:K→Value→Prop}{RV:V→Value→Prop}{kind:TypeDesc}{kk:K}{kv:Value}(hk:RK kk kv)
    (hs: ∀p w,RK p w→Instr.sameNow kind kv w=some (kk==p)) (hb: ∀p w,RK p w→(kk==p)=true→Instr.sameBits 10000 w kv=true):
    ∀(l:List (K×V)) (es:List MapEntry) (i:Nat),MEs RK RV l es→
      (∃ j e,Instr.findNow kind kv es i=some (some (i+j,e.val))∧es[j]? =some e∧Instr.sameBits 10000 e.key kv=true∧mHas l kk=true∧(∀ d,RV (mGetD l kk d) e.val)∧
        (∀ v w,RV v w→MEs RK RV (mPut l kk v) (es.modify j fun e=>{e with key:=kv,val:=w}))∧MEs RK RV (mDel l kk) (es.eraseIdx j))∨
      (Instr.findNow kind kv es i=some none∧mHas l kk=false∧(∀ d,mGetD l kk d=d)∧(∀ v,mPut l kk v=l++[(kk,v)])∧mDel l kk=l)
  |[],es,i,h=>by
    rw[show es=[] from h]
    exact .inr ⟨rfl,rfl,fun _=>rfl,fun _=>rfl,rfl⟩
  |p::l,_,i,⟨e,es,h1,h2,h3,h4⟩=>by
    subst h1
    have e1:=hs _ _ h2
    cases hp:kk==p.1 with
    |true=>
      rw[hp] at e1
      refine .inl ⟨0,e, ?_,rfl,hb _ _ h2 hp, ?_,fun d=> ?_,fun v w hv=> ?_, ?_⟩
      · simp[Instr.findNow,e1]
      · simp[mHas,hp]
      · simpa [mGetD,hp] using h3
      · simp only[mPut,hp,cond_true,List.modify_zero_cons]
        exact⟨_,_,rfl,hk,hv,h4⟩
      · simpa [mDel,hp] using h4
    |false=>
      rw[hp] at e1
      rcases find_spec hk hs hb l es (i+1) h4 with ⟨j,e',g1,g2,g3,g4,g5,g6,g7⟩|⟨g1,g2,g3,g4,g5⟩
      · refine .inl ⟨j+1,e', ?_,by simpa using g2,g3, ?_,fun d=> ?_,fun v w hv=> ?_, ?_⟩
        · simp only[Instr.findNow,e1,g1]
          rw[show i+1+j=i+(j+1) from by omega]
        · simp[mHas,hp,g4]
        · simpa [mGetD,hp] using g5 d
        · simp only[mPut,hp,cond_false,List.modify_succ_cons]
          exact⟨_,_,rfl,h2,h3,g6 v w hv⟩
        · simp only[mDel,hp,cond_false,List.eraseIdx_cons_succ]
          exact⟨_,_,rfl,h2,h3,g7⟩
      · refine .inr ⟨?_, ?_,fun d=> ?_,fun v=> ?_, ?_⟩
        · simp only[Instr.findNow,e1,g1]
        · simp[mHas,hp,g2]
        · simp[mGetD,hp,g3]
        · simp[mPut,hp,g4]
        · simp[mDel,hp,g5]
theorem keyT_cases {t:TypeId}{ks:Sh}(h:keyT P t ks=true):(∃ k k',P.underlying t=some (.int k')∧ks= .int k)∨(P.underlying t=some .string∧ks= .str):=by
  unfold keyT at h
  split at h
  · rename_i k' k hu;exact .inl ⟨k,k',hu,rfl⟩
  · rename_i hu;exact .inr ⟨hu,rfl⟩
  · cases h
theorem run_checkKey_ok {t:TypeId}{ks:Sh}(h:keyT P t ks=true)(b:Bool)(n:Nat)(v:Value)(w:World):(Instr.checkKey b (n+1) t v).run P w= .ok () w:=by
  rcases keyT_cases h with ⟨k,k',hu,_⟩|⟨hu,_⟩
  · simp[Instr.checkKey,run_underlying_ok hu]
  · simp[Instr.checkKey,run_underlying_ok hu]
theorem findK_spec {c:Ctx}{t:TypeId}{ks vs:Sh}(h:keyT P t ks=true){l:List (ks.Den×vs.Den)}{es:List MapEntry}{kk:ks.Den}{kv:Value}(hk:RepD c ks kk [kv])
    (hl:MEs (fun k v=>RepD c ks k [v]) (RepV c vs) l es):
    (∃ j e,(∀ w,(Instr.findKey t kv es).run P w= .ok (some (j,e.val)) w)∧es[j]? =some e∧Instr.sameBits 10000 e.key kv=true∧hasK ks l kk=true∧(∀ d,RepV c vs (getK ks l kk d) e.val)∧
        (∀ v w,RepV c vs v w→MEs (fun k v=>RepD c ks k [v]) (RepV c vs) (putK ks l kk v) (es.modify j fun e=>{e with key:=kv,val:=w}))∧MEs (fun k v=>RepD c ks k [v]) (RepV c vs) (delK ks l kk) (es.eraseIdx j))∨
    ((∀ w,(Instr.findKey t kv es).run P w= .ok none w)∧hasK ks l kk=false∧(∀ d,getK ks l kk d=d)∧(∀ v,putK ks l kk v=l++[(kk,v)])∧delK ks l kk=l):=by
  rcases keyT_cases h with ⟨k,k',hu,rfl⟩|⟨hu,rfl⟩
  · have key:=find_spec (K:=Int) (kind:= .int k') (kk:=kk) (kv:=kv) (RK:=fun n v=>RepD c (.int k) n [v]) (RV:=RepV c vs) hk (fun p w hp=>by
        have e1:kv= .int k kk:=by simpa [RepD] using hk
        have e2:w= .int k p:=by simpa [RepD] using hp
        subst e1 e2;simp[Instr.sameNow]) (fun p w hp he=>by
        have e1:kv= .int k kk:=by simpa [RepD] using hk
        have e2:w= .int k p:=by simpa [RepD] using hp
        subst e1 e2
        rw[beq_iff_eq] at he;subst he;simp[Instr.sameBits]) l es 0 hl
    rcases key with ⟨j,e,g1,g2⟩|⟨g1,g2⟩
    · refine .inl ⟨j,e,fun w=> ?_,g2⟩
      simp[Instr.findKey,run_underlying_ok hu,g1]
    · refine .inr ⟨fun w=> ?_,g2⟩
      simp[Instr.findKey,run_underlying_ok hu,g1]
  · have key:=find_spec (K:=ByteArray) (kind:= .string) (kk:=kk) (kv:=kv) (RK:=fun n v=>RepD c .str n [v]) (RV:=RepV c vs) hk (fun p w hp=>by
        have e1:kv= .string kk:=by simpa [RepD] using hk
        have e2:w= .string p:=by simpa [RepD] using hp
        subst e1 e2;rfl) (fun p w hp he=>by
        have e1:kv= .string kk:=by simpa [RepD] using hk
        have e2:w= .string p:=by simpa [RepD] using hp
        subst e1 e2
        have he2: @BEq.beq ByteArray _ kk p=true:=he
        have he':kk=p:=ba_eq he2
        subst he'
        show(@BEq.beq ByteArray _ kk kk)=true
        exact he2) l es 0 hl
    rcases key with ⟨j,e,g1,g2⟩|⟨g1,g2⟩
    · refine .inl ⟨j,e,fun w=> ?_,g2⟩
      simp[Instr.findKey,run_underlying_ok hu,g1]
    · refine .inr ⟨fun w=> ?_,g2⟩
      simp[Instr.findKey,run_underlying_ok hu,g1]
theorem down_one {c:Ctx}{s:Sh}{a:AV}{d:s.Den}{v:Value}(h:down s [a]=some (d,[]))(hv:Rep c a v):RepD c s d [v]:=by
  have:=down_all (RepL.one hv) h
  exact this
theorem valA_rep {c:Ctx}{s:Sh}{d:s.Den}{v:Value}(h:RepV c s d v):Rep c (valA s d) v:=by
  cases s with
  | int k => rcases h with ⟨h1, _⟩ | ⟨_, h2⟩
             · cases h1
             · have:v= .int k d:=by simpa [RepD] using h2
               exact this
  | bool => rcases h with ⟨h1, _⟩ | ⟨_, h2⟩
            · cases h1
            · have:v= .bool d:=by simpa [RepD] using h2
              exact this
  | str => rcases h with ⟨h1, _⟩ | ⟨_, h2⟩
           · cases h1
           · have:v= .string d:=by simpa [RepD] using h2
             exact this
  | unit => rcases h with ⟨_, cs, h2, h3⟩ | ⟨h1, _⟩
            · exact⟨cs,h2,h3⟩
            · cases h1
  | pair a b => rcases h with ⟨_, cs, h2, h3⟩ | ⟨h1, _⟩
                · exact⟨cs,h2,up_rep (.pair a b) h3⟩
                · cases h1
  | sl e => rcases h with ⟨h1, _⟩ | ⟨_, h2⟩
            · cases h1
            · obtain⟨v',h3,h4⟩:=h2
              have:v=v':=by simpa using h3
              subst this;exact h4
theorem readV_rep {c:Ctx}{s:Sh}{a:AV}{d:s.Den}{v:Value}(h:readV s a=some d)(hv:Rep c a v):RepV c s d v:=by
  unfold readV at h
  split at h
  · rename_i hs
    split at h
    · split at h
      · rename_i d' hd
        cases h
        obtain⟨vs,rfl,h2⟩:=hv
        exact .inl ⟨hs,vs,rfl,down_all h2 hd⟩
      · cases h
    · cases h
  · rename_i hs
    split at h
    · rename_i d' hd
      cases h
      exact .inr ⟨hs,down_one hd hv⟩
    · cases h
theorem zeroAgg_rep {c:Ctx}{t:TypeId}{s:Sh}{zs:List AV}{d:s.Den}(hz:zeroT P t=some zs)(ha:zeroAgg P t=some s.isAgg)(hd:down s zs=some (d,[])):
    ∃i z,P.info? t=some i∧i.zero=some z∧RepV c s d z:=by
  obtain⟨i,z,h1,h2,h3⟩:=zeroT_rep (c:=c) hz
  refine⟨i,z,h1,h2, ?_⟩
  unfold zeroAgg at ha
  rw[h1] at ha
  dsimp only at ha
  rw[h2] at ha
  cases z with
  |agg cs=>
    simp only[Option.some.injEq] at ha
    exact .inl ⟨ha.symm,cs,rfl,down_all h3 hd⟩
  |_=>
    simp only[Option.some.injEq] at ha
    exact .inr ⟨ha.symm,down_all h3 hd⟩
theorem map_at {c:Ctx}{H:Heap}{r:Nat}{ks vs:Sh}{l:List (ks.Den×vs.Den)}{v:Value}(hh:HRel c H.at)(hat:H.at r= .mapo ks vs l)(hv:Rep c (.mp r) v):
    ∃b es clk,v= .map (some b)∧c.js r=some (.real b 0 0 0 0)∧c.w.heap[b]? =some (.map es clk)∧MEs (fun k v=>RepD c ks k [v]) (RepV c vs) l es.toList:=by
  obtain⟨b,o,w,n,z,h1,rfl⟩:=hv
  have ho:=hh.obj r
  rw[hat] at ho
  obtain⟨b',es,clk,h2,h3,h4,h5⟩:=ho
  rw[h1] at h2;simp only[Option.some.injEq,Loc.real.injEq] at h2
  obtain⟨rfl,rfl,rfl,rfl,rfl⟩:=h2
  exact⟨b,es,clk,rfl,h1,h3,MEs.of (by simpa using h4) fun i hi=>by simpa using h5 i hi⟩
theorem run_getObj_ok {b:Nat}{es:Array MapEntry}{clk:Nat}{w:World}(h:w.heap[b]? =some (.map es clk)):(getObj b).run P w= .ok (.map es clk) w:=by
  simp[getObj,Sem.run,h]
theorem lookupA_sound {α:Type}{t:TypeId}{x ix:AV}{ok:Bool}{H:Heap}{k:Kont α}{r:α}(h:lookupA P t x ix ok H k=some r):
    ∃v,k v H=some r∧ ∀c vx vi,Rep c x vx→Rep c ix vi→HRel c H.at→ ∃v',(Instr.lookup t vx vi ok).run P c.w= .ok v' c.w∧Rep c v v':=by
  unfold lookupA at h
  split at h
  case h_2=>cases h
  rename_i kt et rr hu
  split at h
  case h_2=>cases h
  rename_i ks vs l hat
  split at h
  case h_2=>cases h
  rename_i zs kk hz hd
  split at h
  case isFalse=>cases h
  rename_i hc
  obtain⟨hk,hza⟩:=hc
  split at h
  case h_2=>cases h
  rename_i d hdz
  have run: ∀(c:Ctx) (vx vi:Value),Rep c (.mp rr) vx→Rep c ix vi→HRel c H.at→ ∃v',RepV c vs (getK ks l kk d) v'∧
      (Instr.lookup t vx vi ok).run P c.w= .ok (if ok then .tuple #[v', .bool (hasK ks l kk)] else v') c.w:=fun c vx vi hx hi hh=>by
    obtain⟨b,es,clk,rfl,h1,h2,h3⟩:=map_at hh hat hx
    obtain⟨i,z,g1,g2,g3⟩:=zeroAgg_rep (c:=c) hz hza hdz
    have hkv:=down_one hd hi
    rcases findK_spec hk hkv h3 with ⟨j,e,f1,f2,f3,f4,f5,f6,f7⟩|⟨f1,f2,f3,f4,f5⟩
    · refine⟨e.val,f5 d, ?_⟩
      simp only[Instr.lookup,Sem.run_bind,run_underlying_ok hu,Result.andThen_ok,run_getObj_ok h2,Sem.run_pure]
      rw[show(10000:Nat)=9999+1 from rfl,run_checkKey_ok hk]
      simp only[Result.andThen_ok,f1,Sem.run_pure,f4]
      cases ok<;>rfl
    · refine⟨z,by rw[f3];exact g3, ?_⟩
      simp only[Instr.lookup,Sem.run_bind,run_underlying_ok hu,Result.andThen_ok,run_getObj_ok h2,Sem.run_pure]
      rw[show(10000:Nat)=9999+1 from rfl,run_checkKey_ok hk]
      simp only[Result.andThen_ok,f1,Sem.run_bind,Sem.run_pure,run_zeroValue_ok g1 g2,f2]
  cases ok with
  |true=>
    refine⟨_,h,fun c vx vi hx hi hh=> ?_⟩
    obtain⟨v',h1,h2⟩:=run c vx vi hx hi hh
    exact⟨_,h2,_,rfl, .cons (valA_rep h1) (.one rfl)⟩
  |false=>
    refine⟨_,h,fun c vx vi hx hi hh=> ?_⟩
    obtain⟨v',h1,h2⟩:=run c vx vi hx hi hh
    exact⟨_,h2,valA_rep h1⟩
theorem run_setObj_ok {b:Nat}{o:Obj}{es:Array MapEntry}{clk:Nat}{w:World}(h:w.heap[b]? =some (.map es clk)):(setObj b o).run P w= .ok () (setB w b o):=by
  simp[setObj,Sem.run,setB,h]
theorem MEs.mono {c c':Ctx}(h:Later c c'){ks vs:Sh}: ∀{l:List (ks.Den×vs.Den)} {es:List MapEntry},MEs (fun k v=>RepD c ks k [v]) (RepV c vs) l es→MEs (fun k v=>RepD c' ks k [v]) (RepV c' vs) l es
  |[],_,hv=>hv
  |_::_,_,⟨e,es',h1,h2,h3,h4⟩=>⟨e,es',h1,RepD.mono h ks h2,h3.mono h,MEs.mono h h4⟩
theorem move_map {c:Ctx}{H:Heap}(hh:HRel c H.at){r b:Nat}{ks vs:Sh}{l l':List (ks.Den×vs.Den)}(hj:c.js r=some (.real b 0 0 0 0))(hat:H.at r= .mapo ks vs l)(es:Array MapEntry)(clk:Nat)
    {es0:Array MapEntry} {clk0:Nat} (hb:c.w.heap[b]? =some (.map es0 clk0)) (hm:MEs (fun k v=>RepD c ks k [v]) (RepV c vs) l' es.toList):
    HRel ⟨setB c.w b (.map es clk),c.I,c.js⟩ (Heap.at (H.set r (.mapo ks vs l')))∧Step c H.at ⟨setB c.w b (.map es clk),c.I,c.js⟩ (Heap.at (H.set r (.mapo ks vs l')))∧Stay c ⟨setB c.w b (.map es clk),c.I,c.js⟩:=by
  refine move_set hh hj (by rw[hat];rfl) (lt_of_at hat (by simp)) _ _ rfl fun hl=> ?_
  have hm':=MEs.mono hl hm
  refine⟨b,es,clk,hj, ?_,by simpa using hm'.len,fun i hi=>by simpa using hm'.get i hi⟩
  show(setB c.w b _).heap[b]? =_
  rw[setB_heap,if_pos rfl,if_pos (lt_of_heap hb)]
theorem mapPutA_sound {α:Type}{t:TypeId}{m key x:AV}{H:Heap}{k:Kont α}{r:α}(h:mapPutA P t m key x H k=some r):
    ∃H',k (.lit undef) H'=some r∧ ∀c vm vk vx,Rep c m vm→Rep c key vk→Rep c x vx→HRel c H.at→Fresh c H.length→
      ∃c',(Instr.mapUpdate t vm vk vx).run P c.w= .ok () c'.w∧HRel c' H'.at∧Fresh c' H'.length∧Step c H.at c' H'.at∧Stay c c':=by
  unfold mapPutA at h
  split at h
  case h_2=>cases h
  rename_i kt et rr hu
  split at h
  case h_2=>cases h
  rename_i ks vs l hat
  split at h
  case h_2=>cases h
  rename_i kk d hd hx
  split at h
  case isFalse=>cases h
  rename_i hk
  refine⟨_,h,fun c vm vk vx hm hkey hxv hh hf=> ?_⟩
  obtain⟨b,es,clk,rfl,h1,h2,h3⟩:=map_at hh hat hm
  have hkv:=down_one hd hkey
  have hval:=readV_rep hx (typed_rep hxv)
  rcases findK_spec hk hkv h3 with ⟨j,e,f1,f2,f3,f4,f5,f6,f7⟩|⟨f1,f2,f3,f4,f5⟩
  · obtain⟨g1,g2,g3⟩:=move_map (l':=putK ks l kk d) hh h1 hat (es.modify j fun e=>{e with key:=vk,val:=vx}) clk h2 (by
      rw[Array.toList_modify];exact f6 d vx hval)
    refine⟨_, ?_,g1,fun q hq=>hf q (by simpa using hq),g2,g3⟩
    simp only[Instr.mapUpdate,Sem.run_bind,run_underlying_ok hu,Result.andThen_ok,run_getObj_ok h2]
    rw[show(10000:Nat)=9999+1 from rfl,run_checkKey_ok hk]
    simp only[Result.andThen_ok,f1]
    have e1:((es[j]?).map (·.key)).getD vk=e.key:=by
      rw[← Array.getElem?_toList,f2];rfl
    simp only[e1,Instr.keyThatStays,f3,if_true,Sem.run_bind,Sem.run_pure,Result.andThen_ok]
    rw[run_setObj_ok h2]
  · obtain⟨g1,g2,g3⟩:=move_map (l':=putK ks l kk d) hh h1 hat (es.push {key:=vk,val:=vx,born:=clk}) (clk+1) h2 (by
      rw[Array.toList_push,f4];exact h3.snoc hkv hval)
    refine⟨_, ?_,g1,fun q hq=>hf q (by simpa using hq),g2,g3⟩
    simp only[Instr.mapUpdate,Sem.run_bind,run_underlying_ok hu,Result.andThen_ok,run_getObj_ok h2]
    rw[show(10000:Nat)=9999+1 from rfl,run_checkKey_ok hk]
    simp only[Result.andThen_ok,f1]
    rw[run_setObj_ok h2]
theorem mapDelA_sound {α:Type}{t:TypeId}{ts':List TypeId}{m key:AV}{H:Heap}{k:Kont α}{r:α}(h:mapDelA P t m key H k=some r):
    ∃H',k (.lit (.tuple #[])) H'=some r∧ ∀c vm vk ty,Rep c m vm→Rep c key vk→HRel c H.at→Fresh c H.length→
      SemRes P (Builtin.delete_ (t::ts').toArray ty #[vm,vk]) c H (.lit (.tuple #[])) H':=by
  unfold mapDelA at h
  split at h
  case h_2=>cases h
  rename_i kt et rr hu
  split at h
  case h_2=>cases h
  rename_i ks vs l hat
  split at h
  case h_2=>cases h
  rename_i kk hd
  split at h
  case isFalse=>cases h
  rename_i hk
  have hck: ∀b v w,(Instr.checkKey b 10000 kt v).run P w= .ok () w:=fun b v w=>run_checkKey_ok hk b 9999 v w
  refine⟨_,h,fun c vm vk ty hm hkey hh hf=> ?_⟩
  obtain⟨b,es,clk,rfl,h1,h2,h3⟩:=map_at hh hat hm
  have hkv:=down_one hd hkey
  rcases findK_spec hk hkv h3 with ⟨j,e,f1,f2,f3,f4,f5,f6,f7⟩|⟨f1,f2,f3,f4,f5⟩
  · have hj:j<es.size:=by
      have:=(List.getElem?_eq_some_iff.1 f2).1
      simpa using this
    obtain⟨g1,g2,g3⟩:=move_map (l':=delK ks l kk) hh h1 hat (es.eraseIdxIfInBounds j) clk h2 (by
      rw[Array.eraseIdxIfInBounds,dif_pos hj,Array.toList_eraseIdx];exact f7)
    refine⟨.tuple #[],_, ?_,rfl,g1,fun q hq=>hf q (by simpa using hq),g2,g3⟩
    simp[Builtin.delete_,run_underlying_ok hu,run_getObj_ok h2,hck,f1,run_setObj_ok h2]
  · obtain⟨g1,g2,g3⟩:=move_map (l':=delK ks l kk) hh h1 hat es clk h2 (by rw[f5];exact h3)
    refine⟨.tuple #[],_, ?_,rfl,g1,fun q hq=>hf q (by simpa using hq),g2,g3⟩
    simp[Builtin.delete_,run_underlying_ok hu,run_getObj_ok h2,hck,f1,run_setObj_ok h2]
theorem makeMapA_sound {α:Type}{t:TypeId}{x:Option AV}{H:Heap}{k:Kont α}{r:α}(h:makeMapA P t x H k=some r):
    ∃v new,x=none∧k v (H++new)=some r∧ ∀c,HRel c H.at→Fresh c H.length→SemRes P (Instr.makeMap t none) c H v (H++new):=by
  unfold makeMapA at h
  split at h
  case h_2=>cases h
  rename_i kt et hu
  split at h
  case h_2=>cases h
  rename_i ks vs hks hvs
  split at h
  case isFalse=>cases h
  refine⟨_,_,rfl,h,fun c hh hf=> ?_⟩
  obtain⟨g1,g2,g3,g4⟩:=move_alloc hh hf (.map #[] 0) (.mapo ks vs []) 0 0 0 0 (fun hl=>
    ⟨c.w.heap.size, #[],0,upd_eq,by show(c.w.heap.push _)[_]? =_;simp,rfl,fun i hi=>by simp at hi⟩)
  refine⟨.map (some c.w.heap.size),_, ?_,⟨_,_,_,_,_,upd_eq,rfl⟩,g1,g4,g2,g3⟩
  simp only[Instr.makeMap,Sem.run_bind,run_newObj,Sem.run_pure,Result.andThen_ok];rfl
end Go.TX
