/- Operations upon the memory that their operands reach; the operations of a region in the order of the text. -/
import Derived.Test.YtgchjlbhmfbgaaaGreatDoorTxM
namespace Go.TX
set_option linter.unusedSectionVars false
variable [Globals]
variable {P:Program}
def updF (Hf:HF)(F:List Nat)(lo:Nat)(H':Heap):HF:=fun r=>if r∈F∨(lo≤r∧r<H'.length) then H'.at r else Hf r
def LocRes (P:Program)(o:Oper)(ρ:Operand→AV)(F:List Nat)(H:Heap)(v:AV)(H':Heap):Prop:=
 ∀(a:Act) (c:Ctx) (Hf:HF),(∀ x∈o.op.operands,Rep c (ρ x) (a.eval x))→HRel c Hf→(∀ r∈F,Hf r=H.at r)→
  (∀ r,H.length≤r→r<H'.length→c.js r=none∧Hf r= .gone)→ ∀(next:Act→World→Prop) (Q:Exit→Act→World→Prop),
   (∀ v' c',Rep c' v v'→HRel c' (updF Hf F H.length H')→Step c Hf c' (updF Hf F H.length H')→Stay c c'→
    (∀ r,¬ (r∈F∨(H.length≤r∧r<H'.length))→c'.js r=c.js r)→next (a.put o.dst v') c'.w)→o.wp P a c.w next Q
mutual
theorem ren_ren {f g:Nat→Nat}:(a:AV)→(∀ r∈refs a,g (f r)=r)→ren g (ren f a)=a
 | .any,_=>rfl
 | .lit _,_=>rfl
 | .agg l,h=>by simp only[ren];rw[renL_renL l h]
 | .tup l,h=>by simp only[ren];rw[renL_renL l h]
 | .sl _ _ _,_=>rfl
 | .ptr r _ _,h=>by simp only[ren];rw[h r (by simp[refs])]
 | .pel _ _ _ _,_=>rfl
 | .msl r _ _,h=>by simp only[ren];rw[h r (by simp[refs])]
 | .clo _ a b,h=>by simp only[ren];rw[renL_renL a fun r hr=>h r (by simp[refs,hr]),renL_renL b fun r hr=>h r (by simp[refs,hr])]
 | .mp r,h=>by simp only[ren];rw[h r (by simp[refs])]
theorem renL_renL {f g:Nat→Nat}:(l:List AV)→(∀ r∈refsL l,g (f r)=r)→renL g (renL f l)=l
 |[],_=>rfl
 |a::l,h=>by simp only[renL];rw[ren_ren a fun r hr=>h r (by simp[refsL,hr]),renL_renL l fun r hr=>h r (by simp[refsL,hr])]
end
theorem renO_renO {f g:Nat→Nat}(x:AObj)(h: ∀r∈refsO x,g (f r)=r):renO g (renO f x)=x:=by
 cases x with
 |box l=>simp only[renO];rw[renL_renL l h]
 |_=>rfl
theorem back_idx {H:Heap}{F:List Nat}{r:Nat}(h:r∈F):back H F (F.idxOf r)=r:=by
 unfold back;rw[if_pos (idx_lt h),List.getD_eq_getElem?_getD,idx_get h];rfl
theorem refs_mem {ρ:Operand→AV}: ∀(l:List Operand) (x:Operand),x∈l→ ∀r∈refs (ρ x),r∈refsL (l.map ρ)
 |y::l,x,hx,r,hr=>by
  simp only[List.map_cons,refsL,List.mem_append]
  rcases List.mem_cons.1 hx with rfl|hx
  ·exact .inl hr
  ·exact .inr (refs_mem l x hx r hr)
theorem opW_sound {α:Type}{E:Env}(hE:E.OK P){ρ:Operand→AV}{o:Oper}{H:Heap}{k:List Nat→AV→Heap→Option α}{r:α}(h:opW P E ρ o H k=some r):
  ∃F v H',k F v H'=some r∧LocRes P o ρ F H v H'∧H.length≤H'.length∧(∀ r∈F,r<H.length)∧(∀ r,r<H.length→r∉F→H'.at r=H.at r)∧
   (Op.mut o.op=false→ ∀r,r<H.length→H'.at r=H.at r):=by
 unfold opW at h
 dsimp only at h
 generalize hF:reach H (H.length+1) (addNew [] (refsL (o.op.operands.toList.map ρ)))=F at h
 split at h
 case isFalse=>simp at h
 rename_i hok
 simp only[Bool.and_eq_true,List.all_eq_true,List.contains_iff_mem] at hok
 obtain⟨hcl,hrs⟩:=hok
 have hc:=ClosedL.of hcl
 obtain⟨v,H1,h1,h2,h3⟩:=opA_sound hE h
 split at h1
 case isFalse=>simp at h1
 rename_i hl
 have hlen:=putBack_len (back H F) H F H1 hl
 refine⟨F,_,_,h1,fun a c Hf hop hh ha hfr next Q hk=> ?_,by rw[hlen];omega,hc.lt,fun r hr hn=> ?_,fun hm r hr=> ?_⟩
 ·rw[hlen] at hfr
  obtain⟨hL,hFL,hren,_⟩:=local_rel hc hh ha
  refine h2 a (ctxL c F) (fun x hx=>rep_ren hren _ (fun q hq=>hrs q (refs_mem _ x (by simpa using hx) q hq)) (hop x hx)) hL hFL next Q fun v' c1 g1 g2 g3 g4 g5=> ?_
  obtain⟨c',e1,e2,e3,e4,e5,e6⟩:=wrap hc hh ha hl hfr g2 g3 g4 g5
  rw[← e1]
  have hup:(fun r=>if r∈F∨(H.length≤r∧r<H.length+(H1.length-F.length)) then (putBack (back H F) H F H1).at r else Hf r)=updF Hf F H.length (putBack (back H F) H F H1):=by
   funext q;unfold updF;rw[hlen]
  rw[hup] at e2 e3
  exact hk v' c' (rep_ren e5 _ (fun _ _=>trivial) g1) e2 e3 e4 (fun q hq=>e6 q (by rw[hlen] at hq;exact hq))
 ·rw[putBack_at _ _ _ _ hc.nodup hc.lt hl,if_neg hn,if_neg (by omega)]
 ·obtain⟨new,hnew⟩:=h3 hm
  rw[putBack_at _ _ _ _ hc.nodup hc.lt hl]
  split
  ·rename_i hrF
   have:H1.at (F.idxOf r)=renO F.idxOf (H.at r):=by
    rw[hnew]
    have hlt:=idx_lt hrF
    have hl1:(local_ H F).length=F.length:=by simp[local_]
    simp only[Heap.at,List.getD_eq_getElem?_getD]
    rw[List.getElem?_append_left (by omega)]
    have:=local_at H F (F.idxOf r)
    simp only[Heap.at,List.getD_eq_getElem?_getD] at this
    rw[this,idx_get hrF]
   rw[this]
   exact renO_renO _ fun q hq=>back_idx (hc.closed r hrF q hq)
  ·rw[if_neg (by omega)]
theorem updF_eq {H H':Heap}{F:List Nat}(_hl:H.length≤H'.length)(hn: ∀r,r<H.length→r∉F→H'.at r=H.at r):updF H.at F H.length H'=H'.at:=by
 funext r
 unfold updF
 split
 ·rfl
 ·rename_i h
  by_cases h1:r<H.length
  ·exact(hn r h1 fun hf=>h (.inl hf)).symm
  ·rw[at_ge (by omega),at_ge]
   rcases Nat.lt_or_ge r H'.length with h2|h2
   ·exact absurd (.inr ⟨by omega,h2⟩) h
   ·exact h2
theorem LocRes.seq {o:Oper}{ρ:Operand→AV}{F:List Nat}{H H':Heap}{v:AV}(h:LocRes P o ρ F H v H')(hl:H.length≤H'.length)(hn: ∀r,r<H.length→r∉F→H'.at r=H.at r)(hlt: ∀r∈F,r<H.length):
  OpRes P o ρ H v H':=by
 intro a c hop hh hf next Q hk
 refine h a c H.at hop hh (fun _ _=>rfl) (fun r h1 _=>⟨hf r h1,at_ge h1⟩) next Q fun v' c' g1 g2 g3 g4 g5=> ?_
 rw[updF_eq hl hn] at g2 g3
 refine hk v' c' g1 g2 (fun r hr=> ?_) g3 g4
 rw[g5 r (fun h=>h.elim (fun h=>by have:=hlt r h;omega) fun h=>by omega)]
 exact hf r (by omega)
structure Slots (c:Ctx)(a:Act)(s:List AV):Prop where
 size:a.tmps.size=s.length
 rep: ∀t v,s[t]? =some v→Rep c v (a.tmps.getD t undef)
theorem Slots.mono {c c':Ctx}{a:Act}{s:List AV}(hl:Later c c')(h:Slots c a s):Slots c' a s:=⟨h.size,fun t v ht=>Rep.mono hl _ (h.rep t v ht)⟩
theorem Slots.put {c:Ctx}{a:Act}{s:List AV}(h:Slots c a s){d:Option Tmp}{v:AV}{v':Value}(hv:Rep c v v'):Slots c (a.put d v') (putS s d v):=by
 cases d with
 |none=>exact h
 |some d=>
  refine⟨by simp[Act.put,putS,h.size],fun t u ht=> ?_⟩
  simp only[putS,List.getElem?_set] at ht
  simp only[Act.put,Array.getD_eq_getD_getElem?]
  split at ht
  ·rename_i hdt
   subst hdt
   split at ht
   ·rename_i hlt
    simp only[Option.some.injEq] at ht;subst ht
    rw[Array.getElem?_setIfInBounds_self_of_lt (by rw[h.size];exact hlt)]
    exact hv
   ·simp at ht
  ·rename_i hdt
   rw[Array.getElem?_setIfInBounds_ne hdt,← Array.getD_eq_getD_getElem?]
   exact h.rep t u ht
theorem Slots.eval {c:Ctx}{a:Act}{s:List AV}(h:Slots c a s)(hg:Glob c)(x:Operand):Rep c (evalA s x) (a.eval x):=evalA_rep hg h.rep x
def GuardOk (all:Array Oper)(o:Oper)(s:List AV)(ex:Bool):Prop:=
 (o.guard=none∧ex=true)∨ ∃g want t u,o.guard=some (g,want)∧(all[g]?).bind (·.dst)=some t∧s[t]? =some (.lit u)∧
  ((∃ b,u= .bool b∧ex=(b==want))∨((∃ vs,u= .tuple vs)∧ex=false))
theorem GuardOk.wanted {all:Array Oper}{o:Oper}{s:List AV}{ex:Bool}(h:GuardOk all o s ex){a:Act}
  (hs: ∀t u,t∈o.looksAt all→s[t]? =some (.lit u)→a.tmps[t]? =some u):Region.wanted o (yielded all a.tmps)=ex:=by
 rcases h with ⟨h1,h2⟩|⟨g,want,t,u,h1,h2,h3,h4⟩
 ·simp[Region.wanted,h1,h2]
 ·have hy:yielded all a.tmps g=match a.tmps[t]? with|some (.bool b)=>some b|_=>none:=by
   unfold yielded;rw[h2];rfl
  have hu:=hs t u (by unfold Oper.looksAt;rw[h1];simp only[h2];simp) h3
  simp only[Region.wanted,h1,hy,hu]
  rcases h4 with ⟨b,rfl,rfl⟩|⟨⟨vs,rfl⟩,rfl⟩
  ·cases b<;>cases want<;>rfl
  ·rfl
theorem Slots.lit {c:Ctx}{a:Act}{s:List AV}(hs:Slots c a s){t:Nat}{u:Value}(hu:s[t]? =some (.lit u)):a.tmps[t]? =some u:=by
 have h1:=hs.rep t _ hu
 have hlt:t<a.tmps.size:=by rw[hs.size];exact(List.getElem?_eq_some_iff.1 hu).1
 rw[Array.getD_eq_getD_getElem?,Array.getElem?_eq_getElem hlt] at h1
 rw[Array.getElem?_eq_getElem hlt]
 exact congrArg some h1
theorem set_same {α:Type}{l:List α}{t:Nat}{x:α}(h:l[t]? =some x):l.set t x=l:=by
 apply List.ext_getElem?
 intro q
 rw[List.getElem?_set]
 split
 ·rename_i e;subst e
  rw[if_pos (List.getElem?_eq_some_iff.1 h).1,h]
 ·rfl
theorem guardA_sound {α:Type}{all:Array Oper}{o:Oper}{s:List AV}{yes no:List AV→Option α}{r:α}(h:guardA all o s yes no=some r):
  (GuardOk all o s true∧yes s=some r)∨(GuardOk all o s false∧no s=some r):=by
 unfold guardA at h
 split at h
 ·rename_i hg
  exact .inl ⟨.inl ⟨hg,rfl⟩,h⟩
 ·rename_i g want hg
  split at h
  ·simp at h
  rename_i t ht
  split at h
  ·rename_i b hb
   rcases cond_some h with ⟨rfl,h⟩|⟨rfl,h⟩<;>rw[set_same hb] at h<;>split at h<;>rename_i hwant
   ·exact .inl ⟨.inr ⟨g,want,t,_,hg,ht,hb, .inl ⟨true,rfl,by simp[hwant]⟩⟩,h⟩
   ·exact .inr ⟨.inr ⟨g,want,t,_,hg,ht,hb, .inl ⟨true,rfl,by simpa using hwant⟩⟩,h⟩
   ·exact .inr ⟨.inr ⟨g,want,t,_,hg,ht,hb, .inl ⟨false,rfl,by simp[hwant]⟩⟩,h⟩
   ·exact .inl ⟨.inr ⟨g,want,t,_,hg,ht,hb, .inl ⟨false,rfl,by simpa using hwant⟩⟩,h⟩
  ·rename_i vs hb
   exact .inr ⟨.inr ⟨g,want,t,_,hg,ht,hb, .inr ⟨⟨vs,rfl⟩,rfl⟩⟩,h⟩
  ·simp at h
structure Sim (a:Act)(c:Ctx)(st:St):Prop where
 slots:Slots c a st.s
 heap:HRel c st.h.at
 fresh:Fresh c st.h.length
def OpsRes (P:Program)(all:Array Oper)(l:List Oper)(st st':St):Prop:=
 ∀a c,Sim a c st→ ∀Q:Exit→Act→World→Prop,
  (∀ a' c',Sim a' c' st'→Step c st.h.at c' st'.h.at→Stay c c'→a'.defers=a.defers→Q .normal a' c'.w)→wpList P all Q l a c.w
theorem put_defers (a:Act)(d:Option Tmp)(v:Value):(a.put d v).defers=a.defers:=by cases d<;>rfl
theorem evOps_sound {α:Type}{E:Env}(hE:E.OK P)(all:Array Oper): ∀(l:List Oper) (st:St) (k:St→Option α) (r:α),evOps P E all l st k=some r→
  ∃st',k st'=some r∧OpsRes P all l st st'
 |[],st,k,r,h=>⟨st,h,fun a c hs Q hk=>by unfold wpList;exact hk a c hs (.refl _ _) (.refl _) rfl⟩
 |o::l,st,k,r,h=>by
  unfold evOps at h
  rcases guardA_sound h with ⟨hg,h⟩|⟨hg,h⟩
  ·have hw: ∀{c:Ctx} {a:Act},Slots c a st.s→Region.wanted o (yielded all a.tmps)=true:=fun hs=>hg.wanted fun t u _ hu=>hs.lit hu
   have step: ∀(v:AV) (H:Heap),evOps P E all l ⟨putS st.s o.dst v,H⟩ k=some r→OpRes P o (evalA st.s) st.h v H→ ∃st',k st'=some r∧OpsRes P all (o::l) st st':=fun v H h1 h2=>by
    obtain⟨st',h3,h4⟩:=evOps_sound hE all l _ k r h1
    refine⟨st',h3,fun a c hs Q hk=> ?_⟩
    unfold wpList
    rw[if_pos (hw hs.slots)]
    refine .inl (h2 a c (fun x _=>hs.slots.eval hs.heap.glob x) hs.heap hs.fresh _ Q fun v' c' g1 g2 g3 g4 g5=> ?_)
    refine h4 _ c' ⟨(hs.slots.mono (Later.of_step hs.heap g4 g5)).put g1,g2,g3⟩ Q fun a2 c2 e1 e2 e3 e4=> ?_
    exact hk a2 c2 e1 (g4.trans e2) (g5.trans e3) (e4.trans (put_defers _ _ _))
   split at h
   ·obtain⟨F,v,H',h1,h2,h3,h4,h5,_⟩:=opW_sound hE h
    exact step v H' h1 (h2.seq h3 h5 h4)
   ·obtain⟨v,H',h1,h2,_⟩:=opA_sound hE h
    exact step v H' h1 h2
  ·have hw: ∀{c:Ctx} {a:Act},Slots c a st.s→Region.wanted o (yielded all a.tmps)=false:=fun hs=>hg.wanted fun t u _ hu=>hs.lit hu
   obtain⟨st',h3,h4⟩:=evOps_sound hE all l _ k r h
   refine⟨st',h3,fun a c hs Q hk=> ?_⟩
   unfold wpList
   rw[if_neg (by rw[hw hs.slots];simp)]
   refine h4 _ c ⟨hs.slots.put (v:=skipV) (show Rep c skipV undef from rfl),hs.heap,hs.fresh⟩ Q fun a2 c2 e1 e2 e3 e4=> ?_
   exact hk a2 c2 e1 e2 e3 (e4.trans (put_defers _ _ _))
end Go.TX
