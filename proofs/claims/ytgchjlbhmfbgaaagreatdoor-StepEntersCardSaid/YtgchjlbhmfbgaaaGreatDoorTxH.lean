/- Slices are cut, made, appended to and copied as the evaluator says. -/
import Derived.Test.YtgchjlbhmfbgaaaGreatDoorTxG
namespace Go.TX
set_option linter.unusedSectionVars false
variable [Globals]
variable {P:Program}
theorem run_sliceBound_ok {k:IntKind}{i:Int}{y:Nat}{code:BoundsCode}{w:World}(h:0≤i∧i≤y):(Instr.sliceBound (.int k i) y code).run P w= .ok i.toNat w:=by
 simp[Instr.sliceBound,asIntOf,h]
def RepO (c:Ctx)(a:Option AV)(v:Option Value):Prop:=
 match a,v with
 |none,none=>True
 |some a,some v=>Rep c a v
 |_,_=>False
theorem RepO.none {c:Ctx}{v:Option Value}(h:RepO c none v):v=none:=by cases v<;>first|rfl|exact h.elim
theorem RepO.some {c:Ctx}{a:AV}{v:Option Value}(h:RepO c (some a) v): ∃u,v=some u∧Rep c a u:=by cases v<;>first|exact h.elim|exact⟨_,rfl,h⟩
theorem cutA_sound {n:Nat}{lo hi mx:Option AV}{α:Type}{k:Nat→Nat→Option Nat→Option α}{r:α}(h:cutA n lo hi mx k=some r):
  ∃l hh m,k l hh m=some r∧l≤hh∧hh≤n∧(∀ x,m=some x→hh≤x∧x≤n)∧(m.isSome=mx.isSome)∧
   ∀(c:Ctx) (isS:Bool) (cap:Nat) (vlo vhi vmx:Option Value),n≤cap→RepO c lo vlo→RepO c hi vhi→RepO c mx vmx→
    (Instr.sliceBounds isS n cap vlo vhi vmx).run P c.w= .ok (l,hh,m.getD cap) c.w:=by
 unfold cutA at h
 have bl: ∀l,boundA lo 0=some l→ ∀(c:Ctx) (vlo:Option Value),RepO c lo vlo→(vlo=none∧l=0)∨ ∃kd,vlo=some (.int kd l):=fun l hl c vlo hv=>by
  unfold boundA at hl
  split at hl
  ·simp at hl;exact .inl ⟨hv.none,hl.symm⟩
  ·rename_i kd n'
   simp only[Option.some.injEq] at hl;subst hl
   obtain⟨v,e,hv⟩:=hv.some
   exact .inr ⟨kd,by rw[e,show v=_ from hv]⟩
  ·simp at hl
 have bh: ∀l,boundA hi n=some l→ ∀(c:Ctx) (vhi:Option Value),RepO c hi vhi→(hi=none∧vhi=none∧l=n)∨ ∃kd,vhi=some (.int kd l):=fun l hl c vhi hv=>by
  unfold boundA at hl
  split at hl
  ·simp at hl;exact .inl ⟨rfl,hv.none,hl.symm⟩
  ·rename_i kd n'
   simp only[Option.some.injEq] at hl;subst hl
   obtain⟨v,e,hv⟩:=hv.some
   exact .inr ⟨kd,by rw[e,show v=_ from hv]⟩
  ·simp at hl
 split at h
 case h_3=>simp at h
 ·rename_i l hh hl hhh
  obtain⟨hb,h⟩:=cond_none h
  simp only[decide_eq_true_eq] at hb
  obtain⟨b1,b2,b3⟩:=hb
  refine⟨_,_,_,h,by omega,by omega,by simp,rfl,fun c isS cap vlo vhi vmx hn r1 r2 r3=> ?_⟩
  rw[r3.none]
  rcases bl _ hl c vlo r1 with ⟨e1,e2⟩|⟨kd,e1⟩<;>rcases bh _ hhh c vhi r2 with ⟨_,e3,e4⟩|⟨kd',e3⟩<;>rw[e1,e3]
  ·subst e2 e4;simp[Instr.sliceBounds]
  ·subst e2;simp[Instr.sliceBounds,run_sliceBound_ok (P:=P) (w:=c.w) (show(0:Int)≤hh∧hh≤(cap:Nat) by omega)]
  ·subst e4;simp[Instr.sliceBounds,run_sliceBound_ok (P:=P) (w:=c.w) (show(0:Int)≤l∧l≤(n:Nat) by omega)]
  ·simp[Instr.sliceBounds,run_sliceBound_ok (P:=P) (w:=c.w) (show(0:Int)≤hh∧hh≤(cap:Nat) by omega),run_sliceBound_ok (P:=P) (w:=c.w) (show(0:Int)≤l∧l≤(hh.toNat:Nat) by omega)]
 ·rename_i l hh kd m hl hhh
  split at h
  case isTrue=>simp at h
  rename_i hhi
  obtain⟨hb,h⟩:=cond_none h
  simp only[decide_eq_true_eq] at hb
  obtain⟨b1,b2,b3,b4⟩:=hb
  refine⟨_,_,_,h,by omega,by omega,by intro x hx;simp at hx;omega,rfl,fun c isS cap vlo vhi vmx hn r1 r2 r3=> ?_⟩
  obtain⟨v,e,hv⟩:=r3.some
  rw[e,show v=_ from hv]
  rcases bh _ hhh c vhi r2 with ⟨e3,_⟩|⟨kd',e3⟩
  ·simp[e3] at hhi
  rcases bl _ hl c vlo r1 with ⟨e1,e2⟩|⟨kd2,e1⟩<;>rw[e1,e3]
  ·subst e2;simp[Instr.sliceBounds,run_sliceBound_ok (P:=P) (w:=c.w) (show(0:Int)≤m∧m≤(cap:Nat) by omega),run_sliceBound_ok (P:=P) (w:=c.w) (show(0:Int)≤hh∧hh≤(m.toNat:Nat) by omega)]
  ·simp[Instr.sliceBounds,run_sliceBound_ok (P:=P) (w:=c.w) (show(0:Int)≤m∧m≤(cap:Nat) by omega),run_sliceBound_ok (P:=P) (w:=c.w) (show(0:Int)≤hh∧hh≤(m.toNat:Nat) by omega),run_sliceBound_ok (P:=P) (w:=c.w) (show(0:Int)≤l∧l≤(hh.toNat:Nat) by omega)]
theorem Holds.cut {α:Type}{w:World}{b o i n:Nat}{R:α→List Value→Prop}{wd:Nat}{l:List α}(h:Holds w b o R wd l)(_hi:i+n≤l.length):
  Holds w b (o+i*wd) R wd ((l.drop i).take n):=by
 obtain⟨cs,ty,fr,h1,h2⟩:=h
 refine⟨cs,ty,fr,h1,fun k hk=> ?_⟩
 simp only[List.length_take,List.length_drop] at hk
 obtain⟨vs,g1,g2,g3⟩:=h2 (i+k) (by omega)
 refine⟨vs,by simpa using g1,g2,fun j hj=> ?_⟩
 rw[← g3 j hj]
 congr 1
 rw[Nat.add_mul];omega
theorem run_sliceAt_ok {t e:TypeId}{a:Option Addr}{n cap l h m w:Nat}{W:World}{vlo vhi vmx:Option Value}(hu:P.underlying t=some (.slice e))(hw:sizeT P e=some w)
  (hb:(Instr.sliceBounds true n cap vlo vhi vmx).run P W= .ok (l,h,m) W):
  (Instr.sliceAt t (.slice a n cap) vlo vhi vmx).run P W= .ok (.slice (if m=l then a else a.map (·.add (l*w))) (h-l) (m-l)) W:=by
 simp only[Instr.sliceAt,Instr.slice,Sem.run_bind,run_underlying_ok hu,Result.andThen_ok,hb,run_sizeOf_ok hw,Sem.run_pure]
theorem sliceA_sound {α:Type}{t:TypeId}{a:AV}{lo hi mx:Option AV}{H:Heap}{k:Kont α}{r:α}(h:sliceA P t a lo hi mx H k=some r):
  ∃v,k v H=some r∧ ∀c x vlo vhi vmx,Rep c a x→RepO c lo vlo→RepO c hi vhi→RepO c mx vmx→HRel c H.at→Fresh c H.length→
   SemRes P (Instr.sliceAt t x vlo vhi vmx) c H v H:=by
 unfold sliceA at h
 split at h
 case h_5=>simp at h
 ·rename_i xs hu
  split at h
  case isTrue=>simp at h
  rename_i hmx
  have hmx':mx=none:=by cases mx<;>simp_all
  subst hmx'
  obtain⟨l,hh,m,h1,h2,h3,h4,h5,h6⟩:=cutA_sound (P:=P) h
  refine⟨_,h1,fun c x vlo vhi vmx hx r1 r2 r3 hH hF=> ?_⟩
  rw[show x=_ from hx,r3.none]
  have hm0:m=none:=by simpa using h5
  subst hm0
  have hr:=h6 c false xs.size vlo vhi none (Nat.le_refl _) r1 r2 trivial
  refine SemRes.same ?_ rfl hH hF
  simp only[Instr.sliceAt,Instr.slice,Sem.run_bind,run_underlying_ok hu,Result.andThen_ok,hr,Option.isSome_none,Bool.false_eq_true,if_false,Sem.run_pure]
 ·rename_i e s l f hu
  split at h
  case isFalse=>simp at h
  rename_i hw
  obtain⟨i,j,m,h1,h2,h3,h4,h5,h6⟩:=cutA_sound (P:=P) h
  refine⟨_,h1,fun c x vlo vhi vmx hx r1 r2 r3 hH hF=> ?_⟩
  obtain⟨ad,cap,rfl,g2,g3,g4⟩:=hx
  refine SemRes.same (run_sliceAt_ok hu hw.symm (h6 c true cap vlo vhi vmx g2 r1 r2 r3)) ?_ hH hF
  have hlen:((l.drop i).take (j-i)).length=j-i:=by simp;omega
  have hcap:j≤m.getD cap:=by
   cases m with
   |none=>simp;omega
   |some x=>exact(h4 x rfl).1
  refine⟨_,_,by rw[hlen],by rw[hlen];omega,fun hx=> ?_, ?_⟩
  ·rw[hlen]
   cases m with
   |none=>
    simp only[Bool.and_eq_true,decide_eq_true_eq] at hx
    have:=g3 hx.1
    simp[this,hx.2]
   |some x=>
    simp only[decide_eq_true_eq] at hx
    subst hx;rfl
  ·rcases Nat.eq_or_lt_of_le h2 with he|hlt
   ·left;apply List.length_eq_zero_iff.1;rw[hlen];omega
   ·right
    rcases g4 with rfl|⟨b,o,rfl,g5,g6⟩
    ·simp at h3;omega
    ·refine⟨b,o+i*s.width, ?_,g5,g6.cut (by omega)⟩
     rw[if_neg (by omega),Option.map_some,addr_add]
 ·rename_i e r0 i n hu
  have main: ∀s:Sh,(some s.width=sizeT P e)→(∀ c,HRel c H.at→ ∀b o w m z,c.js r0=some (.real b o w m z)→w=s.width)→
    cutA n lo hi mx (fun l h _=>k (.msl r0 (i+l) (h-l)) H)=some r→
    ∃v,k v H=some r∧ ∀c x vlo vhi vmx,Rep c (.msl r0 i n) x→RepO c lo vlo→RepO c hi vhi→RepO c mx vmx→HRel c H.at→Fresh c H.length→
     SemRes P (Instr.sliceAt t x vlo vhi vmx) c H v H:=fun s hw hjs h=>by
   obtain⟨l,hh,m,h1,h2,h3,h4,h5,h6⟩:=cutA_sound (P:=P) h
   refine⟨_,h1,fun c x vlo vhi vmx hx r1 r2 r3 hH hF=> ?_⟩
   rcases hx with ⟨rfl,ad,rfl⟩|⟨b,o,w,m',z,cap,e1,rfl,e3,e4,e5⟩
   ·have hb:=h6 c true 0 vlo vhi vmx (Nat.le_refl _) r1 r2 r3
    refine SemRes.same (run_sliceAt_ok hu hw.symm hb) ?_ hH hF
    have hl0:l=0:=by omega
    have hh0:hh=0:=by omega
    have hm0:m.getD 0=0:=by
     cases m with
     |none=>rfl
     |some x=>have:=(h4 x rfl).2;simp;omega
    subst hl0 hh0
    rw[hm0]
    exact .inl ⟨rfl,ad,rfl⟩
   ·have hb:=h6 c true cap vlo vhi vmx e3 r1 r2 r3
    refine SemRes.same (run_sliceAt_ok hu hw.symm hb) ?_ hH hF
    have hww:=hjs c hH _ _ _ _ _ e1
    subst hww
    have hmc:hh≤m.getD cap∧m.getD cap≤cap:=by
     cases m with
     |none=>simp;omega
     |some x=>have:=h4 x rfl;simp;omega
    by_cases hml:m.getD cap=l
    ·left
     refine⟨by omega, ?_⟩
     rw[if_pos hml,show hh-l=0 by omega,hml,Nat.sub_self]
     exact⟨_,rfl⟩
    ·right
     refine⟨b,o,_,m',z,m.getD cap-l,e1, ?_,by omega,by omega, ?_⟩
     ·rw[if_neg hml,Option.map_some,addr_add,Nat.add_mul,Nat.add_assoc]
     ·have:(i+l+(m.getD cap-l))*s.width≤(i+cap)*s.width:=Nat.mul_le_mul_right _ (by omega)
      omega
  split at h
  case h_4=>simp at h
  case h_3=>
   rename_i s l m0 hat
   split at h
   case isFalse=>simp at h
   rename_i hw
   refine main s hw (fun c hH b o w m z hj=> ?_) h
   have ho:=hH.obj r0
   rw[hat] at ho
   obtain⟨_,_,ho⟩:=ho
   rcases ho with ⟨_,h2⟩|⟨b',o',cs,ty,fr,h1,_⟩
   ·rw[hj] at h2;simp at h2
   ·rw[hj] at h1;simp only[Option.some.injEq,Loc.real.injEq] at h1;exact h1.2.2.1
  ·rename_i s l hat
   split at h
   case isFalse=>simp at h
   rename_i hw
   refine main s hw (fun c hH b o w m z hj=> ?_) h
   have ho:=hH.obj r0
   rw[hat] at ho
   rcases ho with ⟨_,h2⟩|⟨b',o',cs,ty,fr,h1,_⟩
   ·rw[hj] at h2;simp at h2
   ·rw[hj] at h1;simp only[Option.some.injEq,Loc.real.injEq] at h1;exact h1.2.2.1
  ·rename_i s l hat
   split at h
   case isFalse=>simp at h
   rename_i hw
   refine main s hw (fun c hH b o w m z hj=> ?_) h
   have ho:=hH.obj r0
   rw[hat] at ho
   rcases ho with ⟨_,h2⟩|⟨b',o',z',h1,_⟩
   ·rw[hj] at h2;simp at h2
   ·rw[hj] at h1;simp only[Option.some.injEq,Loc.real.injEq] at h1;exact h1.2.2.1
 ·rename_i n e r0 i off hu
  split at h
  case h_2=>simp at h
  ·rename_i s l hat
   split at h
   case h_2=>cases h
   rename_i s' m harr
   split at h
   case isFalse=>cases h
   rename_i hok
   obtain⟨rfl,rfl,rfl,hmx,rfl⟩:=hok
   have hmx':mx=none:=by cases mx<;>simp_all
   subst hmx'
   rcases Bool.eq_false_or_eq_true (decide (l.length=n)) with hd|hd
   case inr=>rw[hd] at h;cases h
   rw[hd,cond_true] at h
   have hln:l.length=n:=of_decide_eq_true hd
   obtain⟨e',hu',hwe,_,hn0,hw0⟩:=arrT_info harr
   rw[hu] at hu'
   cases hu'
   obtain⟨a,b,m,h1,h2,h3,h4,h5,h6⟩:=cutA_sound (P:=P) h
   have hm0:m=none:=by simpa using h5
   subst hm0
   refine⟨_,h1,fun c x vlo vhi vmx hx r1 r2 r3 hH hF=> ?_⟩
   rw[r3.none]
   obtain⟨hi,bb,o,cs,ty,fr,rfl,g4,g5,g6,g7⟩:=(ptr_cells hH hx).2.1 _ _ hat
   have hr:=h6 c false n vlo vhi none (Nat.le_refl _) r1 r2 trivial
   simp only[Option.getD_none] at hr
   have hbound:o+n*s'.width≤cs.size:=by
    obtain⟨us,e1,e2,e3⟩:=g7 (n-1) (by omega)
    have:=e3 (s'.width-1) (by omega)
    rw[List.getElem?_eq_getElem (by omega)] at this
    have:=(Array.getElem?_eq_some_iff.1 this).1
    have e4:n*s'.width=(n-1)*s'.width+s'.width:=by
     rw[← Nat.succ_mul];congr 1;omega
    omega
   have hrun:(Instr.sliceAt t (.pointer (some ⟨bb,o,none⟩)) vlo vhi none).run P c.w= .ok (.slice (some (if n=a then ⟨bb,o,none⟩ else ⟨bb,o+a*s'.width,none⟩)) (b-a) (n-a)) c.w:=by
    simp only[Instr.sliceAt,Sem.run_bind,run_underlying_ok hu,Result.andThen_ok,Instr.sureAddr,Sem.run_pure,hr,run_sizeOf_ok hwe.symm,addr_add]
   simp only[Nat.zero_mul,Nat.add_zero]
   refine SemRes.same hrun ?_ hH hF
   by_cases hab:a=n
   ·left
    refine⟨by omega, ?_⟩
    rw[show b-a=0 by omega,show n-a=0 by omega]
    exact⟨_,rfl⟩
   ·right
    refine⟨bb,o,_,_,_,n-a,g4, ?_,by omega,by omega, ?_⟩
    ·rw[if_neg (by omega)]
    ·rw[show a+(n-a)=n by omega];exact hbound
theorem flat_get {z:List Value}{w:Nat}(hz:z.length=w): ∀(n i j:Nat),i<n→j<w→(List.replicate n z).flatten[i*w+j]? =z[j]?
 |0,_,_,h,_=>by omega
 |n+1,i,j,hi,hj=>by
  rw[List.replicate_succ,List.flatten_cons]
  cases i with
  |zero=>rw[List.getElem?_append_left (by omega)];simp
  |succ i=>
   rw[List.getElem?_append_right (by rw[Nat.add_mul];omega),← flat_get hz n i j (by omega) hj]
   congr 1
   rw[Nat.add_mul];omega
theorem i64_id {n:Int}(h0:0≤n)(h1:n≤2147483648):IntKind.i64.wrap n=n:=by
 have h:n%2^64=n:=by omega
 simp only[IntKind.wrap,IntKind.signed,IntKind.bits,h]
 rw[if_neg (by simp;omega)]
theorem makeSliceA_sound {α:Type}{t:TypeId}{len cap:AV}{H:Heap}{k:Kont α}{r:α}(h:makeSliceA P t len cap H k=some r):
  ∃v H',k v H'=some r∧(∃ new,H'=H++new)∧ ∀c x y,Rep c len x→Rep c cap y→HRel c H.at→Fresh c H.length→SemRes P (Instr.makeSlice t x y) c H v H':=by
 unfold makeSliceA at h
 split at h
 case h_2=>simp at h
 rename_i e k1 l k2 cp hu
 split at h
 case h_2=>simp at h
 rename_i s i z hs hi hz
 split at h
 case h_2=>simp at h
 rename_i d hd
 split at h
 case isFalse=>simp at h
 rename_i hok
 obtain⟨hw,hb,h0⟩:=hok
 obtain⟨hc,h⟩:=cond_none h
 obtain⟨c1,c2,c3⟩:=of_decide_eq_true hc
 have c3:cp≤2147483648:=c3
 refine⟨_,_,h,⟨_,rfl⟩,fun c x y hx hy hH hF=> ?_⟩
 rw[show x=_ from hx,show y=_ from hy]
 obtain⟨i',zv,hi',hzero,hzr⟩:=zeroT_rep (c:=c) hz
 rw[hi] at hi';cases hi'
 have hdz:RepD c s d zv.cells.toList:=down_all hzr hd
 have hzl:zv.cells.toList.length=s.width:=hdz.len
 have hsz:sizeT P e=some s.width:=by simp[sizeT,hi,hw]
 have hw0:0<s.width:=by omega
 have hlw:IntKind.i64.wrap l=l:=i64_id c1 (by omega)
 have hcw:IntKind.i64.wrap cp=cp:=i64_id (by omega) (by omega)
 have hbig:((i.bytes:Int)*cp)≤2^48:=by
  have:(i.bytes:Int)*cp≤16384*2147483648:=Int.mul_le_mul (by omega) (by omega) (by omega) (by omega)
  omega
 have hcells:(if cp.toNat*s.width=0 then (#[]:Array Value) else zv.cells)=zv.cells∨cp.toNat*s.width=0:=by
  by_cases h:cp.toNat*s.width=0
  ·exact .inr h
  ·exact .inl (if_neg h)
 have hrow: ∃cs:Array Value,(Instr.makeSlice t (.int k1 l) (.int k2 cp)).run P c.w= .ok (.slice (some ⟨c.w.heap.size,0,none⟩) l.toNat cp.toNat) (c.w.alloc (.cells cs e))∧
   cs.toList=(List.replicate cp.toNat zv.cells.toList).flatten:=by
  refine⟨(Array.range (cp.toNat*s.width)).map (fun i=>zv.cells[i%zv.cells.size]!), ?_,by simpa using zeros_eq (n:=cp.toNat) hzl hw0⟩
  have hnot: ¬((i.bytes:Int)*cp>2^48):=by omega
  simp only[Instr.makeSlice,Sem.run_bind,run_underlying_ok hu,Result.andThen_ok,asInt,asIntOf,Sem.run_pure,run_typeInfo_ok hi,hlw,hcw]
  rw[if_neg (by simp;omega)]
  by_cases hn:cp.toNat*s.width=0
  ·simp only[run_askRoom,Result.andThen_ok,run_sizeOf_ok hsz,hn,if_true,Sem.run_pure,newRow,Sem.run_bind,run_newObj]
   have he:(Array.map (fun x=>(#[]:Array Value)[x%(#[]:Array Value).size]!) (Array.range 0))=(Array.map (fun i=>zv.cells[i%zv.cells.size]!) (Array.range 0)):=by simp
   rw[he];rfl
  ·simp only[run_askRoom,Result.andThen_ok,run_sizeOf_ok hsz,hn,if_false,run_zeroValue_ok hi hzero,Sem.run_pure,newRow,Sem.run_bind,run_newObj]
   rfl
 obtain⟨cs,hrun,hcs⟩:=hrow
 have hcsz:cs.size=cp.toNat*s.width:=by rw[← Array.length_toList,hcs];simp[hzl]
 obtain⟨g1,g2,g3,g4⟩:=move_alloc hH hF (.cells cs e) (.row s (List.replicate l.toNat d)) 0 s.width l.toNat cs.size (fun hl=>by
  refine .inr ⟨c.w.heap.size,0,cs,e,(0,0), ?_, ?_,noFz0 _,fun i hi=> ?_⟩
  ·rw[List.length_replicate];exact upd_eq
  ·show(c.w.heap.push _)[_]? =_;simp
  ·simp only[List.length_replicate] at hi
   refine⟨zv.cells.toList,by simpa using RepD.mono hl s hdz,hzl,fun j hj=> ?_⟩
   rw[← Array.getElem?_toList,hcs,Nat.zero_add,flat_get hzl _ _ _ (by omega) hj])
 refine⟨_,_,hrun, ?_,g1,g4,g2,g3⟩
 refine .inr ⟨c.w.heap.size,0,s.width,l.toNat,cs.size,cp.toNat,upd_eq,by simp,by omega,by omega,by rw[hcsz];simp⟩
end Go.TX
