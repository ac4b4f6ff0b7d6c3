/- What abstract values and memory stand for in the machine's memory, and that it stays so. -/
import Derived.Test.YtgchjlbhmfbgaaaGreatDoorTxB
namespace Go.TX
set_option linter.unusedSectionVars false
variable [Globals]
inductive Loc where
 |virt
 |real (b o w n z:Nat)
structure Ctx where
 w:World
 I:Nat→Prop
 js:Nat→Option Loc
def Holds {α:Type}(w:World)(b o:Nat)(R:α→List Value→Prop)(wd:Nat)(l:List α):Prop:=
 ∃cs ty fr,w.heap[b]? =some (.cells cs ty fr)∧
  ∀i (h:i<l.length),∃ vs,R l[i] vs∧vs.length=wd∧ ∀j,j<wd→cs[o+i*wd+j]? =vs[j]?
def RepSl {α:Type}(c:Ctx)(R:α→List Value→Prop)(wd:Nat)(l:List α)(x:Bool)(v:Value):Prop:=
 ∃a cap,v= .slice a l.length cap∧l.length≤cap∧(x=true→cap=l.length)∧
  (l=[]∨ ∃b o,a=some ⟨b,o,none⟩∧c.I b∧Holds c.w b o R wd l)
def RepD (c:Ctx):(s:Sh)→s.Den→List Value→Prop
 | .int k,n,vs=>vs=[.int k n]
 | .bool,b,vs=>vs=[.bool b]
 | .str,x,vs=>vs=[.string x]
 | .unit,_,vs=>vs=[]
 | .pair a b,d,vs=> ∃v1 v2,vs=v1++v2∧RepD c a d.1 v1∧RepD c b d.2 v2
 | .sl e,l,vs=> ∃v,vs=[v]∧RepSl c (RepD c e) e.width l false v
mutual
def Rep (c:Ctx):AV→Value→Prop
 | .any,_=>True
 | .lit u,v=>v=u
 | .agg l,v=> ∃vs,v= .agg vs∧RepL c l vs.toList
 | .tup l,v=> ∃vs,v= .tuple vs∧RepL c l vs.toList
 | .sl s l x,v=>RepSl c (RepD c s) s.width l x v
 | .ptr r i off,v=> ∃b o w n z,c.js r=some (.real b o w n z)∧i<n∧v= .pointer (some ⟨b,o+i*w+off,none⟩)
 | .pel s l i off,v=> ∃b o,c.I b∧Holds c.w b o (RepD c s) s.width l∧i<l.length∧v= .pointer (some ⟨b,o+i*s.width+off,none⟩)
 | .msl r i n,v=>(n=0∧ ∃a,v= .slice a 0 0)∨
   ∃b o w m z cap,c.js r=some (.real b o w m z)∧v= .slice (some ⟨b,o+i*w,none⟩) n cap∧n≤cap∧i+n≤m∧o+(i+cap)*w≤z
 | .clo f a b,v=> ∃x y,v= .func f x y∧RepL c a x.toList∧RepL c b y.toList
 | .mp r,v=> ∃b o w n z,c.js r=some (.real b o w n z)∧v= .map (some b)
def RepL (c:Ctx):List AV→List Value→Prop
 |[],vs=>vs=[]
 |a::l,vs=> ∃v vs',vs=v::vs'∧Rep c a v∧RepL c l vs'
end
def NoFz (fr:Nat×Nat)(z:Nat):Prop:= ∀o,o<z→ ¬(fr.1≤o∧o<fr.2)
def AObj.owns:AObj→Bool
 | .box _| .row _ _| .mapo .. | .it .. | .raw .. =>true
 |_=>false
def RepV (c:Ctx)(s:Sh)(d:s.Den)(v:Value):Prop:=(s.isAgg=true∧ ∃cs,v= .agg cs∧RepD c s d cs.toList)∨(s.isAgg=false∧RepD c s d [v])
def RowRel (c:Ctx)(r:Nat)(s:Sh)(l:List s.Den):Prop:=(l=[]∧c.js r=some .virt)∨
   ∃b o cs ty fr,c.js r=some (.real b o s.width l.length cs.size)∧c.w.heap[b]? =some (.cells cs ty fr)∧NoFz fr cs.size∧
    ∀i (h:i<l.length),∃ vs,RepD c s l[i] vs∧vs.length=s.width∧ ∀j,j<s.width→cs[o+i*s.width+j]? =vs[j]?
def ObjRel (c:Ctx)(r:Nat):AObj→Prop
 | .gone=>True
 | .box l=> ∃b cs ty fr,c.js r=some (.real b 0 cs.size 1 cs.size)∧c.w.heap[b]? =some (.cells cs ty fr)∧NoFz fr cs.size∧RepL c l cs.toList
 | .row s l=>(l=[]∧c.js r=some .virt)∨
   ∃b o cs ty fr,c.js r=some (.real b o s.width l.length cs.size)∧c.w.heap[b]? =some (.cells cs ty fr)∧NoFz fr cs.size∧
    ∀i (h:i<l.length),∃ vs,RepD c s l[i] vs∧vs.length=s.width∧ ∀j,j<s.width→cs[o+i*s.width+j]? =vs[j]?
 | .fz s l=>(l=[]∧c.js r=some .virt)∨
   ∃b o z,c.js r=some (.real b o s.width l.length z)∧c.I b∧Holds c.w b o (RepD c s) s.width l
 | .mapo ks vs l=> ∃b es clk,c.js r=some (.real b 0 0 0 0)∧c.w.heap[b]? =some (.map es clk)∧es.size=l.length∧
   ∀i (h:i<l.length),∃ e,es[i]? =some e∧RepD c ks l[i].1 [e.key]∧RepV c vs l[i].2 e.val
 | .it x pos=> ∃b,c.js r=some (.real b 0 0 1 0)∧c.w.heap[b]? =some (.stringIter x pos)
 | .raw s l n=> ∃j:List s.Den,(l++j).length=n∧RowRel c r s (l++j)
abbrev HF:=Nat→AObj
def Own (c:Ctx)(H:HF)(b:Nat):Prop:= ∃r o w n z,c.js r=some (.real b o w n z)∧(H r).owns=true
def Glob (c:Ctx):Prop:= ∀g t,Globals.tab g=some t→c.I g∧t.2≠[]∧Holds c.w g 0 (RepD c t.1) t.1.width t.2
structure HRel (c:Ctx)(H:HF):Prop where
 obj: ∀r,ObjRel c r (H r)
 uniq: ∀r r' b o w n z o' w' n' z',c.js r=some (.real b o w n z)→c.js r'=some (.real b o' w' n' z')→(H r).owns=true→(H r').owns=true→r=r'
 imm: ∀b,c.I b→b<c.w.heap.size
 sep: ∀b,Own c H b→ ¬c.I b
 glob:Glob c
structure Step (c:Ctx)(H:HF)(c':Ctx)(H':HF):Prop where
 os:c'.w.os=c.w.os
 tape:c'.w.tape=c.w.tape
 output:c'.w.output=c.w.output
 size:c.w.heap.size≤c'.w.heap.size
 keep: ∀b,b<c.w.heap.size→ ¬Own c H b→c'.w.heap[b]? =c.w.heap[b]?
 own: ∀b,Own c' H' b→Own c H b∨c.w.heap.size≤b
 imm: ∀b,c.I b→c'.I b
 imm': ∀b,c'.I b→c.I b∨Own c H b∨c.w.heap.size≤b
def Stay (c c':Ctx):Prop:= ∀r l,c.js r=some l→c'.js r=some l
structure Later (c c':Ctx):Prop where
 imm: ∀b,c.I b→c'.I b∧c'.w.heap[b]? =c.w.heap[b]?
 js:Stay c c'
theorem Later.of_step {c c':Ctx}{H H':HF}(hr:HRel c H)(h:Step c H c' H')(hj:Stay c c'):Later c c':=
 ⟨fun b hb=>⟨h.imm b hb,h.keep b (hr.imm b hb) fun ho=>hr.sep b ho hb⟩,hj⟩
theorem Later.refl (c:Ctx):Later c c:=⟨fun _ h=>⟨h,rfl⟩,fun _ _ h=>h⟩
theorem Later.trans {a b c:Ctx}(h:Later a b)(k:Later b c):Later a c:=
 ⟨fun x hx=>⟨(k.imm x (h.imm x hx).1).1,(k.imm x (h.imm x hx).1).2.trans (h.imm x hx).2⟩,fun r l hl=>k.js r l (h.js r l hl)⟩
theorem Holds.mono {α:Type}{w w':World}{b o:Nat}{R R':α→List Value→Prop}{wd:Nat}{l:List α}
  (h:Holds w b o R wd l) (hb:w'.heap[b]? =w.heap[b]?) (hR: ∀x vs,R x vs→R' x vs):Holds w' b o R' wd l:=by
 obtain⟨cs,ty,fr,h1,h2⟩:=h
 refine⟨cs,ty,fr,hb.trans h1,fun i hi=> ?_⟩
 obtain⟨vs,a,b,c⟩:=h2 i hi
 exact⟨vs,hR _ _ a,b,c⟩
theorem RepSl.mono {α:Type}{c c':Ctx}(h:Later c c'){R R':α→List Value→Prop}{wd:Nat}{l:List α}{x:Bool}{v:Value}
  (hv:RepSl c R wd l x v) (hR: ∀x vs,R x vs→R' x vs):RepSl c' R' wd l x v:=by
 obtain⟨a,cap,h1,h2,h3,h4⟩:=hv
 refine⟨a,cap,h1,h2,h3,h4.imp id ?_⟩
 rintro ⟨b,o,h5,h6,h7⟩
 exact⟨b,o,h5,(h.imm b h6).1,h7.mono (h.imm b h6).2 hR⟩
theorem RepD.mono {c c':Ctx}(h:Later c c'):(s:Sh)→{d:s.Den}→{vs:List Value}→RepD c s d vs→RepD c' s d vs
 | .int _,_,_,hv=>hv
 | .bool,_,_,hv=>hv
 | .str,_,_,hv=>hv
 | .unit,_,_,hv=>hv
 | .pair a b,_,_,hv=>by
  obtain⟨v1,v2,h1,h2,h3⟩:=hv
  exact⟨v1,v2,h1,RepD.mono h a h2,RepD.mono h b h3⟩
 | .sl e,_,_,hv=>by
  obtain⟨v,h1,h2⟩:=hv
  exact⟨v,h1,h2.mono h fun x vs hx=>RepD.mono h e hx⟩
mutual
theorem Rep.mono {c c':Ctx}(h:Later c c'):(a:AV)→{v:Value}→Rep c a v→Rep c' a v
 | .any,_,_=>trivial
 | .lit _,_,hv=>hv
 | .agg l,_,⟨vs,h1,h2⟩=>⟨vs,h1,RepL.mono h l h2⟩
 | .tup l,_,⟨vs,h1,h2⟩=>⟨vs,h1,RepL.mono h l h2⟩
 | .sl s _ _,_,hv=>RepSl.mono h hv fun _ _ hx=>RepD.mono h s hx
 | .ptr _ _ _,_,⟨b,o,w,n,z,h1,h2,h3⟩=>⟨b,o,w,n,z,h.js _ _ h1,h2,h3⟩
 | .pel s _ _ _,_,⟨b,o,h1,h2,h3,h4⟩=>⟨b,o,(h.imm b h1).1,h2.mono (h.imm b h1).2 fun _ _ hx=>RepD.mono h s hx,h3,h4⟩
 | .msl _ _ _,_,hv=>hv.imp id fun⟨b,o,w,m,z,cap,h1,h2⟩=>⟨b,o,w,m,z,cap,h.js _ _ h1,h2⟩
 | .clo _ a b,_,⟨x,y,h1,h2,h3⟩=>⟨x,y,h1,RepL.mono h a h2,RepL.mono h b h3⟩
 | .mp _,_,⟨b,o,w,n,z,h1,h2⟩=>⟨b,o,w,n,z,h.js _ _ h1,h2⟩
theorem RepL.mono {c c':Ctx}(h:Later c c'):(l:List AV)→{vs:List Value}→RepL c l vs→RepL c' l vs
 |[],_,hv=>hv
 |a::l,_,⟨v,vs',h1,h2,h3⟩=>⟨v,vs',h1,Rep.mono h a h2,RepL.mono h l h3⟩
end
theorem repD_js {c:Ctx}{js:Nat→Option Loc}:(s:Sh)→(d:s.Den)→(vs:List Value)→RepD c s d vs→RepD ⟨c.w,c.I,js⟩ s d vs
 | .int _,_,_,h=>h
 | .bool,_,_,h=>h
 | .str,_,_,h=>h
 | .unit,_,_,h=>h
 | .pair a b,_,_,⟨v1,v2,h1,h2,h3⟩=>⟨v1,v2,h1,repD_js a _ _ h2,repD_js b _ _ h3⟩
 | .sl e,_,_,⟨v,h1,a,cap,h2,h3,h4,h5⟩=>⟨v,h1,a,cap,h2,h3,h4,h5.imp id fun⟨b,o,g1,g2,g3⟩=>⟨b,o,g1,g2,g3.mono rfl fun x vs=>repD_js e x vs⟩⟩
theorem Glob.of {c c':Ctx}(h: ∀b,c.I b→c'.I b∧c'.w.heap[b]? =c.w.heap[b]?)(g:Glob c):Glob c':=fun q t ht=>by
 obtain⟨h1,h2,h3⟩:=g q t ht
 refine⟨(h q h1).1,h2,h3.mono (h q h1).2 fun x vs hx=> ?_⟩
 have h0:Later c ⟨c'.w,c'.I,c.js⟩:=⟨h,fun _ _ h=>h⟩
 exact repD_js (c:=⟨c'.w,c'.I,c.js⟩) (js:=c'.js) t.1 x vs (RepD.mono h0 t.1 hx)
theorem RepL.nil {c:Ctx}:RepL c [] []:=rfl
theorem RepL.cons {c:Ctx}{a:AV}{l:List AV}{v:Value}{vs:List Value}(h:Rep c a v)(hl:RepL c l vs):RepL c (a::l) (v::vs):=⟨v,vs,rfl,h,hl⟩
theorem RepL.one {c:Ctx}{a:AV}{v:Value}(h:Rep c a v):RepL c [a] [v]:= .cons h .nil
theorem RepL.length {c:Ctx}:{l:List AV}→{vs:List Value}→RepL c l vs→vs.length=l.length
 |[],_,h=>by rw[show _=[] from h];rfl
 |_::_,_,⟨_,_,h1,_,h3⟩=>by subst h1;simp[RepL.length h3]
theorem RepL.append {c:Ctx}:{l l':List AV}→{vs vs':List Value}→RepL c l vs→RepL c l' vs'→RepL c (l++l') (vs++vs')
 |[],_,_,_,h,h'=>by rw[show _=[] from h];exact h'
 |_::_,_,_,_,⟨_,_,h1,h2,h3⟩,h'=>by subst h1;exact .cons h2 (RepL.append h3 h')
theorem RepL.split {c:Ctx}:{l l':List AV}→{vs:List Value}→RepL c (l++l') vs→ ∃v1 v2,vs=v1++v2∧RepL c l v1∧RepL c l' v2
 |[],_,vs,h=>⟨[],vs,rfl,rfl,h⟩
 |_::_,_,_,⟨v,_,h1,h2,h3⟩=>by
  obtain⟨v1,v2,e,h4,h5⟩:=RepL.split h3
  subst h1 e
  exact⟨v::v1,v2,rfl, .cons h2 h4,h5⟩
theorem RepL.take {c:Ctx}(n:Nat):{l:List AV}→{vs:List Value}→RepL c l vs→RepL c (l.take n) (vs.take n):=by
 intro l
 induction l generalizing n with
 |nil=>intro vs h;rw[show vs=[] from h];simpa using RepL.nil
 |cons a l ih=>
  rintro vs ⟨v,vs',rfl,h2,h3⟩
  cases n with
  |zero=>exact rfl
  |succ n=>exact .cons h2 (ih n h3)
theorem RepL.drop {c:Ctx}(n:Nat):{l:List AV}→{vs:List Value}→RepL c l vs→RepL c (l.drop n) (vs.drop n):=by
 intro l
 induction l generalizing n with
 |nil=>intro vs h;rw[show vs=[] from h];simpa using RepL.nil
 |cons a l ih=>
  rintro vs ⟨v,vs',rfl,h2,h3⟩
  cases n with
  |zero=>exact .cons h2 h3
  |succ n=>exact ih n h3
theorem RepL.get {c:Ctx}(n:Nat):{l:List AV}→{vs:List Value}→{a:AV}→RepL c l vs→l[n]? =some a→ ∃v,vs[n]? =some v∧Rep c a v:=by
 intro l
 induction l generalizing n with
 |nil=>intro vs a _ h;simp at h
 |cons x l ih=>
  rintro vs a ⟨v,vs',rfl,h2,h3⟩ h
  cases n with
  |zero=>simp at h;subst h;exact⟨v,rfl,h2⟩
  |succ n=>simpa using ih n h3 (by simpa using h)
theorem RepL.set {c:Ctx}(n:Nat){a:AV}{v:Value}(ha:Rep c a v):{l:List AV}→{vs:List Value}→RepL c l vs→RepL c (l.set n a) (vs.set n v):=by
 intro l
 induction l generalizing n with
 |nil=>intro vs h;rw[show vs=[] from h];exact RepL.nil
 |cons x l ih=>
  rintro vs ⟨v',vs',rfl,h2,h3⟩
  cases n with
  |zero=>exact .cons ha h3
  |succ n=>exact .cons h2 (ih n h3)
theorem RepL.of_getElem {c:Ctx}:{l:List AV}→{vs:List Value}→vs.length=l.length→(∀ (i:Nat) (a:AV),l[i]? =some a→ ∃v,vs[i]? =some v∧Rep c a v)→RepL c l vs:=by
 intro l
 induction l with
 |nil=>intro vs h _;exact List.length_eq_zero_iff.1 h
 |cons a l ih=>
  intro vs h hg
  cases vs with
  |nil=>simp at h
  |cons v vs=>
   obtain⟨v',h1,h2⟩:=hg 0 a rfl
   simp at h1;subst h1
   exact .cons h2 (ih (by simpa using h) fun i b hb=>by simpa using hg (i+1) b (by simpa using hb))
theorem RepL.map {c:Ctx}{α:Type}{f:α→AV}{g:α→Value}:{l:List α}→(∀ x∈l,Rep c (f x) (g x))→RepL c (l.map f) (l.map g)
 |[],_=>rfl
 |x::l,h=> .cons (h x (by simp)) (RepL.map fun y hy=>h y (by simp[hy]))
theorem RepD.len {c:Ctx}:(s:Sh)→{d:s.Den}→{vs:List Value}→RepD c s d vs→vs.length=s.width
 | .int _,_,_,h=>by rw[show _=_ from h];rfl
 | .bool,_,_,h=>by rw[show _=_ from h];rfl
 | .str,_,_,h=>by rw[show _=_ from h];rfl
 | .unit,_,_,h=>by rw[show _=_ from h];rfl
 | .pair a b,_,_,⟨v1,v2,h1,h2,h3⟩=>by
  subst h1;simp[Sh.width,RepD.len a h2,RepD.len b h3]
 | .sl _,_,_,⟨_,h1,_⟩=>by subst h1;rfl
theorem RepD.cell {c:Ctx}:(s:Sh)→{d:s.Den}→{vs:List Value}→RepD c s d vs→ ∀v∈vs,Value.isCell v=true
 | .int _,_,_,h=>by rw[show _=_ from h];simp[Value.isCell,Go.Value.oneCell']
 | .bool,_,_,h=>by rw[show _=_ from h];simp[Value.isCell,Go.Value.oneCell']
 | .str,_,_,h=>by rw[show _=_ from h];simp[Value.isCell,Go.Value.oneCell']
 | .unit,_,_,h=>by rw[show _=_ from h];simp
 | .pair a b,_,_,⟨v1,v2,h1,h2,h3⟩=>by
  subst h1
  intro v hv
  rcases List.mem_append.1 hv with hv|hv
  ·exact RepD.cell a h2 v hv
  ·exact RepD.cell b h3 v hv
 | .sl _,_,_,⟨_,h1,a,cap,h2,_⟩=>by subst h1 h2;simp[Value.isCell,Go.Value.oneCell']
theorem up_rep {c:Ctx}:(s:Sh)→{d:s.Den}→{vs:List Value}→RepD c s d vs→RepL c (up s d) vs
 | .int _,_,_,h=>by rw[show _=_ from h];exact .one rfl
 | .bool,_,_,h=>by rw[show _=_ from h];exact .one rfl
 | .str,_,_,h=>by rw[show _=_ from h];exact .one rfl
 | .unit,_,_,h=>by rw[show _=_ from h];exact .nil
 | .pair a b,_,_,⟨v1,v2,h1,h2,h3⟩=>by subst h1;exact(up_rep a h2).append (up_rep b h3)
 | .sl _,_,_,⟨_,h1,h2⟩=>by subst h1;exact .one h2
theorem up_length:(s:Sh)→(d:s.Den)→(up s d).length=s.width
 | .int _,_=>rfl
 | .bool,_=>rfl
 | .str,_=>rfl
 | .unit,_=>rfl
 | .pair a b,d=>by simp[up,Sh.width,up_length a d.1,up_length b d.2]
 | .sl _,_=>rfl
theorem RepSl.weaken {α:Type}{c:Ctx}{R:α→List Value→Prop}{wd:Nat}{l:List α}{x:Bool}{v:Value}(h:RepSl c R wd l x v):RepSl c R wd l false v:=by
 obtain⟨a,cap,h1,h2,_,h4⟩:=h
 exact⟨a,cap,h1,h2,by simp,h4⟩
theorem down_rep {c:Ctx}:(s:Sh)→{l rest:List AV}→{d:s.Den}→{vs:List Value}→RepL c l vs→down s l=some (d,rest)→
  ∃v1 v2,vs=v1++v2∧RepD c s d v1∧RepL c rest v2:=by
 intro s
 induction s with
 |int k=>
  intro l rest d vs h hd
  match l,h,hd with
  | .lit (.int k' n)::r,⟨v,vs',h1,h2,h3⟩,hd=>
   simp only[down] at hd
   split at hd
   ·rename_i hk;subst hk
    simp only[Option.some.injEq,Prod.mk.injEq] at hd
    obtain⟨rfl,rfl⟩:=hd
    exact⟨[v],vs',by simp[h1],by rw[show v=_ from h2];rfl,h3⟩
   ·simp at hd
 |bool=>
  intro l rest d vs h hd
  match l,h,hd with
  | .lit (.bool b)::r,⟨v,vs',h1,h2,h3⟩,hd=>
   simp only[down,Option.some.injEq,Prod.mk.injEq] at hd
   obtain⟨rfl,rfl⟩:=hd
   exact⟨[v],vs',by simp[h1],by rw[show v=_ from h2];rfl,h3⟩
 |str=>
  intro l rest d vs h hd
  match l,h,hd with
  | .lit (.string b)::r,⟨v,vs',h1,h2,h3⟩,hd=>
   simp only[down,Option.some.injEq,Prod.mk.injEq] at hd
   obtain⟨rfl,rfl⟩:=hd
   exact⟨[v],vs',by simp[h1],by rw[show v=_ from h2];rfl,h3⟩
 |unit=>
  intro l rest d vs h hd
  simp only[down,Option.some.injEq,Prod.mk.injEq] at hd
  obtain⟨_,rfl⟩:=hd
  exact⟨[],vs,rfl,rfl,h⟩
 |pair a b iha ihb=>
  intro l rest d vs h hd
  simp only[down] at hd
  split at hd
  ·simp at hd
  ·rename_i x r hx
   split at hd
   ·simp at hd
   ·rename_i y r' hy
    simp only[Option.some.injEq,Prod.mk.injEq] at hd
    obtain⟨rfl,rfl⟩:=hd
    obtain⟨v1,v2,rfl,h2,h3⟩:=iha h hx
    obtain⟨v3,v4,rfl,h4,h5⟩:=ihb h3 hy
    exact⟨v1++v3,v4,by simp,⟨v1,v3,rfl,h2,h4⟩,h5⟩
 |sl e=>
  intro l rest d vs h hd
  match l,h,hd with
  | .sl e' x f::r,⟨v,vs',h1,h2,h3⟩,hd=>
   simp only[down] at hd
   split at hd
   ·rename_i hk;subst hk
    simp only[Option.some.injEq,Prod.mk.injEq] at hd
    obtain⟨rfl,rfl⟩:=hd
    exact⟨[v],vs',by simp[h1],⟨v,rfl,RepSl.weaken h2⟩,h3⟩
   ·simp at hd
  | .lit (.slice none 0 0)::r,⟨v,vs',h1,h2,h3⟩,hd=>
   simp only[down,Option.some.injEq,Prod.mk.injEq] at hd
   obtain⟨rfl,rfl⟩:=hd
   exact⟨[v],vs',by simp[h1],⟨v,rfl,by rw[show v=_ from h2];exact⟨none,0,rfl,by simp,by simp, .inl rfl⟩⟩,h3⟩
theorem down_all {c:Ctx}{s:Sh}{l:List AV}{d:s.Den}{vs:List Value}(h:RepL c l vs)(hd:down s l=some (d,[])):RepD c s d vs:=by
 obtain⟨v1,v2,rfl,h1,h2⟩:=down_rep s h hd
 rw[show v2=[] from h2];simpa using h1
theorem cells_of_isCell {v:Value}(h:Value.isCell v=true):v.cells= #[v]:=by
 cases v<;>first|rfl|simp[Value.isCell,Go.Value.oneCell'] at h
theorem Rep.cells {c:Ctx}{a:AV}{v:Value}{l:List AV}(h:Rep c a v)(hl:a.cells=some l):RepL c l v.cells.toList:=by
 cases a with
 |any=>simp[AV.cells] at hl
 |lit u=>
  rw[show v=u from h]
  simp only[AV.cells] at hl
  split at hl
  ·rename_i hu
   simp only[Option.some.injEq] at hl;subst hl
   rw[cells_of_isCell hu];exact .one rfl
  ·simp at hl
 |agg l'=>simp only[AV.cells,Option.some.injEq] at hl;subst hl;obtain⟨vs,rfl,h2⟩:=h;exact h2
 |tup l'=>simp[AV.cells] at hl
 |sl s l' x=>simp only[AV.cells,Option.some.injEq] at hl;subst hl;obtain⟨b,cap,rfl,h2⟩:=h;exact .one ⟨b,cap,rfl,h2⟩
 |ptr r i o=>simp only[AV.cells,Option.some.injEq] at hl;subst hl;obtain⟨b,o',w,n,z,h1,h2,rfl⟩:=h;exact .one ⟨b,o',w,n,z,h1,h2,rfl⟩
 |pel s l' i o=>simp only[AV.cells,Option.some.injEq] at hl;subst hl;obtain⟨b,o',h1,h2,h3,rfl⟩:=h;exact .one ⟨b,o',h1,h2,h3,rfl⟩
 |msl r i n=>
  simp only[AV.cells,Option.some.injEq] at hl;subst hl
  rcases h with ⟨h1,a,rfl⟩|⟨b,o,w,m,z,cap,h1,rfl,h3⟩
  ·exact .one (.inl ⟨h1,a,rfl⟩)
  ·exact .one (.inr ⟨b,o,w,m,z,cap,h1,rfl,h3⟩)
 |clo f x y=>simp only[AV.cells,Option.some.injEq] at hl;subst hl;obtain⟨p,q,rfl,h2⟩:=h;exact .one ⟨p,q,rfl,h2⟩
 |mp r=>simp only[AV.cells,Option.some.injEq] at hl;subst hl;obtain⟨b,o,w,n,z,h1,rfl⟩:=h;exact .one ⟨b,o,w,n,z,h1,rfl⟩
theorem Rep.isCell {c:Ctx}{a:AV}{v:Value}(h:Rep c a v)(ha:a.cell=true):Value.isCell v=true:=by
 cases a with
 |any=>simp[AV.cell] at ha
 |lit u=>rw[show v=u from h];exact ha
 |agg l'=>simp[AV.cell] at ha
 |tup l'=>simp[AV.cell] at ha
 |sl s l' x=>obtain⟨b,cap,rfl,h2⟩:=h;rfl
 |ptr r i o=>obtain⟨b,o',w,n,z,h1,h2,rfl⟩:=h;rfl
 |pel s l' i o=>obtain⟨b,o',h1,h2,h3,rfl⟩:=h;rfl
 |msl r i n=>rcases h with ⟨h1,a,rfl⟩|⟨b,o,w,m,z,cap,h1,rfl,h3⟩<;>rfl
 |clo f x y=>obtain⟨p,q,rfl,h2⟩:=h;rfl
 |mp r=>obtain⟨b,o,w,n,z,h1,rfl⟩:=h;rfl
theorem RepL.isCell {c:Ctx}:{l:List AV}→{vs:List Value}→RepL c l vs→l.all AV.cell=true→ ∀v∈vs,Value.isCell v=true
 |[],_,h,_=>by rw[show _=[] from h];simp
 |a::l,_,⟨v,vs',h1,h2,h3⟩,ha=>by
  subst h1
  simp only[List.all_cons,Bool.and_eq_true] at ha
  intro u hu
  rcases List.mem_cons.1 hu with rfl|hu
  ·exact h2.isCell ha.1
  ·exact RepL.isCell h3 ha.2 u hu
theorem typed_rep {P:Program}{c:Ctx}{t:TypeId}{a:AV}{v:Value}(h:Rep c a v):Rep c (typed P t a) v:=by
 unfold typed
 split
 ·split
  ·rw[show v=_ from h]
   exact⟨none,0,rfl,by simp,by simp, .inl rfl⟩
  ·exact h
 ·exact h
theorem constA_rep {c:Ctx}(v:Value):Rep c (constA v) v:=by
 unfold constA
 split
 ·rename_i cs
  refine⟨cs,rfl, ?_⟩
  have:=RepL.map (c:=c) (f:=AV.lit) (g:=id) (l:=cs.toList) fun x _=>rfl
  simpa using this
 ·rfl
theorem evalA_rep {c:Ctx}{a:Act}{s:List AV}(hg:Glob c)(h: ∀t v,s[t]? =some v→Rep c v (a.tmps.getD t undef))(x:Operand):Rep c (evalA s x) (a.eval x):=by
 cases x with
 |tmp t=>
  simp only[evalA,Act.eval,List.getD_eq_getElem?_getD]
  cases ht:s[t]? with
  |none=>exact trivial
  |some v=>exact h t v ht
 |const v=>exact constA_rep v
 |global g=>
  simp only[evalA,Act.eval]
  split
  ·rename_i sh l ht
   obtain⟨h1,h2,h3⟩:=hg g ⟨sh,l⟩ ht
   exact⟨g,0,h1,h3,List.length_pos_iff.2 h2,by simp⟩
  ·exact trivial
 |func f=>exact⟨#[], #[],rfl,rfl,rfl⟩
theorem typedL_rep {P:Program}{c:Ctx}:{ts:List TypeId}→{l:List AV}→{vs:List Value}→RepL c l vs→RepL c (typedL P ts l) vs:=by
 intro ts
 induction ts with
 |nil=>intro l vs h;cases l<;>exact h
 |cons t ts ih=>
  intro l vs h
  cases l with
  |nil=>exact h
  |cons a l=>obtain⟨v,vs',h1,h2,h3⟩:=h;exact⟨v,vs',h1,typed_rep h2,ih h3⟩
theorem zeroT_rep {P:Program}{c:Ctx}{t:TypeId}{cs:List AV}(h:zeroT P t=some cs): ∃i z,P.info? t=some i∧i.zero=some z∧RepL c cs z.cells.toList:=by
 unfold zeroT at h
 split at h
 ·simp at h
 ·rename_i i hi
  split at h
  ·simp at h
  ·rename_i z hz
   refine⟨i,z,hi,hz, ?_⟩
   dsimp only at h
   split at h
   ·rename_i hl
    simp only[Option.some.injEq] at h
    subst h
    generalize leafTys P 9 t=ts at hl⊢
    generalize z.cells.toList=vs at hl⊢
    clear hi hz
    induction vs generalizing ts with
    |nil=>cases ts<;>first|exact rfl|simp at hl
    |cons v vs ih=>
     cases ts with
     |nil=>simp at hl
     |cons t ts=>exact .cons (typed_rep rfl) (ih ts (by simpa using hl))
   ·simp at h
end Go.TX
