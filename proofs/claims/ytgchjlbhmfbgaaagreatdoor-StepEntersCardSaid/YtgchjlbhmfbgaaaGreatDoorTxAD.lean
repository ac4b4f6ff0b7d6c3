/- slices.Clone: whether an empty slice is nil is told by the walk alone. -/
import Derived.Test.YtgchjlbhmfbgaaaGreatDoorTxZ
import Derived.Test.YtgchjlbhmfbgaaaGreatDoorTxAB
namespace Go.TX
set_option linter.unusedSectionVars false
variable [Globals]
open Go.RowKit
variable {P:Program}
def clone_sp (s:Sh):Spec:=fun _ args H k=>
 match args,H with
 |[.sl s' l _],[]=>if h:s'=s then cond (decide (l.length≤mostLen)) (k (.sl s (h▸l) false) []) none else none
 |_,_=>none
theorem clone_good {f:FuncId}{fn:Func}{code:Code}(hf:P.funcs[f]? =some fn)(hb:fn.body=some code)(hname:(fn.name== "runtime.NumGoroutine")=false){s:Sh}
  (h0: ∀(a:Option Addr) (c:Nat) (w:World),Calls P f #[.slice a 0 c] w fun e w'=> ∃a' c',e= .returned (.slice a' 0 c')∧Below w.heap.size w w')
  {F:List s.Den→Option (List s.Den)} (hF: ∀l,l≠[]→l.length≤mostLen→F l=some l)
  (h1:Good P f (specD [.val (.sl s)] [] fun _ a _ k=>outOf (F a.1) fun v=>k (.sl s v false) [])):Good P f (clone_sp s):=fun α args H k r hr=>by
 unfold clone_sp at hr
 split at hr
 case h_2=>cases hr
 rename_i s' l b
 split at hr
 case isFalse=>cases hr
 rename_i hs
 subst hs
 obtain⟨hl,hr⟩:=cond_none hr
 cases l with
 |cons x l=>
  refine h1 α [.sl s' (x::l) b] [] k r ?_
  have e:rdS [.val (.sl s')] [.sl s' (x::l) b]=some ((x::l),()):=by simp[rdS,SD.rd,down]
  unfold specD
  rw[e]
  simp only[rdH]
  rw[hF (x::l) (by simp) (of_decide_eq_true hl)]
  exact hr
 |nil=>
  refine⟨.sl s' [] false,[],hr,fun c vs hv hh hfr o a next Q hk=> ?_⟩
  obtain⟨v,_,rfl,⟨ad,cap,rfl,g2,g3,g4⟩,rfl⟩:=hv
  have hcall:(callFunc f #[Value.slice ad 0 cap]).run P c.w= .ok (.enter f #[Value.slice ad 0 cap]) c.w:=by
   have h1:fn.name≠ "runtime.NumGoroutine" :=by simpa using hname
   simp[callFunc,hf,h1,hb]
  show o.upon P a next Q ((callFunc f #[Value.slice ad 0 cap]).run P c.w)
  rw[hcall,Oper.upon_enter]
  refine(h0 ad cap c.w).mono fun e w' ⟨a',c',he,hw⟩=> ?_
  obtain⟨g1,g2,g3⟩:=move_below hh hw
  subst he
  exact hk _ ⟨w',c.I,c.js⟩ ⟨a',c',rfl,Nat.zero_le _,(fun h=>by cases h), .inl rfl⟩ g1 (fun q hq=>hfr q hq) g2 g3
def cloneO_sp (s:Sh):Spec:=fun _ args H k=>
 match args,H with
 |[.sl s' l _],[]=>if h:s'=s then cond (decide (l.length≤mostLen)) (k (.msl 0 0 l.length) [.row s (h▸l)]) none else none
 |_,_=>none
theorem cloneO_good {f:FuncId}{fn:Func}{code:Code}(hf:P.funcs[f]? =some fn)(hb:fn.body=some code)(hname:(fn.name== "runtime.NumGoroutine")=false){s:Sh}
  (h0: ∀(a:Option Addr) (c:Nat) (w:World),Calls P f #[.slice a 0 c] w fun e w'=> ∃a',e= .returned (.slice a' 0 0)∧Below w.heap.size w w')
  {F:List s.Den→Option (Nat×List s.Den)} (hF: ∀l,l≠[]→l.length≤mostLen→F l=some (l.length,l))
  (h1:Good P f (specD [.val (.sl s)] [] fun _ a _ k=>outOf (F a.1) fun v=>k (.msl 0 0 v.1) [.row s v.2])):Good P f (cloneO_sp s):=fun α args H k r hr=>by
 unfold cloneO_sp at hr
 split at hr
 case h_2=>cases hr
 rename_i s' l b
 split at hr
 case isFalse=>cases hr
 rename_i hs
 subst hs
 obtain⟨hl,hr⟩:=cond_none hr
 cases l with
 |cons x l=>
  refine h1 α [.sl s' (x::l) b] [] k r ?_
  have e:rdS [.val (.sl s')] [.sl s' (x::l) b]=some ((x::l),()):=by simp[rdS,SD.rd,down]
  unfold specD
  rw[e]
  simp only[rdH]
  rw[hF (x::l) (by simp) (of_decide_eq_true hl)]
  exact hr
 |nil=>
  refine⟨.msl 0 0 0,[.row s' []],hr,fun c vs hv hh hfr o a next Q hk=> ?_⟩
  obtain⟨v,_,rfl,⟨ad,cap,rfl,g2,g3,g4⟩,rfl⟩:=hv
  have hcall:(callFunc f #[Value.slice ad 0 cap]).run P c.w= .ok (.enter f #[Value.slice ad 0 cap]) c.w:=by
   have h1:fn.name≠ "runtime.NumGoroutine" :=by simpa using hname
   simp[callFunc,hf,h1,hb]
  show o.upon P a next Q ((callFunc f #[Value.slice ad 0 cap]).run P c.w)
  rw[hcall,Oper.upon_enter]
  refine(h0 ad cap c.w).mono fun e w' ⟨a',he,hw⟩=> ?_
  obtain⟨g1,g2,g3⟩:=move_below hh hw
  obtain⟨m1,m2,m3,m4⟩:=move_virt (c:=⟨w',c.I,c.js⟩) (H:=[]) g1 (fun q hq=>hfr q hq) s'
  subst he
  exact hk _ ⟨w',c.I,upd c.js 0 .virt⟩ (.inl ⟨rfl,a',rfl⟩) m1 m4 (g2.trans m2) fun q l hq=>m3 q l (g3 q l hq)
end Go.TX
