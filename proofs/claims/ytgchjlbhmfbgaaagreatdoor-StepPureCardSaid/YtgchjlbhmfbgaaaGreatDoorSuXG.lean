import Derived.Test.YtgchjlbhmfbgaaaGreatDoorSuXE
namespace Go.Proofs.Dbl
open Go Go.TX Go.Proofs
set_option maxRecDepth 100000
set_option linter.unusedVariables false
set_option maxHeartbeats 0
/-! f26 tenterhook/pure.Do -/
def Do_42_h0 : Hints := Hints.nil 0
theorem Do_42_h0_ok : Do_42_h0.OK Tryz.prog (bodyOf Tryz.f26) := Hints.nil_ok
abbrev Do_42_R : Type := ((List Int) × Int)
noncomputable def Do_42_t {γ : Type} (a1 : (List Int)) (k : Do_42_R → Option γ) : Option γ := cond (decide ((↑(List.length a1) : Int) < (1 : Int))) (k (a1, (-4 : Int))) (cond (decide ((↑(List.length a1) : Int) > (64 : Int))) (k (a1, (-3 : Int))) (outOf (stk_Pop a1 (1 : Int)) fun (x1 : ((List Int) × ((List Int) × Int))) => cond (decide ((0 : Int) ≤ (0 : Int) ∧ (0 : Int) < (↑(List.length x1.2.1) : Int))) (outOf (stk_Push x1.1 (64 : Int) [IntKind.wrap IntKind.i64 (List.getD x1.2.1 (0 : Nat) (0 : Int) - (1 : Int))]) fun (x2 : ((List Int) × Int)) => cond (x2.2 != (0 : Int)) (cond (x2.2 != (0 : Int)) (k (a1, x2.2)) (k (a1, (0 : Int)))) (k (x2.1, (0 : Int)))) (none)))
noncomputable def Do_42 (a1 : (List Int)) : Option Do_42_R := Do_42_t a1 some
theorem Do_42_t_eq {γ : Type} (a1 : (List Int)) (k : Do_42_R → Option γ) : Do_42_t a1 k = outOf (Do_42 a1) k := by
  delta Do_42 Do_42_t; exact (Tr.nd Tr.lf (Tr.nd Tr.lf (Tr.bd fun x1 => (Tr.nd (Tr.bd fun x2 => (Tr.nd (Tr.nd Tr.lf Tr.lf) Tr.lf)) Tr.no))))
theorem Do_42_ev {α : Type} (a1 : (List Int)) (k : Kont α) : evFun Tryz.prog SrEE7 (Do_42_h0) false Tryz.f26 (bodyOf Tryz.f26) 200 (mkS [.val (.int .i64), .val (.sl (.int .i64))] ((42 : Int), a1, ())) (mkH [] ()) (fun v H => k (weakF v) H) = outOf (Do_42 a1) fun v => k (.tup [.sl (.int .i64) v.1 false, .lit (.int .i64 v.2)]) [] :=
  (show _ = Do_42_t a1 (fun v => k (.tup [.sl (.int .i64) v.1 false, .lit (.int .i64 v.2)]) []) from by kernel_rfl).trans (Do_42_t_eq a1 _)
/-! f26 tenterhook/pure.Do -/
def Do_43_h0 : Hints := Hints.nil 0
theorem Do_43_h0_ok : Do_43_h0.OK Tryz.prog (bodyOf Tryz.f26) := Hints.nil_ok
abbrev Do_43_R : Type := ((List Int) × Int)
noncomputable def Do_43_t {γ : Type} (a1 : (List Int)) (k : Do_43_R → Option γ) : Option γ := cond (decide ((↑(List.length a1) : Int) < (1 : Int))) (k (a1, (-4 : Int))) (cond (decide ((↑(List.length a1) : Int) > (64 : Int))) (k (a1, (-3 : Int))) (outOf (stk_Pop a1 (1 : Int)) fun (x1 : ((List Int) × ((List Int) × Int))) => cond (decide ((0 : Int) ≤ (0 : Int) ∧ (0 : Int) < (↑(List.length x1.2.1) : Int))) (outOf (stk_Push x1.1 (64 : Int) [IntKind.wrap IntKind.i64 (List.getD x1.2.1 (0 : Nat) (0 : Int) * (2 : Int))]) fun (x2 : ((List Int) × Int)) => cond (x2.2 != (0 : Int)) (cond (x2.2 != (0 : Int)) (k (a1, x2.2)) (k (a1, (0 : Int)))) (k (x2.1, (0 : Int)))) (none)))
noncomputable def Do_43 (a1 : (List Int)) : Option Do_43_R := Do_43_t a1 some
theorem Do_43_t_eq {γ : Type} (a1 : (List Int)) (k : Do_43_R → Option γ) : Do_43_t a1 k = outOf (Do_43 a1) k := by
  delta Do_43 Do_43_t; exact (Tr.nd Tr.lf (Tr.nd Tr.lf (Tr.bd fun x1 => (Tr.nd (Tr.bd fun x2 => (Tr.nd (Tr.nd Tr.lf Tr.lf) Tr.lf)) Tr.no))))
theorem Do_43_ev {α : Type} (a1 : (List Int)) (k : Kont α) : evFun Tryz.prog SrEE7 (Do_43_h0) false Tryz.f26 (bodyOf Tryz.f26) 200 (mkS [.val (.int .i64), .val (.sl (.int .i64))] ((43 : Int), a1, ())) (mkH [] ()) (fun v H => k (weakF v) H) = outOf (Do_43 a1) fun v => k (.tup [.sl (.int .i64) v.1 false, .lit (.int .i64 v.2)]) [] :=
  (show _ = Do_43_t a1 (fun v => k (.tup [.sl (.int .i64) v.1 false, .lit (.int .i64 v.2)]) []) from by kernel_rfl).trans (Do_43_t_eq a1 _)
/-! f26 tenterhook/pure.Do -/
def Do_44_h0 : Hints := Hints.nil 0
theorem Do_44_h0_ok : Do_44_h0.OK Tryz.prog (bodyOf Tryz.f26) := Hints.nil_ok
abbrev Do_44_R : Type := ((List Int) × Int)
noncomputable def Do_44_t {γ : Type} (a1 : (List Int)) (k : Do_44_R → Option γ) : Option γ := cond (decide ((↑(List.length a1) : Int) < (1 : Int))) (k (a1, (-4 : Int))) (cond (decide ((↑(List.length a1) : Int) > (64 : Int))) (k (a1, (-3 : Int))) (outOf (stk_Pop a1 (1 : Int)) fun (x1 : ((List Int) × ((List Int) × Int))) => cond (decide ((0 : Int) ≤ (0 : Int) ∧ (0 : Int) < (↑(List.length x1.2.1) : Int))) (outOf (stk_Push x1.1 (64 : Int) [Int.fdiv (List.getD x1.2.1 (0 : Nat) (0 : Int)) (2 : Int)]) fun (x2 : ((List Int) × Int)) => cond (x2.2 != (0 : Int)) (cond (x2.2 != (0 : Int)) (k (a1, x2.2)) (k (a1, (0 : Int)))) (k (x2.1, (0 : Int)))) (none)))
noncomputable def Do_44 (a1 : (List Int)) : Option Do_44_R := Do_44_t a1 some
theorem Do_44_t_eq {γ : Type} (a1 : (List Int)) (k : Do_44_R → Option γ) : Do_44_t a1 k = outOf (Do_44 a1) k := by
  delta Do_44 Do_44_t; exact (Tr.nd Tr.lf (Tr.nd Tr.lf (Tr.bd fun x1 => (Tr.nd (Tr.bd fun x2 => (Tr.nd (Tr.nd Tr.lf Tr.lf) Tr.lf)) Tr.no))))
theorem Do_44_ev {α : Type} (a1 : (List Int)) (k : Kont α) : evFun Tryz.prog SrEE7 (Do_44_h0) false Tryz.f26 (bodyOf Tryz.f26) 200 (mkS [.val (.int .i64), .val (.sl (.int .i64))] ((44 : Int), a1, ())) (mkH [] ()) (fun v H => k (weakF v) H) = outOf (Do_44 a1) fun v => k (.tup [.sl (.int .i64) v.1 false, .lit (.int .i64 v.2)]) [] :=
  (show _ = Do_44_t a1 (fun v => k (.tup [.sl (.int .i64) v.1 false, .lit (.int .i64 v.2)]) []) from by kernel_rfl).trans (Do_44_t_eq a1 _)
/-! f26 tenterhook/pure.Do -/
def Do_45_h0 : Hints := Hints.nil 0
theorem Do_45_h0_ok : Do_45_h0.OK Tryz.prog (bodyOf Tryz.f26) := Hints.nil_ok
abbrev Do_45_R : Type := ((List Int) × Int)
noncomputable def Do_45_t {γ : Type} (a1 : (List Int)) (k : Do_45_R → Option γ) : Option γ := cond (decide ((↑(List.length a1) : Int) < (1 : Int))) (k (a1, (-4 : Int))) (cond (decide ((↑(List.length a1) : Int) > (64 : Int))) (k (a1, (-3 : Int))) (outOf (stk_Pop a1 (1 : Int)) fun (x1 : ((List Int) × ((List Int) × Int))) => cond (decide ((0 : Int) ≤ (0 : Int) ∧ (0 : Int) < (↑(List.length x1.2.1) : Int))) (outOf (stk_Push x1.1 (64 : Int) [IntKind.wrap IntKind.i64 ((0 : Int) - List.getD x1.2.1 (0 : Nat) (0 : Int))]) fun (x2 : ((List Int) × Int)) => cond (x2.2 != (0 : Int)) (cond (x2.2 != (0 : Int)) (k (a1, x2.2)) (k (a1, (0 : Int)))) (k (x2.1, (0 : Int)))) (none)))
noncomputable def Do_45 (a1 : (List Int)) : Option Do_45_R := Do_45_t a1 some
theorem Do_45_t_eq {γ : Type} (a1 : (List Int)) (k : Do_45_R → Option γ) : Do_45_t a1 k = outOf (Do_45 a1) k := by
  delta Do_45 Do_45_t; exact (Tr.nd Tr.lf (Tr.nd Tr.lf (Tr.bd fun x1 => (Tr.nd (Tr.bd fun x2 => (Tr.nd (Tr.nd Tr.lf Tr.lf) Tr.lf)) Tr.no))))
theorem Do_45_ev {α : Type} (a1 : (List Int)) (k : Kont α) : evFun Tryz.prog SrEE7 (Do_45_h0) false Tryz.f26 (bodyOf Tryz.f26) 200 (mkS [.val (.int .i64), .val (.sl (.int .i64))] ((45 : Int), a1, ())) (mkH [] ()) (fun v H => k (weakF v) H) = outOf (Do_45 a1) fun v => k (.tup [.sl (.int .i64) v.1 false, .lit (.int .i64 v.2)]) [] :=
  (show _ = Do_45_t a1 (fun v => k (.tup [.sl (.int .i64) v.1 false, .lit (.int .i64 v.2)]) []) from by kernel_rfl).trans (Do_45_t_eq a1 _)
/-! f26 tenterhook/pure.Do -/
def Do_46_h0 : Hints := Hints.nil 0
theorem Do_46_h0_ok : Do_46_h0.OK Tryz.prog (bodyOf Tryz.f26) := Hints.nil_ok
abbrev Do_46_R : Type := ((List Int) × Int)
noncomputable def Do_46_t {γ : Type} (a1 : (List Int)) (k : Do_46_R → Option γ) : Option γ := cond (decide ((↑(List.length a1) : Int) < (1 : Int))) (k (a1, (-4 : Int))) (cond (decide ((↑(List.length a1) : Int) > (64 : Int))) (k (a1, (-3 : Int))) (outOf (stk_Pop a1 (1 : Int)) fun (x1 : ((List Int) × ((List Int) × Int))) => cond (decide ((0 : Int) ≤ (0 : Int) ∧ (0 : Int) < (↑(List.length x1.2.1) : Int))) (outOf (stk_Push x1.1 (64 : Int) [if IntKind.wrap IntKind.i64 ((0 : Int) - List.getD x1.2.1 (0 : Nat) (0 : Int)) > List.getD x1.2.1 (0 : Nat) (0 : Int) then IntKind.wrap IntKind.i64 ((0 : Int) - List.getD x1.2.1 (0 : Nat) (0 : Int)) else List.getD x1.2.1 (0 : Nat) (0 : Int)]) fun (x2 : ((List Int) × Int)) => cond (x2.2 != (0 : Int)) (cond (x2.2 != (0 : Int)) (k (a1, x2.2)) (k (a1, (0 : Int)))) (k (x2.1, (0 : Int)))) (none)))
noncomputable def Do_46 (a1 : (List Int)) : Option Do_46_R := Do_46_t a1 some
theorem Do_46_t_eq {γ : Type} (a1 : (List Int)) (k : Do_46_R → Option γ) : Do_46_t a1 k = outOf (Do_46 a1) k := by
  delta Do_46 Do_46_t; exact (Tr.nd Tr.lf (Tr.nd Tr.lf (Tr.bd fun x1 => (Tr.nd (Tr.bd fun x2 => (Tr.nd (Tr.nd Tr.lf Tr.lf) Tr.lf)) Tr.no))))
theorem Do_46_ev {α : Type} (a1 : (List Int)) (k : Kont α) : evFun Tryz.prog SrEE7 (Do_46_h0) false Tryz.f26 (bodyOf Tryz.f26) 200 (mkS [.val (.int .i64), .val (.sl (.int .i64))] ((46 : Int), a1, ())) (mkH [] ()) (fun v H => k (weakF v) H) = outOf (Do_46 a1) fun v => k (.tup [.sl (.int .i64) v.1 false, .lit (.int .i64 v.2)]) [] :=
  (show _ = Do_46_t a1 (fun v => k (.tup [.sl (.int .i64) v.1 false, .lit (.int .i64 v.2)]) []) from by kernel_rfl).trans (Do_46_t_eq a1 _)
/-! f26 tenterhook/pure.Do -/
def Do_47_h0 : Hints := Hints.nil 0
theorem Do_47_h0_ok : Do_47_h0.OK Tryz.prog (bodyOf Tryz.f26) := Hints.nil_ok
abbrev Do_47_R : Type := ((List Int) × Int)
noncomputable def Do_47_t {γ : Type} (a1 : (List Int)) (k : Do_47_R → Option γ) : Option γ := cond (decide ((↑(List.length a1) : Int) < (2 : Int))) (k (a1, (-4 : Int))) (cond (decide ((↑(List.length a1) : Int) > (64 : Int))) (k (a1, (-3 : Int))) (outOf (stk_Pop a1 (2 : Int)) fun (x1 : ((List Int) × ((List Int) × Int))) => cond (decide ((0 : Int) ≤ (0 : Int) ∧ (0 : Int) < (↑(List.length x1.2.1) : Int))) (cond (decide ((0 : Int) ≤ (1 : Int) ∧ (1 : Int) < (↑(List.length x1.2.1) : Int))) (outOf (stk_Push x1.1 (64 : Int) [if List.getD x1.2.1 (1 : Nat) (0 : Int) < List.getD x1.2.1 (0 : Nat) (0 : Int) then List.getD x1.2.1 (1 : Nat) (0 : Int) else List.getD x1.2.1 (0 : Nat) (0 : Int)]) fun (x2 : ((List Int) × Int)) => cond (x2.2 != (0 : Int)) (cond (x2.2 != (0 : Int)) (k (a1, x2.2)) (k (a1, (0 : Int)))) (k (x2.1, (0 : Int)))) (none)) (none)))
noncomputable def Do_47 (a1 : (List Int)) : Option Do_47_R := Do_47_t a1 some
theorem Do_47_t_eq {γ : Type} (a1 : (List Int)) (k : Do_47_R → Option γ) : Do_47_t a1 k = outOf (Do_47 a1) k := by
  delta Do_47 Do_47_t; exact (Tr.nd Tr.lf (Tr.nd Tr.lf (Tr.bd fun x1 => (Tr.nd (Tr.nd (Tr.bd fun x2 => (Tr.nd (Tr.nd Tr.lf Tr.lf) Tr.lf)) Tr.no) Tr.no))))
theorem Do_47_ev {α : Type} (a1 : (List Int)) (k : Kont α) : evFun Tryz.prog SrEE7 (Do_47_h0) false Tryz.f26 (bodyOf Tryz.f26) 200 (mkS [.val (.int .i64), .val (.sl (.int .i64))] ((47 : Int), a1, ())) (mkH [] ()) (fun v H => k (weakF v) H) = outOf (Do_47 a1) fun v => k (.tup [.sl (.int .i64) v.1 false, .lit (.int .i64 v.2)]) [] :=
  (show _ = Do_47_t a1 (fun v => k (.tup [.sl (.int .i64) v.1 false, .lit (.int .i64 v.2)]) []) from by kernel_rfl).trans (Do_47_t_eq a1 _)
/-! f26 tenterhook/pure.Do -/
def Do_48_h0 : Hints := Hints.nil 0
theorem Do_48_h0_ok : Do_48_h0.OK Tryz.prog (bodyOf Tryz.f26) := Hints.nil_ok
abbrev Do_48_R : Type := ((List Int) × Int)
noncomputable def Do_48_t {γ : Type} (a1 : (List Int)) (k : Do_48_R → Option γ) : Option γ := cond (decide ((↑(List.length a1) : Int) < (2 : Int))) (k (a1, (-4 : Int))) (cond (decide ((↑(List.length a1) : Int) > (64 : Int))) (k (a1, (-3 : Int))) (outOf (stk_Pop a1 (2 : Int)) fun (x1 : ((List Int) × ((List Int) × Int))) => cond (decide ((0 : Int) ≤ (0 : Int) ∧ (0 : Int) < (↑(List.length x1.2.1) : Int))) (cond (decide ((0 : Int) ≤ (1 : Int) ∧ (1 : Int) < (↑(List.length x1.2.1) : Int))) (outOf (stk_Push x1.1 (64 : Int) [if List.getD x1.2.1 (1 : Nat) (0 : Int) > List.getD x1.2.1 (0 : Nat) (0 : Int) then List.getD x1.2.1 (1 : Nat) (0 : Int) else List.getD x1.2.1 (0 : Nat) (0 : Int)]) fun (x2 : ((List Int) × Int)) => cond (x2.2 != (0 : Int)) (cond (x2.2 != (0 : Int)) (k (a1, x2.2)) (k (a1, (0 : Int)))) (k (x2.1, (0 : Int)))) (none)) (none)))
noncomputable def Do_48 (a1 : (List Int)) : Option Do_48_R := Do_48_t a1 some
theorem Do_48_t_eq {γ : Type} (a1 : (List Int)) (k : Do_48_R → Option γ) : Do_48_t a1 k = outOf (Do_48 a1) k := by
  delta Do_48 Do_48_t; exact (Tr.nd Tr.lf (Tr.nd Tr.lf (Tr.bd fun x1 => (Tr.nd (Tr.nd (Tr.bd fun x2 => (Tr.nd (Tr.nd Tr.lf Tr.lf) Tr.lf)) Tr.no) Tr.no))))
theorem Do_48_ev {α : Type} (a1 : (List Int)) (k : Kont α) : evFun Tryz.prog SrEE7 (Do_48_h0) false Tryz.f26 (bodyOf Tryz.f26) 200 (mkS [.val (.int .i64), .val (.sl (.int .i64))] ((48 : Int), a1, ())) (mkH [] ()) (fun v H => k (weakF v) H) = outOf (Do_48 a1) fun v => k (.tup [.sl (.int .i64) v.1 false, .lit (.int .i64 v.2)]) [] :=
  (show _ = Do_48_t a1 (fun v => k (.tup [.sl (.int .i64) v.1 false, .lit (.int .i64 v.2)]) []) from by kernel_rfl).trans (Do_48_t_eq a1 _)
/-! f26 tenterhook/pure.Do -/
def Do_49_h0 : Hints := Hints.nil 0
theorem Do_49_h0_ok : Do_49_h0.OK Tryz.prog (bodyOf Tryz.f26) := Hints.nil_ok
abbrev Do_49_R : Type := ((List Int) × Int)
noncomputable def Do_49_t {γ : Type} (a1 : (List Int)) (k : Do_49_R → Option γ) : Option γ := cond (decide ((↑(List.length a1) : Int) < (2 : Int))) (k (a1, (-4 : Int))) (cond (decide ((↑(List.length a1) : Int) > (64 : Int))) (k (a1, (-3 : Int))) (outOf (stk_Pop a1 (2 : Int)) fun (x1 : ((List Int) × ((List Int) × Int))) => cond (decide ((0 : Int) ≤ (0 : Int) ∧ (0 : Int) < (↑(List.length x1.2.1) : Int))) (cond (decide ((0 : Int) ≤ (1 : Int) ∧ (1 : Int) < (↑(List.length x1.2.1) : Int))) (outOf (stk_Push x1.1 (64 : Int) [ibits BinOp.and IntKind.i64 (List.getD x1.2.1 (0 : Nat) (0 : Int)) (List.getD x1.2.1 (1 : Nat) (0 : Int))]) fun (x2 : ((List Int) × Int)) => cond (x2.2 != (0 : Int)) (cond (x2.2 != (0 : Int)) (k (a1, x2.2)) (k (a1, (0 : Int)))) (k (x2.1, (0 : Int)))) (none)) (none)))
noncomputable def Do_49 (a1 : (List Int)) : Option Do_49_R := Do_49_t a1 some
theorem Do_49_t_eq {γ : Type} (a1 : (List Int)) (k : Do_49_R → Option γ) : Do_49_t a1 k = outOf (Do_49 a1) k := by
  delta Do_49 Do_49_t; exact (Tr.nd Tr.lf (Tr.nd Tr.lf (Tr.bd fun x1 => (Tr.nd (Tr.nd (Tr.bd fun x2 => (Tr.nd (Tr.nd Tr.lf Tr.lf) Tr.lf)) Tr.no) Tr.no))))
theorem Do_49_ev {α : Type} (a1 : (List Int)) (k : Kont α) : evFun Tryz.prog SrEE7 (Do_49_h0) false Tryz.f26 (bodyOf Tryz.f26) 200 (mkS [.val (.int .i64), .val (.sl (.int .i64))] ((49 : Int), a1, ())) (mkH [] ()) (fun v H => k (weakF v) H) = outOf (Do_49 a1) fun v => k (.tup [.sl (.int .i64) v.1 false, .lit (.int .i64 v.2)]) [] :=
  (show _ = Do_49_t a1 (fun v => k (.tup [.sl (.int .i64) v.1 false, .lit (.int .i64 v.2)]) []) from by kernel_rfl).trans (Do_49_t_eq a1 _)
/-! f26 tenterhook/pure.Do -/
def Do_50_h0 : Hints := Hints.nil 0
theorem Do_50_h0_ok : Do_50_h0.OK Tryz.prog (bodyOf Tryz.f26) := Hints.nil_ok
abbrev Do_50_R : Type := ((List Int) × Int)
noncomputable def Do_50_t {γ : Type} (a1 : (List Int)) (k : Do_50_R → Option γ) : Option γ := cond (decide ((↑(List.length a1) : Int) < (2 : Int))) (k (a1, (-4 : Int))) (cond (decide ((↑(List.length a1) : Int) > (64 : Int))) (k (a1, (-3 : Int))) (outOf (stk_Pop a1 (2 : Int)) fun (x1 : ((List Int) × ((List Int) × Int))) => cond (decide ((0 : Int) ≤ (0 : Int) ∧ (0 : Int) < (↑(List.length x1.2.1) : Int))) (cond (decide ((0 : Int) ≤ (1 : Int) ∧ (1 : Int) < (↑(List.length x1.2.1) : Int))) (outOf (stk_Push x1.1 (64 : Int) [ibits BinOp.or IntKind.i64 (List.getD x1.2.1 (0 : Nat) (0 : Int)) (List.getD x1.2.1 (1 : Nat) (0 : Int))]) fun (x2 : ((List Int) × Int)) => cond (x2.2 != (0 : Int)) (cond (x2.2 != (0 : Int)) (k (a1, x2.2)) (k (a1, (0 : Int)))) (k (x2.1, (0 : Int)))) (none)) (none)))
noncomputable def Do_50 (a1 : (List Int)) : Option Do_50_R := Do_50_t a1 some
theorem Do_50_t_eq {γ : Type} (a1 : (List Int)) (k : Do_50_R → Option γ) : Do_50_t a1 k = outOf (Do_50 a1) k := by
  delta Do_50 Do_50_t; exact (Tr.nd Tr.lf (Tr.nd Tr.lf (Tr.bd fun x1 => (Tr.nd (Tr.nd (Tr.bd fun x2 => (Tr.nd (Tr.nd Tr.lf Tr.lf) Tr.lf)) Tr.no) Tr.no))))
theorem Do_50_ev {α : Type} (a1 : (List Int)) (k : Kont α) : evFun Tryz.prog SrEE7 (Do_50_h0) false Tryz.f26 (bodyOf Tryz.f26) 200 (mkS [.val (.int .i64), .val (.sl (.int .i64))] ((50 : Int), a1, ())) (mkH [] ()) (fun v H => k (weakF v) H) = outOf (Do_50 a1) fun v => k (.tup [.sl (.int .i64) v.1 false, .lit (.int .i64 v.2)]) [] :=
  (show _ = Do_50_t a1 (fun v => k (.tup [.sl (.int .i64) v.1 false, .lit (.int .i64 v.2)]) []) from by kernel_rfl).trans (Do_50_t_eq a1 _)
/-! f26 tenterhook/pure.Do -/
def Do_51_h0 : Hints := Hints.nil 0
theorem Do_51_h0_ok : Do_51_h0.OK Tryz.prog (bodyOf Tryz.f26) := Hints.nil_ok
abbrev Do_51_R : Type := ((List Int) × Int)
noncomputable def Do_51_t {γ : Type} (a1 : (List Int)) (k : Do_51_R → Option γ) : Option γ := cond (decide ((↑(List.length a1) : Int) < (2 : Int))) (k (a1, (-4 : Int))) (cond (decide ((↑(List.length a1) : Int) > (64 : Int))) (k (a1, (-3 : Int))) (outOf (stk_Pop a1 (2 : Int)) fun (x1 : ((List Int) × ((List Int) × Int))) => cond (decide ((0 : Int) ≤ (0 : Int) ∧ (0 : Int) < (↑(List.length x1.2.1) : Int))) (cond (decide ((0 : Int) ≤ (1 : Int) ∧ (1 : Int) < (↑(List.length x1.2.1) : Int))) (outOf (stk_Push x1.1 (64 : Int) [ibits BinOp.xor IntKind.i64 (List.getD x1.2.1 (0 : Nat) (0 : Int)) (List.getD x1.2.1 (1 : Nat) (0 : Int))]) fun (x2 : ((List Int) × Int)) => cond (x2.2 != (0 : Int)) (cond (x2.2 != (0 : Int)) (k (a1, x2.2)) (k (a1, (0 : Int)))) (k (x2.1, (0 : Int)))) (none)) (none)))
noncomputable def Do_51 (a1 : (List Int)) : Option Do_51_R := Do_51_t a1 some
theorem Do_51_t_eq {γ : Type} (a1 : (List Int)) (k : Do_51_R → Option γ) : Do_51_t a1 k = outOf (Do_51 a1) k := by
  delta Do_51 Do_51_t; exact (Tr.nd Tr.lf (Tr.nd Tr.lf (Tr.bd fun x1 => (Tr.nd (Tr.nd (Tr.bd fun x2 => (Tr.nd (Tr.nd Tr.lf Tr.lf) Tr.lf)) Tr.no) Tr.no))))
theorem Do_51_ev {α : Type} (a1 : (List Int)) (k : Kont α) : evFun Tryz.prog SrEE7 (Do_51_h0) false Tryz.f26 (bodyOf Tryz.f26) 200 (mkS [.val (.int .i64), .val (.sl (.int .i64))] ((51 : Int), a1, ())) (mkH [] ()) (fun v H => k (weakF v) H) = outOf (Do_51 a1) fun v => k (.tup [.sl (.int .i64) v.1 false, .lit (.int .i64 v.2)]) [] :=
  (show _ = Do_51_t a1 (fun v => k (.tup [.sl (.int .i64) v.1 false, .lit (.int .i64 v.2)]) []) from by kernel_rfl).trans (Do_51_t_eq a1 _)
/-! f26 tenterhook/pure.Do -/
def Do_52_h0 : Hints := Hints.nil 0
theorem Do_52_h0_ok : Do_52_h0.OK Tryz.prog (bodyOf Tryz.f26) := Hints.nil_ok
abbrev Do_52_R : Type := ((List Int) × Int)
noncomputable def Do_52_t {γ : Type} (a1 : (List Int)) (k : Do_52_R → Option γ) : Option γ := cond (decide ((↑(List.length a1) : Int) < (1 : Int))) (k (a1, (-4 : Int))) (cond (decide ((↑(List.length a1) : Int) > (64 : Int))) (k (a1, (-3 : Int))) (outOf (stk_Pop a1 (1 : Int)) fun (x1 : ((List Int) × ((List Int) × Int))) => cond (decide ((0 : Int) ≤ (0 : Int) ∧ (0 : Int) < (↑(List.length x1.2.1) : Int))) (outOf (stk_Push x1.1 (64 : Int) [ibits BinOp.xor IntKind.i64 (-1 : Int) (List.getD x1.2.1 (0 : Nat) (0 : Int))]) fun (x2 : ((List Int) × Int)) => cond (x2.2 != (0 : Int)) (cond (x2.2 != (0 : Int)) (k (a1, x2.2)) (k (a1, (0 : Int)))) (k (x2.1, (0 : Int)))) (none)))
noncomputable def Do_52 (a1 : (List Int)) : Option Do_52_R := Do_52_t a1 some
theorem Do_52_t_eq {γ : Type} (a1 : (List Int)) (k : Do_52_R → Option γ) : Do_52_t a1 k = outOf (Do_52 a1) k := by
  delta Do_52 Do_52_t; exact (Tr.nd Tr.lf (Tr.nd Tr.lf (Tr.bd fun x1 => (Tr.nd (Tr.bd fun x2 => (Tr.nd (Tr.nd Tr.lf Tr.lf) Tr.lf)) Tr.no))))
theorem Do_52_ev {α : Type} (a1 : (List Int)) (k : Kont α) : evFun Tryz.prog SrEE7 (Do_52_h0) false Tryz.f26 (bodyOf Tryz.f26) 200 (mkS [.val (.int .i64), .val (.sl (.int .i64))] ((52 : Int), a1, ())) (mkH [] ()) (fun v H => k (weakF v) H) = outOf (Do_52 a1) fun v => k (.tup [.sl (.int .i64) v.1 false, .lit (.int .i64 v.2)]) [] :=
  (show _ = Do_52_t a1 (fun v => k (.tup [.sl (.int .i64) v.1 false, .lit (.int .i64 v.2)]) []) from by kernel_rfl).trans (Do_52_t_eq a1 _)
/-! f26 tenterhook/pure.Do -/
def Do_53_h0 : Hints := Hints.nil 0
theorem Do_53_h0_ok : Do_53_h0.OK Tryz.prog (bodyOf Tryz.f26) := Hints.nil_ok
abbrev Do_53_R : Type := ((List Int) × Int)
noncomputable def Do_53_t {γ : Type} (a1 : (List Int)) (k : Do_53_R → Option γ) : Option γ := cond (decide ((↑(List.length a1) : Int) < (2 : Int))) (k (a1, (-4 : Int))) (cond (decide ((↑(List.length a1) : Int) > (64 : Int))) (k (a1, (-3 : Int))) (outOf (stk_Pop a1 (2 : Int)) fun (x1 : ((List Int) × ((List Int) × Int))) => cond (decide ((0 : Int) ≤ (0 : Int) ∧ (0 : Int) < (↑(List.length x1.2.1) : Int))) (cond (decide ((0 : Int) ≤ (1 : Int) ∧ (1 : Int) < (↑(List.length x1.2.1) : Int))) (outOf (cell_Shl (List.getD x1.2.1 (0 : Nat) (0 : Int)) (List.getD x1.2.1 (1 : Nat) (0 : Int))) fun (x2 : Int) => outOf (stk_Push x1.1 (64 : Int) [x2]) fun (x3 : ((List Int) × Int)) => cond (x3.2 != (0 : Int)) (cond (x3.2 != (0 : Int)) (k (a1, x3.2)) (k (a1, (0 : Int)))) (k (x3.1, (0 : Int)))) (none)) (none)))
noncomputable def Do_53 (a1 : (List Int)) : Option Do_53_R := Do_53_t a1 some
theorem Do_53_t_eq {γ : Type} (a1 : (List Int)) (k : Do_53_R → Option γ) : Do_53_t a1 k = outOf (Do_53 a1) k := by
  delta Do_53 Do_53_t; exact (Tr.nd Tr.lf (Tr.nd Tr.lf (Tr.bd fun x1 => (Tr.nd (Tr.nd (Tr.bd fun x2 => (Tr.bd fun x3 => (Tr.nd (Tr.nd Tr.lf Tr.lf) Tr.lf))) Tr.no) Tr.no))))
theorem Do_53_ev {α : Type} (a1 : (List Int)) (k : Kont α) : evFun Tryz.prog SrEE7 (Do_53_h0) false Tryz.f26 (bodyOf Tryz.f26) 200 (mkS [.val (.int .i64), .val (.sl (.int .i64))] ((53 : Int), a1, ())) (mkH [] ()) (fun v H => k (weakF v) H) = outOf (Do_53 a1) fun v => k (.tup [.sl (.int .i64) v.1 false, .lit (.int .i64 v.2)]) [] :=
  (show _ = Do_53_t a1 (fun v => k (.tup [.sl (.int .i64) v.1 false, .lit (.int .i64 v.2)]) []) from by kernel_rfl).trans (Do_53_t_eq a1 _)
/-! f26 tenterhook/pure.Do -/
def Do_54_h0 : Hints := Hints.nil 0
theorem Do_54_h0_ok : Do_54_h0.OK Tryz.prog (bodyOf Tryz.f26) := Hints.nil_ok
abbrev Do_54_R : Type := ((List Int) × Int)
noncomputable def Do_54_t {γ : Type} (a1 : (List Int)) (k : Do_54_R → Option γ) : Option γ := cond (decide ((↑(List.length a1) : Int) < (2 : Int))) (k (a1, (-4 : Int))) (cond (decide ((↑(List.length a1) : Int) > (64 : Int))) (k (a1, (-3 : Int))) (outOf (stk_Pop a1 (2 : Int)) fun (x1 : ((List Int) × ((List Int) × Int))) => cond (decide ((0 : Int) ≤ (0 : Int) ∧ (0 : Int) < (↑(List.length x1.2.1) : Int))) (cond (decide ((0 : Int) ≤ (1 : Int) ∧ (1 : Int) < (↑(List.length x1.2.1) : Int))) (outOf (cell_Shr (List.getD x1.2.1 (0 : Nat) (0 : Int)) (List.getD x1.2.1 (1 : Nat) (0 : Int))) fun (x2 : Int) => outOf (stk_Push x1.1 (64 : Int) [x2]) fun (x3 : ((List Int) × Int)) => cond (x3.2 != (0 : Int)) (cond (x3.2 != (0 : Int)) (k (a1, x3.2)) (k (a1, (0 : Int)))) (k (x3.1, (0 : Int)))) (none)) (none)))
noncomputable def Do_54 (a1 : (List Int)) : Option Do_54_R := Do_54_t a1 some
theorem Do_54_t_eq {γ : Type} (a1 : (List Int)) (k : Do_54_R → Option γ) : Do_54_t a1 k = outOf (Do_54 a1) k := by
  delta Do_54 Do_54_t; exact (Tr.nd Tr.lf (Tr.nd Tr.lf (Tr.bd fun x1 => (Tr.nd (Tr.nd (Tr.bd fun x2 => (Tr.bd fun x3 => (Tr.nd (Tr.nd Tr.lf Tr.lf) Tr.lf))) Tr.no) Tr.no))))
theorem Do_54_ev {α : Type} (a1 : (List Int)) (k : Kont α) : evFun Tryz.prog SrEE7 (Do_54_h0) false Tryz.f26 (bodyOf Tryz.f26) 200 (mkS [.val (.int .i64), .val (.sl (.int .i64))] ((54 : Int), a1, ())) (mkH [] ()) (fun v H => k (weakF v) H) = outOf (Do_54 a1) fun v => k (.tup [.sl (.int .i64) v.1 false, .lit (.int .i64 v.2)]) [] :=
  (show _ = Do_54_t a1 (fun v => k (.tup [.sl (.int .i64) v.1 false, .lit (.int .i64 v.2)]) []) from by kernel_rfl).trans (Do_54_t_eq a1 _)
/-! f26 tenterhook/pure.Do -/
def Do_55_h0 : Hints := Hints.nil 0
theorem Do_55_h0_ok : Do_55_h0.OK Tryz.prog (bodyOf Tryz.f26) := Hints.nil_ok
abbrev Do_55_R : Type := ((List Int) × Int)
noncomputable def Do_55_t {γ : Type} (a1 : (List Int)) (k : Do_55_R → Option γ) : Option γ := cond (decide ((↑(List.length a1) : Int) < (2 : Int))) (k (a1, (-4 : Int))) (cond (decide ((↑(List.length a1) : Int) > (64 : Int))) (k (a1, (-3 : Int))) (outOf (stk_Pop a1 (2 : Int)) fun (x1 : ((List Int) × ((List Int) × Int))) => cond (decide ((0 : Int) ≤ (0 : Int) ∧ (0 : Int) < (↑(List.length x1.2.1) : Int))) (cond (decide ((0 : Int) ≤ (1 : Int) ∧ (1 : Int) < (↑(List.length x1.2.1) : Int))) (outOf (cell_Flag (List.getD x1.2.1 (0 : Nat) (0 : Int) == List.getD x1.2.1 (1 : Nat) (0 : Int))) fun (x2 : Int) => outOf (stk_Push x1.1 (64 : Int) [x2]) fun (x3 : ((List Int) × Int)) => cond (x3.2 != (0 : Int)) (cond (x3.2 != (0 : Int)) (k (a1, x3.2)) (k (a1, (0 : Int)))) (k (x3.1, (0 : Int)))) (none)) (none)))
noncomputable def Do_55 (a1 : (List Int)) : Option Do_55_R := Do_55_t a1 some
theorem Do_55_t_eq {γ : Type} (a1 : (List Int)) (k : Do_55_R → Option γ) : Do_55_t a1 k = outOf (Do_55 a1) k := by
  delta Do_55 Do_55_t; exact (Tr.nd Tr.lf (Tr.nd Tr.lf (Tr.bd fun x1 => (Tr.nd (Tr.nd (Tr.bd fun x2 => (Tr.bd fun x3 => (Tr.nd (Tr.nd Tr.lf Tr.lf) Tr.lf))) Tr.no) Tr.no))))
theorem Do_55_ev {α : Type} (a1 : (List Int)) (k : Kont α) : evFun Tryz.prog SrEE7 (Do_55_h0) false Tryz.f26 (bodyOf Tryz.f26) 200 (mkS [.val (.int .i64), .val (.sl (.int .i64))] ((55 : Int), a1, ())) (mkH [] ()) (fun v H => k (weakF v) H) = outOf (Do_55 a1) fun v => k (.tup [.sl (.int .i64) v.1 false, .lit (.int .i64 v.2)]) [] :=
  (show _ = Do_55_t a1 (fun v => k (.tup [.sl (.int .i64) v.1 false, .lit (.int .i64 v.2)]) []) from by kernel_rfl).trans (Do_55_t_eq a1 _)
/-! f26 tenterhook/pure.Do -/
def Do_56_h0 : Hints := Hints.nil 0
theorem Do_56_h0_ok : Do_56_h0.OK Tryz.prog (bodyOf Tryz.f26) := Hints.nil_ok
abbrev Do_56_R : Type := ((List Int) × Int)
noncomputable def Do_56_t {γ : Type} (a1 : (List Int)) (k : Do_56_R → Option γ) : Option γ := cond (decide ((↑(List.length a1) : Int) < (2 : Int))) (k (a1, (-4 : Int))) (cond (decide ((↑(List.length a1) : Int) > (64 : Int))) (k (a1, (-3 : Int))) (outOf (stk_Pop a1 (2 : Int)) fun (x1 : ((List Int) × ((List Int) × Int))) => cond (decide ((0 : Int) ≤ (0 : Int) ∧ (0 : Int) < (↑(List.length x1.2.1) : Int))) (cond (decide ((0 : Int) ≤ (1 : Int) ∧ (1 : Int) < (↑(List.length x1.2.1) : Int))) (outOf (cell_Flag (List.getD x1.2.1 (0 : Nat) (0 : Int) != List.getD x1.2.1 (1 : Nat) (0 : Int))) fun (x2 : Int) => outOf (stk_Push x1.1 (64 : Int) [x2]) fun (x3 : ((List Int) × Int)) => cond (x3.2 != (0 : Int)) (cond (x3.2 != (0 : Int)) (k (a1, x3.2)) (k (a1, (0 : Int)))) (k (x3.1, (0 : Int)))) (none)) (none)))
noncomputable def Do_56 (a1 : (List Int)) : Option Do_56_R := Do_56_t a1 some
theorem Do_56_t_eq {γ : Type} (a1 : (List Int)) (k : Do_56_R → Option γ) : Do_56_t a1 k = outOf (Do_56 a1) k := by
  delta Do_56 Do_56_t; exact (Tr.nd Tr.lf (Tr.nd Tr.lf (Tr.bd fun x1 => (Tr.nd (Tr.nd (Tr.bd fun x2 => (Tr.bd fun x3 => (Tr.nd (Tr.nd Tr.lf Tr.lf) Tr.lf))) Tr.no) Tr.no))))
theorem Do_56_ev {α : Type} (a1 : (List Int)) (k : Kont α) : evFun Tryz.prog SrEE7 (Do_56_h0) false Tryz.f26 (bodyOf Tryz.f26) 200 (mkS [.val (.int .i64), .val (.sl (.int .i64))] ((56 : Int), a1, ())) (mkH [] ()) (fun v H => k (weakF v) H) = outOf (Do_56 a1) fun v => k (.tup [.sl (.int .i64) v.1 false, .lit (.int .i64 v.2)]) [] :=
  (show _ = Do_56_t a1 (fun v => k (.tup [.sl (.int .i64) v.1 false, .lit (.int .i64 v.2)]) []) from by kernel_rfl).trans (Do_56_t_eq a1 _)
/-! f26 tenterhook/pure.Do -/
def Do_57_h0 : Hints := Hints.nil 0
theorem Do_57_h0_ok : Do_57_h0.OK Tryz.prog (bodyOf Tryz.f26) := Hints.nil_ok
abbrev Do_57_R : Type := ((List Int) × Int)
noncomputable def Do_57_t {γ : Type} (a1 : (List Int)) (k : Do_57_R → Option γ) : Option γ := cond (decide ((↑(List.length a1) : Int) < (2 : Int))) (k (a1, (-4 : Int))) (cond (decide ((↑(List.length a1) : Int) > (64 : Int))) (k (a1, (-3 : Int))) (outOf (stk_Pop a1 (2 : Int)) fun (x1 : ((List Int) × ((List Int) × Int))) => cond (decide ((0 : Int) ≤ (0 : Int) ∧ (0 : Int) < (↑(List.length x1.2.1) : Int))) (cond (decide ((0 : Int) ≤ (1 : Int) ∧ (1 : Int) < (↑(List.length x1.2.1) : Int))) (outOf (cell_Flag (decide (List.getD x1.2.1 (0 : Nat) (0 : Int) < List.getD x1.2.1 (1 : Nat) (0 : Int)))) fun (x2 : Int) => outOf (stk_Push x1.1 (64 : Int) [x2]) fun (x3 : ((List Int) × Int)) => cond (x3.2 != (0 : Int)) (cond (x3.2 != (0 : Int)) (k (a1, x3.2)) (k (a1, (0 : Int)))) (k (x3.1, (0 : Int)))) (none)) (none)))
noncomputable def Do_57 (a1 : (List Int)) : Option Do_57_R := Do_57_t a1 some
theorem Do_57_t_eq {γ : Type} (a1 : (List Int)) (k : Do_57_R → Option γ) : Do_57_t a1 k = outOf (Do_57 a1) k := by
  delta Do_57 Do_57_t; exact (Tr.nd Tr.lf (Tr.nd Tr.lf (Tr.bd fun x1 => (Tr.nd (Tr.nd (Tr.bd fun x2 => (Tr.bd fun x3 => (Tr.nd (Tr.nd Tr.lf Tr.lf) Tr.lf))) Tr.no) Tr.no))))
theorem Do_57_ev {α : Type} (a1 : (List Int)) (k : Kont α) : evFun Tryz.prog SrEE7 (Do_57_h0) false Tryz.f26 (bodyOf Tryz.f26) 200 (mkS [.val (.int .i64), .val (.sl (.int .i64))] ((57 : Int), a1, ())) (mkH [] ()) (fun v H => k (weakF v) H) = outOf (Do_57 a1) fun v => k (.tup [.sl (.int .i64) v.1 false, .lit (.int .i64 v.2)]) [] :=
  (show _ = Do_57_t a1 (fun v => k (.tup [.sl (.int .i64) v.1 false, .lit (.int .i64 v.2)]) []) from by kernel_rfl).trans (Do_57_t_eq a1 _)
/-! f26 tenterhook/pure.Do -/
def Do_58_h0 : Hints := Hints.nil 0
theorem Do_58_h0_ok : Do_58_h0.OK Tryz.prog (bodyOf Tryz.f26) := Hints.nil_ok
abbrev Do_58_R : Type := ((List Int) × Int)
noncomputable def Do_58_t {γ : Type} (a1 : (List Int)) (k : Do_58_R → Option γ) : Option γ := cond (decide ((↑(List.length a1) : Int) < (2 : Int))) (k (a1, (-4 : Int))) (cond (decide ((↑(List.length a1) : Int) > (64 : Int))) (k (a1, (-3 : Int))) (outOf (stk_Pop a1 (2 : Int)) fun (x1 : ((List Int) × ((List Int) × Int))) => cond (decide ((0 : Int) ≤ (0 : Int) ∧ (0 : Int) < (↑(List.length x1.2.1) : Int))) (cond (decide ((0 : Int) ≤ (1 : Int) ∧ (1 : Int) < (↑(List.length x1.2.1) : Int))) (outOf (cell_Flag (decide (List.getD x1.2.1 (0 : Nat) (0 : Int) > List.getD x1.2.1 (1 : Nat) (0 : Int)))) fun (x2 : Int) => outOf (stk_Push x1.1 (64 : Int) [x2]) fun (x3 : ((List Int) × Int)) => cond (x3.2 != (0 : Int)) (cond (x3.2 != (0 : Int)) (k (a1, x3.2)) (k (a1, (0 : Int)))) (k (x3.1, (0 : Int)))) (none)) (none)))
noncomputable def Do_58 (a1 : (List Int)) : Option Do_58_R := Do_58_t a1 some
theorem Do_58_t_eq {γ : Type} (a1 : (List Int)) (k : Do_58_R → Option γ) : Do_58_t a1 k = outOf (Do_58 a1) k := by
  delta Do_58 Do_58_t; exact (Tr.nd Tr.lf (Tr.nd Tr.lf (Tr.bd fun x1 => (Tr.nd (Tr.nd (Tr.bd fun x2 => (Tr.bd fun x3 => (Tr.nd (Tr.nd Tr.lf Tr.lf) Tr.lf))) Tr.no) Tr.no))))
theorem Do_58_ev {α : Type} (a1 : (List Int)) (k : Kont α) : evFun Tryz.prog SrEE7 (Do_58_h0) false Tryz.f26 (bodyOf Tryz.f26) 200 (mkS [.val (.int .i64), .val (.sl (.int .i64))] ((58 : Int), a1, ())) (mkH [] ()) (fun v H => k (weakF v) H) = outOf (Do_58 a1) fun v => k (.tup [.sl (.int .i64) v.1 false, .lit (.int .i64 v.2)]) [] :=
  (show _ = Do_58_t a1 (fun v => k (.tup [.sl (.int .i64) v.1 false, .lit (.int .i64 v.2)]) []) from by kernel_rfl).trans (Do_58_t_eq a1 _)
/-! f26 tenterhook/pure.Do -/
def Do_59_h0 : Hints := Hints.nil 0
theorem Do_59_h0_ok : Do_59_h0.OK Tryz.prog (bodyOf Tryz.f26) := Hints.nil_ok
abbrev Do_59_R : Type := ((List Int) × Int)
noncomputable def Do_59_t {γ : Type} (a1 : (List Int)) (k : Do_59_R → Option γ) : Option γ := cond (decide ((↑(List.length a1) : Int) < (2 : Int))) (k (a1, (-4 : Int))) (cond (decide ((↑(List.length a1) : Int) > (64 : Int))) (k (a1, (-3 : Int))) (outOf (stk_Pop a1 (2 : Int)) fun (x1 : ((List Int) × ((List Int) × Int))) => cond (decide ((0 : Int) ≤ (0 : Int) ∧ (0 : Int) < (↑(List.length x1.2.1) : Int))) (cond (decide ((0 : Int) ≤ (1 : Int) ∧ (1 : Int) < (↑(List.length x1.2.1) : Int))) (outOf (cell_Flag (cell_Ult (List.getD x1.2.1 (0 : Nat) (0 : Int)) (List.getD x1.2.1 (1 : Nat) (0 : Int)))) fun (x2 : Int) => outOf (stk_Push x1.1 (64 : Int) [x2]) fun (x3 : ((List Int) × Int)) => cond (x3.2 != (0 : Int)) (cond (x3.2 != (0 : Int)) (k (a1, x3.2)) (k (a1, (0 : Int)))) (k (x3.1, (0 : Int)))) (none)) (none)))
noncomputable def Do_59 (a1 : (List Int)) : Option Do_59_R := Do_59_t a1 some
theorem Do_59_t_eq {γ : Type} (a1 : (List Int)) (k : Do_59_R → Option γ) : Do_59_t a1 k = outOf (Do_59 a1) k := by
  delta Do_59 Do_59_t; exact (Tr.nd Tr.lf (Tr.nd Tr.lf (Tr.bd fun x1 => (Tr.nd (Tr.nd (Tr.bd fun x2 => (Tr.bd fun x3 => (Tr.nd (Tr.nd Tr.lf Tr.lf) Tr.lf))) Tr.no) Tr.no))))
theorem Do_59_ev {α : Type} (a1 : (List Int)) (k : Kont α) : evFun Tryz.prog SrEE7 (Do_59_h0) false Tryz.f26 (bodyOf Tryz.f26) 200 (mkS [.val (.int .i64), .val (.sl (.int .i64))] ((59 : Int), a1, ())) (mkH [] ()) (fun v H => k (weakF v) H) = outOf (Do_59 a1) fun v => k (.tup [.sl (.int .i64) v.1 false, .lit (.int .i64 v.2)]) [] :=
  (show _ = Do_59_t a1 (fun v => k (.tup [.sl (.int .i64) v.1 false, .lit (.int .i64 v.2)]) []) from by kernel_rfl).trans (Do_59_t_eq a1 _)
/-! f26 tenterhook/pure.Do -/
def Do_60_h0 : Hints := Hints.nil 0
theorem Do_60_h0_ok : Do_60_h0.OK Tryz.prog (bodyOf Tryz.f26) := Hints.nil_ok
abbrev Do_60_R : Type := ((List Int) × Int)
noncomputable def Do_60_t {γ : Type} (a1 : (List Int)) (k : Do_60_R → Option γ) : Option γ := cond (decide ((↑(List.length a1) : Int) < (1 : Int))) (k (a1, (-4 : Int))) (cond (decide ((↑(List.length a1) : Int) > (64 : Int))) (k (a1, (-3 : Int))) (outOf (stk_Pop a1 (1 : Int)) fun (x1 : ((List Int) × ((List Int) × Int))) => cond (decide ((0 : Int) ≤ (0 : Int) ∧ (0 : Int) < (↑(List.length x1.2.1) : Int))) (outOf (cell_Flag (List.getD x1.2.1 (0 : Nat) (0 : Int) == (0 : Int))) fun (x2 : Int) => outOf (stk_Push x1.1 (64 : Int) [x2]) fun (x3 : ((List Int) × Int)) => cond (x3.2 != (0 : Int)) (cond (x3.2 != (0 : Int)) (k (a1, x3.2)) (k (a1, (0 : Int)))) (k (x3.1, (0 : Int)))) (none)))
noncomputable def Do_60 (a1 : (List Int)) : Option Do_60_R := Do_60_t a1 some
theorem Do_60_t_eq {γ : Type} (a1 : (List Int)) (k : Do_60_R → Option γ) : Do_60_t a1 k = outOf (Do_60 a1) k := by
  delta Do_60 Do_60_t; exact (Tr.nd Tr.lf (Tr.nd Tr.lf (Tr.bd fun x1 => (Tr.nd (Tr.bd fun x2 => (Tr.bd fun x3 => (Tr.nd (Tr.nd Tr.lf Tr.lf) Tr.lf))) Tr.no))))
theorem Do_60_ev {α : Type} (a1 : (List Int)) (k : Kont α) : evFun Tryz.prog SrEE7 (Do_60_h0) false Tryz.f26 (bodyOf Tryz.f26) 200 (mkS [.val (.int .i64), .val (.sl (.int .i64))] ((60 : Int), a1, ())) (mkH [] ()) (fun v H => k (weakF v) H) = outOf (Do_60 a1) fun v => k (.tup [.sl (.int .i64) v.1 false, .lit (.int .i64 v.2)]) [] :=
  (show _ = Do_60_t a1 (fun v => k (.tup [.sl (.int .i64) v.1 false, .lit (.int .i64 v.2)]) []) from by kernel_rfl).trans (Do_60_t_eq a1 _)
/-! f26 tenterhook/pure.Do -/
def Do_61_h0 : Hints := Hints.nil 0
theorem Do_61_h0_ok : Do_61_h0.OK Tryz.prog (bodyOf Tryz.f26) := Hints.nil_ok
abbrev Do_61_R : Type := ((List Int) × Int)
noncomputable def Do_61_t {γ : Type} (a1 : (List Int)) (k : Do_61_R → Option γ) : Option γ := cond (decide ((↑(List.length a1) : Int) < (1 : Int))) (k (a1, (-4 : Int))) (cond (decide ((↑(List.length a1) : Int) > (64 : Int))) (k (a1, (-3 : Int))) (outOf (stk_Pop a1 (1 : Int)) fun (x1 : ((List Int) × ((List Int) × Int))) => cond (decide ((0 : Int) ≤ (0 : Int) ∧ (0 : Int) < (↑(List.length x1.2.1) : Int))) (outOf (cell_Flag (decide (List.getD x1.2.1 (0 : Nat) (0 : Int) < (0 : Int)))) fun (x2 : Int) => outOf (stk_Push x1.1 (64 : Int) [x2]) fun (x3 : ((List Int) × Int)) => cond (x3.2 != (0 : Int)) (cond (x3.2 != (0 : Int)) (k (a1, x3.2)) (k (a1, (0 : Int)))) (k (x3.1, (0 : Int)))) (none)))
noncomputable def Do_61 (a1 : (List Int)) : Option Do_61_R := Do_61_t a1 some
theorem Do_61_t_eq {γ : Type} (a1 : (List Int)) (k : Do_61_R → Option γ) : Do_61_t a1 k = outOf (Do_61 a1) k := by
  delta Do_61 Do_61_t; exact (Tr.nd Tr.lf (Tr.nd Tr.lf (Tr.bd fun x1 => (Tr.nd (Tr.bd fun x2 => (Tr.bd fun x3 => (Tr.nd (Tr.nd Tr.lf Tr.lf) Tr.lf))) Tr.no))))
theorem Do_61_ev {α : Type} (a1 : (List Int)) (k : Kont α) : evFun Tryz.prog SrEE7 (Do_61_h0) false Tryz.f26 (bodyOf Tryz.f26) 200 (mkS [.val (.int .i64), .val (.sl (.int .i64))] ((61 : Int), a1, ())) (mkH [] ()) (fun v H => k (weakF v) H) = outOf (Do_61 a1) fun v => k (.tup [.sl (.int .i64) v.1 false, .lit (.int .i64 v.2)]) [] :=
  (show _ = Do_61_t a1 (fun v => k (.tup [.sl (.int .i64) v.1 false, .lit (.int .i64 v.2)]) []) from by kernel_rfl).trans (Do_61_t_eq a1 _)
end Go.Proofs.Dbl
