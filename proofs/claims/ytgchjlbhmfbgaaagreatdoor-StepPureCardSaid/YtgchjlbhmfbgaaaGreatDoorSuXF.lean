import Derived.Test.YtgchjlbhmfbgaaaGreatDoorSuXE
namespace Go.Proofs.Dbl
open Go Go.TX Go.Proofs
set_option maxRecDepth 100000
set_option linter.unusedVariables false
set_option maxHeartbeats 0
/-! f26 tenterhook/pure.Do -/
def Do_18_h0 : Hints := Hints.nil 0
theorem Do_18_h0_ok : Do_18_h0.OK Tryz.prog (bodyOf Tryz.f26) := Hints.nil_ok
abbrev Do_18_R : Type := ((List Int) × Int)
noncomputable def Do_18_t {γ : Type} (a1 : (List Int)) (k : Do_18_R → Option γ) : Option γ := cond (decide ((↑(List.length a1) : Int) < (1 : Int))) (k (a1, (-4 : Int))) (cond (decide ((↑(List.length a1) : Int) > (64 : Int))) (k (a1, (-3 : Int))) (outOf (stk_Permute a1 (1 : Int) (List.take (2 : Nat) (List.drop (0 : Nat) [(0 : Int), (0 : Int)])) (64 : Int)) fun (x1 : ((List Int) × Int)) => cond (x1.2 != (0 : Int)) (k (a1, x1.2)) (k (x1.1, (0 : Int)))))
noncomputable def Do_18 (a1 : (List Int)) : Option Do_18_R := Do_18_t a1 some
theorem Do_18_t_eq {γ : Type} (a1 : (List Int)) (k : Do_18_R → Option γ) : Do_18_t a1 k = outOf (Do_18 a1) k := by
  delta Do_18 Do_18_t; exact (Tr.nd Tr.lf (Tr.nd Tr.lf (Tr.bd fun x1 => (Tr.nd Tr.lf Tr.lf))))
theorem Do_18_ev {α : Type} (a1 : (List Int)) (k : Kont α) : evFun Tryz.prog SrEE7 (Do_18_h0) false Tryz.f26 (bodyOf Tryz.f26) 200 (mkS [.val (.int .i64), .val (.sl (.int .i64))] ((18 : Int), a1, ())) (mkH [] ()) (fun v H => k (weakF v) H) = outOf (Do_18 a1) fun v => k (.tup [.sl (.int .i64) v.1 false, .lit (.int .i64 v.2)]) [] :=
  (show _ = Do_18_t a1 (fun v => k (.tup [.sl (.int .i64) v.1 false, .lit (.int .i64 v.2)]) []) from by kernel_rfl).trans (Do_18_t_eq a1 _)
/-! f26 tenterhook/pure.Do -/
def Do_19_h0 : Hints := Hints.nil 0
theorem Do_19_h0_ok : Do_19_h0.OK Tryz.prog (bodyOf Tryz.f26) := Hints.nil_ok
abbrev Do_19_R : Type := ((List Int) × Int)
noncomputable def Do_19_t {γ : Type} (a1 : (List Int)) (k : Do_19_R → Option γ) : Option γ := cond (decide ((↑(List.length a1) : Int) < (1 : Int))) (k (a1, (-4 : Int))) (cond (decide ((↑(List.length a1) : Int) > (64 : Int))) (k (a1, (-3 : Int))) (outOf (stk_Permute a1 (1 : Int) (List.take (0 : Nat) (List.drop (0 : Nat) [])) (64 : Int)) fun (x1 : ((List Int) × Int)) => cond (x1.2 != (0 : Int)) (k (a1, x1.2)) (k (x1.1, (0 : Int)))))
noncomputable def Do_19 (a1 : (List Int)) : Option Do_19_R := Do_19_t a1 some
theorem Do_19_t_eq {γ : Type} (a1 : (List Int)) (k : Do_19_R → Option γ) : Do_19_t a1 k = outOf (Do_19 a1) k := by
  delta Do_19 Do_19_t; exact (Tr.nd Tr.lf (Tr.nd Tr.lf (Tr.bd fun x1 => (Tr.nd Tr.lf Tr.lf))))
theorem Do_19_ev {α : Type} (a1 : (List Int)) (k : Kont α) : evFun Tryz.prog SrEE7 (Do_19_h0) false Tryz.f26 (bodyOf Tryz.f26) 200 (mkS [.val (.int .i64), .val (.sl (.int .i64))] ((19 : Int), a1, ())) (mkH [] ()) (fun v H => k (weakF v) H) = outOf (Do_19 a1) fun v => k (.tup [.sl (.int .i64) v.1 false, .lit (.int .i64 v.2)]) [] :=
  (show _ = Do_19_t a1 (fun v => k (.tup [.sl (.int .i64) v.1 false, .lit (.int .i64 v.2)]) []) from by kernel_rfl).trans (Do_19_t_eq a1 _)
/-! f26 tenterhook/pure.Do -/
def Do_20_h0 : Hints := Hints.nil 0
theorem Do_20_h0_ok : Do_20_h0.OK Tryz.prog (bodyOf Tryz.f26) := Hints.nil_ok
abbrev Do_20_R : Type := ((List Int) × Int)
noncomputable def Do_20_t {γ : Type} (a1 : (List Int)) (k : Do_20_R → Option γ) : Option γ := cond (decide ((↑(List.length a1) : Int) < (2 : Int))) (k (a1, (-4 : Int))) (cond (decide ((↑(List.length a1) : Int) > (64 : Int))) (k (a1, (-3 : Int))) (outOf (stk_Permute a1 (2 : Int) (List.take (2 : Nat) (List.drop (0 : Nat) [(1 : Int), (0 : Int)])) (64 : Int)) fun (x1 : ((List Int) × Int)) => cond (x1.2 != (0 : Int)) (k (a1, x1.2)) (k (x1.1, (0 : Int)))))
noncomputable def Do_20 (a1 : (List Int)) : Option Do_20_R := Do_20_t a1 some
theorem Do_20_t_eq {γ : Type} (a1 : (List Int)) (k : Do_20_R → Option γ) : Do_20_t a1 k = outOf (Do_20 a1) k := by
  delta Do_20 Do_20_t; exact (Tr.nd Tr.lf (Tr.nd Tr.lf (Tr.bd fun x1 => (Tr.nd Tr.lf Tr.lf))))
theorem Do_20_ev {α : Type} (a1 : (List Int)) (k : Kont α) : evFun Tryz.prog SrEE7 (Do_20_h0) false Tryz.f26 (bodyOf Tryz.f26) 200 (mkS [.val (.int .i64), .val (.sl (.int .i64))] ((20 : Int), a1, ())) (mkH [] ()) (fun v H => k (weakF v) H) = outOf (Do_20 a1) fun v => k (.tup [.sl (.int .i64) v.1 false, .lit (.int .i64 v.2)]) [] :=
  (show _ = Do_20_t a1 (fun v => k (.tup [.sl (.int .i64) v.1 false, .lit (.int .i64 v.2)]) []) from by kernel_rfl).trans (Do_20_t_eq a1 _)
/-! f26 tenterhook/pure.Do -/
def Do_21_h0 : Hints := Hints.nil 0
theorem Do_21_h0_ok : Do_21_h0.OK Tryz.prog (bodyOf Tryz.f26) := Hints.nil_ok
abbrev Do_21_R : Type := ((List Int) × Int)
noncomputable def Do_21_t {γ : Type} (a1 : (List Int)) (k : Do_21_R → Option γ) : Option γ := cond (decide ((↑(List.length a1) : Int) < (2 : Int))) (k (a1, (-4 : Int))) (cond (decide ((↑(List.length a1) : Int) > (64 : Int))) (k (a1, (-3 : Int))) (outOf (stk_Permute a1 (2 : Int) (List.take (3 : Nat) (List.drop (0 : Nat) [(0 : Int), (1 : Int), (0 : Int)])) (64 : Int)) fun (x1 : ((List Int) × Int)) => cond (x1.2 != (0 : Int)) (k (a1, x1.2)) (k (x1.1, (0 : Int)))))
noncomputable def Do_21 (a1 : (List Int)) : Option Do_21_R := Do_21_t a1 some
theorem Do_21_t_eq {γ : Type} (a1 : (List Int)) (k : Do_21_R → Option γ) : Do_21_t a1 k = outOf (Do_21 a1) k := by
  delta Do_21 Do_21_t; exact (Tr.nd Tr.lf (Tr.nd Tr.lf (Tr.bd fun x1 => (Tr.nd Tr.lf Tr.lf))))
theorem Do_21_ev {α : Type} (a1 : (List Int)) (k : Kont α) : evFun Tryz.prog SrEE7 (Do_21_h0) false Tryz.f26 (bodyOf Tryz.f26) 200 (mkS [.val (.int .i64), .val (.sl (.int .i64))] ((21 : Int), a1, ())) (mkH [] ()) (fun v H => k (weakF v) H) = outOf (Do_21 a1) fun v => k (.tup [.sl (.int .i64) v.1 false, .lit (.int .i64 v.2)]) [] :=
  (show _ = Do_21_t a1 (fun v => k (.tup [.sl (.int .i64) v.1 false, .lit (.int .i64 v.2)]) []) from by kernel_rfl).trans (Do_21_t_eq a1 _)
/-! f26 tenterhook/pure.Do -/
def Do_22_h0 : Hints := Hints.nil 0
theorem Do_22_h0_ok : Do_22_h0.OK Tryz.prog (bodyOf Tryz.f26) := Hints.nil_ok
abbrev Do_22_R : Type := ((List Int) × Int)
noncomputable def Do_22_t {γ : Type} (a1 : (List Int)) (k : Do_22_R → Option γ) : Option γ := cond (decide ((↑(List.length a1) : Int) < (3 : Int))) (k (a1, (-4 : Int))) (cond (decide ((↑(List.length a1) : Int) > (64 : Int))) (k (a1, (-3 : Int))) (outOf (stk_Permute a1 (3 : Int) (List.take (3 : Nat) (List.drop (0 : Nat) [(1 : Int), (2 : Int), (0 : Int)])) (64 : Int)) fun (x1 : ((List Int) × Int)) => cond (x1.2 != (0 : Int)) (k (a1, x1.2)) (k (x1.1, (0 : Int)))))
noncomputable def Do_22 (a1 : (List Int)) : Option Do_22_R := Do_22_t a1 some
theorem Do_22_t_eq {γ : Type} (a1 : (List Int)) (k : Do_22_R → Option γ) : Do_22_t a1 k = outOf (Do_22 a1) k := by
  delta Do_22 Do_22_t; exact (Tr.nd Tr.lf (Tr.nd Tr.lf (Tr.bd fun x1 => (Tr.nd Tr.lf Tr.lf))))
theorem Do_22_ev {α : Type} (a1 : (List Int)) (k : Kont α) : evFun Tryz.prog SrEE7 (Do_22_h0) false Tryz.f26 (bodyOf Tryz.f26) 200 (mkS [.val (.int .i64), .val (.sl (.int .i64))] ((22 : Int), a1, ())) (mkH [] ()) (fun v H => k (weakF v) H) = outOf (Do_22 a1) fun v => k (.tup [.sl (.int .i64) v.1 false, .lit (.int .i64 v.2)]) [] :=
  (show _ = Do_22_t a1 (fun v => k (.tup [.sl (.int .i64) v.1 false, .lit (.int .i64 v.2)]) []) from by kernel_rfl).trans (Do_22_t_eq a1 _)
/-! f26 tenterhook/pure.Do -/
def Do_23_h0 : Hints := Hints.nil 0
theorem Do_23_h0_ok : Do_23_h0.OK Tryz.prog (bodyOf Tryz.f26) := Hints.nil_ok
abbrev Do_23_R : Type := ((List Int) × Int)
noncomputable def Do_23_t {γ : Type} (a1 : (List Int)) (k : Do_23_R → Option γ) : Option γ := cond (decide ((↑(List.length a1) : Int) < (2 : Int))) (k (a1, (-4 : Int))) (cond (decide ((↑(List.length a1) : Int) > (64 : Int))) (k (a1, (-3 : Int))) (outOf (stk_Permute a1 (2 : Int) (List.take (1 : Nat) (List.drop (0 : Nat) [(1 : Int)])) (64 : Int)) fun (x1 : ((List Int) × Int)) => cond (x1.2 != (0 : Int)) (k (a1, x1.2)) (k (x1.1, (0 : Int)))))
noncomputable def Do_23 (a1 : (List Int)) : Option Do_23_R := Do_23_t a1 some
theorem Do_23_t_eq {γ : Type} (a1 : (List Int)) (k : Do_23_R → Option γ) : Do_23_t a1 k = outOf (Do_23 a1) k := by
  delta Do_23 Do_23_t; exact (Tr.nd Tr.lf (Tr.nd Tr.lf (Tr.bd fun x1 => (Tr.nd Tr.lf Tr.lf))))
theorem Do_23_ev {α : Type} (a1 : (List Int)) (k : Kont α) : evFun Tryz.prog SrEE7 (Do_23_h0) false Tryz.f26 (bodyOf Tryz.f26) 200 (mkS [.val (.int .i64), .val (.sl (.int .i64))] ((23 : Int), a1, ())) (mkH [] ()) (fun v H => k (weakF v) H) = outOf (Do_23 a1) fun v => k (.tup [.sl (.int .i64) v.1 false, .lit (.int .i64 v.2)]) [] :=
  (show _ = Do_23_t a1 (fun v => k (.tup [.sl (.int .i64) v.1 false, .lit (.int .i64 v.2)]) []) from by kernel_rfl).trans (Do_23_t_eq a1 _)
/-! f26 tenterhook/pure.Do -/
def Do_24_h0 : Hints := Hints.nil 0
theorem Do_24_h0_ok : Do_24_h0.OK Tryz.prog (bodyOf Tryz.f26) := Hints.nil_ok
abbrev Do_24_R : Type := ((List Int) × Int)
noncomputable def Do_24_t {γ : Type} (a1 : (List Int)) (k : Do_24_R → Option γ) : Option γ := cond (decide ((↑(List.length a1) : Int) < (2 : Int))) (k (a1, (-4 : Int))) (cond (decide ((↑(List.length a1) : Int) > (64 : Int))) (k (a1, (-3 : Int))) (outOf (stk_Permute a1 (2 : Int) (List.take (3 : Nat) (List.drop (0 : Nat) [(1 : Int), (0 : Int), (1 : Int)])) (64 : Int)) fun (x1 : ((List Int) × Int)) => cond (x1.2 != (0 : Int)) (k (a1, x1.2)) (k (x1.1, (0 : Int)))))
noncomputable def Do_24 (a1 : (List Int)) : Option Do_24_R := Do_24_t a1 some
theorem Do_24_t_eq {γ : Type} (a1 : (List Int)) (k : Do_24_R → Option γ) : Do_24_t a1 k = outOf (Do_24 a1) k := by
  delta Do_24 Do_24_t; exact (Tr.nd Tr.lf (Tr.nd Tr.lf (Tr.bd fun x1 => (Tr.nd Tr.lf Tr.lf))))
theorem Do_24_ev {α : Type} (a1 : (List Int)) (k : Kont α) : evFun Tryz.prog SrEE7 (Do_24_h0) false Tryz.f26 (bodyOf Tryz.f26) 200 (mkS [.val (.int .i64), .val (.sl (.int .i64))] ((24 : Int), a1, ())) (mkH [] ()) (fun v H => k (weakF v) H) = outOf (Do_24 a1) fun v => k (.tup [.sl (.int .i64) v.1 false, .lit (.int .i64 v.2)]) [] :=
  (show _ = Do_24_t a1 (fun v => k (.tup [.sl (.int .i64) v.1 false, .lit (.int .i64 v.2)]) []) from by kernel_rfl).trans (Do_24_t_eq a1 _)
/-! f26 tenterhook/pure.Do -/
def Do_25_h0 : Hints := Hints.nil 0
theorem Do_25_h0_ok : Do_25_h0.OK Tryz.prog (bodyOf Tryz.f26) := Hints.nil_ok
abbrev Do_25_R : Type := ((List Int) × Int)
noncomputable def Do_25_t {γ : Type} (a1 : (List Int)) (k : Do_25_R → Option γ) : Option γ := cond (decide ((↑(List.length a1) : Int) < (2 : Int))) (k (a1, (-4 : Int))) (cond (decide ((↑(List.length a1) : Int) > (64 : Int))) (k (a1, (-3 : Int))) (outOf (stk_Permute a1 (2 : Int) (List.take (4 : Nat) (List.drop (0 : Nat) [(0 : Int), (1 : Int), (0 : Int), (1 : Int)])) (64 : Int)) fun (x1 : ((List Int) × Int)) => cond (x1.2 != (0 : Int)) (k (a1, x1.2)) (k (x1.1, (0 : Int)))))
noncomputable def Do_25 (a1 : (List Int)) : Option Do_25_R := Do_25_t a1 some
theorem Do_25_t_eq {γ : Type} (a1 : (List Int)) (k : Do_25_R → Option γ) : Do_25_t a1 k = outOf (Do_25 a1) k := by
  delta Do_25 Do_25_t; exact (Tr.nd Tr.lf (Tr.nd Tr.lf (Tr.bd fun x1 => (Tr.nd Tr.lf Tr.lf))))
theorem Do_25_ev {α : Type} (a1 : (List Int)) (k : Kont α) : evFun Tryz.prog SrEE7 (Do_25_h0) false Tryz.f26 (bodyOf Tryz.f26) 200 (mkS [.val (.int .i64), .val (.sl (.int .i64))] ((25 : Int), a1, ())) (mkH [] ()) (fun v H => k (weakF v) H) = outOf (Do_25 a1) fun v => k (.tup [.sl (.int .i64) v.1 false, .lit (.int .i64 v.2)]) [] :=
  (show _ = Do_25_t a1 (fun v => k (.tup [.sl (.int .i64) v.1 false, .lit (.int .i64 v.2)]) []) from by kernel_rfl).trans (Do_25_t_eq a1 _)
/-! f26 tenterhook/pure.Do -/
def Do_26_h0 : Hints := Hints.nil 0
theorem Do_26_h0_ok : Do_26_h0.OK Tryz.prog (bodyOf Tryz.f26) := Hints.nil_ok
abbrev Do_26_R : Type := ((List Int) × Int)
noncomputable def Do_26_t {γ : Type} (a1 : (List Int)) (k : Do_26_R → Option γ) : Option γ := cond (decide ((↑(List.length a1) : Int) < (2 : Int))) (k (a1, (-4 : Int))) (cond (decide ((↑(List.length a1) : Int) > (64 : Int))) (k (a1, (-3 : Int))) (outOf (stk_Permute a1 (2 : Int) (List.take (0 : Nat) (List.drop (0 : Nat) [])) (64 : Int)) fun (x1 : ((List Int) × Int)) => cond (x1.2 != (0 : Int)) (k (a1, x1.2)) (k (x1.1, (0 : Int)))))
noncomputable def Do_26 (a1 : (List Int)) : Option Do_26_R := Do_26_t a1 some
theorem Do_26_t_eq {γ : Type} (a1 : (List Int)) (k : Do_26_R → Option γ) : Do_26_t a1 k = outOf (Do_26 a1) k := by
  delta Do_26 Do_26_t; exact (Tr.nd Tr.lf (Tr.nd Tr.lf (Tr.bd fun x1 => (Tr.nd Tr.lf Tr.lf))))
theorem Do_26_ev {α : Type} (a1 : (List Int)) (k : Kont α) : evFun Tryz.prog SrEE7 (Do_26_h0) false Tryz.f26 (bodyOf Tryz.f26) 200 (mkS [.val (.int .i64), .val (.sl (.int .i64))] ((26 : Int), a1, ())) (mkH [] ()) (fun v H => k (weakF v) H) = outOf (Do_26 a1) fun v => k (.tup [.sl (.int .i64) v.1 false, .lit (.int .i64 v.2)]) [] :=
  (show _ = Do_26_t a1 (fun v => k (.tup [.sl (.int .i64) v.1 false, .lit (.int .i64 v.2)]) []) from by kernel_rfl).trans (Do_26_t_eq a1 _)
/-! f26 tenterhook/pure.Do -/
def Do_27_h0 : Hints := Hints.nil 0
theorem Do_27_h0_ok : Do_27_h0.OK Tryz.prog (bodyOf Tryz.f26) := Hints.nil_ok
abbrev Do_27_R : Type := ((List Int) × Int)
noncomputable def Do_27_t {γ : Type} (a1 : (List Int)) (k : Do_27_R → Option γ) : Option γ := cond (decide ((↑(List.length a1) : Int) < (4 : Int))) (k (a1, (-4 : Int))) (cond (decide ((↑(List.length a1) : Int) > (64 : Int))) (k (a1, (-3 : Int))) (outOf (stk_Permute a1 (4 : Int) (List.take (4 : Nat) (List.drop (0 : Nat) [(2 : Int), (3 : Int), (0 : Int), (1 : Int)])) (64 : Int)) fun (x1 : ((List Int) × Int)) => cond (x1.2 != (0 : Int)) (k (a1, x1.2)) (k (x1.1, (0 : Int)))))
noncomputable def Do_27 (a1 : (List Int)) : Option Do_27_R := Do_27_t a1 some
theorem Do_27_t_eq {γ : Type} (a1 : (List Int)) (k : Do_27_R → Option γ) : Do_27_t a1 k = outOf (Do_27 a1) k := by
  delta Do_27 Do_27_t; exact (Tr.nd Tr.lf (Tr.nd Tr.lf (Tr.bd fun x1 => (Tr.nd Tr.lf Tr.lf))))
theorem Do_27_ev {α : Type} (a1 : (List Int)) (k : Kont α) : evFun Tryz.prog SrEE7 (Do_27_h0) false Tryz.f26 (bodyOf Tryz.f26) 200 (mkS [.val (.int .i64), .val (.sl (.int .i64))] ((27 : Int), a1, ())) (mkH [] ()) (fun v H => k (weakF v) H) = outOf (Do_27 a1) fun v => k (.tup [.sl (.int .i64) v.1 false, .lit (.int .i64 v.2)]) [] :=
  (show _ = Do_27_t a1 (fun v => k (.tup [.sl (.int .i64) v.1 false, .lit (.int .i64 v.2)]) []) from by kernel_rfl).trans (Do_27_t_eq a1 _)
/-! f26 tenterhook/pure.Do -/
def Do_28_h0 : Hints := Hints.nil 0
theorem Do_28_h0_ok : Do_28_h0.OK Tryz.prog (bodyOf Tryz.f26) := Hints.nil_ok
abbrev Do_28_R : Type := ((List Int) × Int)
noncomputable def Do_28_t {γ : Type} (a1 : (List Int)) (k : Do_28_R → Option γ) : Option γ := cond (decide ((↑(List.length a1) : Int) < (4 : Int))) (k (a1, (-4 : Int))) (cond (decide ((↑(List.length a1) : Int) > (64 : Int))) (k (a1, (-3 : Int))) (outOf (stk_Permute a1 (4 : Int) (List.take (6 : Nat) (List.drop (0 : Nat) [(0 : Int), (1 : Int), (2 : Int), (3 : Int), (0 : Int), (1 : Int)])) (64 : Int)) fun (x1 : ((List Int) × Int)) => cond (x1.2 != (0 : Int)) (k (a1, x1.2)) (k (x1.1, (0 : Int)))))
noncomputable def Do_28 (a1 : (List Int)) : Option Do_28_R := Do_28_t a1 some
theorem Do_28_t_eq {γ : Type} (a1 : (List Int)) (k : Do_28_R → Option γ) : Do_28_t a1 k = outOf (Do_28 a1) k := by
  delta Do_28 Do_28_t; exact (Tr.nd Tr.lf (Tr.nd Tr.lf (Tr.bd fun x1 => (Tr.nd Tr.lf Tr.lf))))
theorem Do_28_ev {α : Type} (a1 : (List Int)) (k : Kont α) : evFun Tryz.prog SrEE7 (Do_28_h0) false Tryz.f26 (bodyOf Tryz.f26) 200 (mkS [.val (.int .i64), .val (.sl (.int .i64))] ((28 : Int), a1, ())) (mkH [] ()) (fun v H => k (weakF v) H) = outOf (Do_28 a1) fun v => k (.tup [.sl (.int .i64) v.1 false, .lit (.int .i64 v.2)]) [] :=
  (show _ = Do_28_t a1 (fun v => k (.tup [.sl (.int .i64) v.1 false, .lit (.int .i64 v.2)]) []) from by kernel_rfl).trans (Do_28_t_eq a1 _)
/-! f26 tenterhook/pure.Do -/
def Do_29_h0 : Hints := Hints.nil 0
theorem Do_29_h0_ok : Do_29_h0.OK Tryz.prog (bodyOf Tryz.f26) := Hints.nil_ok
abbrev Do_29_R : Type := ((List Int) × Int)
noncomputable def Do_29_t {γ : Type} (a1 : (List Int)) (k : Do_29_R → Option γ) : Option γ := cond (decide ((↑(List.length a1) : Int) < (1 : Int))) (k (a1, (-4 : Int))) (cond (decide ((↑(List.length a1) : Int) > (64 : Int))) (k (a1, (-3 : Int))) (outOf (stk_Pick a1 (0 : Int)) fun (x1 : (Int × Int)) => cond (x1.1 == (0 : Int)) (k (a1, (0 : Int))) (outOf (stk_Push a1 (64 : Int) [x1.1]) fun (x2 : ((List Int) × Int)) => cond (x2.2 != (0 : Int)) (k (a1, x2.2)) (k (x2.1, (0 : Int))))))
noncomputable def Do_29 (a1 : (List Int)) : Option Do_29_R := Do_29_t a1 some
theorem Do_29_t_eq {γ : Type} (a1 : (List Int)) (k : Do_29_R → Option γ) : Do_29_t a1 k = outOf (Do_29 a1) k := by
  delta Do_29 Do_29_t; exact (Tr.nd Tr.lf (Tr.nd Tr.lf (Tr.bd fun x1 => (Tr.nd Tr.lf (Tr.bd fun x2 => (Tr.nd Tr.lf Tr.lf))))))
theorem Do_29_ev {α : Type} (a1 : (List Int)) (k : Kont α) : evFun Tryz.prog SrEE7 (Do_29_h0) false Tryz.f26 (bodyOf Tryz.f26) 200 (mkS [.val (.int .i64), .val (.sl (.int .i64))] ((29 : Int), a1, ())) (mkH [] ()) (fun v H => k (weakF v) H) = outOf (Do_29 a1) fun v => k (.tup [.sl (.int .i64) v.1 false, .lit (.int .i64 v.2)]) [] :=
  (show _ = Do_29_t a1 (fun v => k (.tup [.sl (.int .i64) v.1 false, .lit (.int .i64 v.2)]) []) from by kernel_rfl).trans (Do_29_t_eq a1 _)
/-! f26 tenterhook/pure.Do -/
def Do_30_h0 : Hints := Hints.nil 0
theorem Do_30_h0_ok : Do_30_h0.OK Tryz.prog (bodyOf Tryz.f26) := Hints.nil_ok
abbrev Do_30_R : Type := ((List Int) × Int)
noncomputable def Do_30_t {γ : Type} (a1 : (List Int)) (k : Do_30_R → Option γ) : Option γ := cond (decide ((↑(List.length a1) : Int) < (1 : Int))) (k (a1, (-4 : Int))) (cond (decide ((↑(List.length a1) : Int) > (64 : Int))) (k (a1, (-3 : Int))) (outOf (stk_Pop a1 (1 : Int)) fun (x1 : ((List Int) × ((List Int) × Int))) => cond (decide ((0 : Int) ≤ (0 : Int) ∧ (0 : Int) < (↑(List.length x1.2.1) : Int))) (outOf (stk_Pick x1.1 (List.getD x1.2.1 (0 : Nat) (0 : Int))) fun (x2 : (Int × Int)) => cond (x2.2 != (0 : Int)) (cond (x2.2 != (0 : Int)) (k (a1, x2.2)) (k (a1, (0 : Int)))) (outOf (stk_Push x1.1 (64 : Int) [x2.1]) fun (x3 : ((List Int) × Int)) => cond (x3.2 != (0 : Int)) (k (a1, x3.2)) (k (x3.1, (0 : Int))))) (none)))
noncomputable def Do_30 (a1 : (List Int)) : Option Do_30_R := Do_30_t a1 some
theorem Do_30_t_eq {γ : Type} (a1 : (List Int)) (k : Do_30_R → Option γ) : Do_30_t a1 k = outOf (Do_30 a1) k := by
  delta Do_30 Do_30_t; exact (Tr.nd Tr.lf (Tr.nd Tr.lf (Tr.bd fun x1 => (Tr.nd (Tr.bd fun x2 => (Tr.nd (Tr.nd Tr.lf Tr.lf) (Tr.bd fun x3 => (Tr.nd Tr.lf Tr.lf)))) Tr.no))))
theorem Do_30_ev {α : Type} (a1 : (List Int)) (k : Kont α) : evFun Tryz.prog SrEE7 (Do_30_h0) false Tryz.f26 (bodyOf Tryz.f26) 200 (mkS [.val (.int .i64), .val (.sl (.int .i64))] ((30 : Int), a1, ())) (mkH [] ()) (fun v H => k (weakF v) H) = outOf (Do_30 a1) fun v => k (.tup [.sl (.int .i64) v.1 false, .lit (.int .i64 v.2)]) [] :=
  (show _ = Do_30_t a1 (fun v => k (.tup [.sl (.int .i64) v.1 false, .lit (.int .i64 v.2)]) []) from by kernel_rfl).trans (Do_30_t_eq a1 _)
/-! f26 tenterhook/pure.Do -/
def Do_31_h0 : Hints := Hints.nil 0
theorem Do_31_h0_ok : Do_31_h0.OK Tryz.prog (bodyOf Tryz.f26) := Hints.nil_ok
abbrev Do_31_R : Type := ((List Int) × Int)
noncomputable def Do_31_t {γ : Type} (a1 : (List Int)) (k : Do_31_R → Option γ) : Option γ := cond (decide ((↑(List.length a1) : Int) < (1 : Int))) (k (a1, (-4 : Int))) (cond (decide ((↑(List.length a1) : Int) > (64 : Int))) (k (a1, (-3 : Int))) (outOf (stk_Pop a1 (1 : Int)) fun (x1 : ((List Int) × ((List Int) × Int))) => cond (decide ((0 : Int) ≤ (0 : Int) ∧ (0 : Int) < (↑(List.length x1.2.1) : Int))) (outOf (stk_Roll x1.1 (List.getD x1.2.1 (0 : Nat) (0 : Int))) fun (x2 : ((List Int) × Int)) => cond (x2.2 != (0 : Int)) (k (a1, x2.2)) (k (x2.1, (0 : Int)))) (none)))
noncomputable def Do_31 (a1 : (List Int)) : Option Do_31_R := Do_31_t a1 some
theorem Do_31_t_eq {γ : Type} (a1 : (List Int)) (k : Do_31_R → Option γ) : Do_31_t a1 k = outOf (Do_31 a1) k := by
  delta Do_31 Do_31_t; exact (Tr.nd Tr.lf (Tr.nd Tr.lf (Tr.bd fun x1 => (Tr.nd (Tr.bd fun x2 => (Tr.nd Tr.lf Tr.lf)) Tr.no))))
theorem Do_31_ev {α : Type} (a1 : (List Int)) (k : Kont α) : evFun Tryz.prog SrEE7 (Do_31_h0) false Tryz.f26 (bodyOf Tryz.f26) 200 (mkS [.val (.int .i64), .val (.sl (.int .i64))] ((31 : Int), a1, ())) (mkH [] ()) (fun v H => k (weakF v) H) = outOf (Do_31 a1) fun v => k (.tup [.sl (.int .i64) v.1 false, .lit (.int .i64 v.2)]) [] :=
  (show _ = Do_31_t a1 (fun v => k (.tup [.sl (.int .i64) v.1 false, .lit (.int .i64 v.2)]) []) from by kernel_rfl).trans (Do_31_t_eq a1 _)
/-! f26 tenterhook/pure.Do -/
def Do_32_h0 : Hints := Hints.nil 0
theorem Do_32_h0_ok : Do_32_h0.OK Tryz.prog (bodyOf Tryz.f26) := Hints.nil_ok
abbrev Do_32_R : Type := ((List Int) × Int)
noncomputable def Do_32_t {γ : Type} (a1 : (List Int)) (k : Do_32_R → Option γ) : Option γ := cond (decide ((↑(List.length a1) : Int) < (0 : Int))) (k (a1, (-4 : Int))) (cond (decide ((↑(List.length a1) : Int) > (64 : Int))) (k (a1, (-3 : Int))) (outOf (stk_Push a1 (64 : Int) [(↑(List.length a1) : Int)]) fun (x1 : ((List Int) × Int)) => cond (x1.2 != (0 : Int)) (k (a1, x1.2)) (k (x1.1, (0 : Int)))))
noncomputable def Do_32 (a1 : (List Int)) : Option Do_32_R := Do_32_t a1 some
theorem Do_32_t_eq {γ : Type} (a1 : (List Int)) (k : Do_32_R → Option γ) : Do_32_t a1 k = outOf (Do_32 a1) k := by
  delta Do_32 Do_32_t; exact (Tr.nd Tr.lf (Tr.nd Tr.lf (Tr.bd fun x1 => (Tr.nd Tr.lf Tr.lf))))
theorem Do_32_ev {α : Type} (a1 : (List Int)) (k : Kont α) : evFun Tryz.prog SrEE7 (Do_32_h0) false Tryz.f26 (bodyOf Tryz.f26) 200 (mkS [.val (.int .i64), .val (.sl (.int .i64))] ((32 : Int), a1, ())) (mkH [] ()) (fun v H => k (weakF v) H) = outOf (Do_32 a1) fun v => k (.tup [.sl (.int .i64) v.1 false, .lit (.int .i64 v.2)]) [] :=
  (show _ = Do_32_t a1 (fun v => k (.tup [.sl (.int .i64) v.1 false, .lit (.int .i64 v.2)]) []) from by kernel_rfl).trans (Do_32_t_eq a1 _)
/-! f26 tenterhook/pure.Do -/
def Do_33_h0 : Hints := Hints.nil 0
theorem Do_33_h0_ok : Do_33_h0.OK Tryz.prog (bodyOf Tryz.f26) := Hints.nil_ok
abbrev Do_33_R : Type := ((List Int) × Int)
noncomputable def Do_33_t {γ : Type} (a1 : (List Int)) (k : Do_33_R → Option γ) : Option γ := cond (decide ((↑(List.length a1) : Int) < (2 : Int))) (k (a1, (-4 : Int))) (cond (decide ((↑(List.length a1) : Int) > (64 : Int))) (k (a1, (-3 : Int))) (outOf (stk_Pop a1 (2 : Int)) fun (x1 : ((List Int) × ((List Int) × Int))) => cond (decide ((0 : Int) ≤ (0 : Int) ∧ (0 : Int) < (↑(List.length x1.2.1) : Int))) (cond (decide ((0 : Int) ≤ (1 : Int) ∧ (1 : Int) < (↑(List.length x1.2.1) : Int))) (outOf (stk_Push x1.1 (64 : Int) [IntKind.wrap IntKind.i64 (List.getD x1.2.1 (0 : Nat) (0 : Int) + List.getD x1.2.1 (1 : Nat) (0 : Int))]) fun (x2 : ((List Int) × Int)) => cond (x2.2 != (0 : Int)) (cond (x2.2 != (0 : Int)) (k (a1, x2.2)) (k (a1, (0 : Int)))) (k (x2.1, (0 : Int)))) (none)) (none)))
noncomputable def Do_33 (a1 : (List Int)) : Option Do_33_R := Do_33_t a1 some
theorem Do_33_t_eq {γ : Type} (a1 : (List Int)) (k : Do_33_R → Option γ) : Do_33_t a1 k = outOf (Do_33 a1) k := by
  delta Do_33 Do_33_t; exact (Tr.nd Tr.lf (Tr.nd Tr.lf (Tr.bd fun x1 => (Tr.nd (Tr.nd (Tr.bd fun x2 => (Tr.nd (Tr.nd Tr.lf Tr.lf) Tr.lf)) Tr.no) Tr.no))))
theorem Do_33_ev {α : Type} (a1 : (List Int)) (k : Kont α) : evFun Tryz.prog SrEE7 (Do_33_h0) false Tryz.f26 (bodyOf Tryz.f26) 200 (mkS [.val (.int .i64), .val (.sl (.int .i64))] ((33 : Int), a1, ())) (mkH [] ()) (fun v H => k (weakF v) H) = outOf (Do_33 a1) fun v => k (.tup [.sl (.int .i64) v.1 false, .lit (.int .i64 v.2)]) [] :=
  (show _ = Do_33_t a1 (fun v => k (.tup [.sl (.int .i64) v.1 false, .lit (.int .i64 v.2)]) []) from by kernel_rfl).trans (Do_33_t_eq a1 _)
/-! f26 tenterhook/pure.Do -/
def Do_34_h0 : Hints := Hints.nil 0
theorem Do_34_h0_ok : Do_34_h0.OK Tryz.prog (bodyOf Tryz.f26) := Hints.nil_ok
abbrev Do_34_R : Type := ((List Int) × Int)
noncomputable def Do_34_t {γ : Type} (a1 : (List Int)) (k : Do_34_R → Option γ) : Option γ := cond (decide ((↑(List.length a1) : Int) < (2 : Int))) (k (a1, (-4 : Int))) (cond (decide ((↑(List.length a1) : Int) > (64 : Int))) (k (a1, (-3 : Int))) (outOf (stk_Pop a1 (2 : Int)) fun (x1 : ((List Int) × ((List Int) × Int))) => cond (decide ((0 : Int) ≤ (0 : Int) ∧ (0 : Int) < (↑(List.length x1.2.1) : Int))) (cond (decide ((0 : Int) ≤ (1 : Int) ∧ (1 : Int) < (↑(List.length x1.2.1) : Int))) (outOf (stk_Push x1.1 (64 : Int) [IntKind.wrap IntKind.i64 (List.getD x1.2.1 (0 : Nat) (0 : Int) - List.getD x1.2.1 (1 : Nat) (0 : Int))]) fun (x2 : ((List Int) × Int)) => cond (x2.2 != (0 : Int)) (cond (x2.2 != (0 : Int)) (k (a1, x2.2)) (k (a1, (0 : Int)))) (k (x2.1, (0 : Int)))) (none)) (none)))
noncomputable def Do_34 (a1 : (List Int)) : Option Do_34_R := Do_34_t a1 some
theorem Do_34_t_eq {γ : Type} (a1 : (List Int)) (k : Do_34_R → Option γ) : Do_34_t a1 k = outOf (Do_34 a1) k := by
  delta Do_34 Do_34_t; exact (Tr.nd Tr.lf (Tr.nd Tr.lf (Tr.bd fun x1 => (Tr.nd (Tr.nd (Tr.bd fun x2 => (Tr.nd (Tr.nd Tr.lf Tr.lf) Tr.lf)) Tr.no) Tr.no))))
theorem Do_34_ev {α : Type} (a1 : (List Int)) (k : Kont α) : evFun Tryz.prog SrEE7 (Do_34_h0) false Tryz.f26 (bodyOf Tryz.f26) 200 (mkS [.val (.int .i64), .val (.sl (.int .i64))] ((34 : Int), a1, ())) (mkH [] ()) (fun v H => k (weakF v) H) = outOf (Do_34 a1) fun v => k (.tup [.sl (.int .i64) v.1 false, .lit (.int .i64 v.2)]) [] :=
  (show _ = Do_34_t a1 (fun v => k (.tup [.sl (.int .i64) v.1 false, .lit (.int .i64 v.2)]) []) from by kernel_rfl).trans (Do_34_t_eq a1 _)
/-! f26 tenterhook/pure.Do -/
def Do_35_h0 : Hints := Hints.nil 0
theorem Do_35_h0_ok : Do_35_h0.OK Tryz.prog (bodyOf Tryz.f26) := Hints.nil_ok
abbrev Do_35_R : Type := ((List Int) × Int)
noncomputable def Do_35_t {γ : Type} (a1 : (List Int)) (k : Do_35_R → Option γ) : Option γ := cond (decide ((↑(List.length a1) : Int) < (2 : Int))) (k (a1, (-4 : Int))) (cond (decide ((↑(List.length a1) : Int) > (64 : Int))) (k (a1, (-3 : Int))) (outOf (stk_Pop a1 (2 : Int)) fun (x1 : ((List Int) × ((List Int) × Int))) => cond (decide ((0 : Int) ≤ (0 : Int) ∧ (0 : Int) < (↑(List.length x1.2.1) : Int))) (cond (decide ((0 : Int) ≤ (1 : Int) ∧ (1 : Int) < (↑(List.length x1.2.1) : Int))) (outOf (stk_Push x1.1 (64 : Int) [IntKind.wrap IntKind.i64 (List.getD x1.2.1 (0 : Nat) (0 : Int) * List.getD x1.2.1 (1 : Nat) (0 : Int))]) fun (x2 : ((List Int) × Int)) => cond (x2.2 != (0 : Int)) (cond (x2.2 != (0 : Int)) (k (a1, x2.2)) (k (a1, (0 : Int)))) (k (x2.1, (0 : Int)))) (none)) (none)))
noncomputable def Do_35 (a1 : (List Int)) : Option Do_35_R := Do_35_t a1 some
theorem Do_35_t_eq {γ : Type} (a1 : (List Int)) (k : Do_35_R → Option γ) : Do_35_t a1 k = outOf (Do_35 a1) k := by
  delta Do_35 Do_35_t; exact (Tr.nd Tr.lf (Tr.nd Tr.lf (Tr.bd fun x1 => (Tr.nd (Tr.nd (Tr.bd fun x2 => (Tr.nd (Tr.nd Tr.lf Tr.lf) Tr.lf)) Tr.no) Tr.no))))
theorem Do_35_ev {α : Type} (a1 : (List Int)) (k : Kont α) : evFun Tryz.prog SrEE7 (Do_35_h0) false Tryz.f26 (bodyOf Tryz.f26) 200 (mkS [.val (.int .i64), .val (.sl (.int .i64))] ((35 : Int), a1, ())) (mkH [] ()) (fun v H => k (weakF v) H) = outOf (Do_35 a1) fun v => k (.tup [.sl (.int .i64) v.1 false, .lit (.int .i64 v.2)]) [] :=
  (show _ = Do_35_t a1 (fun v => k (.tup [.sl (.int .i64) v.1 false, .lit (.int .i64 v.2)]) []) from by kernel_rfl).trans (Do_35_t_eq a1 _)
/-! f26 tenterhook/pure.Do -/
def Do_36_h0 : Hints := Hints.nil 0
theorem Do_36_h0_ok : Do_36_h0.OK Tryz.prog (bodyOf Tryz.f26) := Hints.nil_ok
abbrev Do_36_R : Type := ((List Int) × Int)
noncomputable def Do_36_t {γ : Type} (a1 : (List Int)) (k : Do_36_R → Option γ) : Option γ := cond (decide ((↑(List.length a1) : Int) < (2 : Int))) (k (a1, (-4 : Int))) (cond (decide ((↑(List.length a1) : Int) > (64 : Int))) (k (a1, (-3 : Int))) (outOf (stk_Pop a1 (2 : Int)) fun (x1 : ((List Int) × ((List Int) × Int))) => cond (decide ((0 : Int) ≤ (0 : Int) ∧ (0 : Int) < (↑(List.length x1.2.1) : Int))) (cond (decide ((0 : Int) ≤ (1 : Int) ∧ (1 : Int) < (↑(List.length x1.2.1) : Int))) (outOf (cell_Floor (List.getD x1.2.1 (0 : Nat) (0 : Int)) (List.getD x1.2.1 (1 : Nat) (0 : Int))) fun (x2 : (Int × (Int × Int))) => outOf (stk_Push x1.1 (64 : Int) (List.take (1 : Nat) (List.drop (0 : Nat) [List.getD [x2.2.1, x2.1] (1 : Nat) (0 : Int)]))) fun (x3 : ((List Int) × Int)) => cond (x3.2 != (0 : Int)) (cond (x3.2 != (0 : Int)) (k (a1, x3.2)) (k (a1, (0 : Int)))) (cond (x2.2.2 != (0 : Int)) (k (a1, x2.2.2)) (k (x3.1, (0 : Int))))) (none)) (none)))
noncomputable def Do_36 (a1 : (List Int)) : Option Do_36_R := Do_36_t a1 some
theorem Do_36_t_eq {γ : Type} (a1 : (List Int)) (k : Do_36_R → Option γ) : Do_36_t a1 k = outOf (Do_36 a1) k := by
  delta Do_36 Do_36_t; exact (Tr.nd Tr.lf (Tr.nd Tr.lf (Tr.bd fun x1 => (Tr.nd (Tr.nd (Tr.bd fun x2 => (Tr.bd fun x3 => (Tr.nd (Tr.nd Tr.lf Tr.lf) (Tr.nd Tr.lf Tr.lf)))) Tr.no) Tr.no))))
theorem Do_36_ev {α : Type} (a1 : (List Int)) (k : Kont α) : evFun Tryz.prog SrEE7 (Do_36_h0) false Tryz.f26 (bodyOf Tryz.f26) 200 (mkS [.val (.int .i64), .val (.sl (.int .i64))] ((36 : Int), a1, ())) (mkH [] ()) (fun v H => k (weakF v) H) = outOf (Do_36 a1) fun v => k (.tup [.sl (.int .i64) v.1 false, .lit (.int .i64 v.2)]) [] :=
  (show _ = Do_36_t a1 (fun v => k (.tup [.sl (.int .i64) v.1 false, .lit (.int .i64 v.2)]) []) from by kernel_rfl).trans (Do_36_t_eq a1 _)
/-! f26 tenterhook/pure.Do -/
def Do_37_h0 : Hints := Hints.nil 0
theorem Do_37_h0_ok : Do_37_h0.OK Tryz.prog (bodyOf Tryz.f26) := Hints.nil_ok
abbrev Do_37_R : Type := ((List Int) × Int)
noncomputable def Do_37_t {γ : Type} (a1 : (List Int)) (k : Do_37_R → Option γ) : Option γ := cond (decide ((↑(List.length a1) : Int) < (2 : Int))) (k (a1, (-4 : Int))) (cond (decide ((↑(List.length a1) : Int) > (64 : Int))) (k (a1, (-3 : Int))) (outOf (stk_Pop a1 (2 : Int)) fun (x1 : ((List Int) × ((List Int) × Int))) => cond (decide ((0 : Int) ≤ (0 : Int) ∧ (0 : Int) < (↑(List.length x1.2.1) : Int))) (cond (decide ((0 : Int) ≤ (1 : Int) ∧ (1 : Int) < (↑(List.length x1.2.1) : Int))) (outOf (cell_Floor (List.getD x1.2.1 (0 : Nat) (0 : Int)) (List.getD x1.2.1 (1 : Nat) (0 : Int))) fun (x2 : (Int × (Int × Int))) => outOf (stk_Push x1.1 (64 : Int) (List.take (1 : Nat) (List.drop (0 : Nat) [List.getD [x2.2.1, x2.1] (0 : Nat) (0 : Int)]))) fun (x3 : ((List Int) × Int)) => cond (x3.2 != (0 : Int)) (cond (x3.2 != (0 : Int)) (k (a1, x3.2)) (k (a1, (0 : Int)))) (cond (x2.2.2 != (0 : Int)) (k (a1, x2.2.2)) (k (x3.1, (0 : Int))))) (none)) (none)))
noncomputable def Do_37 (a1 : (List Int)) : Option Do_37_R := Do_37_t a1 some
theorem Do_37_t_eq {γ : Type} (a1 : (List Int)) (k : Do_37_R → Option γ) : Do_37_t a1 k = outOf (Do_37 a1) k := by
  delta Do_37 Do_37_t; exact (Tr.nd Tr.lf (Tr.nd Tr.lf (Tr.bd fun x1 => (Tr.nd (Tr.nd (Tr.bd fun x2 => (Tr.bd fun x3 => (Tr.nd (Tr.nd Tr.lf Tr.lf) (Tr.nd Tr.lf Tr.lf)))) Tr.no) Tr.no))))
theorem Do_37_ev {α : Type} (a1 : (List Int)) (k : Kont α) : evFun Tryz.prog SrEE7 (Do_37_h0) false Tryz.f26 (bodyOf Tryz.f26) 200 (mkS [.val (.int .i64), .val (.sl (.int .i64))] ((37 : Int), a1, ())) (mkH [] ()) (fun v H => k (weakF v) H) = outOf (Do_37 a1) fun v => k (.tup [.sl (.int .i64) v.1 false, .lit (.int .i64 v.2)]) [] :=
  (show _ = Do_37_t a1 (fun v => k (.tup [.sl (.int .i64) v.1 false, .lit (.int .i64 v.2)]) []) from by kernel_rfl).trans (Do_37_t_eq a1 _)
/-! f26 tenterhook/pure.Do -/
def Do_38_h0 : Hints := Hints.nil 0
theorem Do_38_h0_ok : Do_38_h0.OK Tryz.prog (bodyOf Tryz.f26) := Hints.nil_ok
abbrev Do_38_R : Type := ((List Int) × Int)
noncomputable def Do_38_t {γ : Type} (a1 : (List Int)) (k : Do_38_R → Option γ) : Option γ := cond (decide ((↑(List.length a1) : Int) < (2 : Int))) (k (a1, (-4 : Int))) (cond (decide ((↑(List.length a1) : Int) > (64 : Int))) (k (a1, (-3 : Int))) (outOf (stk_Pop a1 (2 : Int)) fun (x1 : ((List Int) × ((List Int) × Int))) => cond (decide ((0 : Int) ≤ (0 : Int) ∧ (0 : Int) < (↑(List.length x1.2.1) : Int))) (cond (decide ((0 : Int) ≤ (1 : Int) ∧ (1 : Int) < (↑(List.length x1.2.1) : Int))) (outOf (cell_Floor (List.getD x1.2.1 (0 : Nat) (0 : Int)) (List.getD x1.2.1 (1 : Nat) (0 : Int))) fun (x2 : (Int × (Int × Int))) => outOf (stk_Push x1.1 (64 : Int) (List.take (2 : Nat) (List.drop (0 : Nat) (List.take (1 : Nat) (List.drop (0 : Nat) [List.getD [x2.2.1, x2.1] (0 : Nat) (0 : Int)]) ++ [List.getD [x2.2.1, x2.1] (1 : Nat) (0 : Int)])))) fun (x3 : ((List Int) × Int)) => cond (x3.2 != (0 : Int)) (cond (x3.2 != (0 : Int)) (k (a1, x3.2)) (k (a1, (0 : Int)))) (cond (x2.2.2 != (0 : Int)) (k (a1, x2.2.2)) (k (x3.1, (0 : Int))))) (none)) (none)))
noncomputable def Do_38 (a1 : (List Int)) : Option Do_38_R := Do_38_t a1 some
theorem Do_38_t_eq {γ : Type} (a1 : (List Int)) (k : Do_38_R → Option γ) : Do_38_t a1 k = outOf (Do_38 a1) k := by
  delta Do_38 Do_38_t; exact (Tr.nd Tr.lf (Tr.nd Tr.lf (Tr.bd fun x1 => (Tr.nd (Tr.nd (Tr.bd fun x2 => (Tr.bd fun x3 => (Tr.nd (Tr.nd Tr.lf Tr.lf) (Tr.nd Tr.lf Tr.lf)))) Tr.no) Tr.no))))
theorem Do_38_ev {α : Type} (a1 : (List Int)) (k : Kont α) : evFun Tryz.prog SrEE7 (Do_38_h0) false Tryz.f26 (bodyOf Tryz.f26) 200 (mkS [.val (.int .i64), .val (.sl (.int .i64))] ((38 : Int), a1, ())) (mkH [] ()) (fun v H => k (weakF v) H) = outOf (Do_38 a1) fun v => k (.tup [.sl (.int .i64) v.1 false, .lit (.int .i64 v.2)]) [] :=
  (show _ = Do_38_t a1 (fun v => k (.tup [.sl (.int .i64) v.1 false, .lit (.int .i64 v.2)]) []) from by kernel_rfl).trans (Do_38_t_eq a1 _)
/-! f26 tenterhook/pure.Do -/
def Do_39_h0 : Hints := Hints.nil 0
theorem Do_39_h0_ok : Do_39_h0.OK Tryz.prog (bodyOf Tryz.f26) := Hints.nil_ok
abbrev Do_39_R : Type := ((List Int) × Int)
noncomputable def Do_39_t {γ : Type} (a1 : (List Int)) (k : Do_39_R → Option γ) : Option γ := cond (decide ((↑(List.length a1) : Int) < (3 : Int))) (k (a1, (-4 : Int))) (cond (decide ((↑(List.length a1) : Int) > (64 : Int))) (k (a1, (-3 : Int))) (outOf (stk_Pop a1 (3 : Int)) fun (x1 : ((List Int) × ((List Int) × Int))) => cond (decide ((0 : Int) ≤ (0 : Int) ∧ (0 : Int) < (↑(List.length x1.2.1) : Int))) (cond (decide ((0 : Int) ≤ (1 : Int) ∧ (1 : Int) < (↑(List.length x1.2.1) : Int))) (cond (decide ((0 : Int) ≤ (2 : Int) ∧ (2 : Int) < (↑(List.length x1.2.1) : Int))) (outOf (dbl_Scale (List.getD x1.2.1 (0 : Nat) (0 : Int)) (List.getD x1.2.1 (1 : Nat) (0 : Int)) (List.getD x1.2.1 (2 : Nat) (0 : Int))) fun (x2 : (Int × (Int × Int))) => outOf (stk_Push x1.1 (64 : Int) (List.take (1 : Nat) (List.drop (0 : Nat) [List.getD [x2.1, x2.2.1] (1 : Nat) (0 : Int)]))) fun (x3 : ((List Int) × Int)) => cond (x3.2 != (0 : Int)) (cond (x3.2 != (0 : Int)) (k (a1, x3.2)) (k (a1, (0 : Int)))) (cond (x2.2.2 != (0 : Int)) (k (a1, x2.2.2)) (k (x3.1, (0 : Int))))) (none)) (none)) (none)))
noncomputable def Do_39 (a1 : (List Int)) : Option Do_39_R := Do_39_t a1 some
theorem Do_39_t_eq {γ : Type} (a1 : (List Int)) (k : Do_39_R → Option γ) : Do_39_t a1 k = outOf (Do_39 a1) k := by
  delta Do_39 Do_39_t; exact (Tr.nd Tr.lf (Tr.nd Tr.lf (Tr.bd fun x1 => (Tr.nd (Tr.nd (Tr.nd (Tr.bd fun x2 => (Tr.bd fun x3 => (Tr.nd (Tr.nd Tr.lf Tr.lf) (Tr.nd Tr.lf Tr.lf)))) Tr.no) Tr.no) Tr.no))))
theorem Do_39_ev {α : Type} (a1 : (List Int)) (k : Kont α) : evFun Tryz.prog SrEE7 (Do_39_h0) false Tryz.f26 (bodyOf Tryz.f26) 200 (mkS [.val (.int .i64), .val (.sl (.int .i64))] ((39 : Int), a1, ())) (mkH [] ()) (fun v H => k (weakF v) H) = outOf (Do_39 a1) fun v => k (.tup [.sl (.int .i64) v.1 false, .lit (.int .i64 v.2)]) [] :=
  (show _ = Do_39_t a1 (fun v => k (.tup [.sl (.int .i64) v.1 false, .lit (.int .i64 v.2)]) []) from by kernel_rfl).trans (Do_39_t_eq a1 _)
/-! f26 tenterhook/pure.Do -/
def Do_40_h0 : Hints := Hints.nil 0
theorem Do_40_h0_ok : Do_40_h0.OK Tryz.prog (bodyOf Tryz.f26) := Hints.nil_ok
abbrev Do_40_R : Type := ((List Int) × Int)
noncomputable def Do_40_t {γ : Type} (a1 : (List Int)) (k : Do_40_R → Option γ) : Option γ := cond (decide ((↑(List.length a1) : Int) < (3 : Int))) (k (a1, (-4 : Int))) (cond (decide ((↑(List.length a1) : Int) > (64 : Int))) (k (a1, (-3 : Int))) (outOf (stk_Pop a1 (3 : Int)) fun (x1 : ((List Int) × ((List Int) × Int))) => cond (decide ((0 : Int) ≤ (0 : Int) ∧ (0 : Int) < (↑(List.length x1.2.1) : Int))) (cond (decide ((0 : Int) ≤ (1 : Int) ∧ (1 : Int) < (↑(List.length x1.2.1) : Int))) (cond (decide ((0 : Int) ≤ (2 : Int) ∧ (2 : Int) < (↑(List.length x1.2.1) : Int))) (outOf (dbl_Scale (List.getD x1.2.1 (0 : Nat) (0 : Int)) (List.getD x1.2.1 (1 : Nat) (0 : Int)) (List.getD x1.2.1 (2 : Nat) (0 : Int))) fun (x2 : (Int × (Int × Int))) => outOf (stk_Push x1.1 (64 : Int) (List.take (2 : Nat) (List.drop (0 : Nat) (List.take (1 : Nat) (List.drop (0 : Nat) [List.getD [x2.1, x2.2.1] (0 : Nat) (0 : Int)]) ++ [List.getD [x2.1, x2.2.1] (1 : Nat) (0 : Int)])))) fun (x3 : ((List Int) × Int)) => cond (x3.2 != (0 : Int)) (cond (x3.2 != (0 : Int)) (k (a1, x3.2)) (k (a1, (0 : Int)))) (cond (x2.2.2 != (0 : Int)) (k (a1, x2.2.2)) (k (x3.1, (0 : Int))))) (none)) (none)) (none)))
noncomputable def Do_40 (a1 : (List Int)) : Option Do_40_R := Do_40_t a1 some
theorem Do_40_t_eq {γ : Type} (a1 : (List Int)) (k : Do_40_R → Option γ) : Do_40_t a1 k = outOf (Do_40 a1) k := by
  delta Do_40 Do_40_t; exact (Tr.nd Tr.lf (Tr.nd Tr.lf (Tr.bd fun x1 => (Tr.nd (Tr.nd (Tr.nd (Tr.bd fun x2 => (Tr.bd fun x3 => (Tr.nd (Tr.nd Tr.lf Tr.lf) (Tr.nd Tr.lf Tr.lf)))) Tr.no) Tr.no) Tr.no))))
theorem Do_40_ev {α : Type} (a1 : (List Int)) (k : Kont α) : evFun Tryz.prog SrEE7 (Do_40_h0) false Tryz.f26 (bodyOf Tryz.f26) 200 (mkS [.val (.int .i64), .val (.sl (.int .i64))] ((40 : Int), a1, ())) (mkH [] ()) (fun v H => k (weakF v) H) = outOf (Do_40 a1) fun v => k (.tup [.sl (.int .i64) v.1 false, .lit (.int .i64 v.2)]) [] :=
  (show _ = Do_40_t a1 (fun v => k (.tup [.sl (.int .i64) v.1 false, .lit (.int .i64 v.2)]) []) from by kernel_rfl).trans (Do_40_t_eq a1 _)
/-! f26 tenterhook/pure.Do -/
def Do_41_h0 : Hints := Hints.nil 0
theorem Do_41_h0_ok : Do_41_h0.OK Tryz.prog (bodyOf Tryz.f26) := Hints.nil_ok
abbrev Do_41_R : Type := ((List Int) × Int)
noncomputable def Do_41_t {γ : Type} (a1 : (List Int)) (k : Do_41_R → Option γ) : Option γ := cond (decide ((↑(List.length a1) : Int) < (1 : Int))) (k (a1, (-4 : Int))) (cond (decide ((↑(List.length a1) : Int) > (64 : Int))) (k (a1, (-3 : Int))) (outOf (stk_Pop a1 (1 : Int)) fun (x1 : ((List Int) × ((List Int) × Int))) => cond (decide ((0 : Int) ≤ (0 : Int) ∧ (0 : Int) < (↑(List.length x1.2.1) : Int))) (outOf (stk_Push x1.1 (64 : Int) [IntKind.wrap IntKind.i64 (List.getD x1.2.1 (0 : Nat) (0 : Int) + (1 : Int))]) fun (x2 : ((List Int) × Int)) => cond (x2.2 != (0 : Int)) (cond (x2.2 != (0 : Int)) (k (a1, x2.2)) (k (a1, (0 : Int)))) (k (x2.1, (0 : Int)))) (none)))
noncomputable def Do_41 (a1 : (List Int)) : Option Do_41_R := Do_41_t a1 some
theorem Do_41_t_eq {γ : Type} (a1 : (List Int)) (k : Do_41_R → Option γ) : Do_41_t a1 k = outOf (Do_41 a1) k := by
  delta Do_41 Do_41_t; exact (Tr.nd Tr.lf (Tr.nd Tr.lf (Tr.bd fun x1 => (Tr.nd (Tr.bd fun x2 => (Tr.nd (Tr.nd Tr.lf Tr.lf) Tr.lf)) Tr.no))))
theorem Do_41_ev {α : Type} (a1 : (List Int)) (k : Kont α) : evFun Tryz.prog SrEE7 (Do_41_h0) false Tryz.f26 (bodyOf Tryz.f26) 200 (mkS [.val (.int .i64), .val (.sl (.int .i64))] ((41 : Int), a1, ())) (mkH [] ()) (fun v H => k (weakF v) H) = outOf (Do_41 a1) fun v => k (.tup [.sl (.int .i64) v.1 false, .lit (.int .i64 v.2)]) [] :=
  (show _ = Do_41_t a1 (fun v => k (.tup [.sl (.int .i64) v.1 false, .lit (.int .i64 v.2)]) []) from by kernel_rfl).trans (Do_41_t_eq a1 _)
end Go.Proofs.Dbl
