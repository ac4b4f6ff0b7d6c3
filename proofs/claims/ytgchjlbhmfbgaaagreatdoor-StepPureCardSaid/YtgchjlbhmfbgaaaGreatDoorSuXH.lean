import Derived.Test.YtgchjlbhmfbgaaaGreatDoorSuXE
namespace Go.Proofs.Dbl
open Go Go.TX Go.Proofs
set_option maxRecDepth 100000
set_option linter.unusedVariables false
set_option maxHeartbeats 0
/-! f26 tenterhook/pure.Do -/
def Do_62_h0 : Hints := Hints.nil 0
theorem Do_62_h0_ok : Do_62_h0.OK Tryz.prog (bodyOf Tryz.f26) := Hints.nil_ok
abbrev Do_62_R : Type := ((List Int) × Int)
noncomputable def Do_62_t {γ : Type} (a1 : (List Int)) (k : Do_62_R → Option γ) : Option γ := cond (decide ((↑(List.length a1) : Int) < (3 : Int))) (k (a1, (-4 : Int))) (cond (decide ((↑(List.length a1) : Int) > (64 : Int))) (k (a1, (-3 : Int))) (outOf (stk_Pop a1 (3 : Int)) fun (x1 : ((List Int) × ((List Int) × Int))) => cond (decide ((0 : Int) ≤ (0 : Int) ∧ (0 : Int) < (↑(List.length x1.2.1) : Int))) (cond (decide ((0 : Int) ≤ (1 : Int) ∧ (1 : Int) < (↑(List.length x1.2.1) : Int))) (cond (decide ((0 : Int) ≤ (2 : Int) ∧ (2 : Int) < (↑(List.length x1.2.1) : Int))) (outOf (cell_Flag (cell_Within (List.getD x1.2.1 (0 : Nat) (0 : Int)) (List.getD x1.2.1 (1 : Nat) (0 : Int)) (List.getD x1.2.1 (2 : Nat) (0 : Int)))) fun (x2 : Int) => outOf (stk_Push x1.1 (64 : Int) [x2]) fun (x3 : ((List Int) × Int)) => cond (x3.2 != (0 : Int)) (cond (x3.2 != (0 : Int)) (k (a1, x3.2)) (k (a1, (0 : Int)))) (k (x3.1, (0 : Int)))) (none)) (none)) (none)))
noncomputable def Do_62 (a1 : (List Int)) : Option Do_62_R := Do_62_t a1 some
theorem Do_62_t_eq {γ : Type} (a1 : (List Int)) (k : Do_62_R → Option γ) : Do_62_t a1 k = outOf (Do_62 a1) k := by
  delta Do_62 Do_62_t; exact (Tr.nd Tr.lf (Tr.nd Tr.lf (Tr.bd fun x1 => (Tr.nd (Tr.nd (Tr.nd (Tr.bd fun x2 => (Tr.bd fun x3 => (Tr.nd (Tr.nd Tr.lf Tr.lf) Tr.lf))) Tr.no) Tr.no) Tr.no))))
theorem Do_62_ev {α : Type} (a1 : (List Int)) (k : Kont α) : evFun Tryz.prog SrEE7 (Do_62_h0) false Tryz.f26 (bodyOf Tryz.f26) 200 (mkS [.val (.int .i64), .val (.sl (.int .i64))] ((62 : Int), a1, ())) (mkH [] ()) (fun v H => k (weakF v) H) = outOf (Do_62 a1) fun v => k (.tup [.sl (.int .i64) v.1 false, .lit (.int .i64 v.2)]) [] :=
  (show _ = Do_62_t a1 (fun v => k (.tup [.sl (.int .i64) v.1 false, .lit (.int .i64 v.2)]) []) from by kernel_rfl).trans (Do_62_t_eq a1 _)
/-! f26 tenterhook/pure.Do -/
def Do_63_h0 : Hints := Hints.nil 0
theorem Do_63_h0_ok : Do_63_h0.OK Tryz.prog (bodyOf Tryz.f26) := Hints.nil_ok
abbrev Do_63_R : Type := ((List Int) × Int)
noncomputable def Do_63_t {γ : Type} (a1 : (List Int)) (k : Do_63_R → Option γ) : Option γ := cond (decide ((↑(List.length a1) : Int) < (2 : Int))) (k (a1, (-4 : Int))) (cond (decide ((↑(List.length a1) : Int) > (64 : Int))) (k (a1, (-3 : Int))) (outOf (stk_Pop a1 (2 : Int)) fun (x1 : ((List Int) × ((List Int) × Int))) => cond (decide ((0 : Int) ≤ (0 : Int) ∧ (0 : Int) < (↑(List.length x1.2.1) : Int))) (cond (decide ((0 : Int) ≤ (1 : Int) ∧ (1 : Int) < (↑(List.length x1.2.1) : Int))) (outOf (stk_Push x1.1 (64 : Int) [Prod.fst (dbl_UMul (List.getD x1.2.1 (0 : Nat) (0 : Int)) (List.getD x1.2.1 (1 : Nat) (0 : Int))), Prod.snd (dbl_UMul (List.getD x1.2.1 (0 : Nat) (0 : Int)) (List.getD x1.2.1 (1 : Nat) (0 : Int)))]) fun (x2 : ((List Int) × Int)) => cond (x2.2 != (0 : Int)) (cond (x2.2 != (0 : Int)) (k (a1, x2.2)) (k (a1, (0 : Int)))) (k (x2.1, (0 : Int)))) (none)) (none)))
noncomputable def Do_63 (a1 : (List Int)) : Option Do_63_R := Do_63_t a1 some
theorem Do_63_t_eq {γ : Type} (a1 : (List Int)) (k : Do_63_R → Option γ) : Do_63_t a1 k = outOf (Do_63 a1) k := by
  delta Do_63 Do_63_t; exact (Tr.nd Tr.lf (Tr.nd Tr.lf (Tr.bd fun x1 => (Tr.nd (Tr.nd (Tr.bd fun x2 => (Tr.nd (Tr.nd Tr.lf Tr.lf) Tr.lf)) Tr.no) Tr.no))))
theorem Do_63_ev {α : Type} (a1 : (List Int)) (k : Kont α) : evFun Tryz.prog SrEE7 (Do_63_h0) false Tryz.f26 (bodyOf Tryz.f26) 200 (mkS [.val (.int .i64), .val (.sl (.int .i64))] ((63 : Int), a1, ())) (mkH [] ()) (fun v H => k (weakF v) H) = outOf (Do_63 a1) fun v => k (.tup [.sl (.int .i64) v.1 false, .lit (.int .i64 v.2)]) [] :=
  (show _ = Do_63_t a1 (fun v => k (.tup [.sl (.int .i64) v.1 false, .lit (.int .i64 v.2)]) []) from by kernel_rfl).trans (Do_63_t_eq a1 _)
/-! f26 tenterhook/pure.Do -/
def Do_64_h0 : Hints := Hints.nil 0
theorem Do_64_h0_ok : Do_64_h0.OK Tryz.prog (bodyOf Tryz.f26) := Hints.nil_ok
abbrev Do_64_R : Type := ((List Int) × Int)
noncomputable def Do_64_t {γ : Type} (a1 : (List Int)) (k : Do_64_R → Option γ) : Option γ := cond (decide ((↑(List.length a1) : Int) < (2 : Int))) (k (a1, (-4 : Int))) (cond (decide ((↑(List.length a1) : Int) > (64 : Int))) (k (a1, (-3 : Int))) (outOf (stk_Pop a1 (2 : Int)) fun (x1 : ((List Int) × ((List Int) × Int))) => cond (decide ((0 : Int) ≤ (0 : Int) ∧ (0 : Int) < (↑(List.length x1.2.1) : Int))) (cond (decide ((0 : Int) ≤ (1 : Int) ∧ (1 : Int) < (↑(List.length x1.2.1) : Int))) (outOf (dbl_Mul (List.getD x1.2.1 (0 : Nat) (0 : Int)) (List.getD x1.2.1 (1 : Nat) (0 : Int))) fun (x2 : (Int × Int)) => outOf (stk_Push x1.1 (64 : Int) [x2.1, x2.2]) fun (x3 : ((List Int) × Int)) => cond (x3.2 != (0 : Int)) (cond (x3.2 != (0 : Int)) (k (a1, x3.2)) (k (a1, (0 : Int)))) (k (x3.1, (0 : Int)))) (none)) (none)))
noncomputable def Do_64 (a1 : (List Int)) : Option Do_64_R := Do_64_t a1 some
theorem Do_64_t_eq {γ : Type} (a1 : (List Int)) (k : Do_64_R → Option γ) : Do_64_t a1 k = outOf (Do_64 a1) k := by
  delta Do_64 Do_64_t; exact (Tr.nd Tr.lf (Tr.nd Tr.lf (Tr.bd fun x1 => (Tr.nd (Tr.nd (Tr.bd fun x2 => (Tr.bd fun x3 => (Tr.nd (Tr.nd Tr.lf Tr.lf) Tr.lf))) Tr.no) Tr.no))))
theorem Do_64_ev {α : Type} (a1 : (List Int)) (k : Kont α) : evFun Tryz.prog SrEE7 (Do_64_h0) false Tryz.f26 (bodyOf Tryz.f26) 200 (mkS [.val (.int .i64), .val (.sl (.int .i64))] ((64 : Int), a1, ())) (mkH [] ()) (fun v H => k (weakF v) H) = outOf (Do_64 a1) fun v => k (.tup [.sl (.int .i64) v.1 false, .lit (.int .i64 v.2)]) [] :=
  (show _ = Do_64_t a1 (fun v => k (.tup [.sl (.int .i64) v.1 false, .lit (.int .i64 v.2)]) []) from by kernel_rfl).trans (Do_64_t_eq a1 _)
/-! f26 tenterhook/pure.Do -/
def Do_65_h0 : Hints := Hints.nil 0
theorem Do_65_h0_ok : Do_65_h0.OK Tryz.prog (bodyOf Tryz.f26) := Hints.nil_ok
abbrev Do_65_R : Type := ((List Int) × Int)
noncomputable def Do_65_t {γ : Type} (a1 : (List Int)) (k : Do_65_R → Option γ) : Option γ := cond (decide ((↑(List.length a1) : Int) < (3 : Int))) (k (a1, (-4 : Int))) (cond (decide ((↑(List.length a1) : Int) > (64 : Int))) (k (a1, (-3 : Int))) (outOf (stk_Pop a1 (3 : Int)) fun (x1 : ((List Int) × ((List Int) × Int))) => cond (decide ((0 : Int) ≤ (0 : Int) ∧ (0 : Int) < (↑(List.length x1.2.1) : Int))) (cond (decide ((0 : Int) ≤ (1 : Int) ∧ (1 : Int) < (↑(List.length x1.2.1) : Int))) (cond (decide ((0 : Int) ≤ (2 : Int) ∧ (2 : Int) < (↑(List.length x1.2.1) : Int))) (outOf (dbl_UMod (List.getD x1.2.1 (0 : Nat) (0 : Int)) (List.getD x1.2.1 (1 : Nat) (0 : Int)) (List.getD x1.2.1 (2 : Nat) (0 : Int))) fun (x2 : (Int × (Int × Int))) => outOf (stk_Push x1.1 (64 : Int) (List.take (2 : Nat) (List.drop (0 : Nat) (List.take (1 : Nat) (List.drop (0 : Nat) [List.getD [x2.1, x2.2.1] (0 : Nat) (0 : Int)]) ++ [List.getD [x2.1, x2.2.1] (1 : Nat) (0 : Int)])))) fun (x3 : ((List Int) × Int)) => cond (x3.2 != (0 : Int)) (cond (x3.2 != (0 : Int)) (k (a1, x3.2)) (k (a1, (0 : Int)))) (cond (x2.2.2 != (0 : Int)) (k (a1, x2.2.2)) (k (x3.1, (0 : Int))))) (none)) (none)) (none)))
noncomputable def Do_65 (a1 : (List Int)) : Option Do_65_R := Do_65_t a1 some
theorem Do_65_t_eq {γ : Type} (a1 : (List Int)) (k : Do_65_R → Option γ) : Do_65_t a1 k = outOf (Do_65 a1) k := by
  delta Do_65 Do_65_t; exact (Tr.nd Tr.lf (Tr.nd Tr.lf (Tr.bd fun x1 => (Tr.nd (Tr.nd (Tr.nd (Tr.bd fun x2 => (Tr.bd fun x3 => (Tr.nd (Tr.nd Tr.lf Tr.lf) (Tr.nd Tr.lf Tr.lf)))) Tr.no) Tr.no) Tr.no))))
theorem Do_65_ev {α : Type} (a1 : (List Int)) (k : Kont α) : evFun Tryz.prog SrEE7 (Do_65_h0) false Tryz.f26 (bodyOf Tryz.f26) 200 (mkS [.val (.int .i64), .val (.sl (.int .i64))] ((65 : Int), a1, ())) (mkH [] ()) (fun v H => k (weakF v) H) = outOf (Do_65 a1) fun v => k (.tup [.sl (.int .i64) v.1 false, .lit (.int .i64 v.2)]) [] :=
  (show _ = Do_65_t a1 (fun v => k (.tup [.sl (.int .i64) v.1 false, .lit (.int .i64 v.2)]) []) from by kernel_rfl).trans (Do_65_t_eq a1 _)
/-! f26 tenterhook/pure.Do -/
def Do_66_h0 : Hints := Hints.nil 0
theorem Do_66_h0_ok : Do_66_h0.OK Tryz.prog (bodyOf Tryz.f26) := Hints.nil_ok
abbrev Do_66_R : Type := ((List Int) × Int)
noncomputable def Do_66_t {γ : Type} (a1 : (List Int)) (k : Do_66_R → Option γ) : Option γ := cond (decide ((↑(List.length a1) : Int) < (3 : Int))) (k (a1, (-4 : Int))) (cond (decide ((↑(List.length a1) : Int) > (64 : Int))) (k (a1, (-3 : Int))) (outOf (stk_Pop a1 (3 : Int)) fun (x1 : ((List Int) × ((List Int) × Int))) => cond (decide ((0 : Int) ≤ (0 : Int) ∧ (0 : Int) < (↑(List.length x1.2.1) : Int))) (cond (decide ((0 : Int) ≤ (1 : Int) ∧ (1 : Int) < (↑(List.length x1.2.1) : Int))) (cond (decide ((0 : Int) ≤ (2 : Int) ∧ (2 : Int) < (↑(List.length x1.2.1) : Int))) (outOf (dbl_Floor (List.getD x1.2.1 (0 : Nat) (0 : Int)) (List.getD x1.2.1 (1 : Nat) (0 : Int)) (List.getD x1.2.1 (2 : Nat) (0 : Int))) fun (x2 : (Int × (Int × Int))) => outOf (stk_Push x1.1 (64 : Int) (List.take (2 : Nat) (List.drop (0 : Nat) (List.take (1 : Nat) (List.drop (0 : Nat) [List.getD [x2.1, x2.2.1] (0 : Nat) (0 : Int)]) ++ [List.getD [x2.1, x2.2.1] (1 : Nat) (0 : Int)])))) fun (x3 : ((List Int) × Int)) => cond (x3.2 != (0 : Int)) (cond (x3.2 != (0 : Int)) (k (a1, x3.2)) (k (a1, (0 : Int)))) (cond (x2.2.2 != (0 : Int)) (k (a1, x2.2.2)) (k (x3.1, (0 : Int))))) (none)) (none)) (none)))
noncomputable def Do_66 (a1 : (List Int)) : Option Do_66_R := Do_66_t a1 some
theorem Do_66_t_eq {γ : Type} (a1 : (List Int)) (k : Do_66_R → Option γ) : Do_66_t a1 k = outOf (Do_66 a1) k := by
  delta Do_66 Do_66_t; exact (Tr.nd Tr.lf (Tr.nd Tr.lf (Tr.bd fun x1 => (Tr.nd (Tr.nd (Tr.nd (Tr.bd fun x2 => (Tr.bd fun x3 => (Tr.nd (Tr.nd Tr.lf Tr.lf) (Tr.nd Tr.lf Tr.lf)))) Tr.no) Tr.no) Tr.no))))
theorem Do_66_ev {α : Type} (a1 : (List Int)) (k : Kont α) : evFun Tryz.prog SrEE7 (Do_66_h0) false Tryz.f26 (bodyOf Tryz.f26) 200 (mkS [.val (.int .i64), .val (.sl (.int .i64))] ((66 : Int), a1, ())) (mkH [] ()) (fun v H => k (weakF v) H) = outOf (Do_66 a1) fun v => k (.tup [.sl (.int .i64) v.1 false, .lit (.int .i64 v.2)]) [] :=
  (show _ = Do_66_t a1 (fun v => k (.tup [.sl (.int .i64) v.1 false, .lit (.int .i64 v.2)]) []) from by kernel_rfl).trans (Do_66_t_eq a1 _)
/-! f26 tenterhook/pure.Do -/
def Do_67_h0 : Hints := Hints.nil 0
theorem Do_67_h0_ok : Do_67_h0.OK Tryz.prog (bodyOf Tryz.f26) := Hints.nil_ok
abbrev Do_67_R : Type := ((List Int) × Int)
noncomputable def Do_67_t {γ : Type} (a1 : (List Int)) (k : Do_67_R → Option γ) : Option γ := cond (decide ((↑(List.length a1) : Int) < (3 : Int))) (k (a1, (-4 : Int))) (cond (decide ((↑(List.length a1) : Int) > (64 : Int))) (k (a1, (-3 : Int))) (outOf (stk_Pop a1 (3 : Int)) fun (x1 : ((List Int) × ((List Int) × Int))) => cond (decide ((0 : Int) ≤ (0 : Int) ∧ (0 : Int) < (↑(List.length x1.2.1) : Int))) (cond (decide ((0 : Int) ≤ (1 : Int) ∧ (1 : Int) < (↑(List.length x1.2.1) : Int))) (cond (decide ((0 : Int) ≤ (2 : Int) ∧ (2 : Int) < (↑(List.length x1.2.1) : Int))) (outOf (dbl_Symm (List.getD x1.2.1 (0 : Nat) (0 : Int)) (List.getD x1.2.1 (1 : Nat) (0 : Int)) (List.getD x1.2.1 (2 : Nat) (0 : Int))) fun (x2 : (Int × (Int × Int))) => outOf (stk_Push x1.1 (64 : Int) (List.take (2 : Nat) (List.drop (0 : Nat) (List.take (1 : Nat) (List.drop (0 : Nat) [List.getD [x2.1, x2.2.1] (0 : Nat) (0 : Int)]) ++ [List.getD [x2.1, x2.2.1] (1 : Nat) (0 : Int)])))) fun (x3 : ((List Int) × Int)) => cond (x3.2 != (0 : Int)) (cond (x3.2 != (0 : Int)) (k (a1, x3.2)) (k (a1, (0 : Int)))) (cond (x2.2.2 != (0 : Int)) (k (a1, x2.2.2)) (k (x3.1, (0 : Int))))) (none)) (none)) (none)))
noncomputable def Do_67 (a1 : (List Int)) : Option Do_67_R := Do_67_t a1 some
theorem Do_67_t_eq {γ : Type} (a1 : (List Int)) (k : Do_67_R → Option γ) : Do_67_t a1 k = outOf (Do_67 a1) k := by
  delta Do_67 Do_67_t; exact (Tr.nd Tr.lf (Tr.nd Tr.lf (Tr.bd fun x1 => (Tr.nd (Tr.nd (Tr.nd (Tr.bd fun x2 => (Tr.bd fun x3 => (Tr.nd (Tr.nd Tr.lf Tr.lf) (Tr.nd Tr.lf Tr.lf)))) Tr.no) Tr.no) Tr.no))))
theorem Do_67_ev {α : Type} (a1 : (List Int)) (k : Kont α) : evFun Tryz.prog SrEE7 (Do_67_h0) false Tryz.f26 (bodyOf Tryz.f26) 200 (mkS [.val (.int .i64), .val (.sl (.int .i64))] ((67 : Int), a1, ())) (mkH [] ()) (fun v H => k (weakF v) H) = outOf (Do_67 a1) fun v => k (.tup [.sl (.int .i64) v.1 false, .lit (.int .i64 v.2)]) [] :=
  (show _ = Do_67_t a1 (fun v => k (.tup [.sl (.int .i64) v.1 false, .lit (.int .i64 v.2)]) []) from by kernel_rfl).trans (Do_67_t_eq a1 _)
/-! f26 tenterhook/pure.Do -/
def Do_68_h0 : Hints := Hints.nil 0
theorem Do_68_h0_ok : Do_68_h0.OK Tryz.prog (bodyOf Tryz.f26) := Hints.nil_ok
abbrev Do_68_R : Type := ((List Int) × Int)
noncomputable def Do_68_t {γ : Type} (a1 : (List Int)) (k : Do_68_R → Option γ) : Option γ := cond (decide ((↑(List.length a1) : Int) < (1 : Int))) (k (a1, (-4 : Int))) (cond (decide ((↑(List.length a1) : Int) > (64 : Int))) (k (a1, (-3 : Int))) (outOf (stk_Pop a1 (1 : Int)) fun (x1 : ((List Int) × ((List Int) × Int))) => cond (decide ((0 : Int) ≤ (0 : Int) ∧ (0 : Int) < (↑(List.length x1.2.1) : Int))) (outOf (stk_Push x1.1 (64 : Int) [Prod.fst (dbl_Of (List.getD x1.2.1 (0 : Nat) (0 : Int))), Prod.snd (dbl_Of (List.getD x1.2.1 (0 : Nat) (0 : Int)))]) fun (x2 : ((List Int) × Int)) => cond (x2.2 != (0 : Int)) (cond (x2.2 != (0 : Int)) (k (a1, x2.2)) (k (a1, (0 : Int)))) (k (x2.1, (0 : Int)))) (none)))
noncomputable def Do_68 (a1 : (List Int)) : Option Do_68_R := Do_68_t a1 some
theorem Do_68_t_eq {γ : Type} (a1 : (List Int)) (k : Do_68_R → Option γ) : Do_68_t a1 k = outOf (Do_68 a1) k := by
  delta Do_68 Do_68_t; exact (Tr.nd Tr.lf (Tr.nd Tr.lf (Tr.bd fun x1 => (Tr.nd (Tr.bd fun x2 => (Tr.nd (Tr.nd Tr.lf Tr.lf) Tr.lf)) Tr.no))))
theorem Do_68_ev {α : Type} (a1 : (List Int)) (k : Kont α) : evFun Tryz.prog SrEE7 (Do_68_h0) false Tryz.f26 (bodyOf Tryz.f26) 200 (mkS [.val (.int .i64), .val (.sl (.int .i64))] ((68 : Int), a1, ())) (mkH [] ()) (fun v H => k (weakF v) H) = outOf (Do_68 a1) fun v => k (.tup [.sl (.int .i64) v.1 false, .lit (.int .i64 v.2)]) [] :=
  (show _ = Do_68_t a1 (fun v => k (.tup [.sl (.int .i64) v.1 false, .lit (.int .i64 v.2)]) []) from by kernel_rfl).trans (Do_68_t_eq a1 _)
/-! f26 tenterhook/pure.Do -/
def Do_69_h0 : Hints := Hints.nil 0
theorem Do_69_h0_ok : Do_69_h0.OK Tryz.prog (bodyOf Tryz.f26) := Hints.nil_ok
abbrev Do_69_R : Type := ((List Int) × Int)
noncomputable def Do_69_t {γ : Type} (a1 : (List Int)) (k : Do_69_R → Option γ) : Option γ := cond (decide ((↑(List.length a1) : Int) < (4 : Int))) (k (a1, (-4 : Int))) (cond (decide ((↑(List.length a1) : Int) > (64 : Int))) (k (a1, (-3 : Int))) (outOf (stk_Pop a1 (4 : Int)) fun (x1 : ((List Int) × ((List Int) × Int))) => cond (decide ((0 : Int) ≤ (0 : Int) ∧ (0 : Int) < (↑(List.length x1.2.1) : Int))) (cond (decide ((0 : Int) ≤ (1 : Int) ∧ (1 : Int) < (↑(List.length x1.2.1) : Int))) (cond (decide ((0 : Int) ≤ (2 : Int) ∧ (2 : Int) < (↑(List.length x1.2.1) : Int))) (cond (decide ((0 : Int) ≤ (3 : Int) ∧ (3 : Int) < (↑(List.length x1.2.1) : Int))) (outOf (dbl_Add (List.getD x1.2.1 (0 : Nat) (0 : Int)) (List.getD x1.2.1 (1 : Nat) (0 : Int)) (List.getD x1.2.1 (2 : Nat) (0 : Int)) (List.getD x1.2.1 (3 : Nat) (0 : Int))) fun (x2 : (Int × Int)) => outOf (stk_Push x1.1 (64 : Int) [x2.1, x2.2]) fun (x3 : ((List Int) × Int)) => cond (x3.2 != (0 : Int)) (cond (x3.2 != (0 : Int)) (k (a1, x3.2)) (k (a1, (0 : Int)))) (k (x3.1, (0 : Int)))) (none)) (none)) (none)) (none)))
noncomputable def Do_69 (a1 : (List Int)) : Option Do_69_R := Do_69_t a1 some
theorem Do_69_t_eq {γ : Type} (a1 : (List Int)) (k : Do_69_R → Option γ) : Do_69_t a1 k = outOf (Do_69 a1) k := by
  delta Do_69 Do_69_t; exact (Tr.nd Tr.lf (Tr.nd Tr.lf (Tr.bd fun x1 => (Tr.nd (Tr.nd (Tr.nd (Tr.nd (Tr.bd fun x2 => (Tr.bd fun x3 => (Tr.nd (Tr.nd Tr.lf Tr.lf) Tr.lf))) Tr.no) Tr.no) Tr.no) Tr.no))))
theorem Do_69_ev {α : Type} (a1 : (List Int)) (k : Kont α) : evFun Tryz.prog SrEE7 (Do_69_h0) false Tryz.f26 (bodyOf Tryz.f26) 200 (mkS [.val (.int .i64), .val (.sl (.int .i64))] ((69 : Int), a1, ())) (mkH [] ()) (fun v H => k (weakF v) H) = outOf (Do_69 a1) fun v => k (.tup [.sl (.int .i64) v.1 false, .lit (.int .i64 v.2)]) [] :=
  (show _ = Do_69_t a1 (fun v => k (.tup [.sl (.int .i64) v.1 false, .lit (.int .i64 v.2)]) []) from by kernel_rfl).trans (Do_69_t_eq a1 _)
/-! f26 tenterhook/pure.Do -/
def Do_70_h0 : Hints := Hints.nil 0
theorem Do_70_h0_ok : Do_70_h0.OK Tryz.prog (bodyOf Tryz.f26) := Hints.nil_ok
abbrev Do_70_R : Type := ((List Int) × Int)
noncomputable def Do_70_t {γ : Type} (a1 : (List Int)) (k : Do_70_R → Option γ) : Option γ := cond (decide ((↑(List.length a1) : Int) < (2 : Int))) (k (a1, (-4 : Int))) (cond (decide ((↑(List.length a1) : Int) > (64 : Int))) (k (a1, (-3 : Int))) (outOf (stk_Pop a1 (2 : Int)) fun (x1 : ((List Int) × ((List Int) × Int))) => cond (decide ((0 : Int) ≤ (0 : Int) ∧ (0 : Int) < (↑(List.length x1.2.1) : Int))) (cond (decide ((0 : Int) ≤ (1 : Int) ∧ (1 : Int) < (↑(List.length x1.2.1) : Int))) (outOf (dbl_Neg (List.getD x1.2.1 (0 : Nat) (0 : Int)) (List.getD x1.2.1 (1 : Nat) (0 : Int))) fun (x2 : (Int × Int)) => outOf (stk_Push x1.1 (64 : Int) [x2.1, x2.2]) fun (x3 : ((List Int) × Int)) => cond (x3.2 != (0 : Int)) (cond (x3.2 != (0 : Int)) (k (a1, x3.2)) (k (a1, (0 : Int)))) (k (x3.1, (0 : Int)))) (none)) (none)))
noncomputable def Do_70 (a1 : (List Int)) : Option Do_70_R := Do_70_t a1 some
theorem Do_70_t_eq {γ : Type} (a1 : (List Int)) (k : Do_70_R → Option γ) : Do_70_t a1 k = outOf (Do_70 a1) k := by
  delta Do_70 Do_70_t; exact (Tr.nd Tr.lf (Tr.nd Tr.lf (Tr.bd fun x1 => (Tr.nd (Tr.nd (Tr.bd fun x2 => (Tr.bd fun x3 => (Tr.nd (Tr.nd Tr.lf Tr.lf) Tr.lf))) Tr.no) Tr.no))))
theorem Do_70_ev {α : Type} (a1 : (List Int)) (k : Kont α) : evFun Tryz.prog SrEE7 (Do_70_h0) false Tryz.f26 (bodyOf Tryz.f26) 200 (mkS [.val (.int .i64), .val (.sl (.int .i64))] ((70 : Int), a1, ())) (mkH [] ()) (fun v H => k (weakF v) H) = outOf (Do_70 a1) fun v => k (.tup [.sl (.int .i64) v.1 false, .lit (.int .i64 v.2)]) [] :=
  (show _ = Do_70_t a1 (fun v => k (.tup [.sl (.int .i64) v.1 false, .lit (.int .i64 v.2)]) []) from by kernel_rfl).trans (Do_70_t_eq a1 _)
/-! f26 tenterhook/pure.Do -/
def Do_71_h0 : Hints := Hints.nil 0
theorem Do_71_h0_ok : Do_71_h0.OK Tryz.prog (bodyOf Tryz.f26) := Hints.nil_ok
abbrev Do_71_R : Type := ((List Int) × Int)
noncomputable def Do_71_t {γ : Type} (a1 : (List Int)) (k : Do_71_R → Option γ) : Option γ := cond (decide ((↑(List.length a1) : Int) < (1 : Int))) (k (a1, (-4 : Int))) (cond (decide ((↑(List.length a1) : Int) > (64 : Int))) (k (a1, (-3 : Int))) (outOf (stk_Pop a1 (1 : Int)) fun (x1 : ((List Int) × ((List Int) × Int))) => cond (decide ((0 : Int) ≤ (0 : Int) ∧ (0 : Int) < (↑(List.length x1.2.1) : Int))) (outOf (stk_Push x1.1 (64 : Int) [IntKind.wrap IntKind.i64 (List.getD x1.2.1 (0 : Nat) (0 : Int) * (8 : Int))]) fun (x2 : ((List Int) × Int)) => cond (x2.2 != (0 : Int)) (cond (x2.2 != (0 : Int)) (k (a1, x2.2)) (k (a1, (0 : Int)))) (k (x2.1, (0 : Int)))) (none)))
noncomputable def Do_71 (a1 : (List Int)) : Option Do_71_R := Do_71_t a1 some
theorem Do_71_t_eq {γ : Type} (a1 : (List Int)) (k : Do_71_R → Option γ) : Do_71_t a1 k = outOf (Do_71 a1) k := by
  delta Do_71 Do_71_t; exact (Tr.nd Tr.lf (Tr.nd Tr.lf (Tr.bd fun x1 => (Tr.nd (Tr.bd fun x2 => (Tr.nd (Tr.nd Tr.lf Tr.lf) Tr.lf)) Tr.no))))
theorem Do_71_ev {α : Type} (a1 : (List Int)) (k : Kont α) : evFun Tryz.prog SrEE7 (Do_71_h0) false Tryz.f26 (bodyOf Tryz.f26) 200 (mkS [.val (.int .i64), .val (.sl (.int .i64))] ((71 : Int), a1, ())) (mkH [] ()) (fun v H => k (weakF v) H) = outOf (Do_71 a1) fun v => k (.tup [.sl (.int .i64) v.1 false, .lit (.int .i64 v.2)]) [] :=
  (show _ = Do_71_t a1 (fun v => k (.tup [.sl (.int .i64) v.1 false, .lit (.int .i64 v.2)]) []) from by kernel_rfl).trans (Do_71_t_eq a1 _)
/-! f26 tenterhook/pure.Do -/
def Do_72_h0 : Hints := Hints.nil 0
theorem Do_72_h0_ok : Do_72_h0.OK Tryz.prog (bodyOf Tryz.f26) := Hints.nil_ok
abbrev Do_72_R : Type := ((List Int) × Int)
noncomputable def Do_72_t {γ : Type} (a1 : (List Int)) (k : Do_72_R → Option γ) : Option γ := cond (decide ((↑(List.length a1) : Int) < (1 : Int))) (k (a1, (-4 : Int))) (cond (decide ((↑(List.length a1) : Int) > (64 : Int))) (k (a1, (-3 : Int))) (outOf (stk_Pop a1 (1 : Int)) fun (x1 : ((List Int) × ((List Int) × Int))) => cond (decide ((0 : Int) ≤ (0 : Int) ∧ (0 : Int) < (↑(List.length x1.2.1) : Int))) (outOf (stk_Push x1.1 (64 : Int) [IntKind.wrap IntKind.i64 (List.getD x1.2.1 (0 : Nat) (0 : Int) + (8 : Int))]) fun (x2 : ((List Int) × Int)) => cond (x2.2 != (0 : Int)) (cond (x2.2 != (0 : Int)) (k (a1, x2.2)) (k (a1, (0 : Int)))) (k (x2.1, (0 : Int)))) (none)))
noncomputable def Do_72 (a1 : (List Int)) : Option Do_72_R := Do_72_t a1 some
theorem Do_72_t_eq {γ : Type} (a1 : (List Int)) (k : Do_72_R → Option γ) : Do_72_t a1 k = outOf (Do_72 a1) k := by
  delta Do_72 Do_72_t; exact (Tr.nd Tr.lf (Tr.nd Tr.lf (Tr.bd fun x1 => (Tr.nd (Tr.bd fun x2 => (Tr.nd (Tr.nd Tr.lf Tr.lf) Tr.lf)) Tr.no))))
theorem Do_72_ev {α : Type} (a1 : (List Int)) (k : Kont α) : evFun Tryz.prog SrEE7 (Do_72_h0) false Tryz.f26 (bodyOf Tryz.f26) 200 (mkS [.val (.int .i64), .val (.sl (.int .i64))] ((72 : Int), a1, ())) (mkH [] ()) (fun v H => k (weakF v) H) = outOf (Do_72 a1) fun v => k (.tup [.sl (.int .i64) v.1 false, .lit (.int .i64 v.2)]) [] :=
  (show _ = Do_72_t a1 (fun v => k (.tup [.sl (.int .i64) v.1 false, .lit (.int .i64 v.2)]) []) from by kernel_rfl).trans (Do_72_t_eq a1 _)
/-! f26 tenterhook/pure.Do -/
def Do_73_h0 : Hints := Hints.nil 0
theorem Do_73_h0_ok : Do_73_h0.OK Tryz.prog (bodyOf Tryz.f26) := Hints.nil_ok
abbrev Do_73_R : Type := ((List Int) × Int)
noncomputable def Do_73_t {γ : Type} (a1 : (List Int)) (k : Do_73_R → Option γ) : Option γ := cond (decide ((↑(List.length a1) : Int) < (1 : Int))) (k (a1, (-4 : Int))) (cond (decide ((↑(List.length a1) : Int) > (64 : Int))) (k (a1, (-3 : Int))) (outOf (stk_Pop a1 (1 : Int)) fun (x1 : ((List Int) × ((List Int) × Int))) => cond (decide ((0 : Int) ≤ (0 : Int) ∧ (0 : Int) < (↑(List.length x1.2.1) : Int))) (outOf (stk_Push x1.1 (64 : Int) [IntKind.wrap IntKind.i64 (List.getD x1.2.1 (0 : Nat) (0 : Int) + (1 : Int))]) fun (x2 : ((List Int) × Int)) => cond (x2.2 != (0 : Int)) (cond (x2.2 != (0 : Int)) (k (a1, x2.2)) (k (a1, (0 : Int)))) (k (x2.1, (0 : Int)))) (none)))
noncomputable def Do_73 (a1 : (List Int)) : Option Do_73_R := Do_73_t a1 some
theorem Do_73_t_eq {γ : Type} (a1 : (List Int)) (k : Do_73_R → Option γ) : Do_73_t a1 k = outOf (Do_73 a1) k := by
  delta Do_73 Do_73_t; exact (Tr.nd Tr.lf (Tr.nd Tr.lf (Tr.bd fun x1 => (Tr.nd (Tr.bd fun x2 => (Tr.nd (Tr.nd Tr.lf Tr.lf) Tr.lf)) Tr.no))))
theorem Do_73_ev {α : Type} (a1 : (List Int)) (k : Kont α) : evFun Tryz.prog SrEE7 (Do_73_h0) false Tryz.f26 (bodyOf Tryz.f26) 200 (mkS [.val (.int .i64), .val (.sl (.int .i64))] ((73 : Int), a1, ())) (mkH [] ()) (fun v H => k (weakF v) H) = outOf (Do_73 a1) fun v => k (.tup [.sl (.int .i64) v.1 false, .lit (.int .i64 v.2)]) [] :=
  (show _ = Do_73_t a1 (fun v => k (.tup [.sl (.int .i64) v.1 false, .lit (.int .i64 v.2)]) []) from by kernel_rfl).trans (Do_73_t_eq a1 _)
/-! f26 tenterhook/pure.Do -/
def Do_74_h0 : Hints := Hints.nil 0
theorem Do_74_h0_ok : Do_74_h0.OK Tryz.prog (bodyOf Tryz.f26) := Hints.nil_ok
abbrev Do_74_R : Type := ((List Int) × Int)
noncomputable def Do_74_t {γ : Type} (a1 : (List Int)) (k : Do_74_R → Option γ) : Option γ := cond (decide ((↑(List.length a1) : Int) < (1 : Int))) (k (a1, (-4 : Int))) (cond (decide ((↑(List.length a1) : Int) > (64 : Int))) (k (a1, (-3 : Int))) (outOf (stk_Pop a1 (1 : Int)) fun (x1 : ((List Int) × ((List Int) × Int))) => cond (decide ((0 : Int) ≤ (0 : Int) ∧ (0 : Int) < (↑(List.length x1.2.1) : Int))) (outOf (stk_Push x1.1 (64 : Int) [cell_Aligned (List.getD x1.2.1 (0 : Nat) (0 : Int))]) fun (x2 : ((List Int) × Int)) => cond (x2.2 != (0 : Int)) (cond (x2.2 != (0 : Int)) (k (a1, x2.2)) (k (a1, (0 : Int)))) (k (x2.1, (0 : Int)))) (none)))
noncomputable def Do_74 (a1 : (List Int)) : Option Do_74_R := Do_74_t a1 some
theorem Do_74_t_eq {γ : Type} (a1 : (List Int)) (k : Do_74_R → Option γ) : Do_74_t a1 k = outOf (Do_74 a1) k := by
  delta Do_74 Do_74_t; exact (Tr.nd Tr.lf (Tr.nd Tr.lf (Tr.bd fun x1 => (Tr.nd (Tr.bd fun x2 => (Tr.nd (Tr.nd Tr.lf Tr.lf) Tr.lf)) Tr.no))))
theorem Do_74_ev {α : Type} (a1 : (List Int)) (k : Kont α) : evFun Tryz.prog SrEE7 (Do_74_h0) false Tryz.f26 (bodyOf Tryz.f26) 200 (mkS [.val (.int .i64), .val (.sl (.int .i64))] ((74 : Int), a1, ())) (mkH [] ()) (fun v H => k (weakF v) H) = outOf (Do_74 a1) fun v => k (.tup [.sl (.int .i64) v.1 false, .lit (.int .i64 v.2)]) [] :=
  (show _ = Do_74_t a1 (fun v => k (.tup [.sl (.int .i64) v.1 false, .lit (.int .i64 v.2)]) []) from by kernel_rfl).trans (Do_74_t_eq a1 _)
end Go.Proofs.Dbl
