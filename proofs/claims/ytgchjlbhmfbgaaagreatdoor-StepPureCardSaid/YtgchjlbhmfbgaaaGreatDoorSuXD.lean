import Derived.Test.YtgchjlbhmfbgaaaGreatDoorSuXB
namespace Go.Proofs.Dbl
open Go Go.TX Go.Proofs
set_option maxRecDepth 100000
set_option linter.unusedVariables false
set_option maxHeartbeats 0
theorem add64G : TX.Good Tryz.prog 274 add64_sp := add64_good Tryz.func274 (by kernel_rfl) (by kernel_rfl) (by kernel_rfl) (by kernel_rfl)
noncomputable def SuE2 : Env := SrBE6.add 274 true add64_sp
theorem SuE2_ok : SuE2.OK Tryz.prog := SrBE6_ok.add_ok add64G
noncomputable def SrDE1 : Env := SuE2.add 275 false (inl Tryz.prog SuE2 true Tryz.f275 60)
theorem SrDE1_ok : SrDE1.OK Tryz.prog := (SuE2_ok).add_ok (inl_good SuE2_ok mixed Tryz.func275 (body_of rfl) (by kernel_rfl) true 60)
/-! f182 tenterhook/dbl.Of -/
def dbl_Of_h0 : Hints := Hints.nil 0
theorem dbl_Of_h0_ok : dbl_Of_h0.OK Tryz.prog (bodyOf Tryz.f182) := Hints.nil_ok
noncomputable def dbl_Of (a0 : Int) : Int × Int := (a0, Int.fdiv a0 (9223372036854775808 : Int))
noncomputable def dbl_Of_sp : TX.Spec := specD [.val (.int .i64)] [] fun _ a m k => match a, m with | ⟨a0, _⟩, _ => k (.agg [.lit (.int .i64 ((dbl_Of a0).1)), .lit (.int .i64 ((dbl_Of a0).2))]) []
theorem dbl_Of_ev {α : Type} (a0 : Int) (k : Kont α) : evFun Tryz.prog SrDE1 (dbl_Of_h0) false Tryz.f182 (bodyOf Tryz.f182) 60 (mkS [.val (.int .i64)] (a0, ())) (mkH [] ()) k = k (.agg [.lit (.int .i64 ((dbl_Of a0).1)), .lit (.int .i64 ((dbl_Of a0).2))]) [] :=
  by kernel_rfl
theorem dbl_Of_good : TX.Good Tryz.prog 182 dbl_Of_sp := good_form SrDE1_ok mixed Tryz.func182 (body_of rfl) (by kernel_rfl) false fun α a m k r h => by
  obtain ⟨a0, _⟩ := a; obtain _ := m
  exact ⟨dbl_Of_h0, 60, dbl_Of_h0_ok, rfl, (dbl_Of_ev a0 k).trans h⟩
/-! f184 tenterhook/dbl.Add -/
def dbl_Add_h0 : Hints := Hints.nil 0
theorem dbl_Add_h0_ok : dbl_Add_h0.OK Tryz.prog (bodyOf Tryz.f184) := Hints.nil_ok
abbrev dbl_Add_R : Type := (Int × Int)
noncomputable def dbl_Add_t {γ : Type} (a0_0 : Int) (a0_1 : Int) (a1_0 : Int) (a1_1 : Int) (k : dbl_Add_R → Option γ) : Option γ := cond (decide ((0 : Int) ≤ IntKind.wrap IntKind.u64 a0_0 ∧ (0 : Int) ≤ IntKind.wrap IntKind.u64 a1_0 ∧ (0 : Int) ≤ (0 : Int) ∧ (0 : Int) ≤ (1 : Int))) (cond (decide ((0 : Int) ≤ IntKind.wrap IntKind.u64 a0_1 ∧ (0 : Int) ≤ IntKind.wrap IntKind.u64 a1_1 ∧ (0 : Int) ≤ (IntKind.wrap IntKind.u64 a0_0 + IntKind.wrap IntKind.u64 a1_0 + (0 : Int)) / (18446744073709551616 : Int) ∧ (IntKind.wrap IntKind.u64 a0_0 + IntKind.wrap IntKind.u64 a1_0 + (0 : Int)) / (18446744073709551616 : Int) ≤ (1 : Int))) (k (IntKind.wrap IntKind.i64 ((IntKind.wrap IntKind.u64 a0_0 + IntKind.wrap IntKind.u64 a1_0 + (0 : Int)) % (18446744073709551616 : Int)), IntKind.wrap IntKind.i64 ((IntKind.wrap IntKind.u64 a0_1 + IntKind.wrap IntKind.u64 a1_1 + (IntKind.wrap IntKind.u64 a0_0 + IntKind.wrap IntKind.u64 a1_0 + (0 : Int)) / (18446744073709551616 : Int)) % (18446744073709551616 : Int)))) (none)) (none)
noncomputable def dbl_Add (a0_0 : Int) (a0_1 : Int) (a1_0 : Int) (a1_1 : Int) : Option dbl_Add_R := dbl_Add_t a0_0 a0_1 a1_0 a1_1 some
theorem dbl_Add_t_eq {γ : Type} (a0_0 : Int) (a0_1 : Int) (a1_0 : Int) (a1_1 : Int) (k : dbl_Add_R → Option γ) : dbl_Add_t a0_0 a0_1 a1_0 a1_1 k = outOf (dbl_Add a0_0 a0_1 a1_0 a1_1) k := by
  delta dbl_Add dbl_Add_t; exact (Tr.nd (Tr.nd Tr.lf Tr.no) Tr.no)
noncomputable def dbl_Add_sp : TX.Spec := specD [.agg (.pair (.int .i64) (.int .i64)), .agg (.pair (.int .i64) (.int .i64))] [] fun _ a m k => match a, m with | ⟨⟨a0_0, a0_1⟩, ⟨a1_0, a1_1⟩, _⟩, _ => outOf (dbl_Add a0_0 a0_1 a1_0 a1_1) fun v => k (.agg [.lit (.int .i64 v.1), .lit (.int .i64 v.2)]) []
theorem dbl_Add_ev {α : Type} (a0_0 : Int) (a0_1 : Int) (a1_0 : Int) (a1_1 : Int) (k : Kont α) : evFun Tryz.prog SrDE1 (dbl_Add_h0) false Tryz.f184 (bodyOf Tryz.f184) 60 (mkS [.agg (.pair (.int .i64) (.int .i64)), .agg (.pair (.int .i64) (.int .i64))] ((a0_0, a0_1), (a1_0, a1_1), ())) (mkH [] ()) k = outOf (dbl_Add a0_0 a0_1 a1_0 a1_1) fun v => k (.agg [.lit (.int .i64 v.1), .lit (.int .i64 v.2)]) [] :=
  (show _ = dbl_Add_t a0_0 a0_1 a1_0 a1_1 (fun v => k (.agg [.lit (.int .i64 v.1), .lit (.int .i64 v.2)]) []) from by kernel_rfl).trans (dbl_Add_t_eq a0_0 a0_1 a1_0 a1_1 _)
theorem dbl_Add_good : TX.Good Tryz.prog 184 dbl_Add_sp := good_form SrDE1_ok mixed Tryz.func184 (body_of rfl) (by kernel_rfl) false fun α a m k r h => by
  obtain ⟨⟨a0_0, a0_1⟩, ⟨a1_0, a1_1⟩, _⟩ := a; obtain _ := m
  exact ⟨dbl_Add_h0, 60, dbl_Add_h0_ok, rfl, (dbl_Add_ev a0_0 a0_1 a1_0 a1_1 k).trans h⟩
/-! f269 math/bits.Mul64 -/
def mul64_h0 : Hints := Hints.nil 0
theorem mul64_h0_ok : mul64_h0.OK Tryz.prog (bodyOf Tryz.f269) := Hints.nil_ok
noncomputable def mul64 (a0 : Int) (a1 : Int) : Int × Int := (IntKind.wrap IntKind.u64 (IntKind.wrap IntKind.u64 (IntKind.wrap IntKind.u64 (Int.fdiv a0 (4294967296 : Int) * Int.fdiv a1 (4294967296 : Int)) + Int.fdiv (IntKind.wrap IntKind.u64 (IntKind.wrap IntKind.u64 (Int.fdiv a0 (4294967296 : Int) * ibits BinOp.and IntKind.u64 a1 (4294967295 : Int)) + Int.fdiv (IntKind.wrap IntKind.u64 (ibits BinOp.and IntKind.u64 a0 (4294967295 : Int) * ibits BinOp.and IntKind.u64 a1 (4294967295 : Int))) (4294967296 : Int))) (4294967296 : Int)) + Int.fdiv (IntKind.wrap IntKind.u64 (ibits BinOp.and IntKind.u64 (IntKind.wrap IntKind.u64 (IntKind.wrap IntKind.u64 (Int.fdiv a0 (4294967296 : Int) * ibits BinOp.and IntKind.u64 a1 (4294967295 : Int)) + Int.fdiv (IntKind.wrap IntKind.u64 (ibits BinOp.and IntKind.u64 a0 (4294967295 : Int) * ibits BinOp.and IntKind.u64 a1 (4294967295 : Int))) (4294967296 : Int))) (4294967295 : Int) + IntKind.wrap IntKind.u64 (ibits BinOp.and IntKind.u64 a0 (4294967295 : Int) * Int.fdiv a1 (4294967296 : Int)))) (4294967296 : Int)), IntKind.wrap IntKind.u64 (a0 * a1))
noncomputable def mul64_sp : TX.Spec := specD [.val (.int .u64), .val (.int .u64)] [] fun _ a m k => match a, m with | ⟨a0, a1, _⟩, _ => k (.tup [.lit (.int .u64 ((mul64 a0 a1).1)), .lit (.int .u64 ((mul64 a0 a1).2))]) []
theorem mul64_ev {α : Type} (a0 : Int) (a1 : Int) (k : Kont α) : evFun Tryz.prog SrDE1 (mul64_h0) false Tryz.f269 (bodyOf Tryz.f269) 60 (mkS [.val (.int .u64), .val (.int .u64)] (a0, a1, ())) (mkH [] ()) k = k (.tup [.lit (.int .u64 ((mul64 a0 a1).1)), .lit (.int .u64 ((mul64 a0 a1).2))]) [] :=
  by kernel_rfl
theorem mul64_good : TX.Good Tryz.prog 269 mul64_sp := good_form SrDE1_ok mixed Tryz.func269 (body_of rfl) (by kernel_rfl) false fun α a m k r h => by
  obtain ⟨a0, a1, _⟩ := a; obtain _ := m
  exact ⟨mul64_h0, 60, mul64_h0_ok, rfl, (mul64_ev a0 a1 k).trans h⟩
/-! f166 tenterhook/cell.Ult -/
def cell_Ult_h0 : Hints := Hints.nil 0
theorem cell_Ult_h0_ok : cell_Ult_h0.OK Tryz.prog (bodyOf Tryz.f166) := Hints.nil_ok
noncomputable def cell_Ult (a0 : Int) (a1 : Int) : Bool := (decide (IntKind.wrap IntKind.u64 a0 < IntKind.wrap IntKind.u64 a1))
noncomputable def cell_Ult_sp : TX.Spec := specD [.val (.int .i64), .val (.int .i64)] [] fun _ a m k => match a, m with | ⟨a0, a1, _⟩, _ => k (.lit (.bool (cell_Ult a0 a1))) []
theorem cell_Ult_ev {α : Type} (a0 : Int) (a1 : Int) (k : Kont α) : evFun Tryz.prog SrDE1 (cell_Ult_h0) false Tryz.f166 (bodyOf Tryz.f166) 60 (mkS [.val (.int .i64), .val (.int .i64)] (a0, a1, ())) (mkH [] ()) k = k (.lit (.bool (cell_Ult a0 a1))) [] :=
  by kernel_rfl
theorem cell_Ult_good : TX.Good Tryz.prog 166 cell_Ult_sp := good_form SrDE1_ok mixed Tryz.func166 (body_of rfl) (by kernel_rfl) false fun α a m k r h => by
  obtain ⟨a0, a1, _⟩ := a; obtain _ := m
  exact ⟨cell_Ult_h0, 60, cell_Ult_h0_ok, rfl, (cell_Ult_ev a0 a1 k).trans h⟩
/-! f271 tenterhook/dbl.long -/
def dbl_long_h0 : Hints := Hints.nil 0
theorem dbl_long_h0_ok : dbl_long_h0.OK Tryz.prog (bodyOf Tryz.f271) := Hints.nil_ok
def dbl_long_M1_A : List SD := [.any, .any, .loc 0 0 0, .any, .any, .loc 1 0 0, .val (.int .u64), .loc 2 0 0, .val (.int .u64), .val (.int .i64), .val (.int .i64), .any, .any, .any, .any, .any, .any, .any, .any, .any, .any, .any, .any, .any, .any, .any, .any, .any, .any, .any, .any, .any, .any, .any, .any, .any, .any, .any, .any, .any, .any, .any, .any, .any, .any, .any, .any, .any, .any, .any, .any, .any, .any, .any, .any, .any, .any, .any, .any, .any, .any, .any, .any, .any, .any, .any]
def dbl_long_M1_H : List HD := [.box [.val (.int .i64), .val (.int .i64)], .box [.val (.int .i64), .val (.int .i64)], .box [.val (.int .i64), .val (.int .i64)]]
abbrev dbl_long_M1_D : Type := Int × Int × Int × Int × Int × Int × Int × Int × Int × Int
def dbl_long_M1_to (a : DenS dbl_long_M1_A) (m : DenH dbl_long_M1_H) : dbl_long_M1_D := (a.2.2.2.2.2.2.1, a.2.2.2.2.2.2.2.2.1, a.2.2.2.2.2.2.2.2.2.1, a.2.2.2.2.2.2.2.2.2.2.1, m.1.1, m.1.2.1, m.2.1.1, m.2.1.2.1, m.2.2.1.1, m.2.2.1.2.1)
def dbl_long_M1_ofA (d : dbl_long_M1_D) : DenS dbl_long_M1_A := match d with | (s6, s8, s9, s10, m0_0, m0_1, m1_0, m1_1, m2_0, m2_1) => ((), (), (), (), (), (), s6, (), s8, s9, s10, (), (), (), (), (), (), (), (), (), (), (), (), (), (), (), (), (), (), (), (), (), (), (), (), (), (), (), (), (), (), (), (), (), (), (), (), (), (), (), (), (), (), (), (), (), (), (), (), (), (), (), (), (), (), (), ())
def dbl_long_M1_ofH (d : dbl_long_M1_D) : DenH dbl_long_M1_H := match d with | (s6, s8, s9, s10, m0_0, m0_1, m1_0, m1_1, m2_0, m2_1) => ((m0_0, m0_1, ()), (m1_0, m1_1, ()), (m2_0, m2_1, ()), ())
def dbl_long_M1_N : Norm := (⟨[2, 5, 6, 7, 8, 9, 10], [], []⟩ : Go.TX.Norm)
def dbl_long_M1_X : Exit → Norm := fun e => match e with | .normal => ⟨[2, 5, 6, 7, 8, 9, 10], [], []⟩ | _ => ⟨[], [], []⟩
abbrev dbl_long_M1_R : Type := (Int)
def dbl_long_M1_fin (d : dbl_long_M1_D) (v : dbl_long_M1_R) : Exit × St := (.normal, ⟨[.any, .any, .ptr 0 0 0, .any, .any, .ptr 1 0 0, .lit (.int .u64 d.1), .ptr 2 0 0, .lit (.int .u64 d.2.1), .lit (.int .i64 d.2.2.1), .lit (.int .i64 v), .any, .any, .any, .any, .any, .any, .any, .any, .any, .any, .any, .any, .any, .any, .any, .any, .any, .any, .any, .any, .any, .any, .any, .any, .any, .any, .any, .any, .any, .any, .any, .any, .any, .any, .any, .any, .any, .any, .any, .any, .any, .any, .any, .any, .any, .any, .any, .any, .any, .any, .any, .any, .any, .any, .any], [.box [.lit (.int .i64 d.2.2.2.2.1), .lit (.int .i64 d.2.2.2.2.2.1)], .box [.lit (.int .i64 d.2.2.2.2.2.2.1), .lit (.int .i64 d.2.2.2.2.2.2.2.1)], .box [.lit (.int .i64 d.2.2.2.2.2.2.2.2.1), .lit (.int .i64 d.2.2.2.2.2.2.2.2.2)]]⟩)
noncomputable def dbl_long_M1_t {γ : Type} (s9 : Int) (s10 : Int) (m0_1 : Int) (k : dbl_long_M1_R → Option γ) : Option γ := cond (decide (s9 ≥ (64 : Int))) (k (m0_1)) (k (s10))
noncomputable def dbl_long_M1 (s9 : Int) (s10 : Int) (m0_1 : Int) : Option dbl_long_M1_R := dbl_long_M1_t s9 s10 m0_1 some
theorem dbl_long_M1_t_eq {γ : Type} (s9 : Int) (s10 : Int) (m0_1 : Int) (k : dbl_long_M1_R → Option γ) : dbl_long_M1_t s9 s10 m0_1 k = outOf (dbl_long_M1 s9 s10 m0_1) k := by
  delta dbl_long_M1 dbl_long_M1_t; exact (Tr.nd Tr.lf Tr.lf)
theorem dbl_long_M1_ev (α : Type) (d : dbl_long_M1_D) (k : Exit → St → Option α) : ev Tryz.prog SrDE1 dbl_long_h0 60 [0, 1, 1, 1, 1, 1, 0, 1] ((codeAt (bodyOf Tryz.f271) [0, 1, 1, 1, 1, 1, 0, 1]).getD .skip) ⟨mkS dbl_long_M1_A (dbl_long_M1_ofA d), mkH dbl_long_M1_H (dbl_long_M1_ofH d)⟩ (exitN 0 dbl_long_M1_X k) = outOf (dbl_long_M1 d.2.2.1 d.2.2.2.1 d.2.2.2.2.2.1) fun x => k (dbl_long_M1_fin d x).1 (dbl_long_M1_fin d x).2 := by
  obtain ⟨s6, s8, s9, s10, m0_0, m0_1, m1_0, m1_1, m2_0, m2_1⟩ := d
  exact (show _ = dbl_long_M1_t s9 s10 m0_1 (fun x => k (dbl_long_M1_fin (s6, s8, s9, s10, m0_0, m0_1, m1_0, m1_1, m2_0, m2_1) x).1 (dbl_long_M1_fin (s6, s8, s9, s10, m0_0, m0_1, m1_0, m1_1, m2_0, m2_1) x).2) from by kernel_rfl).trans (dbl_long_M1_t_eq s9 s10 m0_1 _)
noncomputable def dbl_long_M1_sp : CSpec := fun _ st k => reNorm 0 dbl_long_M1_N dbl_long_M1_A dbl_long_M1_H st fun a m => outOf (dbl_long_M1 (dbl_long_M1_to a m).2.2.1 (dbl_long_M1_to a m).2.2.2.1 (dbl_long_M1_to a m).2.2.2.2.2.1) fun v => k .normal ⟨[.any, .any, .ptr 0 0 0, .any, .any, .ptr 1 0 0, .lit (.int .u64 (dbl_long_M1_to a m).1), .ptr 2 0 0, .lit (.int .u64 (dbl_long_M1_to a m).2.1), .lit (.int .i64 (dbl_long_M1_to a m).2.2.1), .lit (.int .i64 v), .any, .any, .any, .any, .any, .any, .any, .any, .any, .any, .any, .any, .any, .any, .any, .any, .any, .any, .any, .any, .any, .any, .any, .any, .any, .any, .any, .any, .any, .any, .any, .any, .any, .any, .any, .any, .any, .any, .any, .any, .any, .any, .any, .any, .any, .any, .any, .any, .any, .any, .any, .any, .any, .any, .any], [.box [.lit (.int .i64 (dbl_long_M1_to a m).2.2.2.2.1), .lit (.int .i64 (dbl_long_M1_to a m).2.2.2.2.2.1)], .box [.lit (.int .i64 (dbl_long_M1_to a m).2.2.2.2.2.2.1), .lit (.int .i64 (dbl_long_M1_to a m).2.2.2.2.2.2.2.1)], .box [.lit (.int .i64 (dbl_long_M1_to a m).2.2.2.2.2.2.2.2.1), .lit (.int .i64 (dbl_long_M1_to a m).2.2.2.2.2.2.2.2.2)]]⟩
theorem dbl_long_M1_ok : SumOK Tryz.prog 0 ((codeAt (bodyOf Tryz.f271) [0, 1, 1, 1, 1, 1, 0, 1]).getD .skip) dbl_long_M1_sp := (SumOK.once SrDE1_ok mixed dbl_long_h0_ok (show codeAt (bodyOf Tryz.f271) [0, 1, 1, 1, 1, 1, 0, 1] = some ((codeAt (bodyOf Tryz.f271) [0, 1, 1, 1, 1, 1, 0, 1]).getD .skip) from by kernel_rfl) (N := dbl_long_M1_N) (Nx := dbl_long_M1_X) (A := dbl_long_M1_A) (Hs := dbl_long_M1_H) (toD := dbl_long_M1_to) (ofA := dbl_long_M1_ofA) (ofH := dbl_long_M1_ofH) (fun _ _ => rfl) (fun _ _ => rfl) (M := fun d => dbl_long_M1 d.2.2.1 d.2.2.2.1 d.2.2.2.2.2.1) (fin := dbl_long_M1_fin) 60 dbl_long_M1_ev).mono fun α st k r h => by
  refine Eq.trans (congrArg (reNorm 0 dbl_long_M1_N dbl_long_M1_A dbl_long_M1_H st) ?_) h
  funext a m
  exact outOf_congr fun x => rfl
noncomputable def dbl_long_M1_h : Hints := dbl_long_h0.add [0, 1, 1, 1, 1, 1, 0, 1] dbl_long_M1_sp
theorem dbl_long_M1_h_ok : dbl_long_M1_h.OK Tryz.prog (bodyOf Tryz.f271) := dbl_long_h0_ok.add (show codeAt (bodyOf Tryz.f271) [0, 1, 1, 1, 1, 1, 0, 1] = some ((codeAt (bodyOf Tryz.f271) [0, 1, 1, 1, 1, 1, 0, 1]).getD .skip) from by kernel_rfl) dbl_long_M1_ok
def dbl_long_L1_A : List SD := [.any, .any, .loc 0 0 0, .any, .any, .loc 1 0 0, .val (.int .u64), .loc 2 0 0, .val (.int .u64), .val (.int .i64), .any, .any, .any, .any, .any, .any, .any, .any, .any, .any, .any, .any, .any, .any, .any, .any, .any, .any, .any, .any, .any, .any, .any, .any, .any, .any, .any, .any, .any, .any, .any, .any, .any, .any, .any, .any, .any, .any, .any, .any, .any, .any, .any, .any, .any, .any, .any, .any, .any, .any, .any, .any, .any, .any, .any, .any]
def dbl_long_L1_H : List HD := [.box [.val (.int .i64), .val (.int .i64)], .box [.val (.int .i64), .val (.int .i64)], .box [.val (.int .i64), .val (.int .i64)]]
abbrev dbl_long_L1_D : Type := Int × Int × Int × Int × Int × Int × Int × Int × Int
def dbl_long_L1_to (a : DenS dbl_long_L1_A) (m : DenH dbl_long_L1_H) : dbl_long_L1_D := (a.2.2.2.2.2.2.1, a.2.2.2.2.2.2.2.2.1, a.2.2.2.2.2.2.2.2.2.1, m.1.1, m.1.2.1, m.2.1.1, m.2.1.2.1, m.2.2.1.1, m.2.2.1.2.1)
def dbl_long_L1_ofA (d : dbl_long_L1_D) : DenS dbl_long_L1_A := match d with | (s6, s8, s9, m0_0, m0_1, m1_0, m1_1, m2_0, m2_1) => ((), (), (), (), (), (), s6, (), s8, s9, (), (), (), (), (), (), (), (), (), (), (), (), (), (), (), (), (), (), (), (), (), (), (), (), (), (), (), (), (), (), (), (), (), (), (), (), (), (), (), (), (), (), (), (), (), (), (), (), (), (), (), (), (), (), (), (), ())
def dbl_long_L1_ofH (d : dbl_long_L1_D) : DenH dbl_long_L1_H := match d with | (s6, s8, s9, m0_0, m0_1, m1_0, m1_1, m2_0, m2_1) => ((m0_0, m0_1, ()), (m1_0, m1_1, ()), (m2_0, m2_1, ()), ())
def dbl_long_L1_N : Norm := (⟨[2, 5, 6, 7, 8, 9], [], []⟩ : Go.TX.Norm)
def dbl_long_L1_X : Exit → Norm := fun e => match e with | .normal => ⟨[4, 5], [], []⟩ | .ret => ⟨[4, 5], [], []⟩ | _ => ⟨[], [], []⟩
def dbl_long_M2_A : List SD := [.any, .any, .loc 0 0 0, .any, .any, .loc 1 0 0, .val (.int .u64), .loc 2 0 0, .val (.int .u64), .val (.int .i64), .val (.int .i64), .any, .any, .any, .any, .any, .any, .any, .any, .any, .any, .any, .any, .any, .any, .any, .any, .any, .any, .any, .any, .any, .any, .any, .any, .any, .any, .any, .any, .any, .any, .any, .any, .any, .any, .any, .any, .any, .any, .any, .any, .any, .any, .any, .any, .any, .any, .any, .any, .any, .any, .any, .any, .any, .any, .any]
def dbl_long_M2_H : List HD := [.box [.val (.int .i64), .val (.int .i64)], .box [.val (.int .i64), .val (.int .i64)], .box [.val (.int .i64), .val (.int .i64)]]
abbrev dbl_long_M2_D : Type := Int × Int × Int × Int × Int × Int × Int × Int × Int × Int
def dbl_long_M2_to (a : DenS dbl_long_M2_A) (m : DenH dbl_long_M2_H) : dbl_long_M2_D := (a.2.2.2.2.2.2.1, a.2.2.2.2.2.2.2.2.1, a.2.2.2.2.2.2.2.2.2.1, a.2.2.2.2.2.2.2.2.2.2.1, m.1.1, m.1.2.1, m.2.1.1, m.2.1.2.1, m.2.2.1.1, m.2.2.1.2.1)
def dbl_long_M2_ofA (d : dbl_long_M2_D) : DenS dbl_long_M2_A := match d with | (s6, s8, s9, s10, m0_0, m0_1, m1_0, m1_1, m2_0, m2_1) => ((), (), (), (), (), (), s6, (), s8, s9, s10, (), (), (), (), (), (), (), (), (), (), (), (), (), (), (), (), (), (), (), (), (), (), (), (), (), (), (), (), (), (), (), (), (), (), (), (), (), (), (), (), (), (), (), (), (), (), (), (), (), (), (), (), (), (), (), ())
def dbl_long_M2_ofH (d : dbl_long_M2_D) : DenH dbl_long_M2_H := match d with | (s6, s8, s9, s10, m0_0, m0_1, m1_0, m1_1, m2_0, m2_1) => ((m0_0, m0_1, ()), (m1_0, m1_1, ()), (m2_0, m2_1, ()), ())
def dbl_long_M2_N : Norm := (⟨[2, 5, 6, 7, 8, 9, 10], [], []⟩ : Go.TX.Norm)
def dbl_long_M2_X : Exit → Norm := fun e => match e with | .normal => ⟨[2, 5, 6, 7, 8, 9, 10], [], []⟩ | _ => ⟨[], [], []⟩
abbrev dbl_long_M2_R : Type := (Int)
def dbl_long_M2_fin (d : dbl_long_M2_D) (v : dbl_long_M2_R) : Exit × St := (.normal, ⟨[.any, .any, .ptr 0 0 0, .any, .any, .ptr 1 0 0, .lit (.int .u64 d.1), .ptr 2 0 0, .lit (.int .u64 d.2.1), .lit (.int .i64 d.2.2.1), .lit (.int .i64 v), .any, .any, .any, .any, .any, .any, .any, .any, .any, .any, .any, .any, .any, .any, .any, .any, .any, .any, .any, .any, .any, .any, .any, .any, .any, .any, .any, .any, .any, .any, .any, .any, .any, .any, .any, .any, .any, .any, .any, .any, .any, .any, .any, .any, .any, .any, .any, .any, .any, .any, .any, .any, .any, .any, .any], [.box [.lit (.int .i64 d.2.2.2.2.1), .lit (.int .i64 d.2.2.2.2.2.1)], .box [.lit (.int .i64 d.2.2.2.2.2.2.1), .lit (.int .i64 d.2.2.2.2.2.2.2.1)], .box [.lit (.int .i64 d.2.2.2.2.2.2.2.2.1), .lit (.int .i64 d.2.2.2.2.2.2.2.2.2)]]⟩)
noncomputable def dbl_long_M2_t {γ : Type} (s9 : Int) (s10 : Int) (m0_1 : Int) (k : dbl_long_M2_R → Option γ) : Option γ := cond (decide (s9 ≥ (64 : Int))) (k (m0_1)) (k (s10))
noncomputable def dbl_long_M2 (s9 : Int) (s10 : Int) (m0_1 : Int) : Option dbl_long_M2_R := dbl_long_M2_t s9 s10 m0_1 some
theorem dbl_long_M2_t_eq {γ : Type} (s9 : Int) (s10 : Int) (m0_1 : Int) (k : dbl_long_M2_R → Option γ) : dbl_long_M2_t s9 s10 m0_1 k = outOf (dbl_long_M2 s9 s10 m0_1) k := by
  delta dbl_long_M2 dbl_long_M2_t; exact (Tr.nd Tr.lf Tr.lf)
theorem dbl_long_M2_ev (α : Type) (d : dbl_long_M2_D) (k : Exit → St → Option α) : ev Tryz.prog SrDE1 dbl_long_M1_h 60 [0, 1, 1, 1, 1] ((codeAt (bodyOf Tryz.f271) [0, 1, 1, 1, 1]).getD .skip) ⟨mkS dbl_long_M2_A (dbl_long_M2_ofA d), mkH dbl_long_M2_H (dbl_long_M2_ofH d)⟩ (exitN 0 dbl_long_M2_X k) = outOf (dbl_long_M2 d.2.2.1 d.2.2.2.1 d.2.2.2.2.2.1) fun x => k (dbl_long_M2_fin d x).1 (dbl_long_M2_fin d x).2 := by
  obtain ⟨s6, s8, s9, s10, m0_0, m0_1, m1_0, m1_1, m2_0, m2_1⟩ := d
  exact (show _ = dbl_long_M2_t s9 s10 m0_1 (fun x => k (dbl_long_M2_fin (s6, s8, s9, s10, m0_0, m0_1, m1_0, m1_1, m2_0, m2_1) x).1 (dbl_long_M2_fin (s6, s8, s9, s10, m0_0, m0_1, m1_0, m1_1, m2_0, m2_1) x).2) from by kernel_rfl).trans (dbl_long_M2_t_eq s9 s10 m0_1 _)
noncomputable def dbl_long_M2_sp : CSpec := fun _ st k => reNorm 0 dbl_long_M2_N dbl_long_M2_A dbl_long_M2_H st fun a m => outOf (dbl_long_M2 (dbl_long_M2_to a m).2.2.1 (dbl_long_M2_to a m).2.2.2.1 (dbl_long_M2_to a m).2.2.2.2.2.1) fun v => k .normal ⟨[.any, .any, .ptr 0 0 0, .any, .any, .ptr 1 0 0, .lit (.int .u64 (dbl_long_M2_to a m).1), .ptr 2 0 0, .lit (.int .u64 (dbl_long_M2_to a m).2.1), .lit (.int .i64 (dbl_long_M2_to a m).2.2.1), .lit (.int .i64 v), .any, .any, .any, .any, .any, .any, .any, .any, .any, .any, .any, .any, .any, .any, .any, .any, .any, .any, .any, .any, .any, .any, .any, .any, .any, .any, .any, .any, .any, .any, .any, .any, .any, .any, .any, .any, .any, .any, .any, .any, .any, .any, .any, .any, .any, .any, .any, .any, .any, .any, .any, .any, .any, .any, .any], [.box [.lit (.int .i64 (dbl_long_M2_to a m).2.2.2.2.1), .lit (.int .i64 (dbl_long_M2_to a m).2.2.2.2.2.1)], .box [.lit (.int .i64 (dbl_long_M2_to a m).2.2.2.2.2.2.1), .lit (.int .i64 (dbl_long_M2_to a m).2.2.2.2.2.2.2.1)], .box [.lit (.int .i64 (dbl_long_M2_to a m).2.2.2.2.2.2.2.2.1), .lit (.int .i64 (dbl_long_M2_to a m).2.2.2.2.2.2.2.2.2)]]⟩
theorem dbl_long_M2_ok : SumOK Tryz.prog 0 ((codeAt (bodyOf Tryz.f271) [0, 1, 1, 1, 1]).getD .skip) dbl_long_M2_sp := (SumOK.once SrDE1_ok mixed dbl_long_M1_h_ok (show codeAt (bodyOf Tryz.f271) [0, 1, 1, 1, 1] = some ((codeAt (bodyOf Tryz.f271) [0, 1, 1, 1, 1]).getD .skip) from by kernel_rfl) (N := dbl_long_M2_N) (Nx := dbl_long_M2_X) (A := dbl_long_M2_A) (Hs := dbl_long_M2_H) (toD := dbl_long_M2_to) (ofA := dbl_long_M2_ofA) (ofH := dbl_long_M2_ofH) (fun _ _ => rfl) (fun _ _ => rfl) (M := fun d => dbl_long_M2 d.2.2.1 d.2.2.2.1 d.2.2.2.2.2.1) (fin := dbl_long_M2_fin) 60 dbl_long_M2_ev).mono fun α st k r h => by
  refine Eq.trans (congrArg (reNorm 0 dbl_long_M2_N dbl_long_M2_A dbl_long_M2_H st) ?_) h
  funext a m
  exact outOf_congr fun x => rfl
noncomputable def dbl_long_M2_h : Hints := dbl_long_M1_h.add [0, 1, 1, 1, 1] dbl_long_M2_sp
theorem dbl_long_M2_h_ok : dbl_long_M2_h.OK Tryz.prog (bodyOf Tryz.f271) := dbl_long_M1_h_ok.add (show codeAt (bodyOf Tryz.f271) [0, 1, 1, 1, 1] = some ((codeAt (bodyOf Tryz.f271) [0, 1, 1, 1, 1]).getD .skip) from by kernel_rfl) dbl_long_M2_ok
abbrev dbl_long_L1_R : Type := (Int × Int × Int)
def dbl_long_L1_fin (v : dbl_long_L1_R) : Exit × St := (.ret, ⟨[.any, .any, .any, .any, .lit (.int .i64 v.1), .ptr 0 0 0, .any, .any, .any, .any, .any, .any, .any, .any, .any, .any, .any, .any, .any, .any, .any, .any, .any, .any, .any, .any, .any, .any, .any, .any, .any, .any, .any, .any, .any, .any, .any, .any, .any, .any, .any, .any, .any, .any, .any, .any, .any, .any, .any, .any, .any, .any, .any, .any, .any, .any, .any, .any, .any, .any, .any, .any, .any, .any, .any, .any], [.box [.lit (.int .i64 v.2.1), .lit (.int .i64 v.2.2)]]⟩)
noncomputable def dbl_long_L1_t {γ : Type} (s6 : Int) (s8 : Int) (s9 : Int) (m0_0 : Int) (m0_1 : Int) (m1_0 : Int) (m1_1 : Int) (m2_0 : Int) (m2_1 : Int) (next : dbl_long_L1_D → Option γ) (out : dbl_long_L1_R → Option γ) : Option γ := outOf (dbl_long_M2 s9 m0_0 m0_1) fun (x1 : Int) => cond (decide (IntKind.wrap IntKind.u64 (Int.tmod s9 (64 : Int)) < (0 : Int))) (none) (cond (Int.fdiv s6 (9223372036854775808 : Int) == (1 : Int)) (cond (decide (IntKind.wrap IntKind.i64 (s9 - (1 : Int)) ≥ (0 : Int))) (next (IntKind.wrap IntKind.u64 (ibits BinOp.or IntKind.u64 (IntKind.wrap IntKind.u64 (s6 * (2 : Int))) (ibits BinOp.and IntKind.u64 (Int.fdiv (IntKind.wrap IntKind.u64 x1) ((2 : Int) ^ min (Int.toNat (IntKind.wrap IntKind.u64 (Int.tmod s9 (64 : Int)))) (64 : Nat))) (1 : Int)) - s8), s8, IntKind.wrap IntKind.i64 (s9 - (1 : Int)), m0_0, m0_1, m1_0, m1_1, ibits BinOp.or IntKind.i64 (IntKind.wrap IntKind.i64 (m2_0 * (2 : Int))) (1 : Int), ibits BinOp.or IntKind.i64 (IntKind.wrap IntKind.i64 (m2_1 * (2 : Int))) (IntKind.wrap IntKind.i64 (Int.fdiv (IntKind.wrap IntKind.u64 m2_0) (9223372036854775808 : Int))))) (out (IntKind.wrap IntKind.i64 (IntKind.wrap IntKind.u64 (ibits BinOp.or IntKind.u64 (IntKind.wrap IntKind.u64 (s6 * (2 : Int))) (ibits BinOp.and IntKind.u64 (Int.fdiv (IntKind.wrap IntKind.u64 x1) ((2 : Int) ^ min (Int.toNat (IntKind.wrap IntKind.u64 (Int.tmod s9 (64 : Int)))) (64 : Nat))) (1 : Int)) - s8)), ibits BinOp.or IntKind.i64 (IntKind.wrap IntKind.i64 (m2_0 * (2 : Int))) (1 : Int), ibits BinOp.or IntKind.i64 (IntKind.wrap IntKind.i64 (m2_1 * (2 : Int))) (IntKind.wrap IntKind.i64 (Int.fdiv (IntKind.wrap IntKind.u64 m2_0) (9223372036854775808 : Int)))))) (cond (decide (ibits BinOp.or IntKind.u64 (IntKind.wrap IntKind.u64 (s6 * (2 : Int))) (ibits BinOp.and IntKind.u64 (Int.fdiv (IntKind.wrap IntKind.u64 x1) ((2 : Int) ^ min (Int.toNat (IntKind.wrap IntKind.u64 (Int.tmod s9 (64 : Int)))) (64 : Nat))) (1 : Int)) ≥ s8)) (cond (decide (IntKind.wrap IntKind.i64 (s9 - (1 : Int)) ≥ (0 : Int))) (next (IntKind.wrap IntKind.u64 (ibits BinOp.or IntKind.u64 (IntKind.wrap IntKind.u64 (s6 * (2 : Int))) (ibits BinOp.and IntKind.u64 (Int.fdiv (IntKind.wrap IntKind.u64 x1) ((2 : Int) ^ min (Int.toNat (IntKind.wrap IntKind.u64 (Int.tmod s9 (64 : Int)))) (64 : Nat))) (1 : Int)) - s8), s8, IntKind.wrap IntKind.i64 (s9 - (1 : Int)), m0_0, m0_1, m1_0, m1_1, ibits BinOp.or IntKind.i64 (IntKind.wrap IntKind.i64 (m2_0 * (2 : Int))) (1 : Int), ibits BinOp.or IntKind.i64 (IntKind.wrap IntKind.i64 (m2_1 * (2 : Int))) (IntKind.wrap IntKind.i64 (Int.fdiv (IntKind.wrap IntKind.u64 m2_0) (9223372036854775808 : Int))))) (out (IntKind.wrap IntKind.i64 (IntKind.wrap IntKind.u64 (ibits BinOp.or IntKind.u64 (IntKind.wrap IntKind.u64 (s6 * (2 : Int))) (ibits BinOp.and IntKind.u64 (Int.fdiv (IntKind.wrap IntKind.u64 x1) ((2 : Int) ^ min (Int.toNat (IntKind.wrap IntKind.u64 (Int.tmod s9 (64 : Int)))) (64 : Nat))) (1 : Int)) - s8)), ibits BinOp.or IntKind.i64 (IntKind.wrap IntKind.i64 (m2_0 * (2 : Int))) (1 : Int), ibits BinOp.or IntKind.i64 (IntKind.wrap IntKind.i64 (m2_1 * (2 : Int))) (IntKind.wrap IntKind.i64 (Int.fdiv (IntKind.wrap IntKind.u64 m2_0) (9223372036854775808 : Int)))))) (cond (decide (IntKind.wrap IntKind.i64 (s9 - (1 : Int)) ≥ (0 : Int))) (next (ibits BinOp.or IntKind.u64 (IntKind.wrap IntKind.u64 (s6 * (2 : Int))) (ibits BinOp.and IntKind.u64 (Int.fdiv (IntKind.wrap IntKind.u64 x1) ((2 : Int) ^ min (Int.toNat (IntKind.wrap IntKind.u64 (Int.tmod s9 (64 : Int)))) (64 : Nat))) (1 : Int)), s8, IntKind.wrap IntKind.i64 (s9 - (1 : Int)), m0_0, m0_1, m1_0, m1_1, IntKind.wrap IntKind.i64 (m2_0 * (2 : Int)), ibits BinOp.or IntKind.i64 (IntKind.wrap IntKind.i64 (m2_1 * (2 : Int))) (IntKind.wrap IntKind.i64 (Int.fdiv (IntKind.wrap IntKind.u64 m2_0) (9223372036854775808 : Int))))) (out (IntKind.wrap IntKind.i64 (ibits BinOp.or IntKind.u64 (IntKind.wrap IntKind.u64 (s6 * (2 : Int))) (ibits BinOp.and IntKind.u64 (Int.fdiv (IntKind.wrap IntKind.u64 x1) ((2 : Int) ^ min (Int.toNat (IntKind.wrap IntKind.u64 (Int.tmod s9 (64 : Int)))) (64 : Nat))) (1 : Int))), IntKind.wrap IntKind.i64 (m2_0 * (2 : Int)), ibits BinOp.or IntKind.i64 (IntKind.wrap IntKind.i64 (m2_1 * (2 : Int))) (IntKind.wrap IntKind.i64 (Int.fdiv (IntKind.wrap IntKind.u64 m2_0) (9223372036854775808 : Int))))))))
noncomputable def dbl_long_L1_pass (d : dbl_long_L1_D) : Option (dbl_long_L1_D ⊕ dbl_long_L1_R) := dbl_long_L1_t d.1 d.2.1 d.2.2.1 d.2.2.2.1 d.2.2.2.2.1 d.2.2.2.2.2.1 d.2.2.2.2.2.2.1 d.2.2.2.2.2.2.2.1 d.2.2.2.2.2.2.2.2 (fun d => some (.inl d)) (fun x => some (.inr x))
theorem dbl_long_L1_t_eq {γ : Type} (s6 : Int) (s8 : Int) (s9 : Int) (m0_0 : Int) (m0_1 : Int) (m1_0 : Int) (m1_1 : Int) (m2_0 : Int) (m2_1 : Int) (next : dbl_long_L1_D → Option γ) (out : dbl_long_L1_R → Option γ) : dbl_long_L1_t s6 s8 s9 m0_0 m0_1 m1_0 m1_1 m2_0 m2_1 next out = PassOf (dbl_long_L1_t s6 s8 s9 m0_0 m0_1 m1_0 m1_1 m2_0 m2_1 (fun d => some (.inl d)) (fun x => some (.inr x))) next out := by
  delta dbl_long_L1_t; exact (Ps.bd fun x1 => (Ps.nd Ps.no (Ps.nd (Ps.nd Ps.nx Ps.ou) (Ps.nd (Ps.nd Ps.nx Ps.ou) (Ps.nd Ps.nx Ps.ou)))))
theorem dbl_long_L1_ev (α : Type) (d : dbl_long_L1_D) (next : dbl_long_L1_D → Option α) (k : Exit → St → Option α) : ev Tryz.prog SrDE1 dbl_long_M2_h 60 [1, 1] ((codeAt (bodyOf Tryz.f271) [1, 1]).getD .skip) ⟨mkS dbl_long_L1_A (dbl_long_L1_ofA d), mkH dbl_long_L1_H (dbl_long_L1_ofH d)⟩ (passJ 0 0 dbl_long_L1_N dbl_long_L1_A dbl_long_L1_H dbl_long_L1_X (fun a m => next (dbl_long_L1_to a m)) k) = PassOf (dbl_long_L1_pass d) next fun x => k (dbl_long_L1_fin x).1 (dbl_long_L1_fin x).2 := by
  obtain ⟨s6, s8, s9, m0_0, m0_1, m1_0, m1_1, m2_0, m2_1⟩ := d
  exact (show _ = dbl_long_L1_t s6 s8 s9 m0_0 m0_1 m1_0 m1_1 m2_0 m2_1 next (fun x => k (dbl_long_L1_fin x).1 (dbl_long_L1_fin x).2) from by kernel_rfl).trans (dbl_long_L1_t_eq s6 s8 s9 m0_0 m0_1 m1_0 m1_1 m2_0 m2_1 _ _)
noncomputable def dbl_long_L1 (d : dbl_long_L1_D) : Option dbl_long_L1_R := runs dbl_long_L1_pass d
noncomputable def dbl_long_L1_sp : CSpec := fun _ st k => reNorm 0 dbl_long_L1_N dbl_long_L1_A dbl_long_L1_H st fun a m => outOf (dbl_long_L1 (dbl_long_L1_to a m)) fun v => k .ret ⟨[.any, .any, .any, .any, .lit (.int .i64 v.1), .ptr 0 0 0, .any, .any, .any, .any, .any, .any, .any, .any, .any, .any, .any, .any, .any, .any, .any, .any, .any, .any, .any, .any, .any, .any, .any, .any, .any, .any, .any, .any, .any, .any, .any, .any, .any, .any, .any, .any, .any, .any, .any, .any, .any, .any, .any, .any, .any, .any, .any, .any, .any, .any, .any, .any, .any, .any, .any, .any, .any, .any, .any, .any], [.box [.lit (.int .i64 v.2.1), .lit (.int .i64 v.2.2)]]⟩
theorem dbl_long_L1_ok : JumpOK Tryz.prog 0 ((codeAt (bodyOf Tryz.f271) [0, 1]).getD .skip) ((codeAt (bodyOf Tryz.f271) [1, 1]).getD .skip) dbl_long_L1_sp := (JumpOK.loop SrDE1_ok mixed dbl_long_M2_h_ok (b := ((codeAt (bodyOf Tryz.f271) [0, 1]).getD .skip)) (p := [1]) (l := 0) (show codeAt (bodyOf Tryz.f271) [1, 1] = some ((codeAt (bodyOf Tryz.f271) [1, 1]).getD .skip) from by kernel_rfl) (show findLabel ((codeAt (bodyOf Tryz.f271) [0, 1]).getD .skip) 0 = some ((codeAt (bodyOf Tryz.f271) [1, 1]).getD .skip) from by kernel_rfl) (N := dbl_long_L1_N) (Nx := dbl_long_L1_X) (A := dbl_long_L1_A) (Hs := dbl_long_L1_H) (toD := dbl_long_L1_to) (ofA := dbl_long_L1_ofA) (ofH := dbl_long_L1_ofH) (fun _ _ => rfl) (fun _ _ => rfl) (pass := dbl_long_L1_pass) (fin := dbl_long_L1_fin) 60 dbl_long_L1_ev (steps dbl_long_L1_pass)).mono fun α st k r h => by
  refine Eq.trans (congrArg (reNorm 0 dbl_long_L1_N dbl_long_L1_A dbl_long_L1_H st) ?_) h
  funext a m
  exact outOf_congr fun x => rfl
noncomputable def dbl_long_L1_h : Hints := dbl_long_M2_h.addJ [1, 1] dbl_long_L1_sp
theorem dbl_long_L1_h_ok : dbl_long_L1_h.OK Tryz.prog (bodyOf Tryz.f271) := dbl_long_M2_h_ok.addJ (q := 1) (p := [1]) (b := ((codeAt (bodyOf Tryz.f271) [0, 1]).getD .skip)) (show codeAt (bodyOf Tryz.f271) [1] = some (.scope ((codeAt (bodyOf Tryz.f271) [0, 1]).getD .skip)) from by kernel_rfl) (show codeAt (bodyOf Tryz.f271) [1, 1] = some ((codeAt (bodyOf Tryz.f271) [1, 1]).getD .skip) from by kernel_rfl) dbl_long_L1_ok
abbrev dbl_long_R : Type := (Int × Int × Int)
noncomputable def dbl_long_t {γ : Type} (a0_0 : Int) (a0_1 : Int) (a1 : Int) (k : dbl_long_R → Option γ) : Option γ := cond (decide (ibits BinOp.or IntKind.u64 (0 : Int) (ibits BinOp.and IntKind.u64 (Int.fdiv (IntKind.wrap IntKind.u64 a0_1) (9223372036854775808 : Int)) (1 : Int)) ≥ IntKind.wrap IntKind.u64 a1)) (outOf (dbl_long_L1 (IntKind.wrap IntKind.u64 (ibits BinOp.or IntKind.u64 (0 : Int) (ibits BinOp.and IntKind.u64 (Int.fdiv (IntKind.wrap IntKind.u64 a0_1) (9223372036854775808 : Int)) (1 : Int)) - IntKind.wrap IntKind.u64 a1), IntKind.wrap IntKind.u64 a1, (126 : Int), a0_0, a0_1, (0 : Int), (0 : Int), ibits BinOp.or IntKind.i64 (0 : Int) (1 : Int), ibits BinOp.or IntKind.i64 (0 : Int) (0 : Int))) fun (x2 : (Int × (Int × Int))) => k (x2.1, x2.2.1, x2.2.2)) (outOf (dbl_long_L1 (ibits BinOp.or IntKind.u64 (0 : Int) (ibits BinOp.and IntKind.u64 (Int.fdiv (IntKind.wrap IntKind.u64 a0_1) (9223372036854775808 : Int)) (1 : Int)), IntKind.wrap IntKind.u64 a1, (126 : Int), a0_0, a0_1, (0 : Int), (0 : Int), (0 : Int), ibits BinOp.or IntKind.i64 (0 : Int) (0 : Int))) fun (x3 : (Int × (Int × Int))) => k (x3.1, x3.2.1, x3.2.2))
noncomputable def dbl_long (a0_0 : Int) (a0_1 : Int) (a1 : Int) : Option dbl_long_R := dbl_long_t a0_0 a0_1 a1 some
theorem dbl_long_t_eq {γ : Type} (a0_0 : Int) (a0_1 : Int) (a1 : Int) (k : dbl_long_R → Option γ) : dbl_long_t a0_0 a0_1 a1 k = outOf (dbl_long a0_0 a0_1 a1) k := by
  delta dbl_long dbl_long_t; exact (Tr.nd (Tr.bd fun x2 => Tr.lf) (Tr.bd fun x3 => Tr.lf))
noncomputable def dbl_long_sp : TX.Spec := specD [.agg (.pair (.int .i64) (.int .i64)), .val (.int .i64)] [] fun _ a m k => match a, m with | ⟨⟨a0_0, a0_1⟩, a1, _⟩, _ => outOf (dbl_long a0_0 a0_1 a1) fun v => k (.tup [.lit (.int .i64 v.1), .agg [.lit (.int .i64 v.2.1), .lit (.int .i64 v.2.2)]]) []
theorem dbl_long_ev {α : Type} (a0_0 : Int) (a0_1 : Int) (a1 : Int) (k : Kont α) : evFun Tryz.prog SrDE1 (dbl_long_L1_h) false Tryz.f271 (bodyOf Tryz.f271) 60 (mkS [.agg (.pair (.int .i64) (.int .i64)), .val (.int .i64)] ((a0_0, a0_1), a1, ())) (mkH [] ()) k = outOf (dbl_long a0_0 a0_1 a1) fun v => k (.tup [.lit (.int .i64 v.1), .agg [.lit (.int .i64 v.2.1), .lit (.int .i64 v.2.2)]]) [] :=
  (show _ = dbl_long_t a0_0 a0_1 a1 (fun v => k (.tup [.lit (.int .i64 v.1), .agg [.lit (.int .i64 v.2.1), .lit (.int .i64 v.2.2)]]) []) from by kernel_rfl).trans (dbl_long_t_eq a0_0 a0_1 a1 _)
theorem dbl_long_good : TX.Good Tryz.prog 271 dbl_long_sp := good_form SrDE1_ok mixed Tryz.func271 (body_of rfl) (by kernel_rfl) false fun α a m k r h => by
  obtain ⟨⟨a0_0, a0_1⟩, a1, _⟩ := a; obtain _ := m
  exact ⟨dbl_long_L1_h, 60, dbl_long_L1_h_ok, rfl, (dbl_long_ev a0_0 a0_1 a1 k).trans h⟩
/-! f265 tenterhook/cell.either[int] -/
def cell_either_h0 : Hints := Hints.nil 0
theorem cell_either_h0_ok : cell_either_h0.OK Tryz.prog (bodyOf Tryz.f265) := Hints.nil_ok
abbrev cell_either_R : Type := (Int)
noncomputable def cell_either_t {γ : Type} (a0 : Bool) (a1 : Int) (a2 : Int) (k : cell_either_R → Option γ) : Option γ := cond a0 (k (a1)) (k (a2))
noncomputable def cell_either (a0 : Bool) (a1 : Int) (a2 : Int) : Option cell_either_R := cell_either_t a0 a1 a2 some
theorem cell_either_t_eq {γ : Type} (a0 : Bool) (a1 : Int) (a2 : Int) (k : cell_either_R → Option γ) : cell_either_t a0 a1 a2 k = outOf (cell_either a0 a1 a2) k := by
  delta cell_either cell_either_t; exact (Tr.nd Tr.lf Tr.lf)
noncomputable def cell_either_sp : TX.Spec := specD [.val .bool, .val (.int .i64), .val (.int .i64)] [] fun _ a m k => match a, m with | ⟨a0, a1, a2, _⟩, _ => outOf (cell_either a0 a1 a2) fun v => k (.lit (.int .i64 v)) []
theorem cell_either_ev {α : Type} (a0 : Bool) (a1 : Int) (a2 : Int) (k : Kont α) : evFun Tryz.prog SrDE1 (cell_either_h0) false Tryz.f265 (bodyOf Tryz.f265) 60 (mkS [.val .bool, .val (.int .i64), .val (.int .i64)] (a0, a1, a2, ())) (mkH [] ()) k = outOf (cell_either a0 a1 a2) fun v => k (.lit (.int .i64 v)) [] :=
  (show _ = cell_either_t a0 a1 a2 (fun v => k (.lit (.int .i64 v)) []) from by kernel_rfl).trans (cell_either_t_eq a0 a1 a2 _)
theorem cell_either_good : TX.Good Tryz.prog 265 cell_either_sp := good_form SrDE1_ok mixed Tryz.func265 (body_of rfl) (by kernel_rfl) false fun α a m k r h => by
  obtain ⟨a0, a1, a2, _⟩ := a; obtain _ := m
  exact ⟨cell_either_h0, 60, cell_either_h0_ok, rfl, (cell_either_ev a0 a1 a2 k).trans h⟩
/-! f266 tenterhook/cell.shifts -/
def cell_shifts_h0 : Hints := Hints.nil 0
theorem cell_shifts_h0_ok : cell_shifts_h0.OK Tryz.prog (bodyOf Tryz.f266) := Hints.nil_ok
abbrev cell_shifts_R : Type := (Bool)
noncomputable def cell_shifts_t {γ : Type} (a0 : Int) (k : cell_shifts_R → Option γ) : Option γ := cond (decide (a0 ≥ (0 : Int))) (k (decide (a0 < (64 : Int)))) (k (false))
noncomputable def cell_shifts (a0 : Int) : Option cell_shifts_R := cell_shifts_t a0 some
theorem cell_shifts_t_eq {γ : Type} (a0 : Int) (k : cell_shifts_R → Option γ) : cell_shifts_t a0 k = outOf (cell_shifts a0) k := by
  delta cell_shifts cell_shifts_t; exact (Tr.nd Tr.lf Tr.lf)
noncomputable def cell_shifts_sp : TX.Spec := specD [.val (.int .i64)] [] fun _ a m k => match a, m with | ⟨a0, _⟩, _ => outOf (cell_shifts a0) fun v => k (.lit (.bool v)) []
theorem cell_shifts_ev {α : Type} (a0 : Int) (k : Kont α) : evFun Tryz.prog SrDE1 (cell_shifts_h0) false Tryz.f266 (bodyOf Tryz.f266) 60 (mkS [.val (.int .i64)] (a0, ())) (mkH [] ()) k = outOf (cell_shifts a0) fun v => k (.lit (.bool v)) [] :=
  (show _ = cell_shifts_t a0 (fun v => k (.lit (.bool v)) []) from by kernel_rfl).trans (cell_shifts_t_eq a0 _)
theorem cell_shifts_good : TX.Good Tryz.prog 266 cell_shifts_sp := good_form SrDE1_ok mixed Tryz.func266 (body_of rfl) (by kernel_rfl) false fun α a m k r h => by
  obtain ⟨a0, _⟩ := a; obtain _ := m
  exact ⟨cell_shifts_h0, 60, cell_shifts_h0_ok, rfl, (cell_shifts_ev a0 k).trans h⟩
/-! f319 tenterhook/cell.Symm -/
def cell_Symm_h0 : Hints := Hints.nil 0
theorem cell_Symm_h0_ok : cell_Symm_h0.OK Tryz.prog (bodyOf Tryz.f319) := Hints.nil_ok
abbrev cell_Symm_R : Type := (Int × Int × Int)
noncomputable def cell_Symm_t {γ : Type} (a0 : Int) (a1 : Int) (k : cell_Symm_R → Option γ) : Option γ := cond (a1 == (0 : Int)) (k ((0 : Int), (0 : Int), (-10 : Int))) (cond (a1 == (-1 : Int)) (cond (a0 == (-9223372036854775808 : Int)) (k ((0 : Int), (0 : Int), (-11 : Int))) (cond (decide (a1 = (0 : Int))) (none) (cond (decide (a1 = (0 : Int))) (none) (k (IntKind.wrap IntKind.i64 (Int.tdiv a0 a1), Int.tmod a0 a1, (0 : Int)))))) (cond (decide (a1 = (0 : Int))) (none) (cond (decide (a1 = (0 : Int))) (none) (k (IntKind.wrap IntKind.i64 (Int.tdiv a0 a1), Int.tmod a0 a1, (0 : Int))))))
noncomputable def cell_Symm (a0 : Int) (a1 : Int) : Option cell_Symm_R := cell_Symm_t a0 a1 some
theorem cell_Symm_t_eq {γ : Type} (a0 : Int) (a1 : Int) (k : cell_Symm_R → Option γ) : cell_Symm_t a0 a1 k = outOf (cell_Symm a0 a1) k := by
  delta cell_Symm cell_Symm_t; exact (Tr.nd Tr.lf (Tr.nd (Tr.nd Tr.lf (Tr.nd Tr.no (Tr.nd Tr.no Tr.lf))) (Tr.nd Tr.no (Tr.nd Tr.no Tr.lf))))
noncomputable def cell_Symm_sp : TX.Spec := specD [.val (.int .i64), .val (.int .i64)] [] fun _ a m k => match a, m with | ⟨a0, a1, _⟩, _ => outOf (cell_Symm a0 a1) fun v => k (.tup [.lit (.int .i64 v.1), .lit (.int .i64 v.2.1), .lit (.int .i64 v.2.2)]) []
theorem cell_Symm_ev {α : Type} (a0 : Int) (a1 : Int) (k : Kont α) : evFun Tryz.prog SrDE1 (cell_Symm_h0) false Tryz.f319 (bodyOf Tryz.f319) 60 (mkS [.val (.int .i64), .val (.int .i64)] (a0, a1, ())) (mkH [] ()) k = outOf (cell_Symm a0 a1) fun v => k (.tup [.lit (.int .i64 v.1), .lit (.int .i64 v.2.1), .lit (.int .i64 v.2.2)]) [] :=
  (show _ = cell_Symm_t a0 a1 (fun v => k (.tup [.lit (.int .i64 v.1), .lit (.int .i64 v.2.1), .lit (.int .i64 v.2.2)]) []) from by kernel_rfl).trans (cell_Symm_t_eq a0 a1 _)
theorem cell_Symm_good : TX.Good Tryz.prog 319 cell_Symm_sp := good_form SrDE1_ok mixed Tryz.func319 (body_of rfl) (by kernel_rfl) false fun α a m k r h => by
  obtain ⟨a0, a1, _⟩ := a; obtain _ := m
  exact ⟨cell_Symm_h0, 60, cell_Symm_h0_ok, rfl, (cell_Symm_ev a0 a1 k).trans h⟩
/-! f154 tenterhook/cell.Aligned -/
def cell_Aligned_h0 : Hints := Hints.nil 0
theorem cell_Aligned_h0_ok : cell_Aligned_h0.OK Tryz.prog (bodyOf Tryz.f154) := Hints.nil_ok
noncomputable def cell_Aligned (a0 : Int) : Int := (ibits BinOp.andNot IntKind.i64 (IntKind.wrap IntKind.i64 (IntKind.wrap IntKind.i64 (a0 + (8 : Int)) - (1 : Int))) (7 : Int))
noncomputable def cell_Aligned_sp : TX.Spec := specD [.val (.int .i64)] [] fun _ a m k => match a, m with | ⟨a0, _⟩, _ => k (.lit (.int .i64 (cell_Aligned a0))) []
theorem cell_Aligned_ev {α : Type} (a0 : Int) (k : Kont α) : evFun Tryz.prog SrDE1 (cell_Aligned_h0) false Tryz.f154 (bodyOf Tryz.f154) 60 (mkS [.val (.int .i64)] (a0, ())) (mkH [] ()) k = k (.lit (.int .i64 (cell_Aligned a0))) [] :=
  by kernel_rfl
theorem cell_Aligned_good : TX.Good Tryz.prog 154 cell_Aligned_sp := good_form SrDE1_ok mixed Tryz.func154 (body_of rfl) (by kernel_rfl) false fun α a m k r h => by
  obtain ⟨a0, _⟩ := a; obtain _ := m
  exact ⟨cell_Aligned_h0, 60, cell_Aligned_h0_ok, rfl, (cell_Aligned_ev a0 k).trans h⟩
/-! f92 tenterhook/op.in -/
def op_in_h0 : Hints := Hints.nil 0
theorem op_in_h0_ok : op_in_h0.OK Tryz.prog (bodyOf Tryz.f92) := Hints.nil_ok
abbrev op_in_R : Type := (Bool)
noncomputable def op_in_t {γ : Type} (a0 : Int) (k : op_in_R → Option γ) : Option γ := cond (decide (a0 ≥ (0 : Int))) (k (decide (a0 < (111 : Int)))) (k (false))
noncomputable def op_in (a0 : Int) : Option op_in_R := op_in_t a0 some
theorem op_in_t_eq {γ : Type} (a0 : Int) (k : op_in_R → Option γ) : op_in_t a0 k = outOf (op_in a0) k := by
  delta op_in op_in_t; exact (Tr.nd Tr.lf Tr.lf)
noncomputable def op_in_sp : TX.Spec := specD [.val (.int .i64)] [] fun _ a m k => match a, m with | ⟨a0, _⟩, _ => outOf (op_in a0) fun v => k (.lit (.bool v)) []
theorem op_in_ev {α : Type} (a0 : Int) (k : Kont α) : evFun Tryz.prog SrDE1 (op_in_h0) false Tryz.f92 (bodyOf Tryz.f92) 60 (mkS [.val (.int .i64)] (a0, ())) (mkH [] ()) k = outOf (op_in a0) fun v => k (.lit (.bool v)) [] :=
  (show _ = op_in_t a0 (fun v => k (.lit (.bool v)) []) from by kernel_rfl).trans (op_in_t_eq a0 _)
theorem op_in_good : TX.Good Tryz.prog 92 op_in_sp := good_form SrDE1_ok mixed Tryz.func92 (body_of rfl) (by kernel_rfl) false fun α a m k r h => by
  obtain ⟨a0, _⟩ := a; obtain _ := m
  exact ⟨op_in_h0, 60, op_in_h0_ok, rfl, (op_in_ev a0 k).trans h⟩
/-! f93 tenterhook/op.digit -/
def op_digit_h0 : Hints := Hints.nil 0
theorem op_digit_h0_ok : op_digit_h0.OK Tryz.prog (bodyOf Tryz.f93) := Hints.nil_ok
abbrev op_digit_R : Type := (Int)
noncomputable def op_digit_t {γ : Type} (a0 : Int) (k : op_digit_R → Option γ) : Option γ := cond (a0 == (63 : Int)) (k ((-1 : Int))) (k (IntKind.wrap IntKind.i64 (IntKind.wrap IntKind.u8 (a0 - (48 : Int)))))
noncomputable def op_digit (a0 : Int) : Option op_digit_R := op_digit_t a0 some
theorem op_digit_t_eq {γ : Type} (a0 : Int) (k : op_digit_R → Option γ) : op_digit_t a0 k = outOf (op_digit a0) k := by
  delta op_digit op_digit_t; exact (Tr.nd Tr.lf Tr.lf)
noncomputable def op_digit_sp : TX.Spec := specD [.val (.int .u8)] [] fun _ a m k => match a, m with | ⟨a0, _⟩, _ => outOf (op_digit a0) fun v => k (.lit (.int .i64 v)) []
theorem op_digit_ev {α : Type} (a0 : Int) (k : Kont α) : evFun Tryz.prog SrDE1 (op_digit_h0) false Tryz.f93 (bodyOf Tryz.f93) 60 (mkS [.val (.int .u8)] (a0, ())) (mkH [] ()) k = outOf (op_digit a0) fun v => k (.lit (.int .i64 v)) [] :=
  (show _ = op_digit_t a0 (fun v => k (.lit (.int .i64 v)) []) from by kernel_rfl).trans (op_digit_t_eq a0 _)
theorem op_digit_good : TX.Good Tryz.prog 93 op_digit_sp := good_form SrDE1_ok mixed Tryz.func93 (body_of rfl) (by kernel_rfl) false fun α a m k r h => by
  obtain ⟨a0, _⟩ := a; obtain _ := m
  exact ⟨op_digit_h0, 60, op_digit_h0_ok, rfl, (op_digit_ev a0 k).trans h⟩
/-! f73 tenterhook/stk.Pop -/
def stk_Pop_h0 : Hints := Hints.nil 0
theorem stk_Pop_h0_ok : stk_Pop_h0.OK Tryz.prog (bodyOf Tryz.f73) := Hints.nil_ok
def stk_Pop_M1_A : List SD := [.val (.sl (.int .i64)), .val (.int .i64), .any, .any, .any, .any, .any, .val (.int .i64), .any, .any, .any, .any, .any, .any, .any, .any, .any, .any, .any, .any, .any, .any, .any, .any, .any, .any, .any, .any, .any, .any]
def stk_Pop_M1_H : List HD := []
abbrev stk_Pop_M1_D : Type := (List Int) × Int × Int
def stk_Pop_M1_to (a : DenS stk_Pop_M1_A) (m : DenH stk_Pop_M1_H) : stk_Pop_M1_D := (a.1, a.2.1, a.2.2.2.2.2.2.2.1)
def stk_Pop_M1_ofA (d : stk_Pop_M1_D) : DenS stk_Pop_M1_A := match d with | (s0, s1, s7) => (s0, s1, (), (), (), (), (), s7, (), (), (), (), (), (), (), (), (), (), (), (), (), (), (), (), (), (), (), (), (), (), ())
def stk_Pop_M1_ofH (d : stk_Pop_M1_D) : DenH stk_Pop_M1_H := match d with | (s0, s1, s7) => ()
def stk_Pop_M1_N : Norm := (⟨[0, 1, 7], [], []⟩ : Go.TX.Norm)
def stk_Pop_M1_X : Exit → Norm := fun e => match e with | .normal => ⟨[0, 7], [], []⟩ | .ret => ⟨[4, 5, 6], [], []⟩ | _ => ⟨[], [], []⟩
abbrev stk_Pop_M1_R : Type := (((List Int) × Int) ⊕ (Unit))
def stk_Pop_M1_fin (d : stk_Pop_M1_D) (v : stk_Pop_M1_R) : Exit × St := sumOf v (fun v => (.ret, ⟨[.any, .any, .any, .any, .sl (.int .i64) d.1 false, .sl (.int .i64) v.1 true, .lit (.int .i64 v.2), .any, .any, .any, .any, .any, .any, .any, .any, .any, .any, .any, .any, .any, .any, .any, .any, .any, .any, .any, .any, .any, .any, .any], []⟩)) (fun v => (.normal, ⟨[.sl (.int .i64) d.1 false, .any, .any, .any, .any, .any, .any, .lit (.int .i64 d.2.2), .any, .any, .any, .any, .any, .any, .any, .any, .any, .any, .any, .any, .any, .any, .any, .any, .any, .any, .any, .any, .any, .any], []⟩))
noncomputable def stk_Pop_M1_t {γ : Type} (s1 : Int) (s7 : Int) (k : stk_Pop_M1_R → Option γ) : Option γ := cond (decide (s1 < (0 : Int))) (k (.inl ([], (-4 : Int)))) (cond (decide (s7 < (0 : Int))) (k (.inl ([], (-4 : Int)))) (k (.inr ())))
noncomputable def stk_Pop_M1 (s1 : Int) (s7 : Int) : Option stk_Pop_M1_R := stk_Pop_M1_t s1 s7 some
theorem stk_Pop_M1_t_eq {γ : Type} (s1 : Int) (s7 : Int) (k : stk_Pop_M1_R → Option γ) : stk_Pop_M1_t s1 s7 k = outOf (stk_Pop_M1 s1 s7) k := by
  delta stk_Pop_M1 stk_Pop_M1_t; exact (Tr.nd Tr.lf (Tr.nd Tr.lf Tr.lf))
theorem stk_Pop_M1_ev (α : Type) (d : stk_Pop_M1_D) (k : Exit → St → Option α) : ev Tryz.prog SrDE1 stk_Pop_h0 60 [0, 1, 1] ((codeAt (bodyOf Tryz.f73) [0, 1, 1]).getD .skip) ⟨mkS stk_Pop_M1_A (stk_Pop_M1_ofA d), mkH stk_Pop_M1_H (stk_Pop_M1_ofH d)⟩ (exitN 0 stk_Pop_M1_X k) = outOf (stk_Pop_M1 d.2.1 d.2.2) fun x => k (stk_Pop_M1_fin d x).1 (stk_Pop_M1_fin d x).2 := by
  obtain ⟨s0, s1, s7⟩ := d
  exact (show _ = stk_Pop_M1_t s1 s7 (fun x => k (stk_Pop_M1_fin (s0, s1, s7) x).1 (stk_Pop_M1_fin (s0, s1, s7) x).2) from by kernel_rfl).trans (stk_Pop_M1_t_eq s1 s7 _)
noncomputable def stk_Pop_M1_sp : CSpec := fun _ st k => reNorm 0 stk_Pop_M1_N stk_Pop_M1_A stk_Pop_M1_H st fun a m => outOf (stk_Pop_M1 (stk_Pop_M1_to a m).2.1 (stk_Pop_M1_to a m).2.2) fun v => sumOf v (fun v => k .ret ⟨[.any, .any, .any, .any, .sl (.int .i64) (stk_Pop_M1_to a m).1 false, .sl (.int .i64) v.1 true, .lit (.int .i64 v.2), .any, .any, .any, .any, .any, .any, .any, .any, .any, .any, .any, .any, .any, .any, .any, .any, .any, .any, .any, .any, .any, .any, .any], []⟩) (fun v => k .normal ⟨[.sl (.int .i64) (stk_Pop_M1_to a m).1 false, .any, .any, .any, .any, .any, .any, .lit (.int .i64 (stk_Pop_M1_to a m).2.2), .any, .any, .any, .any, .any, .any, .any, .any, .any, .any, .any, .any, .any, .any, .any, .any, .any, .any, .any, .any, .any, .any], []⟩)
theorem stk_Pop_M1_ok : SumOK Tryz.prog 0 ((codeAt (bodyOf Tryz.f73) [0, 1, 1]).getD .skip) stk_Pop_M1_sp := (SumOK.once SrDE1_ok mixed stk_Pop_h0_ok (show codeAt (bodyOf Tryz.f73) [0, 1, 1] = some ((codeAt (bodyOf Tryz.f73) [0, 1, 1]).getD .skip) from by kernel_rfl) (N := stk_Pop_M1_N) (Nx := stk_Pop_M1_X) (A := stk_Pop_M1_A) (Hs := stk_Pop_M1_H) (toD := stk_Pop_M1_to) (ofA := stk_Pop_M1_ofA) (ofH := stk_Pop_M1_ofH) (fun _ _ => rfl) (fun _ _ => rfl) (M := fun d => stk_Pop_M1 d.2.1 d.2.2) (fin := stk_Pop_M1_fin) 60 stk_Pop_M1_ev).mono fun α st k r h => by
  refine Eq.trans (congrArg (reNorm 0 stk_Pop_M1_N stk_Pop_M1_A stk_Pop_M1_H st) ?_) h
  funext a m
  exact outOf_congr fun x => by rcases x with x | x <;> rfl
noncomputable def stk_Pop_M1_h : Hints := stk_Pop_h0.add [0, 1, 1] stk_Pop_M1_sp
theorem stk_Pop_M1_h_ok : stk_Pop_M1_h.OK Tryz.prog (bodyOf Tryz.f73) := stk_Pop_h0_ok.add (show codeAt (bodyOf Tryz.f73) [0, 1, 1] = some ((codeAt (bodyOf Tryz.f73) [0, 1, 1]).getD .skip) from by kernel_rfl) stk_Pop_M1_ok
abbrev stk_Pop_R : Type := ((List Int) × (List Int) × Int)
noncomputable def stk_Pop_t {γ : Type} (a0 : (List Int)) (a1 : Int) (k : stk_Pop_R → Option γ) : Option γ := outOf (stk_Pop_M1 a1 (IntKind.wrap IntKind.i64 ((↑(List.length a0) : Int) - a1))) fun (x4 : List Int × Int ⊕ Unit) => sumOf x4 (fun x5 => k (a0, x5.1, x5.2)) (fun x6 => cond (decide ((0 : Int) ≤ (0 : Int) ∧ (0 : Int) ≤ IntKind.wrap IntKind.i64 ((↑(List.length a0) : Int) - a1) ∧ IntKind.wrap IntKind.i64 ((↑(List.length a0) : Int) - a1) ≤ IntKind.wrap IntKind.i64 ((↑(List.length a0) : Int) - a1) ∧ IntKind.wrap IntKind.i64 ((↑(List.length a0) : Int) - a1) ≤ (↑(List.length a0) : Int))) (cond (decide ((0 : Int) ≤ IntKind.wrap IntKind.i64 ((↑(List.length a0) : Int) - a1) ∧ IntKind.wrap IntKind.i64 ((↑(List.length a0) : Int) - a1) ≤ (↑(List.length a0) : Int) ∧ (↑(List.length a0) : Int) ≤ (↑(List.length a0) : Int) ∧ (↑(List.length a0) : Int) ≤ (↑(List.length a0) : Int))) (k (List.take (Int.toNat (IntKind.wrap IntKind.i64 ((↑(List.length a0) : Int) - a1)) - (0 : Nat)) (List.drop (0 : Nat) a0), List.take (Int.toNat (↑(List.length a0) : Int) - Int.toNat (IntKind.wrap IntKind.i64 ((↑(List.length a0) : Int) - a1))) (List.drop (Int.toNat (IntKind.wrap IntKind.i64 ((↑(List.length a0) : Int) - a1))) a0), (0 : Int))) (none)) (none))
noncomputable def stk_Pop (a0 : (List Int)) (a1 : Int) : Option stk_Pop_R := stk_Pop_t a0 a1 some
theorem stk_Pop_t_eq {γ : Type} (a0 : (List Int)) (a1 : Int) (k : stk_Pop_R → Option γ) : stk_Pop_t a0 a1 k = outOf (stk_Pop a0 a1) k := by
  delta stk_Pop stk_Pop_t; exact (Tr.bd fun x4 => (Tr.cs (fun x5 => Tr.lf) (fun x6 => (Tr.nd (Tr.nd Tr.lf Tr.no) Tr.no))))
noncomputable def stk_Pop_sp : TX.Spec := specD [.val (.sl (.int .i64)), .val (.int .i64)] [] fun _ a m k => match a, m with | ⟨a0, a1, _⟩, _ => outOf (stk_Pop a0 a1) fun v => k (.tup [.sl (.int .i64) v.1 false, .sl (.int .i64) v.2.1 false, .lit (.int .i64 v.2.2)]) []
theorem stk_Pop_ev {α : Type} (a0 : (List Int)) (a1 : Int) (k : Kont α) : evFun Tryz.prog SrDE1 (stk_Pop_M1_h) false Tryz.f73 (bodyOf Tryz.f73) 60 (mkS [.val (.sl (.int .i64)), .val (.int .i64)] (a0, a1, ())) (mkH [] ()) (fun v H => k (weakF v) H) = outOf (stk_Pop a0 a1) fun v => k (.tup [.sl (.int .i64) v.1 false, .sl (.int .i64) v.2.1 false, .lit (.int .i64 v.2.2)]) [] :=
  (show _ = stk_Pop_t a0 a1 (fun v => k (.tup [.sl (.int .i64) v.1 false, .sl (.int .i64) v.2.1 false, .lit (.int .i64 v.2.2)]) []) from by kernel_rfl).trans (stk_Pop_t_eq a0 a1 _)
theorem stk_Pop_good : TX.Good Tryz.prog 73 stk_Pop_sp := good_form_weak SrDE1_ok mixed Tryz.func73 (body_of rfl) (by kernel_rfl) false stk_Pop_M1_h 60 stk_Pop_M1_h_ok rfl fun α a m k r h => by
  obtain ⟨a0, a1, _⟩ := a; obtain _ := m
  exact (stk_Pop_ev a0 a1 k).trans h
/-! f233 tenterhook/stk.Pick -/
def stk_Pick_h0 : Hints := Hints.nil 0
theorem stk_Pick_h0_ok : stk_Pick_h0.OK Tryz.prog (bodyOf Tryz.f233) := Hints.nil_ok
abbrev stk_Pick_R : Type := (Int × Int)
noncomputable def stk_Pick_t {γ : Type} (a0 : (List Int)) (a1 : Int) (k : stk_Pick_R → Option γ) : Option γ := cond (decide (a1 < (0 : Int))) (k ((0 : Int), (-4 : Int))) (cond (decide (a1 ≥ (↑(List.length a0) : Int))) (k ((0 : Int), (-4 : Int))) (cond (decide ((0 : Int) ≤ IntKind.wrap IntKind.i64 (IntKind.wrap IntKind.i64 ((↑(List.length a0) : Int) - (1 : Int)) - a1) ∧ IntKind.wrap IntKind.i64 (IntKind.wrap IntKind.i64 ((↑(List.length a0) : Int) - (1 : Int)) - a1) < (↑(List.length a0) : Int))) (k (List.getD a0 (Int.toNat (IntKind.wrap IntKind.i64 (IntKind.wrap IntKind.i64 ((↑(List.length a0) : Int) - (1 : Int)) - a1))) (0 : Int), (0 : Int))) (none)))
noncomputable def stk_Pick (a0 : (List Int)) (a1 : Int) : Option stk_Pick_R := stk_Pick_t a0 a1 some
theorem stk_Pick_t_eq {γ : Type} (a0 : (List Int)) (a1 : Int) (k : stk_Pick_R → Option γ) : stk_Pick_t a0 a1 k = outOf (stk_Pick a0 a1) k := by
  delta stk_Pick stk_Pick_t; exact (Tr.nd Tr.lf (Tr.nd Tr.lf (Tr.nd Tr.lf Tr.no)))
noncomputable def stk_Pick_sp : TX.Spec := specD [.val (.sl (.int .i64)), .val (.int .i64)] [] fun _ a m k => match a, m with | ⟨a0, a1, _⟩, _ => outOf (stk_Pick a0 a1) fun v => k (.tup [.lit (.int .i64 v.1), .lit (.int .i64 v.2)]) []
theorem stk_Pick_ev {α : Type} (a0 : (List Int)) (a1 : Int) (k : Kont α) : evFun Tryz.prog SrDE1 (stk_Pick_h0) false Tryz.f233 (bodyOf Tryz.f233) 60 (mkS [.val (.sl (.int .i64)), .val (.int .i64)] (a0, a1, ())) (mkH [] ()) k = outOf (stk_Pick a0 a1) fun v => k (.tup [.lit (.int .i64 v.1), .lit (.int .i64 v.2)]) [] :=
  (show _ = stk_Pick_t a0 a1 (fun v => k (.tup [.lit (.int .i64 v.1), .lit (.int .i64 v.2)]) []) from by kernel_rfl).trans (stk_Pick_t_eq a0 a1 _)
theorem stk_Pick_good : TX.Good Tryz.prog 233 stk_Pick_sp := good_form SrDE1_ok mixed Tryz.func233 (body_of rfl) (by kernel_rfl) false fun α a m k r h => by
  obtain ⟨a0, a1, _⟩ := a; obtain _ := m
  exact ⟨stk_Pick_h0, 60, stk_Pick_h0_ok, rfl, (stk_Pick_ev a0 a1 k).trans h⟩
noncomputable def SrDE2 : Env := SrDE1.add 182 true dbl_Of_sp |>.add 184 true dbl_Add_sp |>.add 269 true mul64_sp |>.add 166 true cell_Ult_sp |>.add 271 true dbl_long_sp |>.add 265 true cell_either_sp |>.add 266 true cell_shifts_sp |>.add 319 true cell_Symm_sp |>.add 154 true cell_Aligned_sp |>.add 92 true op_in_sp |>.add 93 true op_digit_sp |>.add 73 true stk_Pop_sp |>.add 233 true stk_Pick_sp
theorem SrDE2_ok : SrDE2.OK Tryz.prog := (((((((((((((SrDE1_ok).add_ok dbl_Of_good).add_ok dbl_Add_good).add_ok mul64_good).add_ok cell_Ult_good).add_ok dbl_long_good).add_ok cell_either_good).add_ok cell_shifts_good).add_ok cell_Symm_good).add_ok cell_Aligned_good).add_ok op_in_good).add_ok op_digit_good).add_ok stk_Pop_good).add_ok stk_Pick_good
/-! f186 tenterhook/dbl.Neg -/
def dbl_Neg_h0 : Hints := Hints.nil 0
theorem dbl_Neg_h0_ok : dbl_Neg_h0.OK Tryz.prog (bodyOf Tryz.f186) := Hints.nil_ok
abbrev dbl_Neg_R : Type := (Int × Int)
noncomputable def dbl_Neg_t {γ : Type} (a0_0 : Int) (a0_1 : Int) (k : dbl_Neg_R → Option γ) : Option γ := outOf (dbl_Add (ibits BinOp.xor IntKind.i64 (-1 : Int) a0_0) (ibits BinOp.xor IntKind.i64 (-1 : Int) a0_1) (1 : Int) (0 : Int)) fun (x1 : (Int × Int)) => k (x1.1, x1.2)
noncomputable def dbl_Neg (a0_0 : Int) (a0_1 : Int) : Option dbl_Neg_R := dbl_Neg_t a0_0 a0_1 some
theorem dbl_Neg_t_eq {γ : Type} (a0_0 : Int) (a0_1 : Int) (k : dbl_Neg_R → Option γ) : dbl_Neg_t a0_0 a0_1 k = outOf (dbl_Neg a0_0 a0_1) k := by
  delta dbl_Neg dbl_Neg_t; exact (Tr.bd fun x1 => Tr.lf)
noncomputable def dbl_Neg_sp : TX.Spec := specD [.agg (.pair (.int .i64) (.int .i64))] [] fun _ a m k => match a, m with | ⟨⟨a0_0, a0_1⟩, _⟩, _ => outOf (dbl_Neg a0_0 a0_1) fun v => k (.agg [.lit (.int .i64 v.1), .lit (.int .i64 v.2)]) []
theorem dbl_Neg_ev {α : Type} (a0_0 : Int) (a0_1 : Int) (k : Kont α) : evFun Tryz.prog SrDE2 (dbl_Neg_h0) false Tryz.f186 (bodyOf Tryz.f186) 60 (mkS [.agg (.pair (.int .i64) (.int .i64))] ((a0_0, a0_1), ())) (mkH [] ()) k = outOf (dbl_Neg a0_0 a0_1) fun v => k (.agg [.lit (.int .i64 v.1), .lit (.int .i64 v.2)]) [] :=
  (show _ = dbl_Neg_t a0_0 a0_1 (fun v => k (.agg [.lit (.int .i64 v.1), .lit (.int .i64 v.2)]) []) from by kernel_rfl).trans (dbl_Neg_t_eq a0_0 a0_1 _)
theorem dbl_Neg_good : TX.Good Tryz.prog 186 dbl_Neg_sp := good_form SrDE2_ok mixed Tryz.func186 (body_of rfl) (by kernel_rfl) false fun α a m k r h => by
  obtain ⟨⟨a0_0, a0_1⟩, _⟩ := a; obtain _ := m
  exact ⟨dbl_Neg_h0, 60, dbl_Neg_h0_ok, rfl, (dbl_Neg_ev a0_0 a0_1 k).trans h⟩
/-! f174 tenterhook/dbl.UMul -/
def dbl_UMul_h0 : Hints := Hints.nil 0
theorem dbl_UMul_h0_ok : dbl_UMul_h0.OK Tryz.prog (bodyOf Tryz.f174) := Hints.nil_ok
noncomputable def dbl_UMul (a0 : Int) (a1 : Int) : Int × Int := (IntKind.wrap IntKind.i64 (Prod.snd (mul64 (IntKind.wrap IntKind.u64 a0) (IntKind.wrap IntKind.u64 a1))), IntKind.wrap IntKind.i64 (Prod.fst (mul64 (IntKind.wrap IntKind.u64 a0) (IntKind.wrap IntKind.u64 a1))))
noncomputable def dbl_UMul_sp : TX.Spec := specD [.val (.int .i64), .val (.int .i64)] [] fun _ a m k => match a, m with | ⟨a0, a1, _⟩, _ => k (.agg [.lit (.int .i64 ((dbl_UMul a0 a1).1)), .lit (.int .i64 ((dbl_UMul a0 a1).2))]) []
theorem dbl_UMul_ev {α : Type} (a0 : Int) (a1 : Int) (k : Kont α) : evFun Tryz.prog SrDE2 (dbl_UMul_h0) false Tryz.f174 (bodyOf Tryz.f174) 60 (mkS [.val (.int .i64), .val (.int .i64)] (a0, a1, ())) (mkH [] ()) k = k (.agg [.lit (.int .i64 ((dbl_UMul a0 a1).1)), .lit (.int .i64 ((dbl_UMul a0 a1).2))]) [] :=
  by kernel_rfl
theorem dbl_UMul_good : TX.Good Tryz.prog 174 dbl_UMul_sp := good_form SrDE2_ok mixed Tryz.func174 (body_of rfl) (by kernel_rfl) false fun α a m k r h => by
  obtain ⟨a0, a1, _⟩ := a; obtain _ := m
  exact ⟨dbl_UMul_h0, 60, dbl_UMul_h0_ok, rfl, (dbl_UMul_ev a0 a1 k).trans h⟩
/-! f178 tenterhook/dbl.UMod -/
def dbl_UMod_h0 : Hints := Hints.nil 0
theorem dbl_UMod_h0_ok : dbl_UMod_h0.OK Tryz.prog (bodyOf Tryz.f178) := Hints.nil_ok
abbrev dbl_UMod_R : Type := (Int × Int × Int)
noncomputable def dbl_UMod_t {γ : Type} (a0_0 : Int) (a0_1 : Int) (a1 : Int) (k : dbl_UMod_R → Option γ) : Option γ := cond (a1 == (0 : Int)) (k ((0 : Int), (0 : Int), (-10 : Int))) (cond (!cell_Ult a0_1 a1) (k ((0 : Int), (0 : Int), (-11 : Int))) (outOf (dbl_long a0_0 a0_1 a1) fun (x1 : (Int × (Int × Int))) => k (x1.1, x1.2.1, (0 : Int))))
noncomputable def dbl_UMod (a0_0 : Int) (a0_1 : Int) (a1 : Int) : Option dbl_UMod_R := dbl_UMod_t a0_0 a0_1 a1 some
theorem dbl_UMod_t_eq {γ : Type} (a0_0 : Int) (a0_1 : Int) (a1 : Int) (k : dbl_UMod_R → Option γ) : dbl_UMod_t a0_0 a0_1 a1 k = outOf (dbl_UMod a0_0 a0_1 a1) k := by
  delta dbl_UMod dbl_UMod_t; exact (Tr.nd Tr.lf (Tr.nd Tr.lf (Tr.bd fun x1 => Tr.lf)))
noncomputable def dbl_UMod_sp : TX.Spec := specD [.agg (.pair (.int .i64) (.int .i64)), .val (.int .i64)] [] fun _ a m k => match a, m with | ⟨⟨a0_0, a0_1⟩, a1, _⟩, _ => outOf (dbl_UMod a0_0 a0_1 a1) fun v => k (.tup [.lit (.int .i64 v.1), .lit (.int .i64 v.2.1), .lit (.int .i64 v.2.2)]) []
theorem dbl_UMod_ev {α : Type} (a0_0 : Int) (a0_1 : Int) (a1 : Int) (k : Kont α) : evFun Tryz.prog SrDE2 (dbl_UMod_h0) false Tryz.f178 (bodyOf Tryz.f178) 60 (mkS [.agg (.pair (.int .i64) (.int .i64)), .val (.int .i64)] ((a0_0, a0_1), a1, ())) (mkH [] ()) k = outOf (dbl_UMod a0_0 a0_1 a1) fun v => k (.tup [.lit (.int .i64 v.1), .lit (.int .i64 v.2.1), .lit (.int .i64 v.2.2)]) [] :=
  (show _ = dbl_UMod_t a0_0 a0_1 a1 (fun v => k (.tup [.lit (.int .i64 v.1), .lit (.int .i64 v.2.1), .lit (.int .i64 v.2.2)]) []) from by kernel_rfl).trans (dbl_UMod_t_eq a0_0 a0_1 a1 _)
theorem dbl_UMod_good : TX.Good Tryz.prog 178 dbl_UMod_sp := good_form SrDE2_ok mixed Tryz.func178 (body_of rfl) (by kernel_rfl) false fun α a m k r h => by
  obtain ⟨⟨a0_0, a0_1⟩, a1, _⟩ := a; obtain _ := m
  exact ⟨dbl_UMod_h0, 60, dbl_UMod_h0_ok, rfl, (dbl_UMod_ev a0_0 a0_1 a1 k).trans h⟩
/-! f273 tenterhook/dbl.fits -/
def dbl_fits_h0 : Hints := Hints.nil 0
theorem dbl_fits_h0_ok : dbl_fits_h0.OK Tryz.prog (bodyOf Tryz.f273) := Hints.nil_ok
abbrev dbl_fits_R : Type := (Int × Int × Int)
noncomputable def dbl_fits_t {γ : Type} (a0 : Int) (a1_0 : Int) (a1_1 : Int) (a2 : Bool) (k : dbl_fits_R → Option γ) : Option γ := cond (!a2) (k ((0 : Int), (0 : Int), (-11 : Int))) (cond (!(a1_0 == Prod.fst (dbl_Of a1_0) && (a1_1 == Prod.snd (dbl_Of a1_0) && true))) (k ((0 : Int), (0 : Int), (-11 : Int))) (k (a0, a1_0, (0 : Int))))
noncomputable def dbl_fits (a0 : Int) (a1_0 : Int) (a1_1 : Int) (a2 : Bool) : Option dbl_fits_R := dbl_fits_t a0 a1_0 a1_1 a2 some
theorem dbl_fits_t_eq {γ : Type} (a0 : Int) (a1_0 : Int) (a1_1 : Int) (a2 : Bool) (k : dbl_fits_R → Option γ) : dbl_fits_t a0 a1_0 a1_1 a2 k = outOf (dbl_fits a0 a1_0 a1_1 a2) k := by
  delta dbl_fits dbl_fits_t; exact (Tr.nd Tr.lf (Tr.nd Tr.lf Tr.lf))
noncomputable def dbl_fits_sp : TX.Spec := specD [.val (.int .i64), .agg (.pair (.int .i64) (.int .i64)), .val .bool] [] fun _ a m k => match a, m with | ⟨a0, ⟨a1_0, a1_1⟩, a2, _⟩, _ => outOf (dbl_fits a0 a1_0 a1_1 a2) fun v => k (.tup [.lit (.int .i64 v.1), .lit (.int .i64 v.2.1), .lit (.int .i64 v.2.2)]) []
theorem dbl_fits_ev {α : Type} (a0 : Int) (a1_0 : Int) (a1_1 : Int) (a2 : Bool) (k : Kont α) : evFun Tryz.prog SrDE2 (dbl_fits_h0) false Tryz.f273 (bodyOf Tryz.f273) 60 (mkS [.val (.int .i64), .agg (.pair (.int .i64) (.int .i64)), .val .bool] (a0, (a1_0, a1_1), a2, ())) (mkH [] ()) k = outOf (dbl_fits a0 a1_0 a1_1 a2) fun v => k (.tup [.lit (.int .i64 v.1), .lit (.int .i64 v.2.1), .lit (.int .i64 v.2.2)]) [] :=
  (show _ = dbl_fits_t a0 a1_0 a1_1 a2 (fun v => k (.tup [.lit (.int .i64 v.1), .lit (.int .i64 v.2.1), .lit (.int .i64 v.2.2)]) []) from by kernel_rfl).trans (dbl_fits_t_eq a0 a1_0 a1_1 a2 _)
theorem dbl_fits_good : TX.Good Tryz.prog 273 dbl_fits_sp := good_form SrDE2_ok mixed Tryz.func273 (body_of rfl) (by kernel_rfl) false fun α a m k r h => by
  obtain ⟨a0, ⟨a1_0, a1_1⟩, a2, _⟩ := a; obtain _ := m
  exact ⟨dbl_fits_h0, 60, dbl_fits_h0_ok, rfl, (dbl_fits_ev a0 a1_0 a1_1 a2 k).trans h⟩
/-! f168 tenterhook/cell.Flag -/
def cell_Flag_h0 : Hints := Hints.nil 0
theorem cell_Flag_h0_ok : cell_Flag_h0.OK Tryz.prog (bodyOf Tryz.f168) := Hints.nil_ok
abbrev cell_Flag_R : Type := (Int)
noncomputable def cell_Flag_t {γ : Type} (a0 : Bool) (k : cell_Flag_R → Option γ) : Option γ := outOf (cell_either a0 (-1 : Int) (0 : Int)) fun (x1 : Int) => k (x1)
noncomputable def cell_Flag (a0 : Bool) : Option cell_Flag_R := cell_Flag_t a0 some
theorem cell_Flag_t_eq {γ : Type} (a0 : Bool) (k : cell_Flag_R → Option γ) : cell_Flag_t a0 k = outOf (cell_Flag a0) k := by
  delta cell_Flag cell_Flag_t; exact (Tr.bd fun x1 => Tr.lf)
noncomputable def cell_Flag_sp : TX.Spec := specD [.val .bool] [] fun _ a m k => match a, m with | ⟨a0, _⟩, _ => outOf (cell_Flag a0) fun v => k (.lit (.int .i64 v)) []
theorem cell_Flag_ev {α : Type} (a0 : Bool) (k : Kont α) : evFun Tryz.prog SrDE2 (cell_Flag_h0) false Tryz.f168 (bodyOf Tryz.f168) 60 (mkS [.val .bool] (a0, ())) (mkH [] ()) k = outOf (cell_Flag a0) fun v => k (.lit (.int .i64 v)) [] :=
  (show _ = cell_Flag_t a0 (fun v => k (.lit (.int .i64 v)) []) from by kernel_rfl).trans (cell_Flag_t_eq a0 _)
theorem cell_Flag_good : TX.Good Tryz.prog 168 cell_Flag_sp := good_form SrDE2_ok mixed Tryz.func168 (body_of rfl) (by kernel_rfl) false fun α a m k r h => by
  obtain ⟨a0, _⟩ := a; obtain _ := m
  exact ⟨cell_Flag_h0, 60, cell_Flag_h0_ok, rfl, (cell_Flag_ev a0 k).trans h⟩
/-! f171 tenterhook/cell.Within -/
def cell_Within_h0 : Hints := Hints.nil 0
theorem cell_Within_h0_ok : cell_Within_h0.OK Tryz.prog (bodyOf Tryz.f171) := Hints.nil_ok
noncomputable def cell_Within (a0 : Int) (a1 : Int) (a2 : Int) : Bool := (cell_Ult (IntKind.wrap IntKind.i64 (a0 - a1)) (IntKind.wrap IntKind.i64 (a2 - a1)))
noncomputable def cell_Within_sp : TX.Spec := specD [.val (.int .i64), .val (.int .i64), .val (.int .i64)] [] fun _ a m k => match a, m with | ⟨a0, a1, a2, _⟩, _ => k (.lit (.bool (cell_Within a0 a1 a2))) []
theorem cell_Within_ev {α : Type} (a0 : Int) (a1 : Int) (a2 : Int) (k : Kont α) : evFun Tryz.prog SrDE2 (cell_Within_h0) false Tryz.f171 (bodyOf Tryz.f171) 60 (mkS [.val (.int .i64), .val (.int .i64), .val (.int .i64)] (a0, a1, a2, ())) (mkH [] ()) k = k (.lit (.bool (cell_Within a0 a1 a2))) [] :=
  by kernel_rfl
theorem cell_Within_good : TX.Good Tryz.prog 171 cell_Within_sp := good_form SrDE2_ok mixed Tryz.func171 (body_of rfl) (by kernel_rfl) false fun α a m k r h => by
  obtain ⟨a0, a1, a2, _⟩ := a; obtain _ := m
  exact ⟨cell_Within_h0, 60, cell_Within_h0_ok, rfl, (cell_Within_ev a0 a1 a2 k).trans h⟩
/-! f159 tenterhook/cell.Shl -/
def cell_Shl_h0 : Hints := Hints.nil 0
theorem cell_Shl_h0_ok : cell_Shl_h0.OK Tryz.prog (bodyOf Tryz.f159) := Hints.nil_ok
abbrev cell_Shl_R : Type := (Int)
noncomputable def cell_Shl_t {γ : Type} (a0 : Int) (a1 : Int) (k : cell_Shl_R → Option γ) : Option γ := outOf (cell_shifts a1) fun (x1 : Bool) => cond (decide (Int.tmod (IntKind.wrap IntKind.u64 a1) (64 : Int) < (0 : Int))) (none) (outOf (cell_either x1 (IntKind.wrap IntKind.i64 (a0 * (2 : Int) ^ min (Int.toNat (Int.tmod (IntKind.wrap IntKind.u64 a1) (64 : Int))) (64 : Nat))) (0 : Int)) fun (x2 : Int) => k (x2))
noncomputable def cell_Shl (a0 : Int) (a1 : Int) : Option cell_Shl_R := cell_Shl_t a0 a1 some
theorem cell_Shl_t_eq {γ : Type} (a0 : Int) (a1 : Int) (k : cell_Shl_R → Option γ) : cell_Shl_t a0 a1 k = outOf (cell_Shl a0 a1) k := by
  delta cell_Shl cell_Shl_t; exact (Tr.bd fun x1 => (Tr.nd Tr.no (Tr.bd fun x2 => Tr.lf)))
noncomputable def cell_Shl_sp : TX.Spec := specD [.val (.int .i64), .val (.int .i64)] [] fun _ a m k => match a, m with | ⟨a0, a1, _⟩, _ => outOf (cell_Shl a0 a1) fun v => k (.lit (.int .i64 v)) []
theorem cell_Shl_ev {α : Type} (a0 : Int) (a1 : Int) (k : Kont α) : evFun Tryz.prog SrDE2 (cell_Shl_h0) false Tryz.f159 (bodyOf Tryz.f159) 60 (mkS [.val (.int .i64), .val (.int .i64)] (a0, a1, ())) (mkH [] ()) k = outOf (cell_Shl a0 a1) fun v => k (.lit (.int .i64 v)) [] :=
  (show _ = cell_Shl_t a0 a1 (fun v => k (.lit (.int .i64 v)) []) from by kernel_rfl).trans (cell_Shl_t_eq a0 a1 _)
theorem cell_Shl_good : TX.Good Tryz.prog 159 cell_Shl_sp := good_form SrDE2_ok mixed Tryz.func159 (body_of rfl) (by kernel_rfl) false fun α a m k r h => by
  obtain ⟨a0, a1, _⟩ := a; obtain _ := m
  exact ⟨cell_Shl_h0, 60, cell_Shl_h0_ok, rfl, (cell_Shl_ev a0 a1 k).trans h⟩
/-! f160 tenterhook/cell.Shr -/
def cell_Shr_h0 : Hints := Hints.nil 0
theorem cell_Shr_h0_ok : cell_Shr_h0.OK Tryz.prog (bodyOf Tryz.f160) := Hints.nil_ok
abbrev cell_Shr_R : Type := (Int)
noncomputable def cell_Shr_t {γ : Type} (a0 : Int) (a1 : Int) (k : cell_Shr_R → Option γ) : Option γ := outOf (cell_shifts a1) fun (x1 : Bool) => cond (decide (Int.tmod (IntKind.wrap IntKind.u64 a1) (64 : Int) < (0 : Int))) (none) (outOf (cell_either x1 (IntKind.wrap IntKind.i64 (Int.fdiv (IntKind.wrap IntKind.u64 a0) ((2 : Int) ^ min (Int.toNat (Int.tmod (IntKind.wrap IntKind.u64 a1) (64 : Int))) (64 : Nat)))) (0 : Int)) fun (x2 : Int) => k (x2))
noncomputable def cell_Shr (a0 : Int) (a1 : Int) : Option cell_Shr_R := cell_Shr_t a0 a1 some
theorem cell_Shr_t_eq {γ : Type} (a0 : Int) (a1 : Int) (k : cell_Shr_R → Option γ) : cell_Shr_t a0 a1 k = outOf (cell_Shr a0 a1) k := by
  delta cell_Shr cell_Shr_t; exact (Tr.bd fun x1 => (Tr.nd Tr.no (Tr.bd fun x2 => Tr.lf)))
noncomputable def cell_Shr_sp : TX.Spec := specD [.val (.int .i64), .val (.int .i64)] [] fun _ a m k => match a, m with | ⟨a0, a1, _⟩, _ => outOf (cell_Shr a0 a1) fun v => k (.lit (.int .i64 v)) []
theorem cell_Shr_ev {α : Type} (a0 : Int) (a1 : Int) (k : Kont α) : evFun Tryz.prog SrDE2 (cell_Shr_h0) false Tryz.f160 (bodyOf Tryz.f160) 60 (mkS [.val (.int .i64), .val (.int .i64)] (a0, a1, ())) (mkH [] ()) k = outOf (cell_Shr a0 a1) fun v => k (.lit (.int .i64 v)) [] :=
  (show _ = cell_Shr_t a0 a1 (fun v => k (.lit (.int .i64 v)) []) from by kernel_rfl).trans (cell_Shr_t_eq a0 a1 _)
theorem cell_Shr_good : TX.Good Tryz.prog 160 cell_Shr_sp := good_form SrDE2_ok mixed Tryz.func160 (body_of rfl) (by kernel_rfl) false fun α a m k r h => by
  obtain ⟨a0, a1, _⟩ := a; obtain _ := m
  exact ⟨cell_Shr_h0, 60, cell_Shr_h0_ok, rfl, (cell_Shr_ev a0 a1 k).trans h⟩
/-! f262 tenterhook/cell.Floor -/
def cell_Floor_h0 : Hints := Hints.nil 0
theorem cell_Floor_h0_ok : cell_Floor_h0.OK Tryz.prog (bodyOf Tryz.f262) := Hints.nil_ok
abbrev cell_Floor_R : Type := (Int × Int × Int)
noncomputable def cell_Floor_t {γ : Type} (a0 : Int) (a1 : Int) (k : cell_Floor_R → Option γ) : Option γ := outOf (cell_Symm a0 a1) fun (x1 : (Int × (Int × Int))) => cond (x1.2.1 != (0 : Int)) (cond (decide (ibits BinOp.xor IntKind.i64 x1.2.1 a1 < (0 : Int))) (k (IntKind.wrap IntKind.i64 (x1.1 - (1 : Int)), IntKind.wrap IntKind.i64 (x1.2.1 + a1), x1.2.2)) (k (x1.1, x1.2.1, x1.2.2))) (k (x1.1, x1.2.1, x1.2.2))
noncomputable def cell_Floor (a0 : Int) (a1 : Int) : Option cell_Floor_R := cell_Floor_t a0 a1 some
theorem cell_Floor_t_eq {γ : Type} (a0 : Int) (a1 : Int) (k : cell_Floor_R → Option γ) : cell_Floor_t a0 a1 k = outOf (cell_Floor a0 a1) k := by
  delta cell_Floor cell_Floor_t; exact (Tr.bd fun x1 => (Tr.nd (Tr.nd Tr.lf Tr.lf) Tr.lf))
noncomputable def cell_Floor_sp : TX.Spec := specD [.val (.int .i64), .val (.int .i64)] [] fun _ a m k => match a, m with | ⟨a0, a1, _⟩, _ => outOf (cell_Floor a0 a1) fun v => k (.tup [.lit (.int .i64 v.1), .lit (.int .i64 v.2.1), .lit (.int .i64 v.2.2)]) []
theorem cell_Floor_ev {α : Type} (a0 : Int) (a1 : Int) (k : Kont α) : evFun Tryz.prog SrDE2 (cell_Floor_h0) false Tryz.f262 (bodyOf Tryz.f262) 60 (mkS [.val (.int .i64), .val (.int .i64)] (a0, a1, ())) (mkH [] ()) k = outOf (cell_Floor a0 a1) fun v => k (.tup [.lit (.int .i64 v.1), .lit (.int .i64 v.2.1), .lit (.int .i64 v.2.2)]) [] :=
  (show _ = cell_Floor_t a0 a1 (fun v => k (.tup [.lit (.int .i64 v.1), .lit (.int .i64 v.2.1), .lit (.int .i64 v.2.2)]) []) from by kernel_rfl).trans (cell_Floor_t_eq a0 a1 _)
theorem cell_Floor_good : TX.Good Tryz.prog 262 cell_Floor_sp := good_form SrDE2_ok mixed Tryz.func262 (body_of rfl) (by kernel_rfl) false fun α a m k r h => by
  obtain ⟨a0, a1, _⟩ := a; obtain _ := m
  exact ⟨cell_Floor_h0, 60, cell_Floor_h0_ok, rfl, (cell_Floor_ev a0 a1 k).trans h⟩
/-! f62 tenterhook/op.of -/
def op_of_h0 : Hints := Hints.nil 0
theorem op_of_h0_ok : op_of_h0.OK Tryz.prog (bodyOf Tryz.f62) := Hints.nil_ok
abbrev op_of_R : Type := (Int × Int × Int × Bool)
noncomputable def op_of_t {γ : Type} (a0 : Int) (k : op_of_R → Option γ) : Option γ := outOf (op_in a0) fun (x1 : Bool) => cond (!x1) (k ((0 : Int), (-1 : Int), (-1 : Int), false)) (cond (decide ((0 : Int) ≤ a0 ∧ a0 < (111 : Int))) (outOf (op_digit (↑(UInt8.toNat (List.getD (Array.toList (ByteArray.data (bytesOf [48, 48, 49, 48, 48, 50, 50, 48, 49, 48, 48, 48, 49, 48, 48, 49, 49, 49, 49, 49, 50, 50, 51, 50, 50, 50, 50, 52, 52, 49, 49, 49, 48, 50, 50, 50, 50, 50, 50, 51, 51, 49, 49, 49, 49, 49, 49, 50, 50, 50, 50, 50, 49, 50, 50, 50, 50, 50, 50, 50, 49, 49, 51, 50, 50, 51, 51, 51, 49, 52, 50, 49, 49, 49, 49, 49, 50, 49, 50, 50, 51, 51, 51, 49, 50, 49, 49, 48, 48, 48, 50, 50, 49, 49, 50, 48, 48, 48, 48, 48, 48, 49, 48, 51, 48, 48, 48, 49, 49, 49, 48]))) (Int.toNat a0) (UInt8.ofNat (nat_lit 0)))) : Int)) fun (x2 : Int) => cond (decide ((0 : Int) ≤ a0 ∧ a0 < (111 : Int))) (outOf (op_digit (↑(UInt8.toNat (List.getD (Array.toList (ByteArray.data (bytesOf [49, 48, 48, 63, 48, 48, 48, 48, 48, 48, 49, 49, 48, 49, 49, 63, 63, 63, 50, 48, 50, 51, 51, 49, 51, 52, 48, 52, 54, 63, 49, 48, 49, 49, 49, 49, 49, 49, 50, 49, 50, 49, 49, 49, 49, 49, 49, 49, 49, 49, 49, 49, 49, 49, 49, 49, 49, 49, 49, 49, 49, 49, 49, 50, 50, 50, 50, 50, 50, 50, 50, 49, 49, 49, 49, 49, 48, 49, 48, 48, 48, 48, 49, 48, 48, 48, 48, 48, 48, 48, 50, 50, 48, 48, 50, 49, 48, 48, 49, 49, 48, 48, 48, 48, 48, 48, 49, 48, 48, 48, 48]))) (Int.toNat a0) (UInt8.ofNat (nat_lit 0)))) : Int)) fun (x3 : Int) => cond (decide ((0 : Int) ≤ a0 ∧ a0 < (111 : Int))) (outOf (op_digit (↑(UInt8.toNat (List.getD (Array.toList (ByteArray.data (bytesOf [48, 48, 48, 48, 48, 48, 48, 48, 48, 48, 48, 48, 48, 48, 48, 48, 48, 48, 49, 49, 49, 49, 49, 49, 49, 49, 49, 49, 49, 49, 49, 49, 49, 49, 49, 49, 49, 49, 49, 49, 49, 49, 49, 49, 49, 49, 49, 49, 49, 49, 49, 49, 49, 49, 49, 49, 49, 49, 49, 49, 49, 49, 49, 49, 49, 49, 49, 49, 49, 49, 49, 49, 49, 49, 49, 50, 50, 50, 50, 50, 50, 50, 50, 51, 51, 51, 51, 51, 51, 52, 52, 52, 52, 52, 52, 53, 53, 53, 54, 54, 54, 54, 54, 54, 55, 55, 55, 55, 55, 55, 55]))) (Int.toNat a0) (UInt8.ofNat (nat_lit 0)))) : Int)) fun (x4 : Int) => k (x2, x3, x4, true)) (none)) (none)) (none))
noncomputable def op_of (a0 : Int) : Option op_of_R := op_of_t a0 some
theorem op_of_t_eq {γ : Type} (a0 : Int) (k : op_of_R → Option γ) : op_of_t a0 k = outOf (op_of a0) k := by
  delta op_of op_of_t; exact (Tr.bd fun x1 => (Tr.nd Tr.lf (Tr.nd (Tr.bd fun x2 => (Tr.nd (Tr.bd fun x3 => (Tr.nd (Tr.bd fun x4 => Tr.lf) Tr.no)) Tr.no)) Tr.no)))
noncomputable def op_of_sp : TX.Spec := specD [.val (.int .i64)] [] fun _ a m k => match a, m with | ⟨a0, _⟩, _ => outOf (op_of a0) fun v => k (.tup [.agg [.lit (.int .i64 v.1), .lit (.int .i64 v.2.1), .lit (.int .i64 v.2.2.1)], .lit (.bool v.2.2.2)]) []
theorem op_of_ev {α : Type} (a0 : Int) (k : Kont α) : evFun Tryz.prog SrDE2 (op_of_h0) false Tryz.f62 (bodyOf Tryz.f62) 60 (mkS [.val (.int .i64)] (a0, ())) (mkH [] ()) k = outOf (op_of a0) fun v => k (.tup [.agg [.lit (.int .i64 v.1), .lit (.int .i64 v.2.1), .lit (.int .i64 v.2.2.1)], .lit (.bool v.2.2.2)]) [] :=
  (show _ = op_of_t a0 (fun v => k (.tup [.agg [.lit (.int .i64 v.1), .lit (.int .i64 v.2.1), .lit (.int .i64 v.2.2.1)], .lit (.bool v.2.2.2)]) []) from by kernel_rfl).trans (op_of_t_eq a0 _)
theorem op_of_good : TX.Good Tryz.prog 62 op_of_sp := good_form SrDE2_ok mixed Tryz.func62 (body_of rfl) (by kernel_rfl) false fun α a m k r h => by
  obtain ⟨a0, _⟩ := a; obtain _ := m
  exact ⟨op_of_h0, 60, op_of_h0_ok, rfl, (op_of_ev a0 k).trans h⟩
/-! f187 slices.Concat[[]int,int] -/
def slices_Concat_h0 : Hints := Hints.nil 0
theorem slices_Concat_h0_ok : slices_Concat_h0.OK Tryz.prog (bodyOf Tryz.f187) := Hints.nil_ok
def slices_Concat_L1_A : List SD := [.val (.sl (.sl (.int .i64))), .any, .any, .val (.int .i64), .any, .any, .any, .any, .any, .val (.sl (.sl (.int .i64))), .val (.int .i64), .val (.int .i64), .any, .any, .any, .any, .any, .any, .any, .any, .any, .any, .any, .any, .any, .any, .any, .any, .any, .any, .any, .any, .any, .any, .any, .any]
def slices_Concat_L1_H : List HD := []
abbrev slices_Concat_L1_D : Type := (List ((List Int))) × Int × (List ((List Int))) × Int × Int
def slices_Concat_L1_to (a : DenS slices_Concat_L1_A) (m : DenH slices_Concat_L1_H) : slices_Concat_L1_D := (a.1, a.2.2.2.1, a.2.2.2.2.2.2.2.2.2.1, a.2.2.2.2.2.2.2.2.2.2.1, a.2.2.2.2.2.2.2.2.2.2.2.1)
def slices_Concat_L1_ofA (d : slices_Concat_L1_D) : DenS slices_Concat_L1_A := match d with | (s0, s3, s9, s10, s11) => (s0, (), (), s3, (), (), (), (), (), s9, s10, s11, (), (), (), (), (), (), (), (), (), (), (), (), (), (), (), (), (), (), (), (), (), (), (), (), ())
def slices_Concat_L1_ofH (d : slices_Concat_L1_D) : DenH slices_Concat_L1_H := match d with | (s0, s3, s9, s10, s11) => ()
def slices_Concat_L1_N : Norm := (⟨[0, 3, 9, 10, 11], [], []⟩ : Go.TX.Norm)
def slices_Concat_L1_X : Exit → Norm := fun e => match e with | .exit 0 => ⟨[0, 3], [], []⟩ | _ => ⟨[], [], []⟩
abbrev slices_Concat_L1_R : Type := ((List (List Int)) × Int)
def slices_Concat_L1_fin (v : slices_Concat_L1_R) : Exit × St := ((.exit 0), ⟨[.sl (.sl (.int .i64)) v.1 false, .any, .any, .lit (.int .i64 v.2), .any, .any, .any, .any, .any, .any, .any, .any, .any, .any, .any, .any, .any, .any, .any, .any, .any, .any, .any, .any, .any, .any, .any, .any, .any, .any, .any, .any, .any, .any, .any, .any], []⟩)
noncomputable def slices_Concat_L1_t {γ : Type} (s0 : (List ((List Int)))) (s3 : Int) (s9 : (List ((List Int)))) (s10 : Int) (s11 : Int) (next : slices_Concat_L1_D → Option γ) (out : slices_Concat_L1_R → Option γ) : Option γ := cond (decide (s11 < s10)) (cond (decide ((0 : Int) ≤ s11 ∧ s11 < (↑(List.length s9) : Int))) (cond (decide (IntKind.wrap IntKind.i64 (s3 + (↑(List.length (List.getD s9 (Int.toNat s11) [])) : Int)) < (0 : Int))) (none) (next (s0, IntKind.wrap IntKind.i64 (s3 + (↑(List.length (List.getD s9 (Int.toNat s11) [])) : Int)), s9, s10, IntKind.wrap IntKind.i64 (s11 + (1 : Int))))) (none)) (out (s0, s3))
noncomputable def slices_Concat_L1_pass (d : slices_Concat_L1_D) : Option (slices_Concat_L1_D ⊕ slices_Concat_L1_R) := slices_Concat_L1_t d.1 d.2.1 d.2.2.1 d.2.2.2.1 d.2.2.2.2 (fun d => some (.inl d)) (fun x => some (.inr x))
theorem slices_Concat_L1_t_eq {γ : Type} (s0 : (List ((List Int)))) (s3 : Int) (s9 : (List ((List Int)))) (s10 : Int) (s11 : Int) (next : slices_Concat_L1_D → Option γ) (out : slices_Concat_L1_R → Option γ) : slices_Concat_L1_t s0 s3 s9 s10 s11 next out = PassOf (slices_Concat_L1_t s0 s3 s9 s10 s11 (fun d => some (.inl d)) (fun x => some (.inr x))) next out := by
  delta slices_Concat_L1_t; exact (Ps.nd (Ps.nd (Ps.nd Ps.no Ps.nx) Ps.no) Ps.ou)
theorem slices_Concat_L1_ev (α : Type) (d : slices_Concat_L1_D) (next : slices_Concat_L1_D → Option α) (k : Exit → St → Option α) : ev Tryz.prog SrDE2 slices_Concat_h0 60 [0, 0, 1, 0, 1, 1] ((codeAt (bodyOf Tryz.f187) [0, 0, 1, 0, 1, 1]).getD .skip) ⟨mkS slices_Concat_L1_A (slices_Concat_L1_ofA d), mkH slices_Concat_L1_H (slices_Concat_L1_ofH d)⟩ (passK 0 slices_Concat_L1_N slices_Concat_L1_A slices_Concat_L1_H slices_Concat_L1_X (fun a m => next (slices_Concat_L1_to a m)) k) = PassOf (slices_Concat_L1_pass d) next fun x => k (slices_Concat_L1_fin x).1 (slices_Concat_L1_fin x).2 := by
  obtain ⟨s0, s3, s9, s10, s11⟩ := d
  exact (show _ = slices_Concat_L1_t s0 s3 s9 s10 s11 next (fun x => k (slices_Concat_L1_fin x).1 (slices_Concat_L1_fin x).2) from by kernel_rfl).trans (slices_Concat_L1_t_eq s0 s3 s9 s10 s11 _ _)
noncomputable def slices_Concat_L1 (d : slices_Concat_L1_D) : Option slices_Concat_L1_R := runs slices_Concat_L1_pass d
noncomputable def slices_Concat_L1_sp : CSpec := fun _ st k => reNorm 0 slices_Concat_L1_N slices_Concat_L1_A slices_Concat_L1_H st fun a m => outOf (slices_Concat_L1 (slices_Concat_L1_to a m)) fun v => k (.exit 0) ⟨[.sl (.sl (.int .i64)) v.1 false, .any, .any, .lit (.int .i64 v.2), .any, .any, .any, .any, .any, .any, .any, .any, .any, .any, .any, .any, .any, .any, .any, .any, .any, .any, .any, .any, .any, .any, .any, .any, .any, .any, .any, .any, .any, .any, .any, .any], []⟩
theorem slices_Concat_L1_ok : SumOK Tryz.prog 0 (.loop ((codeAt (bodyOf Tryz.f187) [0, 0, 1, 0, 1, 1]).getD .skip)) slices_Concat_L1_sp := (SumOK.loop SrDE2_ok mixed slices_Concat_h0_ok (show codeAt (bodyOf Tryz.f187) [0, 1, 0, 1, 1] = some (.loop ((codeAt (bodyOf Tryz.f187) [0, 0, 1, 0, 1, 1]).getD .skip)) from by kernel_rfl) (N := slices_Concat_L1_N) (Nx := slices_Concat_L1_X) (A := slices_Concat_L1_A) (Hs := slices_Concat_L1_H) (toD := slices_Concat_L1_to) (ofA := slices_Concat_L1_ofA) (ofH := slices_Concat_L1_ofH) (fun _ _ => rfl) (fun _ _ => rfl) (pass := slices_Concat_L1_pass) (fin := slices_Concat_L1_fin) 60 slices_Concat_L1_ev (steps slices_Concat_L1_pass)).mono fun α st k r h => by
  refine Eq.trans (congrArg (reNorm 0 slices_Concat_L1_N slices_Concat_L1_A slices_Concat_L1_H st) ?_) h
  funext a m
  exact outOf_congr fun x => rfl
noncomputable def slices_Concat_L1_h : Hints := slices_Concat_h0.add [0, 1, 0, 1, 1] slices_Concat_L1_sp
theorem slices_Concat_L1_h_ok : slices_Concat_L1_h.OK Tryz.prog (bodyOf Tryz.f187) := slices_Concat_h0_ok.add (show codeAt (bodyOf Tryz.f187) [0, 1, 0, 1, 1] = some (.loop ((codeAt (bodyOf Tryz.f187) [0, 0, 1, 0, 1, 1]).getD .skip)) from by kernel_rfl) slices_Concat_L1_ok
def slices_Concat_L2_A : List SD := [.any, .any, .any, .any, .any, .any, .rowz 0, .any, .any, .any, .any, .any, .any, .any, .any, .any, .any, .any, .any, .any, .any, .any, .any, .any, .any, .val (.sl (.sl (.int .i64))), .val (.int .i64), .val (.int .i64), .any, .any, .any, .any, .any, .any, .any, .any]
def slices_Concat_L2_H : List HD := [.row (.int .i64)]
abbrev slices_Concat_L2_D : Type := Nat × (List ((List Int))) × Int × Int × (List Int)
def slices_Concat_L2_to (a : DenS slices_Concat_L2_A) (m : DenH slices_Concat_L2_H) : slices_Concat_L2_D := (a.2.2.2.2.2.2.1, a.2.2.2.2.2.2.2.2.2.2.2.2.2.2.2.2.2.2.2.2.2.2.2.2.2.1, a.2.2.2.2.2.2.2.2.2.2.2.2.2.2.2.2.2.2.2.2.2.2.2.2.2.2.1, a.2.2.2.2.2.2.2.2.2.2.2.2.2.2.2.2.2.2.2.2.2.2.2.2.2.2.2.1, m.1)
def slices_Concat_L2_ofA (d : slices_Concat_L2_D) : DenS slices_Concat_L2_A := match d with | (s6_n, s25, s26, s27, m0) => ((), (), (), (), (), (), s6_n, (), (), (), (), (), (), (), (), (), (), (), (), (), (), (), (), (), (), s25, s26, s27, (), (), (), (), (), (), (), (), ())
def slices_Concat_L2_ofH (d : slices_Concat_L2_D) : DenH slices_Concat_L2_H := match d with | (s6_n, s25, s26, s27, m0) => (m0, ())
def slices_Concat_L2_N : Norm := (⟨[6, 25, 26, 27], [6], []⟩ : Go.TX.Norm)
def slices_Concat_L2_X : Exit → Norm := fun e => match e with | .exit 2 => ⟨[6], [], []⟩ | _ => ⟨[], [], []⟩
abbrev slices_Concat_L2_R : Type := (Nat × (List Int))
def slices_Concat_L2_fin (v : slices_Concat_L2_R) : Exit × St := ((.exit 2), ⟨[.any, .any, .any, .any, .any, .any, .msl 0 0 v.1, .any, .any, .any, .any, .any, .any, .any, .any, .any, .any, .any, .any, .any, .any, .any, .any, .any, .any, .any, .any, .any, .any, .any, .any, .any, .any, .any, .any, .any], [.row (.int .i64) v.2]⟩)
noncomputable def slices_Concat_L2_t {γ : Type} (s6_n : Nat) (s25 : (List ((List Int)))) (s26 : Int) (s27 : Int) (m0 : (List Int)) (next : slices_Concat_L2_D → Option γ) (out : slices_Concat_L2_R → Option γ) : Option γ := cond (decide (s27 < s26)) (cond (decide ((0 : Int) ≤ s27 ∧ s27 < (↑(List.length s25) : Int))) (cond (decide (s6_n + List.length (List.getD s25 (Int.toNat s27) []) ≤ (2147483648 : Nat))) (next (s6_n + List.length (List.getD s25 (Int.toNat s27) []), s25, s26, IntKind.wrap IntKind.i64 (s27 + (1 : Int)), List.take s6_n (List.drop (0 : Nat) m0) ++ List.getD s25 (Int.toNat s27) [])) (none)) (none)) (out (s6_n, m0))
noncomputable def slices_Concat_L2_pass (d : slices_Concat_L2_D) : Option (slices_Concat_L2_D ⊕ slices_Concat_L2_R) := slices_Concat_L2_t d.1 d.2.1 d.2.2.1 d.2.2.2.1 d.2.2.2.2 (fun d => some (.inl d)) (fun x => some (.inr x))
theorem slices_Concat_L2_t_eq {γ : Type} (s6_n : Nat) (s25 : (List ((List Int)))) (s26 : Int) (s27 : Int) (m0 : (List Int)) (next : slices_Concat_L2_D → Option γ) (out : slices_Concat_L2_R → Option γ) : slices_Concat_L2_t s6_n s25 s26 s27 m0 next out = PassOf (slices_Concat_L2_t s6_n s25 s26 s27 m0 (fun d => some (.inl d)) (fun x => some (.inr x))) next out := by
  delta slices_Concat_L2_t; exact (Ps.nd (Ps.nd (Ps.nd Ps.nx Ps.no) Ps.no) Ps.ou)
theorem slices_Concat_L2_ev (α : Type) (d : slices_Concat_L2_D) (next : slices_Concat_L2_D → Option α) (k : Exit → St → Option α) : ev Tryz.prog SrDE2 slices_Concat_L1_h 60 [0, 0, 1, 0, 1, 1, 1, 1] ((codeAt (bodyOf Tryz.f187) [0, 0, 1, 0, 1, 1, 1, 1]).getD .skip) ⟨mkS slices_Concat_L2_A (slices_Concat_L2_ofA d), mkH slices_Concat_L2_H (slices_Concat_L2_ofH d)⟩ (passK 0 slices_Concat_L2_N slices_Concat_L2_A slices_Concat_L2_H slices_Concat_L2_X (fun a m => next (slices_Concat_L2_to a m)) k) = PassOf (slices_Concat_L2_pass d) next fun x => k (slices_Concat_L2_fin x).1 (slices_Concat_L2_fin x).2 := by
  obtain ⟨s6_n, s25, s26, s27, m0⟩ := d
  exact (show _ = slices_Concat_L2_t s6_n s25 s26 s27 m0 next (fun x => k (slices_Concat_L2_fin x).1 (slices_Concat_L2_fin x).2) from by kernel_rfl).trans (slices_Concat_L2_t_eq s6_n s25 s26 s27 m0 _ _)
noncomputable def slices_Concat_L2 (d : slices_Concat_L2_D) : Option slices_Concat_L2_R := runs slices_Concat_L2_pass d
noncomputable def slices_Concat_L2_sp : CSpec := fun _ st k => reNorm 0 slices_Concat_L2_N slices_Concat_L2_A slices_Concat_L2_H st fun a m => outOf (slices_Concat_L2 (slices_Concat_L2_to a m)) fun v => k (.exit 2) ⟨[.any, .any, .any, .any, .any, .any, .msl 0 0 v.1, .any, .any, .any, .any, .any, .any, .any, .any, .any, .any, .any, .any, .any, .any, .any, .any, .any, .any, .any, .any, .any, .any, .any, .any, .any, .any, .any, .any, .any], [.row (.int .i64) v.2]⟩
theorem slices_Concat_L2_ok : SumOK Tryz.prog 0 (.loop ((codeAt (bodyOf Tryz.f187) [0, 0, 1, 0, 1, 1, 1, 1]).getD .skip)) slices_Concat_L2_sp := (SumOK.loop SrDE2_ok mixed slices_Concat_L1_h_ok (show codeAt (bodyOf Tryz.f187) [0, 1, 0, 1, 1, 1, 1] = some (.loop ((codeAt (bodyOf Tryz.f187) [0, 0, 1, 0, 1, 1, 1, 1]).getD .skip)) from by kernel_rfl) (N := slices_Concat_L2_N) (Nx := slices_Concat_L2_X) (A := slices_Concat_L2_A) (Hs := slices_Concat_L2_H) (toD := slices_Concat_L2_to) (ofA := slices_Concat_L2_ofA) (ofH := slices_Concat_L2_ofH) (fun _ _ => rfl) (fun _ _ => rfl) (pass := slices_Concat_L2_pass) (fin := slices_Concat_L2_fin) 60 slices_Concat_L2_ev (steps slices_Concat_L2_pass)).mono fun α st k r h => by
  refine Eq.trans (congrArg (reNorm 0 slices_Concat_L2_N slices_Concat_L2_A slices_Concat_L2_H st) ?_) h
  funext a m
  exact outOf_congr fun x => rfl
noncomputable def slices_Concat_L2_h : Hints := slices_Concat_L1_h.add [0, 1, 0, 1, 1, 1, 1] slices_Concat_L2_sp
theorem slices_Concat_L2_h_ok : slices_Concat_L2_h.OK Tryz.prog (bodyOf Tryz.f187) := slices_Concat_L1_h_ok.add (show codeAt (bodyOf Tryz.f187) [0, 1, 0, 1, 1, 1, 1] = some (.loop ((codeAt (bodyOf Tryz.f187) [0, 0, 1, 0, 1, 1, 1, 1]).getD .skip)) from by kernel_rfl) slices_Concat_L2_ok
abbrev slices_Concat_R : Type := ((List Int))
noncomputable def slices_Concat_t {γ : Type} (a0 : (List ((List Int)))) (k : slices_Concat_R → Option γ) : Option γ := outOf (slices_Concat_L1 (a0, (0 : Int), a0, (↑(List.length a0) : Int), (0 : Int))) fun (x3 : ((List (List Int)) × Int)) => cond (decide (x3.2 < (0 : Int))) (none) (cond (decide (IntKind.wrap IntKind.i64 (x3.2 - (0 : Int)) > (0 : Int))) (cond (decide ((1 : Int) ≤ IntKind.wrap IntKind.i64 (x3.2 - (0 : Int)) ∧ IntKind.wrap IntKind.i64 (x3.2 - (0 : Int)) ≤ (2147483648 : Int))) (outOf (slices_Concat_L2 ((0 : Nat), x3.1, (↑(List.length x3.1) : Int), (0 : Int), List.replicate (Int.toNat (IntKind.wrap IntKind.i64 (x3.2 - (0 : Int)))) (0 : Int))) fun (x4 : (Nat × (List Int))) => k (List.take x4.1 (List.drop (0 : Nat) x4.2))) (none)) (outOf (slices_Concat_L2 ((0 : Nat), x3.1, (↑(List.length x3.1) : Int), (0 : Int), [])) fun (x5 : (Nat × (List Int))) => k (List.take x5.1 (List.drop (0 : Nat) x5.2))))
noncomputable def slices_Concat (a0 : (List ((List Int)))) : Option slices_Concat_R := slices_Concat_t a0 some
theorem slices_Concat_t_eq {γ : Type} (a0 : (List ((List Int)))) (k : slices_Concat_R → Option γ) : slices_Concat_t a0 k = outOf (slices_Concat a0) k := by
  delta slices_Concat slices_Concat_t; exact (Tr.bd fun x3 => (Tr.nd Tr.no (Tr.nd (Tr.nd (Tr.bd fun x4 => Tr.lf) Tr.no) (Tr.bd fun x5 => Tr.lf))))
noncomputable def slices_Concat_sp : TX.Spec := specD [.val (.sl (.sl (.int .i64)))] [] fun _ a m k => match a, m with | ⟨a0, _⟩, _ => outOf (slices_Concat a0) fun v => k (.sl (.int .i64) v false) []
theorem slices_Concat_ev {α : Type} (a0 : (List ((List Int)))) (k : Kont α) : evFun Tryz.prog SrDE2 (slices_Concat_L2_h) false Tryz.f187 (bodyOf Tryz.f187) 60 (mkS [.val (.sl (.sl (.int .i64)))] (a0, ())) (mkH [] ()) k = outOf (slices_Concat a0) fun v => k (.sl (.int .i64) v false) [] :=
  (show _ = slices_Concat_t a0 (fun v => k (.sl (.int .i64) v false) []) from by kernel_rfl).trans (slices_Concat_t_eq a0 _)
theorem slices_Concat_good : TX.Good Tryz.prog 187 slices_Concat_sp := good_form SrDE2_ok mixed Tryz.func187 (body_of rfl) (by kernel_rfl) false fun α a m k r h => by
  obtain ⟨a0, _⟩ := a; obtain _ := m
  exact ⟨slices_Concat_L2_h, 60, slices_Concat_L2_h_ok, rfl, (slices_Concat_ev a0 k).trans h⟩
noncomputable def SrDE3 : Env := SrDE2.add 186 true dbl_Neg_sp |>.add 174 true dbl_UMul_sp |>.add 178 true dbl_UMod_sp |>.add 273 true dbl_fits_sp |>.add 168 true cell_Flag_sp |>.add 171 true cell_Within_sp |>.add 159 true cell_Shl_sp |>.add 160 true cell_Shr_sp |>.add 262 true cell_Floor_sp |>.add 62 true op_of_sp |>.add 187 true slices_Concat_sp
theorem SrDE3_ok : SrDE3.OK Tryz.prog := (((((((((((SrDE2_ok).add_ok dbl_Neg_good).add_ok dbl_UMul_good).add_ok dbl_UMod_good).add_ok dbl_fits_good).add_ok cell_Flag_good).add_ok cell_Within_good).add_ok cell_Shl_good).add_ok cell_Shr_good).add_ok cell_Floor_good).add_ok op_of_good).add_ok slices_Concat_good
/-! f176 tenterhook/dbl.Mul -/
def dbl_Mul_h0 : Hints := Hints.nil 0
theorem dbl_Mul_h0_ok : dbl_Mul_h0.OK Tryz.prog (bodyOf Tryz.f176) := Hints.nil_ok
abbrev dbl_Mul_R : Type := (Int × Int)
noncomputable def dbl_Mul_t {γ : Type} (a0 : Int) (a1 : Int) (k : dbl_Mul_R → Option γ) : Option γ := cond (decide (a0 < (0 : Int))) (cond (decide (a1 < (0 : Int))) (k (Prod.fst (dbl_UMul a0 a1), IntKind.wrap IntKind.i64 (IntKind.wrap IntKind.i64 (Prod.snd (dbl_UMul a0 a1) - a1) - a0))) (k (Prod.fst (dbl_UMul a0 a1), IntKind.wrap IntKind.i64 (Prod.snd (dbl_UMul a0 a1) - a1)))) (cond (decide (a1 < (0 : Int))) (k (Prod.fst (dbl_UMul a0 a1), IntKind.wrap IntKind.i64 (Prod.snd (dbl_UMul a0 a1) - a0))) (k (Prod.fst (dbl_UMul a0 a1), Prod.snd (dbl_UMul a0 a1))))
noncomputable def dbl_Mul (a0 : Int) (a1 : Int) : Option dbl_Mul_R := dbl_Mul_t a0 a1 some
theorem dbl_Mul_t_eq {γ : Type} (a0 : Int) (a1 : Int) (k : dbl_Mul_R → Option γ) : dbl_Mul_t a0 a1 k = outOf (dbl_Mul a0 a1) k := by
  delta dbl_Mul dbl_Mul_t; exact (Tr.nd (Tr.nd Tr.lf Tr.lf) (Tr.nd Tr.lf Tr.lf))
noncomputable def dbl_Mul_sp : TX.Spec := specD [.val (.int .i64), .val (.int .i64)] [] fun _ a m k => match a, m with | ⟨a0, a1, _⟩, _ => outOf (dbl_Mul a0 a1) fun v => k (.agg [.lit (.int .i64 v.1), .lit (.int .i64 v.2)]) []
theorem dbl_Mul_ev {α : Type} (a0 : Int) (a1 : Int) (k : Kont α) : evFun Tryz.prog SrDE3 (dbl_Mul_h0) false Tryz.f176 (bodyOf Tryz.f176) 60 (mkS [.val (.int .i64), .val (.int .i64)] (a0, a1, ())) (mkH [] ()) k = outOf (dbl_Mul a0 a1) fun v => k (.agg [.lit (.int .i64 v.1), .lit (.int .i64 v.2)]) [] :=
  (show _ = dbl_Mul_t a0 a1 (fun v => k (.agg [.lit (.int .i64 v.1), .lit (.int .i64 v.2)]) []) from by kernel_rfl).trans (dbl_Mul_t_eq a0 a1 _)
theorem dbl_Mul_good : TX.Good Tryz.prog 176 dbl_Mul_sp := good_form SrDE3_ok mixed Tryz.func176 (body_of rfl) (by kernel_rfl) false fun α a m k r h => by
  obtain ⟨a0, a1, _⟩ := a; obtain _ := m
  exact ⟨dbl_Mul_h0, 60, dbl_Mul_h0_ok, rfl, (dbl_Mul_ev a0 a1 k).trans h⟩
/-! f320 tenterhook/dbl.abs -/
def dbl_abs_h0 : Hints := Hints.nil 0
theorem dbl_abs_h0_ok : dbl_abs_h0.OK Tryz.prog (bodyOf Tryz.f320) := Hints.nil_ok
abbrev dbl_abs_R : Type := (Int × Int)
noncomputable def dbl_abs_t {γ : Type} (a0_0 : Int) (a0_1 : Int) (k : dbl_abs_R → Option γ) : Option γ := cond (decide (a0_1 < (0 : Int))) (outOf (dbl_Neg a0_0 a0_1) fun (x1 : (Int × Int)) => k (x1.1, x1.2)) (k (a0_0, a0_1))
noncomputable def dbl_abs (a0_0 : Int) (a0_1 : Int) : Option dbl_abs_R := dbl_abs_t a0_0 a0_1 some
theorem dbl_abs_t_eq {γ : Type} (a0_0 : Int) (a0_1 : Int) (k : dbl_abs_R → Option γ) : dbl_abs_t a0_0 a0_1 k = outOf (dbl_abs a0_0 a0_1) k := by
  delta dbl_abs dbl_abs_t; exact (Tr.nd (Tr.bd fun x1 => Tr.lf) Tr.lf)
noncomputable def dbl_abs_sp : TX.Spec := specD [.agg (.pair (.int .i64) (.int .i64))] [] fun _ a m k => match a, m with | ⟨⟨a0_0, a0_1⟩, _⟩, _ => outOf (dbl_abs a0_0 a0_1) fun v => k (.agg [.lit (.int .i64 v.1), .lit (.int .i64 v.2)]) []
theorem dbl_abs_ev {α : Type} (a0_0 : Int) (a0_1 : Int) (k : Kont α) : evFun Tryz.prog SrDE3 (dbl_abs_h0) false Tryz.f320 (bodyOf Tryz.f320) 60 (mkS [.agg (.pair (.int .i64) (.int .i64))] ((a0_0, a0_1), ())) (mkH [] ()) k = outOf (dbl_abs a0_0 a0_1) fun v => k (.agg [.lit (.int .i64 v.1), .lit (.int .i64 v.2)]) [] :=
  (show _ = dbl_abs_t a0_0 a0_1 (fun v => k (.agg [.lit (.int .i64 v.1), .lit (.int .i64 v.2)]) []) from by kernel_rfl).trans (dbl_abs_t_eq a0_0 a0_1 _)
theorem dbl_abs_good : TX.Good Tryz.prog 320 dbl_abs_sp := good_form SrDE3_ok mixed Tryz.func320 (body_of rfl) (by kernel_rfl) false fun α a m k r h => by
  obtain ⟨⟨a0_0, a0_1⟩, _⟩ := a; obtain _ := m
  exact ⟨dbl_abs_h0, 60, dbl_abs_h0_ok, rfl, (dbl_abs_ev a0_0 a0_1 k).trans h⟩
/-! f44 tenterhook/op.Needs -/
def op_Needs_h0 : Hints := Hints.nil 0
theorem op_Needs_h0_ok : op_Needs_h0.OK Tryz.prog (bodyOf Tryz.f44) := Hints.nil_ok
abbrev op_Needs_R : Type := (Int)
noncomputable def op_Needs_t {γ : Type} (a0 : Int) (k : op_Needs_R → Option γ) : Option γ := outOf (op_of a0) fun (x1 : (Int × (Int × (Int × Bool)))) => k x1.1
noncomputable def op_Needs (a0 : Int) : Option op_Needs_R := op_Needs_t a0 some
theorem op_Needs_t_eq {γ : Type} (a0 : Int) (k : op_Needs_R → Option γ) : op_Needs_t a0 k = outOf (op_Needs a0) k := by
  delta op_Needs op_Needs_t; exact (Tr.bd fun x1 => Tr.lf)
noncomputable def op_Needs_sp : TX.Spec := specD [.val (.int .i64)] [] fun _ a m k => match a, m with | ⟨a0, _⟩, _ => outOf (op_Needs a0) fun v => k (.lit (.int .i64 v)) []
theorem op_Needs_ev {α : Type} (a0 : Int) (k : Kont α) : evFun Tryz.prog SrDE3 (op_Needs_h0) false Tryz.f44 (bodyOf Tryz.f44) 60 (mkS [.val (.int .i64)] (a0, ())) (mkH [] ()) k = outOf (op_Needs a0) fun v => k (.lit (.int .i64 v)) [] :=
  (show _ = op_Needs_t a0 (fun v => k (.lit (.int .i64 v)) []) from by kernel_rfl).trans (op_Needs_t_eq a0 _)
theorem op_Needs_good : TX.Good Tryz.prog 44 op_Needs_sp := good_form SrDE3_ok mixed Tryz.func44 (body_of rfl) (by kernel_rfl) false fun α a m k r h => by
  obtain ⟨a0, _⟩ := a; obtain _ := m
  exact ⟨op_Needs_h0, 60, op_Needs_h0_ok, rfl, (op_Needs_ev a0 k).trans h⟩
/-! f43 tenterhook/op.Group -/
def op_Group_h0 : Hints := Hints.nil 0
theorem op_Group_h0_ok : op_Group_h0.OK Tryz.prog (bodyOf Tryz.f43) := Hints.nil_ok
abbrev op_Group_R : Type := (Int)
noncomputable def op_Group_t {γ : Type} (a0 : Int) (k : op_Group_R → Option γ) : Option γ := outOf (op_of a0) fun (x1 : (Int × (Int × (Int × Bool)))) => k x1.2.2.1
noncomputable def op_Group (a0 : Int) : Option op_Group_R := op_Group_t a0 some
theorem op_Group_t_eq {γ : Type} (a0 : Int) (k : op_Group_R → Option γ) : op_Group_t a0 k = outOf (op_Group a0) k := by
  delta op_Group op_Group_t; exact (Tr.bd fun x1 => Tr.lf)
noncomputable def op_Group_sp : TX.Spec := specD [.val (.int .i64)] [] fun _ a m k => match a, m with | ⟨a0, _⟩, _ => outOf (op_Group a0) fun v => k (.lit (.int .i64 v)) []
theorem op_Group_ev {α : Type} (a0 : Int) (k : Kont α) : evFun Tryz.prog SrDE3 (op_Group_h0) false Tryz.f43 (bodyOf Tryz.f43) 60 (mkS [.val (.int .i64)] (a0, ())) (mkH [] ()) k = outOf (op_Group a0) fun v => k (.lit (.int .i64 v)) [] :=
  (show _ = op_Group_t a0 (fun v => k (.lit (.int .i64 v)) []) from by kernel_rfl).trans (op_Group_t_eq a0 _)
theorem op_Group_good : TX.Good Tryz.prog 43 op_Group_sp := good_form SrDE3_ok mixed Tryz.func43 (body_of rfl) (by kernel_rfl) false fun α a m k r h => by
  obtain ⟨a0, _⟩ := a; obtain _ := m
  exact ⟨op_Group_h0, 60, op_Group_h0_ok, rfl, (op_Group_ev a0 k).trans h⟩
/-! f74 tenterhook/stk.Push -/
def stk_Push_h0 : Hints := Hints.nil 0
theorem stk_Push_h0_ok : stk_Push_h0.OK Tryz.prog (bodyOf Tryz.f74) := Hints.nil_ok
abbrev stk_Push_R : Type := ((List Int) × Int)
noncomputable def stk_Push_t {γ : Type} (a0 : (List Int)) (a1 : Int) (a2 : (List Int)) (k : stk_Push_R → Option γ) : Option γ := cond (decide (IntKind.wrap IntKind.i64 ((↑(List.length a0) : Int) + (↑(List.length a2) : Int)) > a1)) (k (a0, (-3 : Int))) (outOf (slices_Concat [a0, a2]) fun (x1 : (List Int)) => k (x1, (0 : Int)))
noncomputable def stk_Push (a0 : (List Int)) (a1 : Int) (a2 : (List Int)) : Option stk_Push_R := stk_Push_t a0 a1 a2 some
theorem stk_Push_t_eq {γ : Type} (a0 : (List Int)) (a1 : Int) (a2 : (List Int)) (k : stk_Push_R → Option γ) : stk_Push_t a0 a1 a2 k = outOf (stk_Push a0 a1 a2) k := by
  delta stk_Push stk_Push_t; exact (Tr.nd Tr.lf (Tr.bd fun x1 => Tr.lf))
noncomputable def stk_Push_sp : TX.Spec := specD [.val (.sl (.int .i64)), .val (.int .i64), .val (.sl (.int .i64))] [] fun _ a m k => match a, m with | ⟨a0, a1, a2, _⟩, _ => outOf (stk_Push a0 a1 a2) fun v => k (.tup [.sl (.int .i64) v.1 false, .lit (.int .i64 v.2)]) []
theorem stk_Push_ev {α : Type} (a0 : (List Int)) (a1 : Int) (a2 : (List Int)) (k : Kont α) : evFun Tryz.prog SrDE3 (stk_Push_h0) false Tryz.f74 (bodyOf Tryz.f74) 60 (mkS [.val (.sl (.int .i64)), .val (.int .i64), .val (.sl (.int .i64))] (a0, a1, a2, ())) (mkH [] ()) k = outOf (stk_Push a0 a1 a2) fun v => k (.tup [.sl (.int .i64) v.1 false, .lit (.int .i64 v.2)]) [] :=
  (show _ = stk_Push_t a0 a1 a2 (fun v => k (.tup [.sl (.int .i64) v.1 false, .lit (.int .i64 v.2)]) []) from by kernel_rfl).trans (stk_Push_t_eq a0 a1 a2 _)
theorem stk_Push_good : TX.Good Tryz.prog 74 stk_Push_sp := good_form SrDE3_ok mixed Tryz.func74 (body_of rfl) (by kernel_rfl) false fun α a m k r h => by
  obtain ⟨a0, a1, a2, _⟩ := a; obtain _ := m
  exact ⟨stk_Push_h0, 60, stk_Push_h0_ok, rfl, (stk_Push_ev a0 a1 a2 k).trans h⟩
/-! f259 tenterhook/stk.Roll -/
def stk_Roll_h0 : Hints := Hints.nil 0
theorem stk_Roll_h0_ok : stk_Roll_h0.OK Tryz.prog (bodyOf Tryz.f259) := Hints.nil_ok
abbrev stk_Roll_R : Type := ((List Int) × Int)
noncomputable def stk_Roll_t {γ : Type} (a0 : (List Int)) (a1 : Int) (k : stk_Roll_R → Option γ) : Option γ := outOf (stk_Pick a0 a1) fun (x1 : (Int × Int)) => cond (x1.2 != (0 : Int)) (k (a0, x1.2)) (cond (decide ((0 : Int) ≤ (0 : Int) ∧ (0 : Int) ≤ IntKind.wrap IntKind.i64 (IntKind.wrap IntKind.i64 ((↑(List.length a0) : Int) - (1 : Int)) - a1) ∧ IntKind.wrap IntKind.i64 (IntKind.wrap IntKind.i64 ((↑(List.length a0) : Int) - (1 : Int)) - a1) ≤ (↑(List.length a0) : Int))) (cond (decide ((0 : Int) ≤ IntKind.wrap IntKind.i64 (IntKind.wrap IntKind.i64 (IntKind.wrap IntKind.i64 ((↑(List.length a0) : Int) - (1 : Int)) - a1) + (1 : Int)) ∧ IntKind.wrap IntKind.i64 (IntKind.wrap IntKind.i64 (IntKind.wrap IntKind.i64 ((↑(List.length a0) : Int) - (1 : Int)) - a1) + (1 : Int)) ≤ (↑(List.length a0) : Int) ∧ (↑(List.length a0) : Int) ≤ (↑(List.length a0) : Int))) (outOf (slices_Concat [List.take (Int.toNat (IntKind.wrap IntKind.i64 (IntKind.wrap IntKind.i64 ((↑(List.length a0) : Int) - (1 : Int)) - a1)) - (0 : Nat)) (List.drop (0 : Nat) a0), List.take (Int.toNat (↑(List.length a0) : Int) - Int.toNat (IntKind.wrap IntKind.i64 (IntKind.wrap IntKind.i64 (IntKind.wrap IntKind.i64 ((↑(List.length a0) : Int) - (1 : Int)) - a1) + (1 : Int)))) (List.drop (Int.toNat (IntKind.wrap IntKind.i64 (IntKind.wrap IntKind.i64 (IntKind.wrap IntKind.i64 ((↑(List.length a0) : Int) - (1 : Int)) - a1) + (1 : Int)))) a0), [x1.1]]) fun (x2 : (List Int)) => k (x2, (0 : Int))) (none)) (none))
noncomputable def stk_Roll (a0 : (List Int)) (a1 : Int) : Option stk_Roll_R := stk_Roll_t a0 a1 some
theorem stk_Roll_t_eq {γ : Type} (a0 : (List Int)) (a1 : Int) (k : stk_Roll_R → Option γ) : stk_Roll_t a0 a1 k = outOf (stk_Roll a0 a1) k := by
  delta stk_Roll stk_Roll_t; exact (Tr.bd fun x1 => (Tr.nd Tr.lf (Tr.nd (Tr.nd (Tr.bd fun x2 => Tr.lf) Tr.no) Tr.no)))
noncomputable def stk_Roll_sp : TX.Spec := specD [.val (.sl (.int .i64)), .val (.int .i64)] [] fun _ a m k => match a, m with | ⟨a0, a1, _⟩, _ => outOf (stk_Roll a0 a1) fun v => k (.tup [.sl (.int .i64) v.1 false, .lit (.int .i64 v.2)]) []
theorem stk_Roll_ev {α : Type} (a0 : (List Int)) (a1 : Int) (k : Kont α) : evFun Tryz.prog SrDE3 (stk_Roll_h0) false Tryz.f259 (bodyOf Tryz.f259) 60 (mkS [.val (.sl (.int .i64)), .val (.int .i64)] (a0, a1, ())) (mkH [] ()) k = outOf (stk_Roll a0 a1) fun v => k (.tup [.sl (.int .i64) v.1 false, .lit (.int .i64 v.2)]) [] :=
  (show _ = stk_Roll_t a0 a1 (fun v => k (.tup [.sl (.int .i64) v.1 false, .lit (.int .i64 v.2)]) []) from by kernel_rfl).trans (stk_Roll_t_eq a0 a1 _)
theorem stk_Roll_good : TX.Good Tryz.prog 259 stk_Roll_sp := good_form SrDE3_ok mixed Tryz.func259 (body_of rfl) (by kernel_rfl) false fun α a m k r h => by
  obtain ⟨a0, a1, _⟩ := a; obtain _ := m
  exact ⟨stk_Roll_h0, 60, stk_Roll_h0_ok, rfl, (stk_Roll_ev a0 a1 k).trans h⟩
noncomputable def SrDE4 : Env := SrDE3.add 176 true dbl_Mul_sp |>.add 320 true dbl_abs_sp |>.add 44 true op_Needs_sp |>.add 43 true op_Group_sp |>.add 74 true stk_Push_sp |>.add 259 true stk_Roll_sp
theorem SrDE4_ok : SrDE4.OK Tryz.prog := ((((((SrDE3_ok).add_ok dbl_Mul_good).add_ok dbl_abs_good).add_ok op_Needs_good).add_ok op_Group_good).add_ok stk_Push_good).add_ok stk_Roll_good
/-! f272 tenterhook/dbl.split -/
def dbl_split_h0 : Hints := Hints.nil 0
theorem dbl_split_h0_ok : dbl_split_h0.OK Tryz.prog (bodyOf Tryz.f272) := Hints.nil_ok
def dbl_split_M1_A : List SD := [.any, .val (.int .i64), .loc 0 0 0, .any, .any, .loc 1 0 0, .any, .val (.int .i64), .any, .any, .any, .any, .any, .any, .any, .any, .any, .any, .any, .any, .any, .any, .any, .any, .any, .any, .any, .any, .any, .any, .any, .any, .any, .any, .any, .any, .any, .any, .any, .any]
def dbl_split_M1_H : List HD := [.box [.val (.int .i64), .val (.int .i64)], .box [.val (.int .i64), .val (.int .i64)]]
abbrev dbl_split_M1_D : Type := Int × Int × Int × Int × Int × Int
def dbl_split_M1_to (a : DenS dbl_split_M1_A) (m : DenH dbl_split_M1_H) : dbl_split_M1_D := (a.2.1, a.2.2.2.2.2.2.2.1, m.1.1, m.1.2.1, m.2.1.1, m.2.1.2.1)
def dbl_split_M1_ofA (d : dbl_split_M1_D) : DenS dbl_split_M1_A := match d with | (s1, s7, m0_0, m0_1, m1_0, m1_1) => ((), s1, (), (), (), (), (), s7, (), (), (), (), (), (), (), (), (), (), (), (), (), (), (), (), (), (), (), (), (), (), (), (), (), (), (), (), (), (), (), (), ())
def dbl_split_M1_ofH (d : dbl_split_M1_D) : DenH dbl_split_M1_H := match d with | (s1, s7, m0_0, m0_1, m1_0, m1_1) => ((m0_0, m0_1, ()), (m1_0, m1_1, ()), ())
def dbl_split_M1_N : Norm := (⟨[1, 2, 5, 7], [], []⟩ : Go.TX.Norm)
def dbl_split_M1_X : Exit → Norm := fun e => match e with | .normal => ⟨[1, 2, 5, 7], [], []⟩ | _ => ⟨[], [], []⟩
abbrev dbl_split_M1_R : Type := (Int)
def dbl_split_M1_fin (d : dbl_split_M1_D) (v : dbl_split_M1_R) : Exit × St := (.normal, ⟨[.any, .lit (.int .i64 d.1), .ptr 0 0 0, .any, .any, .ptr 1 0 0, .any, .lit (.int .i64 v), .any, .any, .any, .any, .any, .any, .any, .any, .any, .any, .any, .any, .any, .any, .any, .any, .any, .any, .any, .any, .any, .any, .any, .any, .any, .any, .any, .any, .any, .any, .any, .any], [.box [.lit (.int .i64 d.2.2.1), .lit (.int .i64 d.2.2.2.1)], .box [.lit (.int .i64 d.2.2.2.2.1), .lit (.int .i64 d.2.2.2.2.2)]]⟩)
noncomputable def dbl_split_M1_t {γ : Type} (s1 : Int) (s7 : Int) (k : dbl_split_M1_R → Option γ) : Option γ := cond (decide (s1 < (0 : Int))) (k (IntKind.wrap IntKind.i64 ((0 : Int) - s1))) (k (s7))
noncomputable def dbl_split_M1 (s1 : Int) (s7 : Int) : Option dbl_split_M1_R := dbl_split_M1_t s1 s7 some
theorem dbl_split_M1_t_eq {γ : Type} (s1 : Int) (s7 : Int) (k : dbl_split_M1_R → Option γ) : dbl_split_M1_t s1 s7 k = outOf (dbl_split_M1 s1 s7) k := by
  delta dbl_split_M1 dbl_split_M1_t; exact (Tr.nd Tr.lf Tr.lf)
theorem dbl_split_M1_ev (α : Type) (d : dbl_split_M1_D) (k : Exit → St → Option α) : ev Tryz.prog SrDE4 dbl_split_h0 60 [0, 1, 1] ((codeAt (bodyOf Tryz.f272) [0, 1, 1]).getD .skip) ⟨mkS dbl_split_M1_A (dbl_split_M1_ofA d), mkH dbl_split_M1_H (dbl_split_M1_ofH d)⟩ (exitN 0 dbl_split_M1_X k) = outOf (dbl_split_M1 d.1 d.2.1) fun x => k (dbl_split_M1_fin d x).1 (dbl_split_M1_fin d x).2 := by
  obtain ⟨s1, s7, m0_0, m0_1, m1_0, m1_1⟩ := d
  exact (show _ = dbl_split_M1_t s1 s7 (fun x => k (dbl_split_M1_fin (s1, s7, m0_0, m0_1, m1_0, m1_1) x).1 (dbl_split_M1_fin (s1, s7, m0_0, m0_1, m1_0, m1_1) x).2) from by kernel_rfl).trans (dbl_split_M1_t_eq s1 s7 _)
noncomputable def dbl_split_M1_sp : CSpec := fun _ st k => reNorm 0 dbl_split_M1_N dbl_split_M1_A dbl_split_M1_H st fun a m => outOf (dbl_split_M1 (dbl_split_M1_to a m).1 (dbl_split_M1_to a m).2.1) fun v => k .normal ⟨[.any, .lit (.int .i64 (dbl_split_M1_to a m).1), .ptr 0 0 0, .any, .any, .ptr 1 0 0, .any, .lit (.int .i64 v), .any, .any, .any, .any, .any, .any, .any, .any, .any, .any, .any, .any, .any, .any, .any, .any, .any, .any, .any, .any, .any, .any, .any, .any, .any, .any, .any, .any, .any, .any, .any, .any], [.box [.lit (.int .i64 (dbl_split_M1_to a m).2.2.1), .lit (.int .i64 (dbl_split_M1_to a m).2.2.2.1)], .box [.lit (.int .i64 (dbl_split_M1_to a m).2.2.2.2.1), .lit (.int .i64 (dbl_split_M1_to a m).2.2.2.2.2)]]⟩
theorem dbl_split_M1_ok : SumOK Tryz.prog 0 ((codeAt (bodyOf Tryz.f272) [0, 1, 1]).getD .skip) dbl_split_M1_sp := (SumOK.once SrDE4_ok mixed dbl_split_h0_ok (show codeAt (bodyOf Tryz.f272) [0, 1, 1] = some ((codeAt (bodyOf Tryz.f272) [0, 1, 1]).getD .skip) from by kernel_rfl) (N := dbl_split_M1_N) (Nx := dbl_split_M1_X) (A := dbl_split_M1_A) (Hs := dbl_split_M1_H) (toD := dbl_split_M1_to) (ofA := dbl_split_M1_ofA) (ofH := dbl_split_M1_ofH) (fun _ _ => rfl) (fun _ _ => rfl) (M := fun d => dbl_split_M1 d.1 d.2.1) (fin := dbl_split_M1_fin) 60 dbl_split_M1_ev).mono fun α st k r h => by
  refine Eq.trans (congrArg (reNorm 0 dbl_split_M1_N dbl_split_M1_A dbl_split_M1_H st) ?_) h
  funext a m
  exact outOf_congr fun x => rfl
noncomputable def dbl_split_M1_h : Hints := dbl_split_h0.add [0, 1, 1] dbl_split_M1_sp
theorem dbl_split_M1_h_ok : dbl_split_M1_h.OK Tryz.prog (bodyOf Tryz.f272) := dbl_split_h0_ok.add (show codeAt (bodyOf Tryz.f272) [0, 1, 1] = some ((codeAt (bodyOf Tryz.f272) [0, 1, 1]).getD .skip) from by kernel_rfl) dbl_split_M1_ok
def dbl_split_M2_A : List SD := [.any, .val (.int .i64), .loc 0 0 0, .any, .any, .loc 1 0 0, .any, .any, .val (.int .i64), .loc 2 0 0, .any, .any, .any, .any, .any, .any, .any, .any, .any, .any, .any, .any, .any, .any, .any, .any, .any, .any, .any, .any, .any, .any, .any, .any, .any, .any, .any, .any, .any, .any]
def dbl_split_M2_H : List HD := [.box [.val (.int .i64), .val (.int .i64)], .box [.val (.int .i64), .val (.int .i64)], .box [.val (.int .i64), .val (.int .i64)]]
abbrev dbl_split_M2_D : Type := Int × Int × Int × Int × Int × Int × Int × Int
def dbl_split_M2_to (a : DenS dbl_split_M2_A) (m : DenH dbl_split_M2_H) : dbl_split_M2_D := (a.2.1, a.2.2.2.2.2.2.2.2.1, m.1.1, m.1.2.1, m.2.1.1, m.2.1.2.1, m.2.2.1.1, m.2.2.1.2.1)
def dbl_split_M2_ofA (d : dbl_split_M2_D) : DenS dbl_split_M2_A := match d with | (s1, s8, m0_0, m0_1, m1_0, m1_1, m2_0, m2_1) => ((), s1, (), (), (), (), (), (), s8, (), (), (), (), (), (), (), (), (), (), (), (), (), (), (), (), (), (), (), (), (), (), (), (), (), (), (), (), (), (), (), ())
def dbl_split_M2_ofH (d : dbl_split_M2_D) : DenH dbl_split_M2_H := match d with | (s1, s8, m0_0, m0_1, m1_0, m1_1, m2_0, m2_1) => ((m0_0, m0_1, ()), (m1_0, m1_1, ()), (m2_0, m2_1, ()), ())
def dbl_split_M2_N : Norm := (⟨[1, 2, 5, 8, 9], [], []⟩ : Go.TX.Norm)
def dbl_split_M2_X : Exit → Norm := fun e => match e with | .normal => ⟨[1, 2, 5, 8, 9], [], []⟩ | _ => ⟨[], [], []⟩
abbrev dbl_split_M2_R : Type := (Int)
def dbl_split_M2_fin (d : dbl_split_M2_D) (v : dbl_split_M2_R) : Exit × St := (.normal, ⟨[.any, .lit (.int .i64 d.1), .ptr 0 0 0, .any, .any, .ptr 1 0 0, .any, .any, .lit (.int .i64 v), .ptr 2 0 0, .any, .any, .any, .any, .any, .any, .any, .any, .any, .any, .any, .any, .any, .any, .any, .any, .any, .any, .any, .any, .any, .any, .any, .any, .any, .any, .any, .any, .any, .any], [.box [.lit (.int .i64 d.2.2.1), .lit (.int .i64 d.2.2.2.1)], .box [.lit (.int .i64 d.2.2.2.2.1), .lit (.int .i64 d.2.2.2.2.2.1)], .box [.lit (.int .i64 d.2.2.2.2.2.2.1), .lit (.int .i64 d.2.2.2.2.2.2.2)]]⟩)
noncomputable def dbl_split_M2_t {γ : Type} (s8 : Int) (m0_1 : Int) (k : dbl_split_M2_R → Option γ) : Option γ := cond (decide (m0_1 < (0 : Int))) (k (IntKind.wrap IntKind.i64 ((0 : Int) - s8))) (k (s8))
noncomputable def dbl_split_M2 (s8 : Int) (m0_1 : Int) : Option dbl_split_M2_R := dbl_split_M2_t s8 m0_1 some
theorem dbl_split_M2_t_eq {γ : Type} (s8 : Int) (m0_1 : Int) (k : dbl_split_M2_R → Option γ) : dbl_split_M2_t s8 m0_1 k = outOf (dbl_split_M2 s8 m0_1) k := by
  delta dbl_split_M2 dbl_split_M2_t; exact (Tr.nd Tr.lf Tr.lf)
theorem dbl_split_M2_ev (α : Type) (d : dbl_split_M2_D) (k : Exit → St → Option α) : ev Tryz.prog SrDE4 dbl_split_M1_h 60 [0, 1, 1, 1, 1] ((codeAt (bodyOf Tryz.f272) [0, 1, 1, 1, 1]).getD .skip) ⟨mkS dbl_split_M2_A (dbl_split_M2_ofA d), mkH dbl_split_M2_H (dbl_split_M2_ofH d)⟩ (exitN 0 dbl_split_M2_X k) = outOf (dbl_split_M2 d.2.1 d.2.2.2.1) fun x => k (dbl_split_M2_fin d x).1 (dbl_split_M2_fin d x).2 := by
  obtain ⟨s1, s8, m0_0, m0_1, m1_0, m1_1, m2_0, m2_1⟩ := d
  exact (show _ = dbl_split_M2_t s8 m0_1 (fun x => k (dbl_split_M2_fin (s1, s8, m0_0, m0_1, m1_0, m1_1, m2_0, m2_1) x).1 (dbl_split_M2_fin (s1, s8, m0_0, m0_1, m1_0, m1_1, m2_0, m2_1) x).2) from by kernel_rfl).trans (dbl_split_M2_t_eq s8 m0_1 _)
noncomputable def dbl_split_M2_sp : CSpec := fun _ st k => reNorm 0 dbl_split_M2_N dbl_split_M2_A dbl_split_M2_H st fun a m => outOf (dbl_split_M2 (dbl_split_M2_to a m).2.1 (dbl_split_M2_to a m).2.2.2.1) fun v => k .normal ⟨[.any, .lit (.int .i64 (dbl_split_M2_to a m).1), .ptr 0 0 0, .any, .any, .ptr 1 0 0, .any, .any, .lit (.int .i64 v), .ptr 2 0 0, .any, .any, .any, .any, .any, .any, .any, .any, .any, .any, .any, .any, .any, .any, .any, .any, .any, .any, .any, .any, .any, .any, .any, .any, .any, .any, .any, .any, .any, .any], [.box [.lit (.int .i64 (dbl_split_M2_to a m).2.2.1), .lit (.int .i64 (dbl_split_M2_to a m).2.2.2.1)], .box [.lit (.int .i64 (dbl_split_M2_to a m).2.2.2.2.1), .lit (.int .i64 (dbl_split_M2_to a m).2.2.2.2.2.1)], .box [.lit (.int .i64 (dbl_split_M2_to a m).2.2.2.2.2.2.1), .lit (.int .i64 (dbl_split_M2_to a m).2.2.2.2.2.2.2)]]⟩
theorem dbl_split_M2_ok : SumOK Tryz.prog 0 ((codeAt (bodyOf Tryz.f272) [0, 1, 1, 1, 1]).getD .skip) dbl_split_M2_sp := (SumOK.once SrDE4_ok mixed dbl_split_M1_h_ok (show codeAt (bodyOf Tryz.f272) [0, 1, 1, 1, 1] = some ((codeAt (bodyOf Tryz.f272) [0, 1, 1, 1, 1]).getD .skip) from by kernel_rfl) (N := dbl_split_M2_N) (Nx := dbl_split_M2_X) (A := dbl_split_M2_A) (Hs := dbl_split_M2_H) (toD := dbl_split_M2_to) (ofA := dbl_split_M2_ofA) (ofH := dbl_split_M2_ofH) (fun _ _ => rfl) (fun _ _ => rfl) (M := fun d => dbl_split_M2 d.2.1 d.2.2.2.1) (fin := dbl_split_M2_fin) 60 dbl_split_M2_ev).mono fun α st k r h => by
  refine Eq.trans (congrArg (reNorm 0 dbl_split_M2_N dbl_split_M2_A dbl_split_M2_H st) ?_) h
  funext a m
  exact outOf_congr fun x => rfl
noncomputable def dbl_split_M2_h : Hints := dbl_split_M1_h.add [0, 1, 1, 1, 1] dbl_split_M2_sp
theorem dbl_split_M2_h_ok : dbl_split_M2_h.OK Tryz.prog (bodyOf Tryz.f272) := dbl_split_M1_h_ok.add (show codeAt (bodyOf Tryz.f272) [0, 1, 1, 1, 1] = some ((codeAt (bodyOf Tryz.f272) [0, 1, 1, 1, 1]).getD .skip) from by kernel_rfl) dbl_split_M2_ok
abbrev dbl_split_R : Type := (Int × Int × Int × Bool)
noncomputable def dbl_split_t {γ : Type} (a0_0 : Int) (a0_1 : Int) (a1 : Int) (k : dbl_split_R → Option γ) : Option γ := outOf (dbl_split_M1 a1 a1) fun (x7 : Int) => outOf (dbl_abs a0_0 a0_1) fun (x8 : (Int × Int)) => outOf (dbl_long x8.1 x8.2 x7) fun (x9 : (Int × (Int × Int))) => outOf (dbl_split_M2 x9.1 a0_1) fun (x10 : Int) => cond (decide (ibits BinOp.xor IntKind.i64 a0_1 a1 < (0 : Int))) (outOf (dbl_Neg x9.2.1 x9.2.2) fun (x11 : (Int × Int)) => k (x10, x11.1, x11.2, true)) (k (x10, x9.2.1, x9.2.2, decide (x9.2.2 ≥ (0 : Int))))
noncomputable def dbl_split (a0_0 : Int) (a0_1 : Int) (a1 : Int) : Option dbl_split_R := dbl_split_t a0_0 a0_1 a1 some
theorem dbl_split_t_eq {γ : Type} (a0_0 : Int) (a0_1 : Int) (a1 : Int) (k : dbl_split_R → Option γ) : dbl_split_t a0_0 a0_1 a1 k = outOf (dbl_split a0_0 a0_1 a1) k := by
  delta dbl_split dbl_split_t; exact (Tr.bd fun x7 => (Tr.bd fun x8 => (Tr.bd fun x9 => (Tr.bd fun x10 => (Tr.nd (Tr.bd fun x11 => Tr.lf) Tr.lf)))))
noncomputable def dbl_split_sp : TX.Spec := specD [.agg (.pair (.int .i64) (.int .i64)), .val (.int .i64)] [] fun _ a m k => match a, m with | ⟨⟨a0_0, a0_1⟩, a1, _⟩, _ => outOf (dbl_split a0_0 a0_1 a1) fun v => k (.tup [.lit (.int .i64 v.1), .agg [.lit (.int .i64 v.2.1), .lit (.int .i64 v.2.2.1)], .lit (.bool v.2.2.2)]) []
theorem dbl_split_ev {α : Type} (a0_0 : Int) (a0_1 : Int) (a1 : Int) (k : Kont α) : evFun Tryz.prog SrDE4 (dbl_split_M2_h) false Tryz.f272 (bodyOf Tryz.f272) 60 (mkS [.agg (.pair (.int .i64) (.int .i64)), .val (.int .i64)] ((a0_0, a0_1), a1, ())) (mkH [] ()) k = outOf (dbl_split a0_0 a0_1 a1) fun v => k (.tup [.lit (.int .i64 v.1), .agg [.lit (.int .i64 v.2.1), .lit (.int .i64 v.2.2.1)], .lit (.bool v.2.2.2)]) [] :=
  (show _ = dbl_split_t a0_0 a0_1 a1 (fun v => k (.tup [.lit (.int .i64 v.1), .agg [.lit (.int .i64 v.2.1), .lit (.int .i64 v.2.2.1)], .lit (.bool v.2.2.2)]) []) from by kernel_rfl).trans (dbl_split_t_eq a0_0 a0_1 a1 _)
theorem dbl_split_good : TX.Good Tryz.prog 272 dbl_split_sp := good_form SrDE4_ok mixed Tryz.func272 (body_of rfl) (by kernel_rfl) false fun α a m k r h => by
  obtain ⟨⟨a0_0, a0_1⟩, a1, _⟩ := a; obtain _ := m
  exact ⟨dbl_split_M2_h, 60, dbl_split_M2_h_ok, rfl, (dbl_split_ev a0_0 a0_1 a1 k).trans h⟩
/-! f72 tenterhook/stk.Permute -/
def stk_Permute_h0 : Hints := Hints.nil 0
theorem stk_Permute_h0_ok : stk_Permute_h0.OK Tryz.prog (bodyOf Tryz.f72) := Hints.nil_ok
def stk_Permute_L1_A : List SD := [.val (.sl (.int .i64)), .any, .any, .val (.int .i64), .any, .any, .any, .any, .any, .any, .val (.sl (.int .i64)), .val (.sl (.int .i64)), .any, .rowz 0, .any, .any, .any, .any, .any, .any, .any, .any, .any, .any, .any, .any, .any, .any, .val (.sl (.int .i64)), .val (.int .i64), .val (.int .i64), .any, .any, .any, .any, .any, .any, .any, .any, .any, .any, .any, .any, .any, .any, .any, .any, .any, .any, .any, .any, .any, .any, .any, .any, .any, .any, .any, .any, .any, .any, .any, .any]
def stk_Permute_L1_H : List HD := [.row (.int .i64)]
abbrev stk_Permute_L1_D : Type := (List Int) × Int × (List Int) × (List Int) × Nat × (List Int) × Int × Int × (List Int)
def stk_Permute_L1_to (a : DenS stk_Permute_L1_A) (m : DenH stk_Permute_L1_H) : stk_Permute_L1_D := (a.1, a.2.2.2.1, a.2.2.2.2.2.2.2.2.2.2.1, a.2.2.2.2.2.2.2.2.2.2.2.1, a.2.2.2.2.2.2.2.2.2.2.2.2.2.1, a.2.2.2.2.2.2.2.2.2.2.2.2.2.2.2.2.2.2.2.2.2.2.2.2.2.2.2.2.1, a.2.2.2.2.2.2.2.2.2.2.2.2.2.2.2.2.2.2.2.2.2.2.2.2.2.2.2.2.2.1, a.2.2.2.2.2.2.2.2.2.2.2.2.2.2.2.2.2.2.2.2.2.2.2.2.2.2.2.2.2.2.1, m.1)
def stk_Permute_L1_ofA (d : stk_Permute_L1_D) : DenS stk_Permute_L1_A := match d with | (s0, s3, s10, s11, s13_n, s28, s29, s30, m0) => (s0, (), (), s3, (), (), (), (), (), (), s10, s11, (), s13_n, (), (), (), (), (), (), (), (), (), (), (), (), (), (), s28, s29, s30, (), (), (), (), (), (), (), (), (), (), (), (), (), (), (), (), (), (), (), (), (), (), (), (), (), (), (), (), (), (), (), (), ())
def stk_Permute_L1_ofH (d : stk_Permute_L1_D) : DenH stk_Permute_L1_H := match d with | (s0, s3, s10, s11, s13_n, s28, s29, s30, m0) => (m0, ())
def stk_Permute_L1_N : Norm := (⟨[0, 3, 10, 11, 13, 28, 29, 30], [13], []⟩ : Go.TX.Norm)
def stk_Permute_L1_X : Exit → Norm := fun e => match e with | .exit 0 => ⟨[0, 3, 10, 13], [], []⟩ | .ret => ⟨[8, 9], [], []⟩ | _ => ⟨[], [], []⟩
abbrev stk_Permute_L1_R : Type := (((List Int) × Int) ⊕ ((List Int) × Int × (List Int) × Nat × (List Int)))
def stk_Permute_L1_fin (v : stk_Permute_L1_R) : Exit × St := sumOf v (fun v => (.ret, ⟨[.any, .any, .any, .any, .any, .any, .any, .any, .sl (.int .i64) v.1 false, .lit (.int .i64 v.2), .any, .any, .any, .any, .any, .any, .any, .any, .any, .any, .any, .any, .any, .any, .any, .any, .any, .any, .any, .any, .any, .any, .any, .any, .any, .any, .any, .any, .any, .any, .any, .any, .any, .any, .any, .any, .any, .any, .any, .any, .any, .any, .any, .any, .any, .any, .any, .any, .any, .any, .any, .any, .any], []⟩)) (fun v => ((.exit 0), ⟨[.sl (.int .i64) v.1 false, .any, .any, .lit (.int .i64 v.2.1), .any, .any, .any, .any, .any, .any, .sl (.int .i64) v.2.2.1 false, .any, .any, .msl 0 0 v.2.2.2.1, .any, .any, .any, .any, .any, .any, .any, .any, .any, .any, .any, .any, .any, .any, .any, .any, .any, .any, .any, .any, .any, .any, .any, .any, .any, .any, .any, .any, .any, .any, .any, .any, .any, .any, .any, .any, .any, .any, .any, .any, .any, .any, .any, .any, .any, .any, .any, .any, .any], [.row (.int .i64) v.2.2.2.2]⟩))
noncomputable def stk_Permute_L1_t {γ : Type} (s0 : (List Int)) (s3 : Int) (s10 : (List Int)) (s11 : (List Int)) (s13_n : Nat) (s28 : (List Int)) (s29 : Int) (s30 : Int) (m0 : (List Int)) (next : stk_Permute_L1_D → Option γ) (out : stk_Permute_L1_R → Option γ) : Option γ := cond (decide (s30 < s29)) (cond (decide ((0 : Int) ≤ s30 ∧ s30 < (↑(List.length s28) : Int))) (cond (decide (List.getD s28 (Int.toNat s30) (0 : Int) < (0 : Int))) (out (.inl (s0, (-4 : Int)))) (cond (decide (List.getD s28 (Int.toNat s30) (0 : Int) ≥ (↑(List.length s11) : Int))) (out (.inl (s0, (-4 : Int)))) (cond (decide ((0 : Int) ≤ List.getD s28 (Int.toNat s30) (0 : Int) ∧ List.getD s28 (Int.toNat s30) (0 : Int) < (↑(List.length s11) : Int))) (cond (decide (s13_n + List.length [List.getD s11 (Int.toNat (List.getD s28 (Int.toNat s30) (0 : Int))) (0 : Int)] ≤ (2147483648 : Nat))) (next (s0, s3, s10, s11, s13_n + List.length [List.getD s11 (Int.toNat (List.getD s28 (Int.toNat s30) (0 : Int))) (0 : Int)], s28, s29, IntKind.wrap IntKind.i64 (s30 + (1 : Int)), List.take s13_n (List.drop (0 : Nat) m0) ++ [List.getD s11 (Int.toNat (List.getD s28 (Int.toNat s30) (0 : Int))) (0 : Int)])) (none)) (none)))) (none)) (out (.inr (s0, s3, s10, s13_n, m0)))
noncomputable def stk_Permute_L1_pass (d : stk_Permute_L1_D) : Option (stk_Permute_L1_D ⊕ stk_Permute_L1_R) := stk_Permute_L1_t d.1 d.2.1 d.2.2.1 d.2.2.2.1 d.2.2.2.2.1 d.2.2.2.2.2.1 d.2.2.2.2.2.2.1 d.2.2.2.2.2.2.2.1 d.2.2.2.2.2.2.2.2 (fun d => some (.inl d)) (fun x => some (.inr x))
theorem stk_Permute_L1_t_eq {γ : Type} (s0 : (List Int)) (s3 : Int) (s10 : (List Int)) (s11 : (List Int)) (s13_n : Nat) (s28 : (List Int)) (s29 : Int) (s30 : Int) (m0 : (List Int)) (next : stk_Permute_L1_D → Option γ) (out : stk_Permute_L1_R → Option γ) : stk_Permute_L1_t s0 s3 s10 s11 s13_n s28 s29 s30 m0 next out = PassOf (stk_Permute_L1_t s0 s3 s10 s11 s13_n s28 s29 s30 m0 (fun d => some (.inl d)) (fun x => some (.inr x))) next out := by
  delta stk_Permute_L1_t; exact (Ps.nd (Ps.nd (Ps.nd Ps.ou (Ps.nd Ps.ou (Ps.nd (Ps.nd Ps.nx Ps.no) Ps.no))) Ps.no) Ps.ou)
theorem stk_Permute_L1_ev (α : Type) (d : stk_Permute_L1_D) (next : stk_Permute_L1_D → Option α) (k : Exit → St → Option α) : ev Tryz.prog SrDE4 stk_Permute_h0 60 [0, 0, 1, 0, 1, 1, 1, 1] ((codeAt (bodyOf Tryz.f72) [0, 0, 1, 0, 1, 1, 1, 1]).getD .skip) ⟨mkS stk_Permute_L1_A (stk_Permute_L1_ofA d), mkH stk_Permute_L1_H (stk_Permute_L1_ofH d)⟩ (passK 0 stk_Permute_L1_N stk_Permute_L1_A stk_Permute_L1_H stk_Permute_L1_X (fun a m => next (stk_Permute_L1_to a m)) k) = PassOf (stk_Permute_L1_pass d) next fun x => k (stk_Permute_L1_fin x).1 (stk_Permute_L1_fin x).2 := by
  obtain ⟨s0, s3, s10, s11, s13_n, s28, s29, s30, m0⟩ := d
  exact (show _ = stk_Permute_L1_t s0 s3 s10 s11 s13_n s28 s29 s30 m0 next (fun x => k (stk_Permute_L1_fin x).1 (stk_Permute_L1_fin x).2) from by kernel_rfl).trans (stk_Permute_L1_t_eq s0 s3 s10 s11 s13_n s28 s29 s30 m0 _ _)
noncomputable def stk_Permute_L1 (d : stk_Permute_L1_D) : Option stk_Permute_L1_R := runs stk_Permute_L1_pass d
noncomputable def stk_Permute_L1_sp : CSpec := fun _ st k => reNorm 0 stk_Permute_L1_N stk_Permute_L1_A stk_Permute_L1_H st fun a m => outOf (stk_Permute_L1 (stk_Permute_L1_to a m)) fun v => sumOf v (fun v => k .ret ⟨[.any, .any, .any, .any, .any, .any, .any, .any, .sl (.int .i64) v.1 false, .lit (.int .i64 v.2), .any, .any, .any, .any, .any, .any, .any, .any, .any, .any, .any, .any, .any, .any, .any, .any, .any, .any, .any, .any, .any, .any, .any, .any, .any, .any, .any, .any, .any, .any, .any, .any, .any, .any, .any, .any, .any, .any, .any, .any, .any, .any, .any, .any, .any, .any, .any, .any, .any, .any, .any, .any, .any], []⟩) (fun v => k (.exit 0) ⟨[.sl (.int .i64) v.1 false, .any, .any, .lit (.int .i64 v.2.1), .any, .any, .any, .any, .any, .any, .sl (.int .i64) v.2.2.1 false, .any, .any, .msl 0 0 v.2.2.2.1, .any, .any, .any, .any, .any, .any, .any, .any, .any, .any, .any, .any, .any, .any, .any, .any, .any, .any, .any, .any, .any, .any, .any, .any, .any, .any, .any, .any, .any, .any, .any, .any, .any, .any, .any, .any, .any, .any, .any, .any, .any, .any, .any, .any, .any, .any, .any, .any, .any], [.row (.int .i64) v.2.2.2.2]⟩)
theorem stk_Permute_L1_ok : SumOK Tryz.prog 0 (.loop ((codeAt (bodyOf Tryz.f72) [0, 0, 1, 0, 1, 1, 1, 1]).getD .skip)) stk_Permute_L1_sp := (SumOK.loop SrDE4_ok mixed stk_Permute_h0_ok (show codeAt (bodyOf Tryz.f72) [0, 1, 0, 1, 1, 1, 1] = some (.loop ((codeAt (bodyOf Tryz.f72) [0, 0, 1, 0, 1, 1, 1, 1]).getD .skip)) from by kernel_rfl) (N := stk_Permute_L1_N) (Nx := stk_Permute_L1_X) (A := stk_Permute_L1_A) (Hs := stk_Permute_L1_H) (toD := stk_Permute_L1_to) (ofA := stk_Permute_L1_ofA) (ofH := stk_Permute_L1_ofH) (fun _ _ => rfl) (fun _ _ => rfl) (pass := stk_Permute_L1_pass) (fin := stk_Permute_L1_fin) 60 stk_Permute_L1_ev (steps stk_Permute_L1_pass)).mono fun α st k r h => by
  refine Eq.trans (congrArg (reNorm 0 stk_Permute_L1_N stk_Permute_L1_A stk_Permute_L1_H st) ?_) h
  funext a m
  exact outOf_congr fun x => by rcases x with x | x <;> rfl
noncomputable def stk_Permute_L1_h : Hints := stk_Permute_h0.add [0, 1, 0, 1, 1, 1, 1] stk_Permute_L1_sp
theorem stk_Permute_L1_h_ok : stk_Permute_L1_h.OK Tryz.prog (bodyOf Tryz.f72) := stk_Permute_h0_ok.add (show codeAt (bodyOf Tryz.f72) [0, 1, 0, 1, 1, 1, 1] = some (.loop ((codeAt (bodyOf Tryz.f72) [0, 0, 1, 0, 1, 1, 1, 1]).getD .skip)) from by kernel_rfl) stk_Permute_L1_ok
abbrev stk_Permute_R : Type := ((List Int) × Int)
noncomputable def stk_Permute_t {γ : Type} (a0 : (List Int)) (a1 : Int) (a2 : (List Int)) (a3 : Int) (k : stk_Permute_R → Option γ) : Option γ := outOf (stk_Pop a0 a1) fun (x3 : ((List Int) × ((List Int) × Int))) => cond (x3.2.2 != (0 : Int)) (k (a0, x3.2.2)) (outOf (stk_Permute_L1 (a0, a3, x3.1, x3.2.1, (0 : Nat), a2, (↑(List.length a2) : Int), (0 : Int), [])) fun (x4 : List Int × Int ⊕ List Int × Int × List Int × Nat × List Int) => sumOf x4 (fun x5 => k (x5.1, x5.2)) (fun x6 => outOf (stk_Push x6.2.2.1 x6.2.1 (List.take x6.2.2.2.1 (List.drop (0 : Nat) x6.2.2.2.2))) fun (x7 : ((List Int) × Int)) => cond (x7.2 != (0 : Int)) (k (x6.1, x7.2)) (k (x7.1, (0 : Int)))))
noncomputable def stk_Permute (a0 : (List Int)) (a1 : Int) (a2 : (List Int)) (a3 : Int) : Option stk_Permute_R := stk_Permute_t a0 a1 a2 a3 some
theorem stk_Permute_t_eq {γ : Type} (a0 : (List Int)) (a1 : Int) (a2 : (List Int)) (a3 : Int) (k : stk_Permute_R → Option γ) : stk_Permute_t a0 a1 a2 a3 k = outOf (stk_Permute a0 a1 a2 a3) k := by
  delta stk_Permute stk_Permute_t; exact (Tr.bd fun x3 => (Tr.nd Tr.lf (Tr.bd fun x4 => (Tr.cs (fun x5 => Tr.lf) (fun x6 => (Tr.bd fun x7 => (Tr.nd Tr.lf Tr.lf)))))))
noncomputable def stk_Permute_sp : TX.Spec := specD [.val (.sl (.int .i64)), .val (.int .i64), .val (.sl (.int .i64)), .val (.int .i64)] [] fun _ a m k => match a, m with | ⟨a0, a1, a2, a3, _⟩, _ => outOf (stk_Permute a0 a1 a2 a3) fun v => k (.tup [.sl (.int .i64) v.1 false, .lit (.int .i64 v.2)]) []
theorem stk_Permute_ev {α : Type} (a0 : (List Int)) (a1 : Int) (a2 : (List Int)) (a3 : Int) (k : Kont α) : evFun Tryz.prog SrDE4 (stk_Permute_L1_h) false Tryz.f72 (bodyOf Tryz.f72) 60 (mkS [.val (.sl (.int .i64)), .val (.int .i64), .val (.sl (.int .i64)), .val (.int .i64)] (a0, a1, a2, a3, ())) (mkH [] ()) k = outOf (stk_Permute a0 a1 a2 a3) fun v => k (.tup [.sl (.int .i64) v.1 false, .lit (.int .i64 v.2)]) [] :=
  (show _ = stk_Permute_t a0 a1 a2 a3 (fun v => k (.tup [.sl (.int .i64) v.1 false, .lit (.int .i64 v.2)]) []) from by kernel_rfl).trans (stk_Permute_t_eq a0 a1 a2 a3 _)
theorem stk_Permute_good : TX.Good Tryz.prog 72 stk_Permute_sp := good_form SrDE4_ok mixed Tryz.func72 (body_of rfl) (by kernel_rfl) false fun α a m k r h => by
  obtain ⟨a0, a1, a2, a3, _⟩ := a; obtain _ := m
  exact ⟨stk_Permute_L1_h, 60, stk_Permute_L1_h_ok, rfl, (stk_Permute_ev a0 a1 a2 a3 k).trans h⟩
noncomputable def SrDE5 : Env := SrDE4.add 272 true dbl_split_sp |>.add 72 true stk_Permute_sp
theorem SrDE5_ok : SrDE5.OK Tryz.prog := ((SrDE4_ok).add_ok dbl_split_good).add_ok stk_Permute_good
/-! f180 tenterhook/dbl.Symm -/
def dbl_Symm_h0 : Hints := Hints.nil 0
theorem dbl_Symm_h0_ok : dbl_Symm_h0.OK Tryz.prog (bodyOf Tryz.f180) := Hints.nil_ok
abbrev dbl_Symm_R : Type := (Int × Int × Int)
noncomputable def dbl_Symm_t {γ : Type} (a0_0 : Int) (a0_1 : Int) (a1 : Int) (k : dbl_Symm_R → Option γ) : Option γ := cond (a1 == (0 : Int)) (k ((0 : Int), (0 : Int), (-10 : Int))) (outOf (dbl_split a0_0 a0_1 a1) fun (x1 : (Int × (Int × (Int × Bool)))) => outOf (dbl_fits x1.1 x1.2.1 x1.2.2.1 x1.2.2.2) fun (x2 : (Int × (Int × Int))) => k (x2.1, x2.2.1, x2.2.2))
noncomputable def dbl_Symm (a0_0 : Int) (a0_1 : Int) (a1 : Int) : Option dbl_Symm_R := dbl_Symm_t a0_0 a0_1 a1 some
theorem dbl_Symm_t_eq {γ : Type} (a0_0 : Int) (a0_1 : Int) (a1 : Int) (k : dbl_Symm_R → Option γ) : dbl_Symm_t a0_0 a0_1 a1 k = outOf (dbl_Symm a0_0 a0_1 a1) k := by
  delta dbl_Symm dbl_Symm_t; exact (Tr.nd Tr.lf (Tr.bd fun x1 => (Tr.bd fun x2 => Tr.lf)))
noncomputable def dbl_Symm_sp : TX.Spec := specD [.agg (.pair (.int .i64) (.int .i64)), .val (.int .i64)] [] fun _ a m k => match a, m with | ⟨⟨a0_0, a0_1⟩, a1, _⟩, _ => outOf (dbl_Symm a0_0 a0_1 a1) fun v => k (.tup [.lit (.int .i64 v.1), .lit (.int .i64 v.2.1), .lit (.int .i64 v.2.2)]) []
theorem dbl_Symm_ev {α : Type} (a0_0 : Int) (a0_1 : Int) (a1 : Int) (k : Kont α) : evFun Tryz.prog SrDE5 (dbl_Symm_h0) false Tryz.f180 (bodyOf Tryz.f180) 60 (mkS [.agg (.pair (.int .i64) (.int .i64)), .val (.int .i64)] ((a0_0, a0_1), a1, ())) (mkH [] ()) k = outOf (dbl_Symm a0_0 a0_1 a1) fun v => k (.tup [.lit (.int .i64 v.1), .lit (.int .i64 v.2.1), .lit (.int .i64 v.2.2)]) [] :=
  (show _ = dbl_Symm_t a0_0 a0_1 a1 (fun v => k (.tup [.lit (.int .i64 v.1), .lit (.int .i64 v.2.1), .lit (.int .i64 v.2.2)]) []) from by kernel_rfl).trans (dbl_Symm_t_eq a0_0 a0_1 a1 _)
theorem dbl_Symm_good : TX.Good Tryz.prog 180 dbl_Symm_sp := good_form SrDE5_ok mixed Tryz.func180 (body_of rfl) (by kernel_rfl) false fun α a m k r h => by
  obtain ⟨⟨a0_0, a0_1⟩, a1, _⟩ := a; obtain _ := m
  exact ⟨dbl_Symm_h0, 60, dbl_Symm_h0_ok, rfl, (dbl_Symm_ev a0_0 a0_1 a1 k).trans h⟩
/-! f179 tenterhook/dbl.Floor -/
def dbl_Floor_h0 : Hints := Hints.nil 0
theorem dbl_Floor_h0_ok : dbl_Floor_h0.OK Tryz.prog (bodyOf Tryz.f179) := Hints.nil_ok
def dbl_Floor_M1_A : List SD := [.any, .val (.int .i64), .loc 0 0 0, .any, .any, .any, .any, .val (.int .i64), .loc 1 0 0, .val .bool, .any, .any, .any, .any, .any, .any, .any, .any, .any, .any, .any, .any, .any, .any, .any, .any, .any, .any, .any, .any, .any, .any, .any, .any, .any, .any, .any, .any, .any, .any, .any]
def dbl_Floor_M1_H : List HD := [.box [.val (.int .i64), .val (.int .i64)], .box [.val (.int .i64), .val (.int .i64)]]
abbrev dbl_Floor_M1_D : Type := Int × Int × Bool × Int × Int × Int × Int
def dbl_Floor_M1_to (a : DenS dbl_Floor_M1_A) (m : DenH dbl_Floor_M1_H) : dbl_Floor_M1_D := (a.2.1, a.2.2.2.2.2.2.2.1, a.2.2.2.2.2.2.2.2.2.1, m.1.1, m.1.2.1, m.2.1.1, m.2.1.2.1)
def dbl_Floor_M1_ofA (d : dbl_Floor_M1_D) : DenS dbl_Floor_M1_A := match d with | (s1, s7, s9, m0_0, m0_1, m1_0, m1_1) => ((), s1, (), (), (), (), (), s7, (), s9, (), (), (), (), (), (), (), (), (), (), (), (), (), (), (), (), (), (), (), (), (), (), (), (), (), (), (), (), (), (), (), ())
def dbl_Floor_M1_ofH (d : dbl_Floor_M1_D) : DenH dbl_Floor_M1_H := match d with | (s1, s7, s9, m0_0, m0_1, m1_0, m1_1) => ((m0_0, m0_1, ()), (m1_0, m1_1, ()), ())
def dbl_Floor_M1_N : Norm := (⟨[1, 2, 7, 8, 9], [], []⟩ : Go.TX.Norm)
def dbl_Floor_M1_X : Exit → Norm := fun e => match e with | .normal => ⟨[1, 7, 8, 9, 27], [], []⟩ | _ => ⟨[], [], []⟩
abbrev dbl_Floor_M1_R : Type := (Bool)
def dbl_Floor_M1_fin (d : dbl_Floor_M1_D) (v : dbl_Floor_M1_R) : Exit × St := (.normal, ⟨[.any, .lit (.int .i64 d.1), .any, .any, .any, .any, .any, .lit (.int .i64 d.2.1), .ptr 0 0 0, .lit (.bool d.2.2.1), .any, .any, .any, .any, .any, .any, .any, .any, .any, .any, .any, .any, .any, .any, .any, .any, .any, .lit (.bool v), .any, .any, .any, .any, .any, .any, .any, .any, .any, .any, .any, .any, .any], [.box [.lit (.int .i64 d.2.2.2.2.2.1), .lit (.int .i64 d.2.2.2.2.2.2)]]⟩)
noncomputable def dbl_Floor_M1_t {γ : Type} (s1 : Int) (s7 : Int) (m0_1 : Int) (k : dbl_Floor_M1_R → Option γ) : Option γ := cond (s7 != (0 : Int)) (k (decide (ibits BinOp.xor IntKind.i64 m0_1 s1 < (0 : Int)))) (k (false))
noncomputable def dbl_Floor_M1 (s1 : Int) (s7 : Int) (m0_1 : Int) : Option dbl_Floor_M1_R := dbl_Floor_M1_t s1 s7 m0_1 some
theorem dbl_Floor_M1_t_eq {γ : Type} (s1 : Int) (s7 : Int) (m0_1 : Int) (k : dbl_Floor_M1_R → Option γ) : dbl_Floor_M1_t s1 s7 m0_1 k = outOf (dbl_Floor_M1 s1 s7 m0_1) k := by
  delta dbl_Floor_M1 dbl_Floor_M1_t; exact (Tr.nd Tr.lf Tr.lf)
theorem dbl_Floor_M1_ev (α : Type) (d : dbl_Floor_M1_D) (k : Exit → St → Option α) : ev Tryz.prog SrDE5 dbl_Floor_h0 60 [0, 0, 1, 1, 1] ((codeAt (bodyOf Tryz.f179) [0, 0, 1, 1, 1]).getD .skip) ⟨mkS dbl_Floor_M1_A (dbl_Floor_M1_ofA d), mkH dbl_Floor_M1_H (dbl_Floor_M1_ofH d)⟩ (exitN 0 dbl_Floor_M1_X k) = outOf (dbl_Floor_M1 d.1 d.2.1 d.2.2.2.2.1) fun x => k (dbl_Floor_M1_fin d x).1 (dbl_Floor_M1_fin d x).2 := by
  obtain ⟨s1, s7, s9, m0_0, m0_1, m1_0, m1_1⟩ := d
  exact (show _ = dbl_Floor_M1_t s1 s7 m0_1 (fun x => k (dbl_Floor_M1_fin (s1, s7, s9, m0_0, m0_1, m1_0, m1_1) x).1 (dbl_Floor_M1_fin (s1, s7, s9, m0_0, m0_1, m1_0, m1_1) x).2) from by kernel_rfl).trans (dbl_Floor_M1_t_eq s1 s7 m0_1 _)
noncomputable def dbl_Floor_M1_sp : CSpec := fun _ st k => reNorm 0 dbl_Floor_M1_N dbl_Floor_M1_A dbl_Floor_M1_H st fun a m => outOf (dbl_Floor_M1 (dbl_Floor_M1_to a m).1 (dbl_Floor_M1_to a m).2.1 (dbl_Floor_M1_to a m).2.2.2.2.1) fun v => k .normal ⟨[.any, .lit (.int .i64 (dbl_Floor_M1_to a m).1), .any, .any, .any, .any, .any, .lit (.int .i64 (dbl_Floor_M1_to a m).2.1), .ptr 0 0 0, .lit (.bool (dbl_Floor_M1_to a m).2.2.1), .any, .any, .any, .any, .any, .any, .any, .any, .any, .any, .any, .any, .any, .any, .any, .any, .any, .lit (.bool v), .any, .any, .any, .any, .any, .any, .any, .any, .any, .any, .any, .any, .any], [.box [.lit (.int .i64 (dbl_Floor_M1_to a m).2.2.2.2.2.1), .lit (.int .i64 (dbl_Floor_M1_to a m).2.2.2.2.2.2)]]⟩
theorem dbl_Floor_M1_ok : SumOK Tryz.prog 0 ((codeAt (bodyOf Tryz.f179) [0, 0, 1, 1, 1]).getD .skip) dbl_Floor_M1_sp := (SumOK.once SrDE5_ok mixed dbl_Floor_h0_ok (show codeAt (bodyOf Tryz.f179) [0, 0, 1, 1, 1] = some ((codeAt (bodyOf Tryz.f179) [0, 0, 1, 1, 1]).getD .skip) from by kernel_rfl) (N := dbl_Floor_M1_N) (Nx := dbl_Floor_M1_X) (A := dbl_Floor_M1_A) (Hs := dbl_Floor_M1_H) (toD := dbl_Floor_M1_to) (ofA := dbl_Floor_M1_ofA) (ofH := dbl_Floor_M1_ofH) (fun _ _ => rfl) (fun _ _ => rfl) (M := fun d => dbl_Floor_M1 d.1 d.2.1 d.2.2.2.2.1) (fin := dbl_Floor_M1_fin) 60 dbl_Floor_M1_ev).mono fun α st k r h => by
  refine Eq.trans (congrArg (reNorm 0 dbl_Floor_M1_N dbl_Floor_M1_A dbl_Floor_M1_H st) ?_) h
  funext a m
  exact outOf_congr fun x => rfl
noncomputable def dbl_Floor_M1_h : Hints := dbl_Floor_h0.add [0, 0, 1, 1, 1] dbl_Floor_M1_sp
theorem dbl_Floor_M1_h_ok : dbl_Floor_M1_h.OK Tryz.prog (bodyOf Tryz.f179) := dbl_Floor_h0_ok.add (show codeAt (bodyOf Tryz.f179) [0, 0, 1, 1, 1] = some ((codeAt (bodyOf Tryz.f179) [0, 0, 1, 1, 1]).getD .skip) from by kernel_rfl) dbl_Floor_M1_ok
def dbl_Floor_M2_A : List SD := [.any, .val (.int .i64), .loc 0 0 0, .any, .any, .any, .any, .val (.int .i64), .loc 1 0 0, .val .bool, .any, .any, .any, .any, .any, .any, .any, .any, .any, .any, .any, .any, .any, .any, .any, .any, .any, .any, .any, .any, .any, .any, .any, .any, .any, .any, .any, .any, .any, .any, .any]
def dbl_Floor_M2_H : List HD := [.box [.val (.int .i64), .val (.int .i64)], .box [.val (.int .i64), .val (.int .i64)]]
abbrev dbl_Floor_M2_D : Type := Int × Int × Bool × Int × Int × Int × Int
def dbl_Floor_M2_to (a : DenS dbl_Floor_M2_A) (m : DenH dbl_Floor_M2_H) : dbl_Floor_M2_D := (a.2.1, a.2.2.2.2.2.2.2.1, a.2.2.2.2.2.2.2.2.2.1, m.1.1, m.1.2.1, m.2.1.1, m.2.1.2.1)
def dbl_Floor_M2_ofA (d : dbl_Floor_M2_D) : DenS dbl_Floor_M2_A := match d with | (s1, s7, s9, m0_0, m0_1, m1_0, m1_1) => ((), s1, (), (), (), (), (), s7, (), s9, (), (), (), (), (), (), (), (), (), (), (), (), (), (), (), (), (), (), (), (), (), (), (), (), (), (), (), (), (), (), (), ())
def dbl_Floor_M2_ofH (d : dbl_Floor_M2_D) : DenH dbl_Floor_M2_H := match d with | (s1, s7, s9, m0_0, m0_1, m1_0, m1_1) => ((m0_0, m0_1, ()), (m1_0, m1_1, ()), ())
def dbl_Floor_M2_N : Norm := (⟨[1, 2, 7, 8, 9], [], []⟩ : Go.TX.Norm)
def dbl_Floor_M2_X : Exit → Norm := fun e => match e with | .normal => ⟨[7, 8, 9], [], []⟩ | _ => ⟨[], [], []⟩
abbrev dbl_Floor_M2_R : Type := (Int × Int × Int)
def dbl_Floor_M2_fin (d : dbl_Floor_M2_D) (v : dbl_Floor_M2_R) : Exit × St := (.normal, ⟨[.any, .any, .any, .any, .any, .any, .any, .lit (.int .i64 v.1), .ptr 0 0 0, .lit (.bool d.2.2.1), .any, .any, .any, .any, .any, .any, .any, .any, .any, .any, .any, .any, .any, .any, .any, .any, .any, .any, .any, .any, .any, .any, .any, .any, .any, .any, .any, .any, .any, .any, .any], [.box [.lit (.int .i64 v.2.1), .lit (.int .i64 v.2.2)]]⟩)
noncomputable def dbl_Floor_M2_t {γ : Type} (s1 : Int) (s7 : Int) (m0_1 : Int) (m1_0 : Int) (m1_1 : Int) (k : dbl_Floor_M2_R → Option γ) : Option γ := outOf (dbl_Floor_M1 s1 s7 m0_1) fun (x5 : Bool) => cond x5 (outOf (dbl_Add m1_0 m1_1 (-1 : Int) (-1 : Int)) fun (x6 : (Int × Int)) => k (IntKind.wrap IntKind.i64 (s7 + s1), x6.1, x6.2)) (k (s7, m1_0, m1_1))
noncomputable def dbl_Floor_M2 (s1 : Int) (s7 : Int) (m0_1 : Int) (m1_0 : Int) (m1_1 : Int) : Option dbl_Floor_M2_R := dbl_Floor_M2_t s1 s7 m0_1 m1_0 m1_1 some
theorem dbl_Floor_M2_t_eq {γ : Type} (s1 : Int) (s7 : Int) (m0_1 : Int) (m1_0 : Int) (m1_1 : Int) (k : dbl_Floor_M2_R → Option γ) : dbl_Floor_M2_t s1 s7 m0_1 m1_0 m1_1 k = outOf (dbl_Floor_M2 s1 s7 m0_1 m1_0 m1_1) k := by
  delta dbl_Floor_M2 dbl_Floor_M2_t; exact (Tr.bd fun x5 => (Tr.nd (Tr.bd fun x6 => Tr.lf) Tr.lf))
theorem dbl_Floor_M2_ev (α : Type) (d : dbl_Floor_M2_D) (k : Exit → St → Option α) : ev Tryz.prog SrDE5 dbl_Floor_M1_h 60 [0, 1, 1, 1] ((codeAt (bodyOf Tryz.f179) [0, 1, 1, 1]).getD .skip) ⟨mkS dbl_Floor_M2_A (dbl_Floor_M2_ofA d), mkH dbl_Floor_M2_H (dbl_Floor_M2_ofH d)⟩ (exitN 0 dbl_Floor_M2_X k) = outOf (dbl_Floor_M2 d.1 d.2.1 d.2.2.2.2.1 d.2.2.2.2.2.1 d.2.2.2.2.2.2) fun x => k (dbl_Floor_M2_fin d x).1 (dbl_Floor_M2_fin d x).2 := by
  obtain ⟨s1, s7, s9, m0_0, m0_1, m1_0, m1_1⟩ := d
  exact (show _ = dbl_Floor_M2_t s1 s7 m0_1 m1_0 m1_1 (fun x => k (dbl_Floor_M2_fin (s1, s7, s9, m0_0, m0_1, m1_0, m1_1) x).1 (dbl_Floor_M2_fin (s1, s7, s9, m0_0, m0_1, m1_0, m1_1) x).2) from by kernel_rfl).trans (dbl_Floor_M2_t_eq s1 s7 m0_1 m1_0 m1_1 _)
noncomputable def dbl_Floor_M2_sp : CSpec := fun _ st k => reNorm 0 dbl_Floor_M2_N dbl_Floor_M2_A dbl_Floor_M2_H st fun a m => outOf (dbl_Floor_M2 (dbl_Floor_M2_to a m).1 (dbl_Floor_M2_to a m).2.1 (dbl_Floor_M2_to a m).2.2.2.2.1 (dbl_Floor_M2_to a m).2.2.2.2.2.1 (dbl_Floor_M2_to a m).2.2.2.2.2.2) fun v => k .normal ⟨[.any, .any, .any, .any, .any, .any, .any, .lit (.int .i64 v.1), .ptr 0 0 0, .lit (.bool (dbl_Floor_M2_to a m).2.2.1), .any, .any, .any, .any, .any, .any, .any, .any, .any, .any, .any, .any, .any, .any, .any, .any, .any, .any, .any, .any, .any, .any, .any, .any, .any, .any, .any, .any, .any, .any, .any], [.box [.lit (.int .i64 v.2.1), .lit (.int .i64 v.2.2)]]⟩
theorem dbl_Floor_M2_ok : SumOK Tryz.prog 0 ((codeAt (bodyOf Tryz.f179) [0, 1, 1, 1]).getD .skip) dbl_Floor_M2_sp := (SumOK.once SrDE5_ok mixed dbl_Floor_M1_h_ok (show codeAt (bodyOf Tryz.f179) [0, 1, 1, 1] = some ((codeAt (bodyOf Tryz.f179) [0, 1, 1, 1]).getD .skip) from by kernel_rfl) (N := dbl_Floor_M2_N) (Nx := dbl_Floor_M2_X) (A := dbl_Floor_M2_A) (Hs := dbl_Floor_M2_H) (toD := dbl_Floor_M2_to) (ofA := dbl_Floor_M2_ofA) (ofH := dbl_Floor_M2_ofH) (fun _ _ => rfl) (fun _ _ => rfl) (M := fun d => dbl_Floor_M2 d.1 d.2.1 d.2.2.2.2.1 d.2.2.2.2.2.1 d.2.2.2.2.2.2) (fin := dbl_Floor_M2_fin) 60 dbl_Floor_M2_ev).mono fun α st k r h => by
  refine Eq.trans (congrArg (reNorm 0 dbl_Floor_M2_N dbl_Floor_M2_A dbl_Floor_M2_H st) ?_) h
  funext a m
  exact outOf_congr fun x => rfl
noncomputable def dbl_Floor_M2_h : Hints := dbl_Floor_M1_h.add [0, 1, 1, 1] dbl_Floor_M2_sp
theorem dbl_Floor_M2_h_ok : dbl_Floor_M2_h.OK Tryz.prog (bodyOf Tryz.f179) := dbl_Floor_M1_h_ok.add (show codeAt (bodyOf Tryz.f179) [0, 1, 1, 1] = some ((codeAt (bodyOf Tryz.f179) [0, 1, 1, 1]).getD .skip) from by kernel_rfl) dbl_Floor_M2_ok
abbrev dbl_Floor_R : Type := (Int × Int × Int)
noncomputable def dbl_Floor_t {γ : Type} (a0_0 : Int) (a0_1 : Int) (a1 : Int) (k : dbl_Floor_R → Option γ) : Option γ := cond (a1 == (0 : Int)) (k ((0 : Int), (0 : Int), (-10 : Int))) (outOf (dbl_split a0_0 a0_1 a1) fun (x7 : (Int × (Int × (Int × Bool)))) => outOf (dbl_Floor_M2 a1 x7.1 a0_1 x7.2.1 x7.2.2.1) fun (x8 : (Int × (Int × Int))) => outOf (dbl_fits x8.1 x8.2.1 x8.2.2 x7.2.2.2) fun (x9 : (Int × (Int × Int))) => k (x9.1, x9.2.1, x9.2.2))
noncomputable def dbl_Floor (a0_0 : Int) (a0_1 : Int) (a1 : Int) : Option dbl_Floor_R := dbl_Floor_t a0_0 a0_1 a1 some
theorem dbl_Floor_t_eq {γ : Type} (a0_0 : Int) (a0_1 : Int) (a1 : Int) (k : dbl_Floor_R → Option γ) : dbl_Floor_t a0_0 a0_1 a1 k = outOf (dbl_Floor a0_0 a0_1 a1) k := by
  delta dbl_Floor dbl_Floor_t; exact (Tr.nd Tr.lf (Tr.bd fun x7 => (Tr.bd fun x8 => (Tr.bd fun x9 => Tr.lf))))
noncomputable def dbl_Floor_sp : TX.Spec := specD [.agg (.pair (.int .i64) (.int .i64)), .val (.int .i64)] [] fun _ a m k => match a, m with | ⟨⟨a0_0, a0_1⟩, a1, _⟩, _ => outOf (dbl_Floor a0_0 a0_1 a1) fun v => k (.tup [.lit (.int .i64 v.1), .lit (.int .i64 v.2.1), .lit (.int .i64 v.2.2)]) []
theorem dbl_Floor_ev {α : Type} (a0_0 : Int) (a0_1 : Int) (a1 : Int) (k : Kont α) : evFun Tryz.prog SrDE5 (dbl_Floor_M2_h) false Tryz.f179 (bodyOf Tryz.f179) 60 (mkS [.agg (.pair (.int .i64) (.int .i64)), .val (.int .i64)] ((a0_0, a0_1), a1, ())) (mkH [] ()) k = outOf (dbl_Floor a0_0 a0_1 a1) fun v => k (.tup [.lit (.int .i64 v.1), .lit (.int .i64 v.2.1), .lit (.int .i64 v.2.2)]) [] :=
  (show _ = dbl_Floor_t a0_0 a0_1 a1 (fun v => k (.tup [.lit (.int .i64 v.1), .lit (.int .i64 v.2.1), .lit (.int .i64 v.2.2)]) []) from by kernel_rfl).trans (dbl_Floor_t_eq a0_0 a0_1 a1 _)
theorem dbl_Floor_good : TX.Good Tryz.prog 179 dbl_Floor_sp := good_form SrDE5_ok mixed Tryz.func179 (body_of rfl) (by kernel_rfl) false fun α a m k r h => by
  obtain ⟨⟨a0_0, a0_1⟩, a1, _⟩ := a; obtain _ := m
  exact ⟨dbl_Floor_M2_h, 60, dbl_Floor_M2_h_ok, rfl, (dbl_Floor_ev a0_0 a0_1 a1 k).trans h⟩
noncomputable def SrDE6 : Env := SrDE5.add 180 true dbl_Symm_sp |>.add 179 true dbl_Floor_sp
theorem SrDE6_ok : SrDE6.OK Tryz.prog := ((SrDE5_ok).add_ok dbl_Symm_good).add_ok dbl_Floor_good
/-! f263 tenterhook/dbl.Scale -/
def dbl_Scale_h0 : Hints := Hints.nil 0
theorem dbl_Scale_h0_ok : dbl_Scale_h0.OK Tryz.prog (bodyOf Tryz.f263) := Hints.nil_ok
abbrev dbl_Scale_R : Type := (Int × Int × Int)
noncomputable def dbl_Scale_t {γ : Type} (a0 : Int) (a1 : Int) (a2 : Int) (k : dbl_Scale_R → Option γ) : Option γ := outOf (dbl_Mul a0 a1) fun (x1 : (Int × Int)) => outOf (dbl_Floor x1.1 x1.2 a2) fun (x2 : (Int × (Int × Int))) => k (x2.1, x2.2.1, x2.2.2)
noncomputable def dbl_Scale (a0 : Int) (a1 : Int) (a2 : Int) : Option dbl_Scale_R := dbl_Scale_t a0 a1 a2 some
theorem dbl_Scale_t_eq {γ : Type} (a0 : Int) (a1 : Int) (a2 : Int) (k : dbl_Scale_R → Option γ) : dbl_Scale_t a0 a1 a2 k = outOf (dbl_Scale a0 a1 a2) k := by
  delta dbl_Scale dbl_Scale_t; exact (Tr.bd fun x1 => (Tr.bd fun x2 => Tr.lf))
noncomputable def dbl_Scale_sp : TX.Spec := specD [.val (.int .i64), .val (.int .i64), .val (.int .i64)] [] fun _ a m k => match a, m with | ⟨a0, a1, a2, _⟩, _ => outOf (dbl_Scale a0 a1 a2) fun v => k (.tup [.lit (.int .i64 v.1), .lit (.int .i64 v.2.1), .lit (.int .i64 v.2.2)]) []
theorem dbl_Scale_ev {α : Type} (a0 : Int) (a1 : Int) (a2 : Int) (k : Kont α) : evFun Tryz.prog SrDE6 (dbl_Scale_h0) false Tryz.f263 (bodyOf Tryz.f263) 60 (mkS [.val (.int .i64), .val (.int .i64), .val (.int .i64)] (a0, a1, a2, ())) (mkH [] ()) k = outOf (dbl_Scale a0 a1 a2) fun v => k (.tup [.lit (.int .i64 v.1), .lit (.int .i64 v.2.1), .lit (.int .i64 v.2.2)]) [] :=
  (show _ = dbl_Scale_t a0 a1 a2 (fun v => k (.tup [.lit (.int .i64 v.1), .lit (.int .i64 v.2.1), .lit (.int .i64 v.2.2)]) []) from by kernel_rfl).trans (dbl_Scale_t_eq a0 a1 a2 _)
theorem dbl_Scale_good : TX.Good Tryz.prog 263 dbl_Scale_sp := good_form SrDE6_ok mixed Tryz.func263 (body_of rfl) (by kernel_rfl) false fun α a m k r h => by
  obtain ⟨a0, a1, a2, _⟩ := a; obtain _ := m
  exact ⟨dbl_Scale_h0, 60, dbl_Scale_h0_ok, rfl, (dbl_Scale_ev a0 a1 a2 k).trans h⟩
noncomputable def SrDE7 : Env := SrDE6.add 263 true dbl_Scale_sp
theorem SrDE7_ok : SrDE7.OK Tryz.prog := (SrDE6_ok).add_ok dbl_Scale_good
end Go.Proofs.Dbl
