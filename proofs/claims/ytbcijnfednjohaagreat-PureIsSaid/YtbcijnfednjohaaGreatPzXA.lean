import Derived.Test.YtbcijnfednjohaaGreatTxW
import Derived.Test.YtbcijnfednjohaaGreatProg
import Derived.KernelRfl
namespace Go.Proofs.Dbl
open Go Go.TX Go.Proofs
set_option maxRecDepth 100000
set_option linter.unusedVariables false
set_option maxHeartbeats 0
instance globs : Globals := ⟨fun _ => none⟩
theorem mixed : Tryz.prog.follows .mixedOrders = true := by kernel_rfl
noncomputable def E1 : Env := Env.nil.add 130 true add64_sp
theorem E1_ok : E1.OK Tryz.prog := Env.nil_ok.add_ok (add64_good Tryz.func130 (by kernel_rfl) (by kernel_rfl) (by kernel_rfl) (by kernel_rfl))
def dbl_Of_h0 : Hints := Hints.nil 0
theorem dbl_Of_h0_ok : dbl_Of_h0.OK Tryz.prog (bodyOf Tryz.f92) := Hints.nil_ok
noncomputable def dbl_Of (a0 : Int) : Int × Int := (a0, Int.fdiv a0 (9223372036854775808 : Int))
noncomputable def dbl_Of_sp : TX.Spec := specD [.val (.int .i64)] [] fun _ a m k => match a, m with | ⟨a0, _⟩, _ => k (.agg [.lit (.int .i64 ((dbl_Of a0).1)), .lit (.int .i64 ((dbl_Of a0).2))]) []
theorem dbl_Of_ev {α : Type} (a0 : Int) (k : Kont α) : evFun Tryz.prog E1 (dbl_Of_h0) false Tryz.f92 (bodyOf Tryz.f92) 60 (mkS [.val (.int .i64)] (a0, ())) (mkH [] ()) k = k (.agg [.lit (.int .i64 ((dbl_Of a0).1)), .lit (.int .i64 ((dbl_Of a0).2))]) [] :=
  by kernel_rfl
theorem dbl_Of_good : TX.Good Tryz.prog 92 dbl_Of_sp := good_form E1_ok mixed Tryz.func92 (body_of rfl) (by kernel_rfl) false fun α a m k r h => by
  obtain ⟨a0, _⟩ := a; obtain _ := m
  exact ⟨dbl_Of_h0, 60, dbl_Of_h0_ok, rfl, (dbl_Of_ev a0 k).trans h⟩
def dbl_Add_h0 : Hints := Hints.nil 0
theorem dbl_Add_h0_ok : dbl_Add_h0.OK Tryz.prog (bodyOf Tryz.f94) := Hints.nil_ok
abbrev dbl_Add_R : Type := (Int × Int)
noncomputable def dbl_Add_t {γ : Type} (a0_0 : Int) (a0_1 : Int) (a1_0 : Int) (a1_1 : Int) (k : dbl_Add_R → Option γ) : Option γ := cond (decide ((0 : Int) ≤ IntKind.wrap IntKind.u64 a0_0 ∧ (0 : Int) ≤ IntKind.wrap IntKind.u64 a1_0 ∧ (0 : Int) ≤ (0 : Int) ∧ (0 : Int) ≤ (1 : Int))) (cond (decide ((0 : Int) ≤ IntKind.wrap IntKind.u64 a0_1 ∧ (0 : Int) ≤ IntKind.wrap IntKind.u64 a1_1 ∧ (0 : Int) ≤ (IntKind.wrap IntKind.u64 a0_0 + IntKind.wrap IntKind.u64 a1_0 + (0 : Int)) / (18446744073709551616 : Int) ∧ (IntKind.wrap IntKind.u64 a0_0 + IntKind.wrap IntKind.u64 a1_0 + (0 : Int)) / (18446744073709551616 : Int) ≤ (1 : Int))) (k (IntKind.wrap IntKind.i64 ((IntKind.wrap IntKind.u64 a0_0 + IntKind.wrap IntKind.u64 a1_0 + (0 : Int)) % (18446744073709551616 : Int)), IntKind.wrap IntKind.i64 ((IntKind.wrap IntKind.u64 a0_1 + IntKind.wrap IntKind.u64 a1_1 + (IntKind.wrap IntKind.u64 a0_0 + IntKind.wrap IntKind.u64 a1_0 + (0 : Int)) / (18446744073709551616 : Int)) % (18446744073709551616 : Int)))) (none)) (none)
noncomputable def dbl_Add (a0_0 : Int) (a0_1 : Int) (a1_0 : Int) (a1_1 : Int) : Option dbl_Add_R := dbl_Add_t a0_0 a0_1 a1_0 a1_1 some
theorem dbl_Add_t_eq {γ : Type} (a0_0 : Int) (a0_1 : Int) (a1_0 : Int) (a1_1 : Int) (k : dbl_Add_R → Option γ) : dbl_Add_t a0_0 a0_1 a1_0 a1_1 k = outOf (dbl_Add a0_0 a0_1 a1_0 a1_1) k := by
  delta dbl_Add dbl_Add_t; exact (Tr.nd (Tr.nd Tr.lf Tr.no) Tr.no)
noncomputable def dbl_Add_sp : TX.Spec := specD [.agg (.pair (.int .i64) (.int .i64)), .agg (.pair (.int .i64) (.int .i64))] [] fun _ a m k => match a, m with | ⟨⟨a0_0, a0_1⟩, ⟨a1_0, a1_1⟩, _⟩, _ => outOf (dbl_Add a0_0 a0_1 a1_0 a1_1) fun v => k (.agg [.lit (.int .i64 v.1), .lit (.int .i64 v.2)]) []
theorem dbl_Add_ev {α : Type} (a0_0 : Int) (a0_1 : Int) (a1_0 : Int) (a1_1 : Int) (k : Kont α) : evFun Tryz.prog E1 (dbl_Add_h0) false Tryz.f94 (bodyOf Tryz.f94) 60 (mkS [.agg (.pair (.int .i64) (.int .i64)), .agg (.pair (.int .i64) (.int .i64))] ((a0_0, a0_1), (a1_0, a1_1), ())) (mkH [] ()) k = outOf (dbl_Add a0_0 a0_1 a1_0 a1_1) fun v => k (.agg [.lit (.int .i64 v.1), .lit (.int .i64 v.2)]) [] :=
  (show _ = dbl_Add_t a0_0 a0_1 a1_0 a1_1 (fun v => k (.agg [.lit (.int .i64 v.1), .lit (.int .i64 v.2)]) []) from by kernel_rfl).trans (dbl_Add_t_eq a0_0 a0_1 a1_0 a1_1 _)
theorem dbl_Add_good : TX.Good Tryz.prog 94 dbl_Add_sp := good_form E1_ok mixed Tryz.func94 (body_of rfl) (by kernel_rfl) false fun α a m k r h => by
  obtain ⟨⟨a0_0, a0_1⟩, ⟨a1_0, a1_1⟩, _⟩ := a; obtain _ := m
  exact ⟨dbl_Add_h0, 60, dbl_Add_h0_ok, rfl, (dbl_Add_ev a0_0 a0_1 a1_0 a1_1 k).trans h⟩
def mul64_h0 : Hints := Hints.nil 0
theorem mul64_h0_ok : mul64_h0.OK Tryz.prog (bodyOf Tryz.f125) := Hints.nil_ok
noncomputable def mul64 (a0 : Int) (a1 : Int) : Int × Int := (IntKind.wrap IntKind.u64 (IntKind.wrap IntKind.u64 (IntKind.wrap IntKind.u64 (Int.fdiv a0 (4294967296 : Int) * Int.fdiv a1 (4294967296 : Int)) + Int.fdiv (IntKind.wrap IntKind.u64 (IntKind.wrap IntKind.u64 (Int.fdiv a0 (4294967296 : Int) * ibits BinOp.and IntKind.u64 a1 (4294967295 : Int)) + Int.fdiv (IntKind.wrap IntKind.u64 (ibits BinOp.and IntKind.u64 a0 (4294967295 : Int) * ibits BinOp.and IntKind.u64 a1 (4294967295 : Int))) (4294967296 : Int))) (4294967296 : Int)) + Int.fdiv (IntKind.wrap IntKind.u64 (ibits BinOp.and IntKind.u64 (IntKind.wrap IntKind.u64 (IntKind.wrap IntKind.u64 (Int.fdiv a0 (4294967296 : Int) * ibits BinOp.and IntKind.u64 a1 (4294967295 : Int)) + Int.fdiv (IntKind.wrap IntKind.u64 (ibits BinOp.and IntKind.u64 a0 (4294967295 : Int) * ibits BinOp.and IntKind.u64 a1 (4294967295 : Int))) (4294967296 : Int))) (4294967295 : Int) + IntKind.wrap IntKind.u64 (ibits BinOp.and IntKind.u64 a0 (4294967295 : Int) * Int.fdiv a1 (4294967296 : Int)))) (4294967296 : Int)), IntKind.wrap IntKind.u64 (a0 * a1))
noncomputable def mul64_sp : TX.Spec := specD [.val (.int .u64), .val (.int .u64)] [] fun _ a m k => match a, m with | ⟨a0, a1, _⟩, _ => k (.tup [.lit (.int .u64 ((mul64 a0 a1).1)), .lit (.int .u64 ((mul64 a0 a1).2))]) []
theorem mul64_ev {α : Type} (a0 : Int) (a1 : Int) (k : Kont α) : evFun Tryz.prog E1 (mul64_h0) false Tryz.f125 (bodyOf Tryz.f125) 60 (mkS [.val (.int .u64), .val (.int .u64)] (a0, a1, ())) (mkH [] ()) k = k (.tup [.lit (.int .u64 ((mul64 a0 a1).1)), .lit (.int .u64 ((mul64 a0 a1).2))]) [] :=
  by kernel_rfl
theorem mul64_good : TX.Good Tryz.prog 125 mul64_sp := good_form E1_ok mixed Tryz.func125 (body_of rfl) (by kernel_rfl) false fun α a m k r h => by
  obtain ⟨a0, a1, _⟩ := a; obtain _ := m
  exact ⟨mul64_h0, 60, mul64_h0_ok, rfl, (mul64_ev a0 a1 k).trans h⟩
def cell_Ult_h0 : Hints := Hints.nil 0
theorem cell_Ult_h0_ok : cell_Ult_h0.OK Tryz.prog (bodyOf Tryz.f76) := Hints.nil_ok
noncomputable def cell_Ult (a0 : Int) (a1 : Int) : Bool := (decide (IntKind.wrap IntKind.u64 a0 < IntKind.wrap IntKind.u64 a1))
noncomputable def cell_Ult_sp : TX.Spec := specD [.val (.int .i64), .val (.int .i64)] [] fun _ a m k => match a, m with | ⟨a0, a1, _⟩, _ => k (.lit (.bool (cell_Ult a0 a1))) []
theorem cell_Ult_ev {α : Type} (a0 : Int) (a1 : Int) (k : Kont α) : evFun Tryz.prog E1 (cell_Ult_h0) false Tryz.f76 (bodyOf Tryz.f76) 60 (mkS [.val (.int .i64), .val (.int .i64)] (a0, a1, ())) (mkH [] ()) k = k (.lit (.bool (cell_Ult a0 a1))) [] :=
  by kernel_rfl
theorem cell_Ult_good : TX.Good Tryz.prog 76 cell_Ult_sp := good_form E1_ok mixed Tryz.func76 (body_of rfl) (by kernel_rfl) false fun α a m k r h => by
  obtain ⟨a0, a1, _⟩ := a; obtain _ := m
  exact ⟨cell_Ult_h0, 60, cell_Ult_h0_ok, rfl, (cell_Ult_ev a0 a1 k).trans h⟩
def dbl_long_h0 : Hints := Hints.nil 0
theorem dbl_long_h0_ok : dbl_long_h0.OK Tryz.prog (bodyOf Tryz.f127) := Hints.nil_ok
def dbl_long_M1_A : List SD := [.any, .any, .loc 0 0 0, .any, .any, .loc 1 0 0, .val (.int .u64), .loc 2 0 0, .val (.int .u64), .val (.int .i64), .val (.int .i64), .any, .any, .any, .any, .any, .any, .any, .any, .any, .any, .any, .any, .any, .any, .any, .any, .any, .any, .any, .any, .any, .any, .any, .any, .any, .any, .any, .any, .any, .any, .any, .any, .any, .any, .any, .any, .any, .any, .any, .any, .any, .any, .any, .any, .any, .any, .any, .any, .any, .any, .any, .any, .any, .any, .any]
def dbl_long_M1_H : List HD := [.box [.val (.int .i64), .val (.int .i64)], .box [.val (.int .i64), .val (.int .i64)], .box [.val (.int .i64), .val (.int .i64)]]
abbrev dbl_long_M1_D : Type := Int × Int × Int × Int × Int × Int × Int × Int × Int × Int
def dbl_long_M1_to (a : DenS dbl_long_M1_A) (m : DenH dbl_long_M1_H) : dbl_long_M1_D := (a.2.2.2.2.2.2.1, a.2.2.2.2.2.2.2.2.1, a.2.2.2.2.2.2.2.2.2.1, a.2.2.2.2.2.2.2.2.2.2.1, m.1.1, m.1.2.1, m.2.1.1, m.2.1.2.1, m.2.2.1.1, m.2.2.1.2.1)
def dbl_long_M1_ofA (d : dbl_long_M1_D) : DenS dbl_long_M1_A := match d with | (s6, s8, s9, s10, m0_0, m0_1, m1_0, m1_1, m2_0, m2_1) => ((), (), (), (), (), (), s6, (), s8, s9, s10, (), (), (), (), (), (), (), (), (), (), (), (), (), (), (), (), (), (), (), (), (), (), (), (), (), (), (), (), (), (), (), (), (), (), (), (), (), (), (), (), (), (), (), (), (), (), (), (), (), (), (), (), (), (), (), ())
def dbl_long_M1_ofH (d : dbl_long_M1_D) : DenH dbl_long_M1_H := match d with | (s6, s8, s9, s10, m0_0, m0_1, m1_0, m1_1, m2_0, m2_1) => ((m0_0, m0_1, ()), (m1_0, m1_1, ()), (m2_0, m2_1, ()), ())
def dbl_long_M1_N : Norm := (⟨[2, 5, 6, 7, 8, 9, 10], [], []⟩ : Go.TX.Norm)
def dbl_long_M1_X : Exit → Norm := fun e => match e with | .normal => ⟨[2, 5, 6, 7, 8, 9, 10], [], []⟩ | _ => ⟨[], [], []⟩
abbrev dbl_long_M1_R : Type := (Int)
def dbl_long_M1_fin (d : dbl_long_M1_D) (v : dbl_long_M1_R) : Exit × St := (.normal, ⟨[.any, .any, .ptr 0 0 0, .any, .any, .ptr 1 0 0, .lit (.int .u64 d.1), .ptr 2 0 0, .lit (.int .u64 d.2.1), .lit (.int .i64 d.2.2.1), .lit (.int .i64 v), .any, .any, .any, .any, .any, .any, .any, .any, .any, .any, .any, .any, .any, .any, .any, .any, .any, .any, .any, .any, .any, .any, .any, .any, .any, .any, .any, .any, .any, .any, .any, .any, .any, .any, .any, .any, .any, .any, .any, .any, .any, .any, .any, .any, .any, .any, .any, .any, .any, .any, .any, .any, .any, .any, .any], [.box [.lit (.int .i64 d.2.2.2.2.1), .lit (.int .i64 d.2.2.2.2.2.1)], .box [.lit (.int .i64 d.2.2.2.2.2.2.1), .lit (.int .i64 d.2.2.2.2.2.2.2.1)], .box [.lit (.int .i64 d.2.2.2.2.2.2.2.2.1), .lit (.int .i64 d.2.2.2.2.2.2.2.2.2)]]⟩)
noncomputable def dbl_long_M1_t {γ : Type} (s9 : Int) (s10 : Int) (m0_1 : Int) (k : dbl_long_M1_R → Option γ) : Option γ := cond (decide (s9 ≥ (64 : Int))) (k (m0_1)) (k (s10))
noncomputable def dbl_long_M1 (s9 : Int) (s10 : Int) (m0_1 : Int) : Option dbl_long_M1_R := dbl_long_M1_t s9 s10 m0_1 some
theorem dbl_long_M1_t_eq {γ : Type} (s9 : Int) (s10 : Int) (m0_1 : Int) (k : dbl_long_M1_R → Option γ) : dbl_long_M1_t s9 s10 m0_1 k = outOf (dbl_long_M1 s9 s10 m0_1) k := by
  delta dbl_long_M1 dbl_long_M1_t; exact (Tr.nd Tr.lf Tr.lf)
theorem dbl_long_M1_ev (α : Type) (d : dbl_long_M1_D) (k : Exit → St → Option α) : ev Tryz.prog E1 dbl_long_h0 60 [0, 1, 1, 1, 1, 1, 0, 1] ((codeAt (bodyOf Tryz.f127) [0, 1, 1, 1, 1, 1, 0, 1]).getD .skip) ⟨mkS dbl_long_M1_A (dbl_long_M1_ofA d), mkH dbl_long_M1_H (dbl_long_M1_ofH d)⟩ (exitN 0 dbl_long_M1_X k) = outOf (dbl_long_M1 d.2.2.1 d.2.2.2.1 d.2.2.2.2.2.1) fun x => k (dbl_long_M1_fin d x).1 (dbl_long_M1_fin d x).2 := by
  obtain ⟨s6, s8, s9, s10, m0_0, m0_1, m1_0, m1_1, m2_0, m2_1⟩ := d
  exact (show _ = dbl_long_M1_t s9 s10 m0_1 (fun x => k (dbl_long_M1_fin (s6, s8, s9, s10, m0_0, m0_1, m1_0, m1_1, m2_0, m2_1) x).1 (dbl_long_M1_fin (s6, s8, s9, s10, m0_0, m0_1, m1_0, m1_1, m2_0, m2_1) x).2) from by kernel_rfl).trans (dbl_long_M1_t_eq s9 s10 m0_1 _)
noncomputable def dbl_long_M1_sp : CSpec := fun _ st k => reNorm 0 dbl_long_M1_N dbl_long_M1_A dbl_long_M1_H st fun a m => outOf (dbl_long_M1 (dbl_long_M1_to a m).2.2.1 (dbl_long_M1_to a m).2.2.2.1 (dbl_long_M1_to a m).2.2.2.2.2.1) fun v => k .normal ⟨[.any, .any, .ptr 0 0 0, .any, .any, .ptr 1 0 0, .lit (.int .u64 (dbl_long_M1_to a m).1), .ptr 2 0 0, .lit (.int .u64 (dbl_long_M1_to a m).2.1), .lit (.int .i64 (dbl_long_M1_to a m).2.2.1), .lit (.int .i64 v), .any, .any, .any, .any, .any, .any, .any, .any, .any, .any, .any, .any, .any, .any, .any, .any, .any, .any, .any, .any, .any, .any, .any, .any, .any, .any, .any, .any, .any, .any, .any, .any, .any, .any, .any, .any, .any, .any, .any, .any, .any, .any, .any, .any, .any, .any, .any, .any, .any, .any, .any, .any, .any, .any, .any], [.box [.lit (.int .i64 (dbl_long_M1_to a m).2.2.2.2.1), .lit (.int .i64 (dbl_long_M1_to a m).2.2.2.2.2.1)], .box [.lit (.int .i64 (dbl_long_M1_to a m).2.2.2.2.2.2.1), .lit (.int .i64 (dbl_long_M1_to a m).2.2.2.2.2.2.2.1)], .box [.lit (.int .i64 (dbl_long_M1_to a m).2.2.2.2.2.2.2.2.1), .lit (.int .i64 (dbl_long_M1_to a m).2.2.2.2.2.2.2.2.2)]]⟩
theorem dbl_long_M1_ok : SumOK Tryz.prog 0 ((codeAt (bodyOf Tryz.f127) [0, 1, 1, 1, 1, 1, 0, 1]).getD .skip) dbl_long_M1_sp := (SumOK.once E1_ok mixed dbl_long_h0_ok (show codeAt (bodyOf Tryz.f127) [0, 1, 1, 1, 1, 1, 0, 1] = some ((codeAt (bodyOf Tryz.f127) [0, 1, 1, 1, 1, 1, 0, 1]).getD .skip) from by kernel_rfl) (N := dbl_long_M1_N) (Nx := dbl_long_M1_X) (A := dbl_long_M1_A) (Hs := dbl_long_M1_H) (toD := dbl_long_M1_to) (ofA := dbl_long_M1_ofA) (ofH := dbl_long_M1_ofH) (fun _ _ => rfl) (fun _ _ => rfl) (M := fun d => dbl_long_M1 d.2.2.1 d.2.2.2.1 d.2.2.2.2.2.1) (fin := dbl_long_M1_fin) 60 dbl_long_M1_ev).mono fun α st k r h => by
  refine Eq.trans (congrArg (reNorm 0 dbl_long_M1_N dbl_long_M1_A dbl_long_M1_H st) ?_) h
  funext a m
  exact outOf_congr fun x => rfl
noncomputable def dbl_long_M1_h : Hints := dbl_long_h0.add [0, 1, 1, 1, 1, 1, 0, 1] dbl_long_M1_sp
theorem dbl_long_M1_h_ok : dbl_long_M1_h.OK Tryz.prog (bodyOf Tryz.f127) := dbl_long_h0_ok.add (show codeAt (bodyOf Tryz.f127) [0, 1, 1, 1, 1, 1, 0, 1] = some ((codeAt (bodyOf Tryz.f127) [0, 1, 1, 1, 1, 1, 0, 1]).getD .skip) from by kernel_rfl) dbl_long_M1_ok
def dbl_long_L1_A : List SD := [.any, .any, .loc 0 0 0, .any, .any, .loc 1 0 0, .val (.int .u64), .loc 2 0 0, .val (.int .u64), .val (.int .i64), .any, .any, .any, .any, .any, .any, .any, .any, .any, .any, .any, .any, .any, .any, .any, .any, .any, .any, .any, .any, .any, .any, .any, .any, .any, .any, .any, .any, .any, .any, .any, .any, .any, .any, .any, .any, .any, .any, .any, .any, .any, .any, .any, .any, .any, .any, .any, .any, .any, .any, .any, .any, .any, .any, .any, .any]
def dbl_long_L1_H : List HD := [.box [.val (.int .i64), .val (.int .i64)], .box [.val (.int .i64), .val (.int .i64)], .box [.val (.int .i64), .val (.int .i64)]]
abbrev dbl_long_L1_D : Type := Int × Int × Int × Int × Int × Int × Int × Int × Int
def dbl_long_L1_to (a : DenS dbl_long_L1_A) (m : DenH dbl_long_L1_H) : dbl_long_L1_D := (a.2.2.2.2.2.2.1, a.2.2.2.2.2.2.2.2.1, a.2.2.2.2.2.2.2.2.2.1, m.1.1, m.1.2.1, m.2.1.1, m.2.1.2.1, m.2.2.1.1, m.2.2.1.2.1)
def dbl_long_L1_ofA (d : dbl_long_L1_D) : DenS dbl_long_L1_A := match d with | (s6, s8, s9, m0_0, m0_1, m1_0, m1_1, m2_0, m2_1) => ((), (), (), (), (), (), s6, (), s8, s9, (), (), (), (), (), (), (), (), (), (), (), (), (), (), (), (), (), (), (), (), (), (), (), (), (), (), (), (), (), (), (), (), (), (), (), (), (), (), (), (), (), (), (), (), (), (), (), (), (), (), (), (), (), (), (), (), ())
def dbl_long_L1_ofH (d : dbl_long_L1_D) : DenH dbl_long_L1_H := match d with | (s6, s8, s9, m0_0, m0_1, m1_0, m1_1, m2_0, m2_1) => ((m0_0, m0_1, ()), (m1_0, m1_1, ()), (m2_0, m2_1, ()), ())
def dbl_long_L1_N : Norm := (⟨[2, 5, 6, 7, 8, 9], [], []⟩ : Go.TX.Norm)
def dbl_long_L1_X : Exit → Norm := fun e => match e with | .normal => ⟨[4, 5], [], []⟩ | .ret => ⟨[4, 5], [], []⟩ | _ => ⟨[], [], []⟩
def dbl_long_M2_A : List SD := [.any, .any, .loc 0 0 0, .any, .any, .loc 1 0 0, .val (.int .u64), .loc 2 0 0, .val (.int .u64), .val (.int .i64), .val (.int .i64), .any, .any, .any, .any, .any, .any, .any, .any, .any, .any, .any, .any, .any, .any, .any, .any, .any, .any, .any, .any, .any, .any, .any, .any, .any, .any, .any, .any, .any, .any, .any, .any, .any, .any, .any, .any, .any, .any, .any, .any, .any, .any, .any, .any, .any, .any, .any, .any, .any, .any, .any, .any, .any, .any, .any]
def dbl_long_M2_H : List HD := [.box [.val (.int .i64), .val (.int .i64)], .box [.val (.int .i64), .val (.int .i64)], .box [.val (.int .i64), .val (.int .i64)]]
abbrev dbl_long_M2_D : Type := Int × Int × Int × Int × Int × Int × Int × Int × Int × Int
def dbl_long_M2_to (a : DenS dbl_long_M2_A) (m : DenH dbl_long_M2_H) : dbl_long_M2_D := (a.2.2.2.2.2.2.1, a.2.2.2.2.2.2.2.2.1, a.2.2.2.2.2.2.2.2.2.1, a.2.2.2.2.2.2.2.2.2.2.1, m.1.1, m.1.2.1, m.2.1.1, m.2.1.2.1, m.2.2.1.1, m.2.2.1.2.1)
def dbl_long_M2_ofA (d : dbl_long_M2_D) : DenS dbl_long_M2_A := match d with | (s6, s8, s9, s10, m0_0, m0_1, m1_0, m1_1, m2_0, m2_1) => ((), (), (), (), (), (), s6, (), s8, s9, s10, (), (), (), (), (), (), (), (), (), (), (), (), (), (), (), (), (), (), (), (), (), (), (), (), (), (), (), (), (), (), (), (), (), (), (), (), (), (), (), (), (), (), (), (), (), (), (), (), (), (), (), (), (), (), (), ())
def dbl_long_M2_ofH (d : dbl_long_M2_D) : DenH dbl_long_M2_H := match d with | (s6, s8, s9, s10, m0_0, m0_1, m1_0, m1_1, m2_0, m2_1) => ((m0_0, m0_1, ()), (m1_0, m1_1, ()), (m2_0, m2_1, ()), ())
def dbl_long_M2_N : Norm := (⟨[2, 5, 6, 7, 8, 9, 10], [], []⟩ : Go.TX.Norm)
def dbl_long_M2_X : Exit → Norm := fun e => match e with | .normal => ⟨[2, 5, 6, 7, 8, 9, 10], [], []⟩ | _ => ⟨[], [], []⟩
abbrev dbl_long_M2_R : Type := (Int)
def dbl_long_M2_fin (d : dbl_long_M2_D) (v : dbl_long_M2_R) : Exit × St := (.normal, ⟨[.any, .any, .ptr 0 0 0, .any, .any, .ptr 1 0 0, .lit (.int .u64 d.1), .ptr 2 0 0, .lit (.int .u64 d.2.1), .lit (.int .i64 d.2.2.1), .lit (.int .i64 v), .any, .any, .any, .any, .any, .any, .any, .any, .any, .any, .any, .any, .any, .any, .any, .any, .any, .any, .any, .any, .any, .any, .any, .any, .any, .any, .any, .any, .any, .any, .any, .any, .any, .any, .any, .any, .any, .any, .any, .any, .any, .any, .any, .any, .any, .any, .any, .any, .any, .any, .any, .any, .any, .any, .any], [.box [.lit (.int .i64 d.2.2.2.2.1), .lit (.int .i64 d.2.2.2.2.2.1)], .box [.lit (.int .i64 d.2.2.2.2.2.2.1), .lit (.int .i64 d.2.2.2.2.2.2.2.1)], .box [.lit (.int .i64 d.2.2.2.2.2.2.2.2.1), .lit (.int .i64 d.2.2.2.2.2.2.2.2.2)]]⟩)
noncomputable def dbl_long_M2_t {γ : Type} (s9 : Int) (s10 : Int) (m0_1 : Int) (k : dbl_long_M2_R → Option γ) : Option γ := cond (decide (s9 ≥ (64 : Int))) (k (m0_1)) (k (s10))
noncomputable def dbl_long_M2 (s9 : Int) (s10 : Int) (m0_1 : Int) : Option dbl_long_M2_R := dbl_long_M2_t s9 s10 m0_1 some
theorem dbl_long_M2_t_eq {γ : Type} (s9 : Int) (s10 : Int) (m0_1 : Int) (k : dbl_long_M2_R → Option γ) : dbl_long_M2_t s9 s10 m0_1 k = outOf (dbl_long_M2 s9 s10 m0_1) k := by
  delta dbl_long_M2 dbl_long_M2_t; exact (Tr.nd Tr.lf Tr.lf)
theorem dbl_long_M2_ev (α : Type) (d : dbl_long_M2_D) (k : Exit → St → Option α) : ev Tryz.prog E1 dbl_long_M1_h 60 [0, 1, 1, 1, 1] ((codeAt (bodyOf Tryz.f127) [0, 1, 1, 1, 1]).getD .skip) ⟨mkS dbl_long_M2_A (dbl_long_M2_ofA d), mkH dbl_long_M2_H (dbl_long_M2_ofH d)⟩ (exitN 0 dbl_long_M2_X k) = outOf (dbl_long_M2 d.2.2.1 d.2.2.2.1 d.2.2.2.2.2.1) fun x => k (dbl_long_M2_fin d x).1 (dbl_long_M2_fin d x).2 := by
  obtain ⟨s6, s8, s9, s10, m0_0, m0_1, m1_0, m1_1, m2_0, m2_1⟩ := d
  exact (show _ = dbl_long_M2_t s9 s10 m0_1 (fun x => k (dbl_long_M2_fin (s6, s8, s9, s10, m0_0, m0_1, m1_0, m1_1, m2_0, m2_1) x).1 (dbl_long_M2_fin (s6, s8, s9, s10, m0_0, m0_1, m1_0, m1_1, m2_0, m2_1) x).2) from by kernel_rfl).trans (dbl_long_M2_t_eq s9 s10 m0_1 _)
noncomputable def dbl_long_M2_sp : CSpec := fun _ st k => reNorm 0 dbl_long_M2_N dbl_long_M2_A dbl_long_M2_H st fun a m => outOf (dbl_long_M2 (dbl_long_M2_to a m).2.2.1 (dbl_long_M2_to a m).2.2.2.1 (dbl_long_M2_to a m).2.2.2.2.2.1) fun v => k .normal ⟨[.any, .any, .ptr 0 0 0, .any, .any, .ptr 1 0 0, .lit (.int .u64 (dbl_long_M2_to a m).1), .ptr 2 0 0, .lit (.int .u64 (dbl_long_M2_to a m).2.1), .lit (.int .i64 (dbl_long_M2_to a m).2.2.1), .lit (.int .i64 v), .any, .any, .any, .any, .any, .any, .any, .any, .any, .any, .any, .any, .any, .any, .any, .any, .any, .any, .any, .any, .any, .any, .any, .any, .any, .any, .any, .any, .any, .any, .any, .any, .any, .any, .any, .any, .any, .any, .any, .any, .any, .any, .any, .any, .any, .any, .any, .any, .any, .any, .any, .any, .any, .any, .any], [.box [.lit (.int .i64 (dbl_long_M2_to a m).2.2.2.2.1), .lit (.int .i64 (dbl_long_M2_to a m).2.2.2.2.2.1)], .box [.lit (.int .i64 (dbl_long_M2_to a m).2.2.2.2.2.2.1), .lit (.int .i64 (dbl_long_M2_to a m).2.2.2.2.2.2.2.1)], .box [.lit (.int .i64 (dbl_long_M2_to a m).2.2.2.2.2.2.2.2.1), .lit (.int .i64 (dbl_long_M2_to a m).2.2.2.2.2.2.2.2.2)]]⟩
theorem dbl_long_M2_ok : SumOK Tryz.prog 0 ((codeAt (bodyOf Tryz.f127) [0, 1, 1, 1, 1]).getD .skip) dbl_long_M2_sp := (SumOK.once E1_ok mixed dbl_long_M1_h_ok (show codeAt (bodyOf Tryz.f127) [0, 1, 1, 1, 1] = some ((codeAt (bodyOf Tryz.f127) [0, 1, 1, 1, 1]).getD .skip) from by kernel_rfl) (N := dbl_long_M2_N) (Nx := dbl_long_M2_X) (A := dbl_long_M2_A) (Hs := dbl_long_M2_H) (toD := dbl_long_M2_to) (ofA := dbl_long_M2_ofA) (ofH := dbl_long_M2_ofH) (fun _ _ => rfl) (fun _ _ => rfl) (M := fun d => dbl_long_M2 d.2.2.1 d.2.2.2.1 d.2.2.2.2.2.1) (fin := dbl_long_M2_fin) 60 dbl_long_M2_ev).mono fun α st k r h => by
  refine Eq.trans (congrArg (reNorm 0 dbl_long_M2_N dbl_long_M2_A dbl_long_M2_H st) ?_) h
  funext a m
  exact outOf_congr fun x => rfl
noncomputable def dbl_long_M2_h : Hints := dbl_long_M1_h.add [0, 1, 1, 1, 1] dbl_long_M2_sp
theorem dbl_long_M2_h_ok : dbl_long_M2_h.OK Tryz.prog (bodyOf Tryz.f127) := dbl_long_M1_h_ok.add (show codeAt (bodyOf Tryz.f127) [0, 1, 1, 1, 1] = some ((codeAt (bodyOf Tryz.f127) [0, 1, 1, 1, 1]).getD .skip) from by kernel_rfl) dbl_long_M2_ok
abbrev dbl_long_L1_R : Type := (Int × Int × Int)
def dbl_long_L1_fin (v : dbl_long_L1_R) : Exit × St := (.ret, ⟨[.any, .any, .any, .any, .lit (.int .i64 v.1), .ptr 0 0 0, .any, .any, .any, .any, .any, .any, .any, .any, .any, .any, .any, .any, .any, .any, .any, .any, .any, .any, .any, .any, .any, .any, .any, .any, .any, .any, .any, .any, .any, .any, .any, .any, .any, .any, .any, .any, .any, .any, .any, .any, .any, .any, .any, .any, .any, .any, .any, .any, .any, .any, .any, .any, .any, .any, .any, .any, .any, .any, .any, .any], [.box [.lit (.int .i64 v.2.1), .lit (.int .i64 v.2.2)]]⟩)
noncomputable def dbl_long_L1_t {γ : Type} (s6 : Int) (s8 : Int) (s9 : Int) (m0_0 : Int) (m0_1 : Int) (m1_0 : Int) (m1_1 : Int) (m2_0 : Int) (m2_1 : Int) (next : dbl_long_L1_D → Option γ) (out : dbl_long_L1_R → Option γ) : Option γ := outOf (dbl_long_M2 s9 m0_0 m0_1) fun (x1 : Int) => cond (decide (IntKind.wrap IntKind.u64 (Int.tmod s9 (64 : Int)) < (0 : Int))) (none) (cond (Int.fdiv s6 (9223372036854775808 : Int) == (1 : Int)) (cond (decide (IntKind.wrap IntKind.i64 (s9 - (1 : Int)) ≥ (0 : Int))) (next (IntKind.wrap IntKind.u64 (ibits BinOp.or IntKind.u64 (IntKind.wrap IntKind.u64 (s6 * (2 : Int))) (ibits BinOp.and IntKind.u64 (Int.fdiv (IntKind.wrap IntKind.u64 x1) ((2 : Int) ^ min (Int.toNat (IntKind.wrap IntKind.u64 (Int.tmod s9 (64 : Int)))) (64 : Nat))) (1 : Int)) - s8), s8, IntKind.wrap IntKind.i64 (s9 - (1 : Int)), m0_0, m0_1, m1_0, m1_1, ibits BinOp.or IntKind.i64 (IntKind.wrap IntKind.i64 (m2_0 * (2 : Int))) (1 : Int), ibits BinOp.or IntKind.i64 (IntKind.wrap IntKind.i64 (m2_1 * (2 : Int))) (IntKind.wrap IntKind.i64 (Int.fdiv (IntKind.wrap IntKind.u64 m2_0) (9223372036854775808 : Int))))) (out (IntKind.wrap IntKind.i64 (IntKind.wrap IntKind.u64 (ibits BinOp.or IntKind.u64 (IntKind.wrap IntKind.u64 (s6 * (2 : Int))) (ibits BinOp.and IntKind.u64 (Int.fdiv (IntKind.wrap IntKind.u64 x1) ((2 : Int) ^ min (Int.toNat (IntKind.wrap IntKind.u64 (Int.tmod s9 (64 : Int)))) (64 : Nat))) (1 : Int)) - s8)), ibits BinOp.or IntKind.i64 (IntKind.wrap IntKind.i64 (m2_0 * (2 : Int))) (1 : Int), ibits BinOp.or IntKind.i64 (IntKind.wrap IntKind.i64 (m2_1 * (2 : Int))) (IntKind.wrap IntKind.i64 (Int.fdiv (IntKind.wrap IntKind.u64 m2_0) (9223372036854775808 : Int)))))) (cond (decide (ibits BinOp.or IntKind.u64 (IntKind.wrap IntKind.u64 (s6 * (2 : Int))) (ibits BinOp.and IntKind.u64 (Int.fdiv (IntKind.wrap IntKind.u64 x1) ((2 : Int) ^ min (Int.toNat (IntKind.wrap IntKind.u64 (Int.tmod s9 (64 : Int)))) (64 : Nat))) (1 : Int)) ≥ s8)) (cond (decide (IntKind.wrap IntKind.i64 (s9 - (1 : Int)) ≥ (0 : Int))) (next (IntKind.wrap IntKind.u64 (ibits BinOp.or IntKind.u64 (IntKind.wrap IntKind.u64 (s6 * (2 : Int))) (ibits BinOp.and IntKind.u64 (Int.fdiv (IntKind.wrap IntKind.u64 x1) ((2 : Int) ^ min (Int.toNat (IntKind.wrap IntKind.u64 (Int.tmod s9 (64 : Int)))) (64 : Nat))) (1 : Int)) - s8), s8, IntKind.wrap IntKind.i64 (s9 - (1 : Int)), m0_0, m0_1, m1_0, m1_1, ibits BinOp.or IntKind.i64 (IntKind.wrap IntKind.i64 (m2_0 * (2 : Int))) (1 : Int), ibits BinOp.or IntKind.i64 (IntKind.wrap IntKind.i64 (m2_1 * (2 : Int))) (IntKind.wrap IntKind.i64 (Int.fdiv (IntKind.wrap IntKind.u64 m2_0) (9223372036854775808 : Int))))) (out (IntKind.wrap IntKind.i64 (IntKind.wrap IntKind.u64 (ibits BinOp.or IntKind.u64 (IntKind.wrap IntKind.u64 (s6 * (2 : Int))) (ibits BinOp.and IntKind.u64 (Int.fdiv (IntKind.wrap IntKind.u64 x1) ((2 : Int) ^ min (Int.toNat (IntKind.wrap IntKind.u64 (Int.tmod s9 (64 : Int)))) (64 : Nat))) (1 : Int)) - s8)), ibits BinOp.or IntKind.i64 (IntKind.wrap IntKind.i64 (m2_0 * (2 : Int))) (1 : Int), ibits BinOp.or IntKind.i64 (IntKind.wrap IntKind.i64 (m2_1 * (2 : Int))) (IntKind.wrap IntKind.i64 (Int.fdiv (IntKind.wrap IntKind.u64 m2_0) (9223372036854775808 : Int)))))) (cond (decide (IntKind.wrap IntKind.i64 (s9 - (1 : Int)) ≥ (0 : Int))) (next (ibits BinOp.or IntKind.u64 (IntKind.wrap IntKind.u64 (s6 * (2 : Int))) (ibits BinOp.and IntKind.u64 (Int.fdiv (IntKind.wrap IntKind.u64 x1) ((2 : Int) ^ min (Int.toNat (IntKind.wrap IntKind.u64 (Int.tmod s9 (64 : Int)))) (64 : Nat))) (1 : Int)), s8, IntKind.wrap IntKind.i64 (s9 - (1 : Int)), m0_0, m0_1, m1_0, m1_1, IntKind.wrap IntKind.i64 (m2_0 * (2 : Int)), ibits BinOp.or IntKind.i64 (IntKind.wrap IntKind.i64 (m2_1 * (2 : Int))) (IntKind.wrap IntKind.i64 (Int.fdiv (IntKind.wrap IntKind.u64 m2_0) (9223372036854775808 : Int))))) (out (IntKind.wrap IntKind.i64 (ibits BinOp.or IntKind.u64 (IntKind.wrap IntKind.u64 (s6 * (2 : Int))) (ibits BinOp.and IntKind.u64 (Int.fdiv (IntKind.wrap IntKind.u64 x1) ((2 : Int) ^ min (Int.toNat (IntKind.wrap IntKind.u64 (Int.tmod s9 (64 : Int)))) (64 : Nat))) (1 : Int))), IntKind.wrap IntKind.i64 (m2_0 * (2 : Int)), ibits BinOp.or IntKind.i64 (IntKind.wrap IntKind.i64 (m2_1 * (2 : Int))) (IntKind.wrap IntKind.i64 (Int.fdiv (IntKind.wrap IntKind.u64 m2_0) (9223372036854775808 : Int))))))))
noncomputable def dbl_long_L1_pass (d : dbl_long_L1_D) : Option (dbl_long_L1_D ⊕ dbl_long_L1_R) := dbl_long_L1_t d.1 d.2.1 d.2.2.1 d.2.2.2.1 d.2.2.2.2.1 d.2.2.2.2.2.1 d.2.2.2.2.2.2.1 d.2.2.2.2.2.2.2.1 d.2.2.2.2.2.2.2.2 (fun d => some (.inl d)) (fun x => some (.inr x))
theorem dbl_long_L1_t_eq {γ : Type} (s6 : Int) (s8 : Int) (s9 : Int) (m0_0 : Int) (m0_1 : Int) (m1_0 : Int) (m1_1 : Int) (m2_0 : Int) (m2_1 : Int) (next : dbl_long_L1_D → Option γ) (out : dbl_long_L1_R → Option γ) : dbl_long_L1_t s6 s8 s9 m0_0 m0_1 m1_0 m1_1 m2_0 m2_1 next out = PassOf (dbl_long_L1_t s6 s8 s9 m0_0 m0_1 m1_0 m1_1 m2_0 m2_1 (fun d => some (.inl d)) (fun x => some (.inr x))) next out := by
  delta dbl_long_L1_t; exact (Ps.bd fun x1 => (Ps.nd Ps.no (Ps.nd (Ps.nd Ps.nx Ps.ou) (Ps.nd (Ps.nd Ps.nx Ps.ou) (Ps.nd Ps.nx Ps.ou)))))
theorem dbl_long_L1_ev (α : Type) (d : dbl_long_L1_D) (next : dbl_long_L1_D → Option α) (k : Exit → St → Option α) : ev Tryz.prog E1 dbl_long_M2_h 60 [1, 1] ((codeAt (bodyOf Tryz.f127) [1, 1]).getD .skip) ⟨mkS dbl_long_L1_A (dbl_long_L1_ofA d), mkH dbl_long_L1_H (dbl_long_L1_ofH d)⟩ (passJ 0 0 dbl_long_L1_N dbl_long_L1_A dbl_long_L1_H dbl_long_L1_X (fun a m => next (dbl_long_L1_to a m)) k) = PassOf (dbl_long_L1_pass d) next fun x => k (dbl_long_L1_fin x).1 (dbl_long_L1_fin x).2 := by
  obtain ⟨s6, s8, s9, m0_0, m0_1, m1_0, m1_1, m2_0, m2_1⟩ := d
  exact (show _ = dbl_long_L1_t s6 s8 s9 m0_0 m0_1 m1_0 m1_1 m2_0 m2_1 next (fun x => k (dbl_long_L1_fin x).1 (dbl_long_L1_fin x).2) from by kernel_rfl).trans (dbl_long_L1_t_eq s6 s8 s9 m0_0 m0_1 m1_0 m1_1 m2_0 m2_1 _ _)
noncomputable def dbl_long_L1 (d : dbl_long_L1_D) : Option dbl_long_L1_R := runs dbl_long_L1_pass d
noncomputable def dbl_long_L1_sp : CSpec := fun _ st k => reNorm 0 dbl_long_L1_N dbl_long_L1_A dbl_long_L1_H st fun a m => outOf (dbl_long_L1 (dbl_long_L1_to a m)) fun v => k .ret ⟨[.any, .any, .any, .any, .lit (.int .i64 v.1), .ptr 0 0 0, .any, .any, .any, .any, .any, .any, .any, .any, .any, .any, .any, .any, .any, .any, .any, .any, .any, .any, .any, .any, .any, .any, .any, .any, .any, .any, .any, .any, .any, .any, .any, .any, .any, .any, .any, .any, .any, .any, .any, .any, .any, .any, .any, .any, .any, .any, .any, .any, .any, .any, .any, .any, .any, .any, .any, .any, .any, .any, .any, .any], [.box [.lit (.int .i64 v.2.1), .lit (.int .i64 v.2.2)]]⟩
theorem dbl_long_L1_ok : JumpOK Tryz.prog 0 ((codeAt (bodyOf Tryz.f127) [0, 1]).getD .skip) ((codeAt (bodyOf Tryz.f127) [1, 1]).getD .skip) dbl_long_L1_sp := (JumpOK.loop E1_ok mixed dbl_long_M2_h_ok (b := ((codeAt (bodyOf Tryz.f127) [0, 1]).getD .skip)) (p := [1]) (l := 0) (show codeAt (bodyOf Tryz.f127) [1, 1] = some ((codeAt (bodyOf Tryz.f127) [1, 1]).getD .skip) from by kernel_rfl) (show findLabel ((codeAt (bodyOf Tryz.f127) [0, 1]).getD .skip) 0 = some ((codeAt (bodyOf Tryz.f127) [1, 1]).getD .skip) from by kernel_rfl) (N := dbl_long_L1_N) (Nx := dbl_long_L1_X) (A := dbl_long_L1_A) (Hs := dbl_long_L1_H) (toD := dbl_long_L1_to) (ofA := dbl_long_L1_ofA) (ofH := dbl_long_L1_ofH) (fun _ _ => rfl) (fun _ _ => rfl) (pass := dbl_long_L1_pass) (fin := dbl_long_L1_fin) 60 dbl_long_L1_ev (steps dbl_long_L1_pass)).mono fun α st k r h => by
  refine Eq.trans (congrArg (reNorm 0 dbl_long_L1_N dbl_long_L1_A dbl_long_L1_H st) ?_) h
  funext a m
  exact outOf_congr fun x => rfl
noncomputable def dbl_long_L1_h : Hints := dbl_long_M2_h.addJ [1, 1] dbl_long_L1_sp
theorem dbl_long_L1_h_ok : dbl_long_L1_h.OK Tryz.prog (bodyOf Tryz.f127) := dbl_long_M2_h_ok.addJ (q := 1) (p := [1]) (b := ((codeAt (bodyOf Tryz.f127) [0, 1]).getD .skip)) (show codeAt (bodyOf Tryz.f127) [1] = some (.scope ((codeAt (bodyOf Tryz.f127) [0, 1]).getD .skip)) from by kernel_rfl) (show codeAt (bodyOf Tryz.f127) [1, 1] = some ((codeAt (bodyOf Tryz.f127) [1, 1]).getD .skip) from by kernel_rfl) dbl_long_L1_ok
abbrev dbl_long_R : Type := (Int × Int × Int)
noncomputable def dbl_long_t {γ : Type} (a0_0 : Int) (a0_1 : Int) (a1 : Int) (k : dbl_long_R → Option γ) : Option γ := cond (decide (ibits BinOp.or IntKind.u64 (0 : Int) (ibits BinOp.and IntKind.u64 (Int.fdiv (IntKind.wrap IntKind.u64 a0_1) (9223372036854775808 : Int)) (1 : Int)) ≥ IntKind.wrap IntKind.u64 a1)) (outOf (dbl_long_L1 (IntKind.wrap IntKind.u64 (ibits BinOp.or IntKind.u64 (0 : Int) (ibits BinOp.and IntKind.u64 (Int.fdiv (IntKind.wrap IntKind.u64 a0_1) (9223372036854775808 : Int)) (1 : Int)) - IntKind.wrap IntKind.u64 a1), IntKind.wrap IntKind.u64 a1, (126 : Int), a0_0, a0_1, (0 : Int), (0 : Int), ibits BinOp.or IntKind.i64 (0 : Int) (1 : Int), ibits BinOp.or IntKind.i64 (0 : Int) (0 : Int))) fun (x2 : (Int × (Int × Int))) => k (Prod.fst x2, Prod.fst (Prod.snd x2), Prod.snd (Prod.snd x2))) (outOf (dbl_long_L1 (ibits BinOp.or IntKind.u64 (0 : Int) (ibits BinOp.and IntKind.u64 (Int.fdiv (IntKind.wrap IntKind.u64 a0_1) (9223372036854775808 : Int)) (1 : Int)), IntKind.wrap IntKind.u64 a1, (126 : Int), a0_0, a0_1, (0 : Int), (0 : Int), (0 : Int), ibits BinOp.or IntKind.i64 (0 : Int) (0 : Int))) fun (x3 : (Int × (Int × Int))) => k (Prod.fst x3, Prod.fst (Prod.snd x3), Prod.snd (Prod.snd x3)))
noncomputable def dbl_long (a0_0 : Int) (a0_1 : Int) (a1 : Int) : Option dbl_long_R := dbl_long_t a0_0 a0_1 a1 some
theorem dbl_long_t_eq {γ : Type} (a0_0 : Int) (a0_1 : Int) (a1 : Int) (k : dbl_long_R → Option γ) : dbl_long_t a0_0 a0_1 a1 k = outOf (dbl_long a0_0 a0_1 a1) k := by
  delta dbl_long dbl_long_t; exact (Tr.nd (Tr.bd fun x2 => Tr.lf) (Tr.bd fun x3 => Tr.lf))
noncomputable def dbl_long_sp : TX.Spec := specD [.agg (.pair (.int .i64) (.int .i64)), .val (.int .i64)] [] fun _ a m k => match a, m with | ⟨⟨a0_0, a0_1⟩, a1, _⟩, _ => outOf (dbl_long a0_0 a0_1 a1) fun v => k (.tup [.lit (.int .i64 v.1), .agg [.lit (.int .i64 v.2.1), .lit (.int .i64 v.2.2)]]) []
theorem dbl_long_ev {α : Type} (a0_0 : Int) (a0_1 : Int) (a1 : Int) (k : Kont α) : evFun Tryz.prog E1 (dbl_long_L1_h) false Tryz.f127 (bodyOf Tryz.f127) 60 (mkS [.agg (.pair (.int .i64) (.int .i64)), .val (.int .i64)] ((a0_0, a0_1), a1, ())) (mkH [] ()) k = outOf (dbl_long a0_0 a0_1 a1) fun v => k (.tup [.lit (.int .i64 v.1), .agg [.lit (.int .i64 v.2.1), .lit (.int .i64 v.2.2)]]) [] :=
  (show _ = dbl_long_t a0_0 a0_1 a1 (fun v => k (.tup [.lit (.int .i64 v.1), .agg [.lit (.int .i64 v.2.1), .lit (.int .i64 v.2.2)]]) []) from by kernel_rfl).trans (dbl_long_t_eq a0_0 a0_1 a1 _)
theorem dbl_long_good : TX.Good Tryz.prog 127 dbl_long_sp := good_form E1_ok mixed Tryz.func127 (body_of rfl) (by kernel_rfl) false fun α a m k r h => by
  obtain ⟨⟨a0_0, a0_1⟩, a1, _⟩ := a; obtain _ := m
  exact ⟨dbl_long_L1_h, 60, dbl_long_L1_h_ok, rfl, (dbl_long_ev a0_0 a0_1 a1 k).trans h⟩
noncomputable def E2 : Env := E1.add 92 true dbl_Of_sp |>.add 94 true dbl_Add_sp |>.add 125 true mul64_sp |>.add 76 true cell_Ult_sp |>.add 127 true dbl_long_sp
theorem E2_ok : E2.OK Tryz.prog := (((((E1_ok).add_ok dbl_Of_good).add_ok dbl_Add_good).add_ok mul64_good).add_ok cell_Ult_good).add_ok dbl_long_good
def dbl_Neg_h0 : Hints := Hints.nil 0
theorem dbl_Neg_h0_ok : dbl_Neg_h0.OK Tryz.prog (bodyOf Tryz.f96) := Hints.nil_ok
abbrev dbl_Neg_R : Type := (Int × Int)
noncomputable def dbl_Neg_t {γ : Type} (a0_0 : Int) (a0_1 : Int) (k : dbl_Neg_R → Option γ) : Option γ := outOf (dbl_Add (ibits BinOp.xor IntKind.i64 (-1 : Int) a0_0) (ibits BinOp.xor IntKind.i64 (-1 : Int) a0_1) (1 : Int) (0 : Int)) fun (x1 : (Int × Int)) => k (Prod.fst x1, Prod.snd x1)
noncomputable def dbl_Neg (a0_0 : Int) (a0_1 : Int) : Option dbl_Neg_R := dbl_Neg_t a0_0 a0_1 some
theorem dbl_Neg_t_eq {γ : Type} (a0_0 : Int) (a0_1 : Int) (k : dbl_Neg_R → Option γ) : dbl_Neg_t a0_0 a0_1 k = outOf (dbl_Neg a0_0 a0_1) k := by
  delta dbl_Neg dbl_Neg_t; exact (Tr.bd fun x1 => Tr.lf)
noncomputable def dbl_Neg_sp : TX.Spec := specD [.agg (.pair (.int .i64) (.int .i64))] [] fun _ a m k => match a, m with | ⟨⟨a0_0, a0_1⟩, _⟩, _ => outOf (dbl_Neg a0_0 a0_1) fun v => k (.agg [.lit (.int .i64 v.1), .lit (.int .i64 v.2)]) []
theorem dbl_Neg_ev {α : Type} (a0_0 : Int) (a0_1 : Int) (k : Kont α) : evFun Tryz.prog E2 (dbl_Neg_h0) false Tryz.f96 (bodyOf Tryz.f96) 60 (mkS [.agg (.pair (.int .i64) (.int .i64))] ((a0_0, a0_1), ())) (mkH [] ()) k = outOf (dbl_Neg a0_0 a0_1) fun v => k (.agg [.lit (.int .i64 v.1), .lit (.int .i64 v.2)]) [] :=
  (show _ = dbl_Neg_t a0_0 a0_1 (fun v => k (.agg [.lit (.int .i64 v.1), .lit (.int .i64 v.2)]) []) from by kernel_rfl).trans (dbl_Neg_t_eq a0_0 a0_1 _)
theorem dbl_Neg_good : TX.Good Tryz.prog 96 dbl_Neg_sp := good_form E2_ok mixed Tryz.func96 (body_of rfl) (by kernel_rfl) false fun α a m k r h => by
  obtain ⟨⟨a0_0, a0_1⟩, _⟩ := a; obtain _ := m
  exact ⟨dbl_Neg_h0, 60, dbl_Neg_h0_ok, rfl, (dbl_Neg_ev a0_0 a0_1 k).trans h⟩
def dbl_UMul_h0 : Hints := Hints.nil 0
theorem dbl_UMul_h0_ok : dbl_UMul_h0.OK Tryz.prog (bodyOf Tryz.f84) := Hints.nil_ok
noncomputable def dbl_UMul (a0 : Int) (a1 : Int) : Int × Int := (IntKind.wrap IntKind.i64 (Prod.snd (mul64 (IntKind.wrap IntKind.u64 a0) (IntKind.wrap IntKind.u64 a1))), IntKind.wrap IntKind.i64 (Prod.fst (mul64 (IntKind.wrap IntKind.u64 a0) (IntKind.wrap IntKind.u64 a1))))
noncomputable def dbl_UMul_sp : TX.Spec := specD [.val (.int .i64), .val (.int .i64)] [] fun _ a m k => match a, m with | ⟨a0, a1, _⟩, _ => k (.agg [.lit (.int .i64 ((dbl_UMul a0 a1).1)), .lit (.int .i64 ((dbl_UMul a0 a1).2))]) []
theorem dbl_UMul_ev {α : Type} (a0 : Int) (a1 : Int) (k : Kont α) : evFun Tryz.prog E2 (dbl_UMul_h0) false Tryz.f84 (bodyOf Tryz.f84) 60 (mkS [.val (.int .i64), .val (.int .i64)] (a0, a1, ())) (mkH [] ()) k = k (.agg [.lit (.int .i64 ((dbl_UMul a0 a1).1)), .lit (.int .i64 ((dbl_UMul a0 a1).2))]) [] :=
  by kernel_rfl
theorem dbl_UMul_good : TX.Good Tryz.prog 84 dbl_UMul_sp := good_form E2_ok mixed Tryz.func84 (body_of rfl) (by kernel_rfl) false fun α a m k r h => by
  obtain ⟨a0, a1, _⟩ := a; obtain _ := m
  exact ⟨dbl_UMul_h0, 60, dbl_UMul_h0_ok, rfl, (dbl_UMul_ev a0 a1 k).trans h⟩
def dbl_UMod_h0 : Hints := Hints.nil 0
theorem dbl_UMod_h0_ok : dbl_UMod_h0.OK Tryz.prog (bodyOf Tryz.f88) := Hints.nil_ok
abbrev dbl_UMod_R : Type := (Int × Int × Int)
noncomputable def dbl_UMod_t {γ : Type} (a0_0 : Int) (a0_1 : Int) (a1 : Int) (k : dbl_UMod_R → Option γ) : Option γ := cond (a1 == (0 : Int)) (k ((0 : Int), (0 : Int), (-10 : Int))) (cond (!cell_Ult a0_1 a1) (k ((0 : Int), (0 : Int), (-11 : Int))) (outOf (dbl_long a0_0 a0_1 a1) fun (x1 : (Int × (Int × Int))) => k (Prod.fst x1, Prod.fst (Prod.snd x1), (0 : Int))))
noncomputable def dbl_UMod (a0_0 : Int) (a0_1 : Int) (a1 : Int) : Option dbl_UMod_R := dbl_UMod_t a0_0 a0_1 a1 some
theorem dbl_UMod_t_eq {γ : Type} (a0_0 : Int) (a0_1 : Int) (a1 : Int) (k : dbl_UMod_R → Option γ) : dbl_UMod_t a0_0 a0_1 a1 k = outOf (dbl_UMod a0_0 a0_1 a1) k := by
  delta dbl_UMod dbl_UMod_t; exact (Tr.nd Tr.lf (Tr.nd Tr.lf (Tr.bd fun x1 => Tr.lf)))
noncomputable def dbl_UMod_sp : TX.Spec := specD [.agg (.pair (.int .i64) (.int .i64)), .val (.int .i64)] [] fun _ a m k => match a, m with | ⟨⟨a0_0, a0_1⟩, a1, _⟩, _ => outOf (dbl_UMod a0_0 a0_1 a1) fun v => k (.tup [.lit (.int .i64 v.1), .lit (.int .i64 v.2.1), .lit (.int .i64 v.2.2)]) []
theorem dbl_UMod_ev {α : Type} (a0_0 : Int) (a0_1 : Int) (a1 : Int) (k : Kont α) : evFun Tryz.prog E2 (dbl_UMod_h0) false Tryz.f88 (bodyOf Tryz.f88) 60 (mkS [.agg (.pair (.int .i64) (.int .i64)), .val (.int .i64)] ((a0_0, a0_1), a1, ())) (mkH [] ()) k = outOf (dbl_UMod a0_0 a0_1 a1) fun v => k (.tup [.lit (.int .i64 v.1), .lit (.int .i64 v.2.1), .lit (.int .i64 v.2.2)]) [] :=
  (show _ = dbl_UMod_t a0_0 a0_1 a1 (fun v => k (.tup [.lit (.int .i64 v.1), .lit (.int .i64 v.2.1), .lit (.int .i64 v.2.2)]) []) from by kernel_rfl).trans (dbl_UMod_t_eq a0_0 a0_1 a1 _)
theorem dbl_UMod_good : TX.Good Tryz.prog 88 dbl_UMod_sp := good_form E2_ok mixed Tryz.func88 (body_of rfl) (by kernel_rfl) false fun α a m k r h => by
  obtain ⟨⟨a0_0, a0_1⟩, a1, _⟩ := a; obtain _ := m
  exact ⟨dbl_UMod_h0, 60, dbl_UMod_h0_ok, rfl, (dbl_UMod_ev a0_0 a0_1 a1 k).trans h⟩
def dbl_fits_h0 : Hints := Hints.nil 0
theorem dbl_fits_h0_ok : dbl_fits_h0.OK Tryz.prog (bodyOf Tryz.f129) := Hints.nil_ok
abbrev dbl_fits_R : Type := (Int × Int × Int)
noncomputable def dbl_fits_t {γ : Type} (a0 : Int) (a1_0 : Int) (a1_1 : Int) (a2 : Bool) (k : dbl_fits_R → Option γ) : Option γ := cond (!a2) (k ((0 : Int), (0 : Int), (-11 : Int))) (cond (!(a1_0 == Prod.fst (dbl_Of a1_0) && (a1_1 == Prod.snd (dbl_Of a1_0) && true))) (k ((0 : Int), (0 : Int), (-11 : Int))) (k (a0, a1_0, (0 : Int))))
noncomputable def dbl_fits (a0 : Int) (a1_0 : Int) (a1_1 : Int) (a2 : Bool) : Option dbl_fits_R := dbl_fits_t a0 a1_0 a1_1 a2 some
theorem dbl_fits_t_eq {γ : Type} (a0 : Int) (a1_0 : Int) (a1_1 : Int) (a2 : Bool) (k : dbl_fits_R → Option γ) : dbl_fits_t a0 a1_0 a1_1 a2 k = outOf (dbl_fits a0 a1_0 a1_1 a2) k := by
  delta dbl_fits dbl_fits_t; exact (Tr.nd Tr.lf (Tr.nd Tr.lf Tr.lf))
noncomputable def dbl_fits_sp : TX.Spec := specD [.val (.int .i64), .agg (.pair (.int .i64) (.int .i64)), .val .bool] [] fun _ a m k => match a, m with | ⟨a0, ⟨a1_0, a1_1⟩, a2, _⟩, _ => outOf (dbl_fits a0 a1_0 a1_1 a2) fun v => k (.tup [.lit (.int .i64 v.1), .lit (.int .i64 v.2.1), .lit (.int .i64 v.2.2)]) []
theorem dbl_fits_ev {α : Type} (a0 : Int) (a1_0 : Int) (a1_1 : Int) (a2 : Bool) (k : Kont α) : evFun Tryz.prog E2 (dbl_fits_h0) false Tryz.f129 (bodyOf Tryz.f129) 60 (mkS [.val (.int .i64), .agg (.pair (.int .i64) (.int .i64)), .val .bool] (a0, (a1_0, a1_1), a2, ())) (mkH [] ()) k = outOf (dbl_fits a0 a1_0 a1_1 a2) fun v => k (.tup [.lit (.int .i64 v.1), .lit (.int .i64 v.2.1), .lit (.int .i64 v.2.2)]) [] :=
  (show _ = dbl_fits_t a0 a1_0 a1_1 a2 (fun v => k (.tup [.lit (.int .i64 v.1), .lit (.int .i64 v.2.1), .lit (.int .i64 v.2.2)]) []) from by kernel_rfl).trans (dbl_fits_t_eq a0 a1_0 a1_1 a2 _)
theorem dbl_fits_good : TX.Good Tryz.prog 129 dbl_fits_sp := good_form E2_ok mixed Tryz.func129 (body_of rfl) (by kernel_rfl) false fun α a m k r h => by
  obtain ⟨a0, ⟨a1_0, a1_1⟩, a2, _⟩ := a; obtain _ := m
  exact ⟨dbl_fits_h0, 60, dbl_fits_h0_ok, rfl, (dbl_fits_ev a0 a1_0 a1_1 a2 k).trans h⟩
def cell_either_h0 : Hints := Hints.nil 0
theorem cell_either_h0_ok : cell_either_h0.OK Tryz.prog (bodyOf Tryz.f121) := Hints.nil_ok
abbrev cell_either_R : Type := (Int)
noncomputable def cell_either_t {γ : Type} (a0 : Bool) (a1 : Int) (a2 : Int) (k : cell_either_R → Option γ) : Option γ := cond a0 (k (a1)) (k (a2))
noncomputable def cell_either (a0 : Bool) (a1 : Int) (a2 : Int) : Option cell_either_R := cell_either_t a0 a1 a2 some
theorem cell_either_t_eq {γ : Type} (a0 : Bool) (a1 : Int) (a2 : Int) (k : cell_either_R → Option γ) : cell_either_t a0 a1 a2 k = outOf (cell_either a0 a1 a2) k := by
  delta cell_either cell_either_t; exact (Tr.nd Tr.lf Tr.lf)
noncomputable def cell_either_sp : TX.Spec := specD [.val .bool, .val (.int .i64), .val (.int .i64)] [] fun _ a m k => match a, m with | ⟨a0, a1, a2, _⟩, _ => outOf (cell_either a0 a1 a2) fun v => k (.lit (.int .i64 v)) []
theorem cell_either_ev {α : Type} (a0 : Bool) (a1 : Int) (a2 : Int) (k : Kont α) : evFun Tryz.prog E2 (cell_either_h0) false Tryz.f121 (bodyOf Tryz.f121) 60 (mkS [.val .bool, .val (.int .i64), .val (.int .i64)] (a0, a1, a2, ())) (mkH [] ()) k = outOf (cell_either a0 a1 a2) fun v => k (.lit (.int .i64 v)) [] :=
  (show _ = cell_either_t a0 a1 a2 (fun v => k (.lit (.int .i64 v)) []) from by kernel_rfl).trans (cell_either_t_eq a0 a1 a2 _)
theorem cell_either_good : TX.Good Tryz.prog 121 cell_either_sp := good_form E2_ok mixed Tryz.func121 (body_of rfl) (by kernel_rfl) false fun α a m k r h => by
  obtain ⟨a0, a1, a2, _⟩ := a; obtain _ := m
  exact ⟨cell_either_h0, 60, cell_either_h0_ok, rfl, (cell_either_ev a0 a1 a2 k).trans h⟩
def cell_shifts_h0 : Hints := Hints.nil 0
theorem cell_shifts_h0_ok : cell_shifts_h0.OK Tryz.prog (bodyOf Tryz.f122) := Hints.nil_ok
abbrev cell_shifts_R : Type := (Bool)
noncomputable def cell_shifts_t {γ : Type} (a0 : Int) (k : cell_shifts_R → Option γ) : Option γ := cond (decide (a0 ≥ (0 : Int))) (k (decide (a0 < (64 : Int)))) (k (false))
noncomputable def cell_shifts (a0 : Int) : Option cell_shifts_R := cell_shifts_t a0 some
theorem cell_shifts_t_eq {γ : Type} (a0 : Int) (k : cell_shifts_R → Option γ) : cell_shifts_t a0 k = outOf (cell_shifts a0) k := by
  delta cell_shifts cell_shifts_t; exact (Tr.nd Tr.lf Tr.lf)
noncomputable def cell_shifts_sp : TX.Spec := specD [.val (.int .i64)] [] fun _ a m k => match a, m with | ⟨a0, _⟩, _ => outOf (cell_shifts a0) fun v => k (.lit (.bool v)) []
theorem cell_shifts_ev {α : Type} (a0 : Int) (k : Kont α) : evFun Tryz.prog E2 (cell_shifts_h0) false Tryz.f122 (bodyOf Tryz.f122) 60 (mkS [.val (.int .i64)] (a0, ())) (mkH [] ()) k = outOf (cell_shifts a0) fun v => k (.lit (.bool v)) [] :=
  (show _ = cell_shifts_t a0 (fun v => k (.lit (.bool v)) []) from by kernel_rfl).trans (cell_shifts_t_eq a0 _)
theorem cell_shifts_good : TX.Good Tryz.prog 122 cell_shifts_sp := good_form E2_ok mixed Tryz.func122 (body_of rfl) (by kernel_rfl) false fun α a m k r h => by
  obtain ⟨a0, _⟩ := a; obtain _ := m
  exact ⟨cell_shifts_h0, 60, cell_shifts_h0_ok, rfl, (cell_shifts_ev a0 k).trans h⟩
noncomputable def E3 : Env := E2.add 96 true dbl_Neg_sp |>.add 84 true dbl_UMul_sp |>.add 88 true dbl_UMod_sp |>.add 129 true dbl_fits_sp |>.add 121 true cell_either_sp |>.add 122 true cell_shifts_sp
theorem E3_ok : E3.OK Tryz.prog := ((((((E2_ok).add_ok dbl_Neg_good).add_ok dbl_UMul_good).add_ok dbl_UMod_good).add_ok dbl_fits_good).add_ok cell_either_good).add_ok cell_shifts_good
def dbl_Mul_h0 : Hints := Hints.nil 0
theorem dbl_Mul_h0_ok : dbl_Mul_h0.OK Tryz.prog (bodyOf Tryz.f86) := Hints.nil_ok
abbrev dbl_Mul_R : Type := (Int × Int)
noncomputable def dbl_Mul_t {γ : Type} (a0 : Int) (a1 : Int) (k : dbl_Mul_R → Option γ) : Option γ := cond (decide (a0 < (0 : Int))) (cond (decide (a1 < (0 : Int))) (k (Prod.fst (dbl_UMul a0 a1), IntKind.wrap IntKind.i64 (IntKind.wrap IntKind.i64 (Prod.snd (dbl_UMul a0 a1) - a1) - a0))) (k (Prod.fst (dbl_UMul a0 a1), IntKind.wrap IntKind.i64 (Prod.snd (dbl_UMul a0 a1) - a1)))) (cond (decide (a1 < (0 : Int))) (k (Prod.fst (dbl_UMul a0 a1), IntKind.wrap IntKind.i64 (Prod.snd (dbl_UMul a0 a1) - a0))) (k (Prod.fst (dbl_UMul a0 a1), Prod.snd (dbl_UMul a0 a1))))
noncomputable def dbl_Mul (a0 : Int) (a1 : Int) : Option dbl_Mul_R := dbl_Mul_t a0 a1 some
theorem dbl_Mul_t_eq {γ : Type} (a0 : Int) (a1 : Int) (k : dbl_Mul_R → Option γ) : dbl_Mul_t a0 a1 k = outOf (dbl_Mul a0 a1) k := by
  delta dbl_Mul dbl_Mul_t; exact (Tr.nd (Tr.nd Tr.lf Tr.lf) (Tr.nd Tr.lf Tr.lf))
noncomputable def dbl_Mul_sp : TX.Spec := specD [.val (.int .i64), .val (.int .i64)] [] fun _ a m k => match a, m with | ⟨a0, a1, _⟩, _ => outOf (dbl_Mul a0 a1) fun v => k (.agg [.lit (.int .i64 v.1), .lit (.int .i64 v.2)]) []
theorem dbl_Mul_ev {α : Type} (a0 : Int) (a1 : Int) (k : Kont α) : evFun Tryz.prog E3 (dbl_Mul_h0) false Tryz.f86 (bodyOf Tryz.f86) 60 (mkS [.val (.int .i64), .val (.int .i64)] (a0, a1, ())) (mkH [] ()) k = outOf (dbl_Mul a0 a1) fun v => k (.agg [.lit (.int .i64 v.1), .lit (.int .i64 v.2)]) [] :=
  (show _ = dbl_Mul_t a0 a1 (fun v => k (.agg [.lit (.int .i64 v.1), .lit (.int .i64 v.2)]) []) from by kernel_rfl).trans (dbl_Mul_t_eq a0 a1 _)
theorem dbl_Mul_good : TX.Good Tryz.prog 86 dbl_Mul_sp := good_form E3_ok mixed Tryz.func86 (body_of rfl) (by kernel_rfl) false fun α a m k r h => by
  obtain ⟨a0, a1, _⟩ := a; obtain _ := m
  exact ⟨dbl_Mul_h0, 60, dbl_Mul_h0_ok, rfl, (dbl_Mul_ev a0 a1 k).trans h⟩
def dbl_abs_h0 : Hints := Hints.nil 0
theorem dbl_abs_h0_ok : dbl_abs_h0.OK Tryz.prog (bodyOf Tryz.f140) := Hints.nil_ok
abbrev dbl_abs_R : Type := (Int × Int)
noncomputable def dbl_abs_t {γ : Type} (a0_0 : Int) (a0_1 : Int) (k : dbl_abs_R → Option γ) : Option γ := cond (decide (a0_1 < (0 : Int))) (outOf (dbl_Neg a0_0 a0_1) fun (x1 : (Int × Int)) => k (Prod.fst x1, Prod.snd x1)) (k (a0_0, a0_1))
noncomputable def dbl_abs (a0_0 : Int) (a0_1 : Int) : Option dbl_abs_R := dbl_abs_t a0_0 a0_1 some
theorem dbl_abs_t_eq {γ : Type} (a0_0 : Int) (a0_1 : Int) (k : dbl_abs_R → Option γ) : dbl_abs_t a0_0 a0_1 k = outOf (dbl_abs a0_0 a0_1) k := by
  delta dbl_abs dbl_abs_t; exact (Tr.nd (Tr.bd fun x1 => Tr.lf) Tr.lf)
noncomputable def dbl_abs_sp : TX.Spec := specD [.agg (.pair (.int .i64) (.int .i64))] [] fun _ a m k => match a, m with | ⟨⟨a0_0, a0_1⟩, _⟩, _ => outOf (dbl_abs a0_0 a0_1) fun v => k (.agg [.lit (.int .i64 v.1), .lit (.int .i64 v.2)]) []
theorem dbl_abs_ev {α : Type} (a0_0 : Int) (a0_1 : Int) (k : Kont α) : evFun Tryz.prog E3 (dbl_abs_h0) false Tryz.f140 (bodyOf Tryz.f140) 60 (mkS [.agg (.pair (.int .i64) (.int .i64))] ((a0_0, a0_1), ())) (mkH [] ()) k = outOf (dbl_abs a0_0 a0_1) fun v => k (.agg [.lit (.int .i64 v.1), .lit (.int .i64 v.2)]) [] :=
  (show _ = dbl_abs_t a0_0 a0_1 (fun v => k (.agg [.lit (.int .i64 v.1), .lit (.int .i64 v.2)]) []) from by kernel_rfl).trans (dbl_abs_t_eq a0_0 a0_1 _)
theorem dbl_abs_good : TX.Good Tryz.prog 140 dbl_abs_sp := good_form E3_ok mixed Tryz.func140 (body_of rfl) (by kernel_rfl) false fun α a m k r h => by
  obtain ⟨⟨a0_0, a0_1⟩, _⟩ := a; obtain _ := m
  exact ⟨dbl_abs_h0, 60, dbl_abs_h0_ok, rfl, (dbl_abs_ev a0_0 a0_1 k).trans h⟩
def cell_Symm_h0 : Hints := Hints.nil 0
theorem cell_Symm_h0_ok : cell_Symm_h0.OK Tryz.prog (bodyOf Tryz.f139) := Hints.nil_ok
abbrev cell_Symm_R : Type := (Int × Int × Int)
noncomputable def cell_Symm_t {γ : Type} (a0 : Int) (a1 : Int) (k : cell_Symm_R → Option γ) : Option γ := cond (a1 == (0 : Int)) (k ((0 : Int), (0 : Int), (-10 : Int))) (cond (a1 == (-1 : Int)) (cond (a0 == (-9223372036854775808 : Int)) (k ((0 : Int), (0 : Int), (-11 : Int))) (cond (decide (a1 = (0 : Int))) (none) (cond (decide (a1 = (0 : Int))) (none) (k (IntKind.wrap IntKind.i64 (Int.tdiv a0 a1), Int.tmod a0 a1, (0 : Int)))))) (cond (decide (a1 = (0 : Int))) (none) (cond (decide (a1 = (0 : Int))) (none) (k (IntKind.wrap IntKind.i64 (Int.tdiv a0 a1), Int.tmod a0 a1, (0 : Int))))))
noncomputable def cell_Symm (a0 : Int) (a1 : Int) : Option cell_Symm_R := cell_Symm_t a0 a1 some
theorem cell_Symm_t_eq {γ : Type} (a0 : Int) (a1 : Int) (k : cell_Symm_R → Option γ) : cell_Symm_t a0 a1 k = outOf (cell_Symm a0 a1) k := by
  delta cell_Symm cell_Symm_t; exact (Tr.nd Tr.lf (Tr.nd (Tr.nd Tr.lf (Tr.nd Tr.no (Tr.nd Tr.no Tr.lf))) (Tr.nd Tr.no (Tr.nd Tr.no Tr.lf))))
noncomputable def cell_Symm_sp : TX.Spec := specD [.val (.int .i64), .val (.int .i64)] [] fun _ a m k => match a, m with | ⟨a0, a1, _⟩, _ => outOf (cell_Symm a0 a1) fun v => k (.tup [.lit (.int .i64 v.1), .lit (.int .i64 v.2.1), .lit (.int .i64 v.2.2)]) []
theorem cell_Symm_ev {α : Type} (a0 : Int) (a1 : Int) (k : Kont α) : evFun Tryz.prog E3 (cell_Symm_h0) false Tryz.f139 (bodyOf Tryz.f139) 60 (mkS [.val (.int .i64), .val (.int .i64)] (a0, a1, ())) (mkH [] ()) k = outOf (cell_Symm a0 a1) fun v => k (.tup [.lit (.int .i64 v.1), .lit (.int .i64 v.2.1), .lit (.int .i64 v.2.2)]) [] :=
  (show _ = cell_Symm_t a0 a1 (fun v => k (.tup [.lit (.int .i64 v.1), .lit (.int .i64 v.2.1), .lit (.int .i64 v.2.2)]) []) from by kernel_rfl).trans (cell_Symm_t_eq a0 a1 _)
theorem cell_Symm_good : TX.Good Tryz.prog 139 cell_Symm_sp := good_form E3_ok mixed Tryz.func139 (body_of rfl) (by kernel_rfl) false fun α a m k r h => by
  obtain ⟨a0, a1, _⟩ := a; obtain _ := m
  exact ⟨cell_Symm_h0, 60, cell_Symm_h0_ok, rfl, (cell_Symm_ev a0 a1 k).trans h⟩
def cell_Shl_h0 : Hints := Hints.nil 0
theorem cell_Shl_h0_ok : cell_Shl_h0.OK Tryz.prog (bodyOf Tryz.f69) := Hints.nil_ok
abbrev cell_Shl_R : Type := (Int)
noncomputable def cell_Shl_t {γ : Type} (a0 : Int) (a1 : Int) (k : cell_Shl_R → Option γ) : Option γ := outOf (cell_shifts a1) fun (x1 : Bool) => cond (decide (Int.tmod (IntKind.wrap IntKind.u64 a1) (64 : Int) < (0 : Int))) (none) (outOf (cell_either x1 (IntKind.wrap IntKind.i64 (a0 * (2 : Int) ^ min (Int.toNat (Int.tmod (IntKind.wrap IntKind.u64 a1) (64 : Int))) (64 : Nat))) (0 : Int)) fun (x2 : Int) => k (x2))
noncomputable def cell_Shl (a0 : Int) (a1 : Int) : Option cell_Shl_R := cell_Shl_t a0 a1 some
theorem cell_Shl_t_eq {γ : Type} (a0 : Int) (a1 : Int) (k : cell_Shl_R → Option γ) : cell_Shl_t a0 a1 k = outOf (cell_Shl a0 a1) k := by
  delta cell_Shl cell_Shl_t; exact (Tr.bd fun x1 => (Tr.nd Tr.no (Tr.bd fun x2 => Tr.lf)))
noncomputable def cell_Shl_sp : TX.Spec := specD [.val (.int .i64), .val (.int .i64)] [] fun _ a m k => match a, m with | ⟨a0, a1, _⟩, _ => outOf (cell_Shl a0 a1) fun v => k (.lit (.int .i64 v)) []
theorem cell_Shl_ev {α : Type} (a0 : Int) (a1 : Int) (k : Kont α) : evFun Tryz.prog E3 (cell_Shl_h0) false Tryz.f69 (bodyOf Tryz.f69) 60 (mkS [.val (.int .i64), .val (.int .i64)] (a0, a1, ())) (mkH [] ()) k = outOf (cell_Shl a0 a1) fun v => k (.lit (.int .i64 v)) [] :=
  (show _ = cell_Shl_t a0 a1 (fun v => k (.lit (.int .i64 v)) []) from by kernel_rfl).trans (cell_Shl_t_eq a0 a1 _)
theorem cell_Shl_good : TX.Good Tryz.prog 69 cell_Shl_sp := good_form E3_ok mixed Tryz.func69 (body_of rfl) (by kernel_rfl) false fun α a m k r h => by
  obtain ⟨a0, a1, _⟩ := a; obtain _ := m
  exact ⟨cell_Shl_h0, 60, cell_Shl_h0_ok, rfl, (cell_Shl_ev a0 a1 k).trans h⟩
def cell_Shr_h0 : Hints := Hints.nil 0
theorem cell_Shr_h0_ok : cell_Shr_h0.OK Tryz.prog (bodyOf Tryz.f70) := Hints.nil_ok
abbrev cell_Shr_R : Type := (Int)
noncomputable def cell_Shr_t {γ : Type} (a0 : Int) (a1 : Int) (k : cell_Shr_R → Option γ) : Option γ := outOf (cell_shifts a1) fun (x1 : Bool) => cond (decide (Int.tmod (IntKind.wrap IntKind.u64 a1) (64 : Int) < (0 : Int))) (none) (outOf (cell_either x1 (IntKind.wrap IntKind.i64 (Int.fdiv (IntKind.wrap IntKind.u64 a0) ((2 : Int) ^ min (Int.toNat (Int.tmod (IntKind.wrap IntKind.u64 a1) (64 : Int))) (64 : Nat)))) (0 : Int)) fun (x2 : Int) => k (x2))
noncomputable def cell_Shr (a0 : Int) (a1 : Int) : Option cell_Shr_R := cell_Shr_t a0 a1 some
theorem cell_Shr_t_eq {γ : Type} (a0 : Int) (a1 : Int) (k : cell_Shr_R → Option γ) : cell_Shr_t a0 a1 k = outOf (cell_Shr a0 a1) k := by
  delta cell_Shr cell_Shr_t; exact (Tr.bd fun x1 => (Tr.nd Tr.no (Tr.bd fun x2 => Tr.lf)))
noncomputable def cell_Shr_sp : TX.Spec := specD [.val (.int .i64), .val (.int .i64)] [] fun _ a m k => match a, m with | ⟨a0, a1, _⟩, _ => outOf (cell_Shr a0 a1) fun v => k (.lit (.int .i64 v)) []
theorem cell_Shr_ev {α : Type} (a0 : Int) (a1 : Int) (k : Kont α) : evFun Tryz.prog E3 (cell_Shr_h0) false Tryz.f70 (bodyOf Tryz.f70) 60 (mkS [.val (.int .i64), .val (.int .i64)] (a0, a1, ())) (mkH [] ()) k = outOf (cell_Shr a0 a1) fun v => k (.lit (.int .i64 v)) [] :=
  (show _ = cell_Shr_t a0 a1 (fun v => k (.lit (.int .i64 v)) []) from by kernel_rfl).trans (cell_Shr_t_eq a0 a1 _)
theorem cell_Shr_good : TX.Good Tryz.prog 70 cell_Shr_sp := good_form E3_ok mixed Tryz.func70 (body_of rfl) (by kernel_rfl) false fun α a m k r h => by
  obtain ⟨a0, a1, _⟩ := a; obtain _ := m
  exact ⟨cell_Shr_h0, 60, cell_Shr_h0_ok, rfl, (cell_Shr_ev a0 a1 k).trans h⟩
def cell_Aligned_h0 : Hints := Hints.nil 0
theorem cell_Aligned_h0_ok : cell_Aligned_h0.OK Tryz.prog (bodyOf Tryz.f64) := Hints.nil_ok
noncomputable def cell_Aligned (a0 : Int) : Int := (ibits BinOp.andNot IntKind.i64 (IntKind.wrap IntKind.i64 (IntKind.wrap IntKind.i64 (a0 + (8 : Int)) - (1 : Int))) (7 : Int))
noncomputable def cell_Aligned_sp : TX.Spec := specD [.val (.int .i64)] [] fun _ a m k => match a, m with | ⟨a0, _⟩, _ => k (.lit (.int .i64 (cell_Aligned a0))) []
theorem cell_Aligned_ev {α : Type} (a0 : Int) (k : Kont α) : evFun Tryz.prog E3 (cell_Aligned_h0) false Tryz.f64 (bodyOf Tryz.f64) 60 (mkS [.val (.int .i64)] (a0, ())) (mkH [] ()) k = k (.lit (.int .i64 (cell_Aligned a0))) [] :=
  by kernel_rfl
theorem cell_Aligned_good : TX.Good Tryz.prog 64 cell_Aligned_sp := good_form E3_ok mixed Tryz.func64 (body_of rfl) (by kernel_rfl) false fun α a m k r h => by
  obtain ⟨a0, _⟩ := a; obtain _ := m
  exact ⟨cell_Aligned_h0, 60, cell_Aligned_h0_ok, rfl, (cell_Aligned_ev a0 k).trans h⟩
def cell_Flag_h0 : Hints := Hints.nil 0
theorem cell_Flag_h0_ok : cell_Flag_h0.OK Tryz.prog (bodyOf Tryz.f78) := Hints.nil_ok
abbrev cell_Flag_R : Type := (Int)
noncomputable def cell_Flag_t {γ : Type} (a0 : Bool) (k : cell_Flag_R → Option γ) : Option γ := outOf (cell_either a0 (-1 : Int) (0 : Int)) fun (x1 : Int) => k (x1)
noncomputable def cell_Flag (a0 : Bool) : Option cell_Flag_R := cell_Flag_t a0 some
theorem cell_Flag_t_eq {γ : Type} (a0 : Bool) (k : cell_Flag_R → Option γ) : cell_Flag_t a0 k = outOf (cell_Flag a0) k := by
  delta cell_Flag cell_Flag_t; exact (Tr.bd fun x1 => Tr.lf)
noncomputable def cell_Flag_sp : TX.Spec := specD [.val .bool] [] fun _ a m k => match a, m with | ⟨a0, _⟩, _ => outOf (cell_Flag a0) fun v => k (.lit (.int .i64 v)) []
theorem cell_Flag_ev {α : Type} (a0 : Bool) (k : Kont α) : evFun Tryz.prog E3 (cell_Flag_h0) false Tryz.f78 (bodyOf Tryz.f78) 60 (mkS [.val .bool] (a0, ())) (mkH [] ()) k = outOf (cell_Flag a0) fun v => k (.lit (.int .i64 v)) [] :=
  (show _ = cell_Flag_t a0 (fun v => k (.lit (.int .i64 v)) []) from by kernel_rfl).trans (cell_Flag_t_eq a0 _)
theorem cell_Flag_good : TX.Good Tryz.prog 78 cell_Flag_sp := good_form E3_ok mixed Tryz.func78 (body_of rfl) (by kernel_rfl) false fun α a m k r h => by
  obtain ⟨a0, _⟩ := a; obtain _ := m
  exact ⟨cell_Flag_h0, 60, cell_Flag_h0_ok, rfl, (cell_Flag_ev a0 k).trans h⟩
def cell_Within_h0 : Hints := Hints.nil 0
theorem cell_Within_h0_ok : cell_Within_h0.OK Tryz.prog (bodyOf Tryz.f81) := Hints.nil_ok
noncomputable def cell_Within (a0 : Int) (a1 : Int) (a2 : Int) : Bool := (cell_Ult (IntKind.wrap IntKind.i64 (a0 - a1)) (IntKind.wrap IntKind.i64 (a2 - a1)))
noncomputable def cell_Within_sp : TX.Spec := specD [.val (.int .i64), .val (.int .i64), .val (.int .i64)] [] fun _ a m k => match a, m with | ⟨a0, a1, a2, _⟩, _ => k (.lit (.bool (cell_Within a0 a1 a2))) []
theorem cell_Within_ev {α : Type} (a0 : Int) (a1 : Int) (a2 : Int) (k : Kont α) : evFun Tryz.prog E3 (cell_Within_h0) false Tryz.f81 (bodyOf Tryz.f81) 60 (mkS [.val (.int .i64), .val (.int .i64), .val (.int .i64)] (a0, a1, a2, ())) (mkH [] ()) k = k (.lit (.bool (cell_Within a0 a1 a2))) [] :=
  by kernel_rfl
theorem cell_Within_good : TX.Good Tryz.prog 81 cell_Within_sp := good_form E3_ok mixed Tryz.func81 (body_of rfl) (by kernel_rfl) false fun α a m k r h => by
  obtain ⟨a0, a1, a2, _⟩ := a; obtain _ := m
  exact ⟨cell_Within_h0, 60, cell_Within_h0_ok, rfl, (cell_Within_ev a0 a1 a2 k).trans h⟩
noncomputable def E4 : Env := E3.add 86 true dbl_Mul_sp |>.add 140 true dbl_abs_sp |>.add 139 true cell_Symm_sp |>.add 69 true cell_Shl_sp |>.add 70 true cell_Shr_sp |>.add 64 true cell_Aligned_sp |>.add 78 true cell_Flag_sp |>.add 81 true cell_Within_sp
theorem E4_ok : E4.OK Tryz.prog := ((((((((E3_ok).add_ok dbl_Mul_good).add_ok dbl_abs_good).add_ok cell_Symm_good).add_ok cell_Shl_good).add_ok cell_Shr_good).add_ok cell_Aligned_good).add_ok cell_Flag_good).add_ok cell_Within_good
def dbl_split_h0 : Hints := Hints.nil 0
theorem dbl_split_h0_ok : dbl_split_h0.OK Tryz.prog (bodyOf Tryz.f128) := Hints.nil_ok
def dbl_split_M1_A : List SD := [.any, .val (.int .i64), .loc 0 0 0, .any, .any, .loc 1 0 0, .any, .val (.int .i64), .any, .any, .any, .any, .any, .any, .any, .any, .any, .any, .any, .any, .any, .any, .any, .any, .any, .any, .any, .any, .any, .any, .any, .any, .any, .any, .any, .any, .any, .any, .any, .any]
def dbl_split_M1_H : List HD := [.box [.val (.int .i64), .val (.int .i64)], .box [.val (.int .i64), .val (.int .i64)]]
abbrev dbl_split_M1_D : Type := Int × Int × Int × Int × Int × Int
def dbl_split_M1_to (a : DenS dbl_split_M1_A) (m : DenH dbl_split_M1_H) : dbl_split_M1_D := (a.2.1, a.2.2.2.2.2.2.2.1, m.1.1, m.1.2.1, m.2.1.1, m.2.1.2.1)
def dbl_split_M1_ofA (d : dbl_split_M1_D) : DenS dbl_split_M1_A := match d with | (s1, s7, m0_0, m0_1, m1_0, m1_1) => ((), s1, (), (), (), (), (), s7, (), (), (), (), (), (), (), (), (), (), (), (), (), (), (), (), (), (), (), (), (), (), (), (), (), (), (), (), (), (), (), (), ())
def dbl_split_M1_ofH (d : dbl_split_M1_D) : DenH dbl_split_M1_H := match d with | (s1, s7, m0_0, m0_1, m1_0, m1_1) => ((m0_0, m0_1, ()), (m1_0, m1_1, ()), ())
def dbl_split_M1_N : Norm := (⟨[1, 2, 5, 7], [], []⟩ : Go.TX.Norm)
def dbl_split_M1_X : Exit → Norm := fun e => match e with | .normal => ⟨[1, 2, 5, 7], [], []⟩ | _ => ⟨[], [], []⟩
abbrev dbl_split_M1_R : Type := (Int)
def dbl_split_M1_fin (d : dbl_split_M1_D) (v : dbl_split_M1_R) : Exit × St := (.normal, ⟨[.any, .lit (.int .i64 d.1), .ptr 0 0 0, .any, .any, .ptr 1 0 0, .any, .lit (.int .i64 v), .any, .any, .any, .any, .any, .any, .any, .any, .any, .any, .any, .any, .any, .any, .any, .any, .any, .any, .any, .any, .any, .any, .any, .any, .any, .any, .any, .any, .any, .any, .any, .any], [.box [.lit (.int .i64 d.2.2.1), .lit (.int .i64 d.2.2.2.1)], .box [.lit (.int .i64 d.2.2.2.2.1), .lit (.int .i64 d.2.2.2.2.2)]]⟩)
noncomputable def dbl_split_M1_t {γ : Type} (s1 : Int) (s7 : Int) (k : dbl_split_M1_R → Option γ) : Option γ := cond (decide (s1 < (0 : Int))) (k (IntKind.wrap IntKind.i64 ((0 : Int) - s1))) (k (s7))
noncomputable def dbl_split_M1 (s1 : Int) (s7 : Int) : Option dbl_split_M1_R := dbl_split_M1_t s1 s7 some
theorem dbl_split_M1_t_eq {γ : Type} (s1 : Int) (s7 : Int) (k : dbl_split_M1_R → Option γ) : dbl_split_M1_t s1 s7 k = outOf (dbl_split_M1 s1 s7) k := by
  delta dbl_split_M1 dbl_split_M1_t; exact (Tr.nd Tr.lf Tr.lf)
theorem dbl_split_M1_ev (α : Type) (d : dbl_split_M1_D) (k : Exit → St → Option α) : ev Tryz.prog E4 dbl_split_h0 60 [0, 1, 1] ((codeAt (bodyOf Tryz.f128) [0, 1, 1]).getD .skip) ⟨mkS dbl_split_M1_A (dbl_split_M1_ofA d), mkH dbl_split_M1_H (dbl_split_M1_ofH d)⟩ (exitN 0 dbl_split_M1_X k) = outOf (dbl_split_M1 d.1 d.2.1) fun x => k (dbl_split_M1_fin d x).1 (dbl_split_M1_fin d x).2 := by
  obtain ⟨s1, s7, m0_0, m0_1, m1_0, m1_1⟩ := d
  exact (show _ = dbl_split_M1_t s1 s7 (fun x => k (dbl_split_M1_fin (s1, s7, m0_0, m0_1, m1_0, m1_1) x).1 (dbl_split_M1_fin (s1, s7, m0_0, m0_1, m1_0, m1_1) x).2) from by kernel_rfl).trans (dbl_split_M1_t_eq s1 s7 _)
noncomputable def dbl_split_M1_sp : CSpec := fun _ st k => reNorm 0 dbl_split_M1_N dbl_split_M1_A dbl_split_M1_H st fun a m => outOf (dbl_split_M1 (dbl_split_M1_to a m).1 (dbl_split_M1_to a m).2.1) fun v => k .normal ⟨[.any, .lit (.int .i64 (dbl_split_M1_to a m).1), .ptr 0 0 0, .any, .any, .ptr 1 0 0, .any, .lit (.int .i64 v), .any, .any, .any, .any, .any, .any, .any, .any, .any, .any, .any, .any, .any, .any, .any, .any, .any, .any, .any, .any, .any, .any, .any, .any, .any, .any, .any, .any, .any, .any, .any, .any], [.box [.lit (.int .i64 (dbl_split_M1_to a m).2.2.1), .lit (.int .i64 (dbl_split_M1_to a m).2.2.2.1)], .box [.lit (.int .i64 (dbl_split_M1_to a m).2.2.2.2.1), .lit (.int .i64 (dbl_split_M1_to a m).2.2.2.2.2)]]⟩
theorem dbl_split_M1_ok : SumOK Tryz.prog 0 ((codeAt (bodyOf Tryz.f128) [0, 1, 1]).getD .skip) dbl_split_M1_sp := (SumOK.once E4_ok mixed dbl_split_h0_ok (show codeAt (bodyOf Tryz.f128) [0, 1, 1] = some ((codeAt (bodyOf Tryz.f128) [0, 1, 1]).getD .skip) from by kernel_rfl) (N := dbl_split_M1_N) (Nx := dbl_split_M1_X) (A := dbl_split_M1_A) (Hs := dbl_split_M1_H) (toD := dbl_split_M1_to) (ofA := dbl_split_M1_ofA) (ofH := dbl_split_M1_ofH) (fun _ _ => rfl) (fun _ _ => rfl) (M := fun d => dbl_split_M1 d.1 d.2.1) (fin := dbl_split_M1_fin) 60 dbl_split_M1_ev).mono fun α st k r h => by
  refine Eq.trans (congrArg (reNorm 0 dbl_split_M1_N dbl_split_M1_A dbl_split_M1_H st) ?_) h
  funext a m
  exact outOf_congr fun x => rfl
noncomputable def dbl_split_M1_h : Hints := dbl_split_h0.add [0, 1, 1] dbl_split_M1_sp
theorem dbl_split_M1_h_ok : dbl_split_M1_h.OK Tryz.prog (bodyOf Tryz.f128) := dbl_split_h0_ok.add (show codeAt (bodyOf Tryz.f128) [0, 1, 1] = some ((codeAt (bodyOf Tryz.f128) [0, 1, 1]).getD .skip) from by kernel_rfl) dbl_split_M1_ok
def dbl_split_M2_A : List SD := [.any, .val (.int .i64), .loc 0 0 0, .any, .any, .loc 1 0 0, .any, .any, .val (.int .i64), .loc 2 0 0, .any, .any, .any, .any, .any, .any, .any, .any, .any, .any, .any, .any, .any, .any, .any, .any, .any, .any, .any, .any, .any, .any, .any, .any, .any, .any, .any, .any, .any, .any]
def dbl_split_M2_H : List HD := [.box [.val (.int .i64), .val (.int .i64)], .box [.val (.int .i64), .val (.int .i64)], .box [.val (.int .i64), .val (.int .i64)]]
abbrev dbl_split_M2_D : Type := Int × Int × Int × Int × Int × Int × Int × Int
def dbl_split_M2_to (a : DenS dbl_split_M2_A) (m : DenH dbl_split_M2_H) : dbl_split_M2_D := (a.2.1, a.2.2.2.2.2.2.2.2.1, m.1.1, m.1.2.1, m.2.1.1, m.2.1.2.1, m.2.2.1.1, m.2.2.1.2.1)
def dbl_split_M2_ofA (d : dbl_split_M2_D) : DenS dbl_split_M2_A := match d with | (s1, s8, m0_0, m0_1, m1_0, m1_1, m2_0, m2_1) => ((), s1, (), (), (), (), (), (), s8, (), (), (), (), (), (), (), (), (), (), (), (), (), (), (), (), (), (), (), (), (), (), (), (), (), (), (), (), (), (), (), ())
def dbl_split_M2_ofH (d : dbl_split_M2_D) : DenH dbl_split_M2_H := match d with | (s1, s8, m0_0, m0_1, m1_0, m1_1, m2_0, m2_1) => ((m0_0, m0_1, ()), (m1_0, m1_1, ()), (m2_0, m2_1, ()), ())
def dbl_split_M2_N : Norm := (⟨[1, 2, 5, 8, 9], [], []⟩ : Go.TX.Norm)
def dbl_split_M2_X : Exit → Norm := fun e => match e with | .normal => ⟨[1, 2, 5, 8, 9], [], []⟩ | _ => ⟨[], [], []⟩
abbrev dbl_split_M2_R : Type := (Int)
def dbl_split_M2_fin (d : dbl_split_M2_D) (v : dbl_split_M2_R) : Exit × St := (.normal, ⟨[.any, .lit (.int .i64 d.1), .ptr 0 0 0, .any, .any, .ptr 1 0 0, .any, .any, .lit (.int .i64 v), .ptr 2 0 0, .any, .any, .any, .any, .any, .any, .any, .any, .any, .any, .any, .any, .any, .any, .any, .any, .any, .any, .any, .any, .any, .any, .any, .any, .any, .any, .any, .any, .any, .any], [.box [.lit (.int .i64 d.2.2.1), .lit (.int .i64 d.2.2.2.1)], .box [.lit (.int .i64 d.2.2.2.2.1), .lit (.int .i64 d.2.2.2.2.2.1)], .box [.lit (.int .i64 d.2.2.2.2.2.2.1), .lit (.int .i64 d.2.2.2.2.2.2.2)]]⟩)
noncomputable def dbl_split_M2_t {γ : Type} (s8 : Int) (m0_1 : Int) (k : dbl_split_M2_R → Option γ) : Option γ := cond (decide (m0_1 < (0 : Int))) (k (IntKind.wrap IntKind.i64 ((0 : Int) - s8))) (k (s8))
noncomputable def dbl_split_M2 (s8 : Int) (m0_1 : Int) : Option dbl_split_M2_R := dbl_split_M2_t s8 m0_1 some
theorem dbl_split_M2_t_eq {γ : Type} (s8 : Int) (m0_1 : Int) (k : dbl_split_M2_R → Option γ) : dbl_split_M2_t s8 m0_1 k = outOf (dbl_split_M2 s8 m0_1) k := by
  delta dbl_split_M2 dbl_split_M2_t; exact (Tr.nd Tr.lf Tr.lf)
theorem dbl_split_M2_ev (α : Type) (d : dbl_split_M2_D) (k : Exit → St → Option α) : ev Tryz.prog E4 dbl_split_M1_h 60 [0, 1, 1, 1, 1] ((codeAt (bodyOf Tryz.f128) [0, 1, 1, 1, 1]).getD .skip) ⟨mkS dbl_split_M2_A (dbl_split_M2_ofA d), mkH dbl_split_M2_H (dbl_split_M2_ofH d)⟩ (exitN 0 dbl_split_M2_X k) = outOf (dbl_split_M2 d.2.1 d.2.2.2.1) fun x => k (dbl_split_M2_fin d x).1 (dbl_split_M2_fin d x).2 := by
  obtain ⟨s1, s8, m0_0, m0_1, m1_0, m1_1, m2_0, m2_1⟩ := d
  exact (show _ = dbl_split_M2_t s8 m0_1 (fun x => k (dbl_split_M2_fin (s1, s8, m0_0, m0_1, m1_0, m1_1, m2_0, m2_1) x).1 (dbl_split_M2_fin (s1, s8, m0_0, m0_1, m1_0, m1_1, m2_0, m2_1) x).2) from by kernel_rfl).trans (dbl_split_M2_t_eq s8 m0_1 _)
noncomputable def dbl_split_M2_sp : CSpec := fun _ st k => reNorm 0 dbl_split_M2_N dbl_split_M2_A dbl_split_M2_H st fun a m => outOf (dbl_split_M2 (dbl_split_M2_to a m).2.1 (dbl_split_M2_to a m).2.2.2.1) fun v => k .normal ⟨[.any, .lit (.int .i64 (dbl_split_M2_to a m).1), .ptr 0 0 0, .any, .any, .ptr 1 0 0, .any, .any, .lit (.int .i64 v), .ptr 2 0 0, .any, .any, .any, .any, .any, .any, .any, .any, .any, .any, .any, .any, .any, .any, .any, .any, .any, .any, .any, .any, .any, .any, .any, .any, .any, .any, .any, .any, .any, .any], [.box [.lit (.int .i64 (dbl_split_M2_to a m).2.2.1), .lit (.int .i64 (dbl_split_M2_to a m).2.2.2.1)], .box [.lit (.int .i64 (dbl_split_M2_to a m).2.2.2.2.1), .lit (.int .i64 (dbl_split_M2_to a m).2.2.2.2.2.1)], .box [.lit (.int .i64 (dbl_split_M2_to a m).2.2.2.2.2.2.1), .lit (.int .i64 (dbl_split_M2_to a m).2.2.2.2.2.2.2)]]⟩
theorem dbl_split_M2_ok : SumOK Tryz.prog 0 ((codeAt (bodyOf Tryz.f128) [0, 1, 1, 1, 1]).getD .skip) dbl_split_M2_sp := (SumOK.once E4_ok mixed dbl_split_M1_h_ok (show codeAt (bodyOf Tryz.f128) [0, 1, 1, 1, 1] = some ((codeAt (bodyOf Tryz.f128) [0, 1, 1, 1, 1]).getD .skip) from by kernel_rfl) (N := dbl_split_M2_N) (Nx := dbl_split_M2_X) (A := dbl_split_M2_A) (Hs := dbl_split_M2_H) (toD := dbl_split_M2_to) (ofA := dbl_split_M2_ofA) (ofH := dbl_split_M2_ofH) (fun _ _ => rfl) (fun _ _ => rfl) (M := fun d => dbl_split_M2 d.2.1 d.2.2.2.1) (fin := dbl_split_M2_fin) 60 dbl_split_M2_ev).mono fun α st k r h => by
  refine Eq.trans (congrArg (reNorm 0 dbl_split_M2_N dbl_split_M2_A dbl_split_M2_H st) ?_) h
  funext a m
  exact outOf_congr fun x => rfl
noncomputable def dbl_split_M2_h : Hints := dbl_split_M1_h.add [0, 1, 1, 1, 1] dbl_split_M2_sp
theorem dbl_split_M2_h_ok : dbl_split_M2_h.OK Tryz.prog (bodyOf Tryz.f128) := dbl_split_M1_h_ok.add (show codeAt (bodyOf Tryz.f128) [0, 1, 1, 1, 1] = some ((codeAt (bodyOf Tryz.f128) [0, 1, 1, 1, 1]).getD .skip) from by kernel_rfl) dbl_split_M2_ok
abbrev dbl_split_R : Type := (Int × Int × Int × Bool)
noncomputable def dbl_split_t {γ : Type} (a0_0 : Int) (a0_1 : Int) (a1 : Int) (k : dbl_split_R → Option γ) : Option γ := outOf (dbl_split_M1 a1 a1) fun (x7 : Int) => outOf (dbl_abs a0_0 a0_1) fun (x8 : (Int × Int)) => outOf (dbl_long (Prod.fst x8) (Prod.snd x8) x7) fun (x9 : (Int × (Int × Int))) => outOf (dbl_split_M2 (Prod.fst x9) a0_1) fun (x10 : Int) => cond (decide (ibits BinOp.xor IntKind.i64 a0_1 a1 < (0 : Int))) (outOf (dbl_Neg (Prod.fst (Prod.snd x9)) (Prod.snd (Prod.snd x9))) fun (x11 : (Int × Int)) => k (x10, Prod.fst x11, Prod.snd x11, true)) (k (x10, Prod.fst (Prod.snd x9), Prod.snd (Prod.snd x9), decide (Prod.snd (Prod.snd x9) ≥ (0 : Int))))
noncomputable def dbl_split (a0_0 : Int) (a0_1 : Int) (a1 : Int) : Option dbl_split_R := dbl_split_t a0_0 a0_1 a1 some
theorem dbl_split_t_eq {γ : Type} (a0_0 : Int) (a0_1 : Int) (a1 : Int) (k : dbl_split_R → Option γ) : dbl_split_t a0_0 a0_1 a1 k = outOf (dbl_split a0_0 a0_1 a1) k := by
  delta dbl_split dbl_split_t; exact (Tr.bd fun x7 => (Tr.bd fun x8 => (Tr.bd fun x9 => (Tr.bd fun x10 => (Tr.nd (Tr.bd fun x11 => Tr.lf) Tr.lf)))))
noncomputable def dbl_split_sp : TX.Spec := specD [.agg (.pair (.int .i64) (.int .i64)), .val (.int .i64)] [] fun _ a m k => match a, m with | ⟨⟨a0_0, a0_1⟩, a1, _⟩, _ => outOf (dbl_split a0_0 a0_1 a1) fun v => k (.tup [.lit (.int .i64 v.1), .agg [.lit (.int .i64 v.2.1), .lit (.int .i64 v.2.2.1)], .lit (.bool v.2.2.2)]) []
theorem dbl_split_ev {α : Type} (a0_0 : Int) (a0_1 : Int) (a1 : Int) (k : Kont α) : evFun Tryz.prog E4 (dbl_split_M2_h) false Tryz.f128 (bodyOf Tryz.f128) 60 (mkS [.agg (.pair (.int .i64) (.int .i64)), .val (.int .i64)] ((a0_0, a0_1), a1, ())) (mkH [] ()) k = outOf (dbl_split a0_0 a0_1 a1) fun v => k (.tup [.lit (.int .i64 v.1), .agg [.lit (.int .i64 v.2.1), .lit (.int .i64 v.2.2.1)], .lit (.bool v.2.2.2)]) [] :=
  (show _ = dbl_split_t a0_0 a0_1 a1 (fun v => k (.tup [.lit (.int .i64 v.1), .agg [.lit (.int .i64 v.2.1), .lit (.int .i64 v.2.2.1)], .lit (.bool v.2.2.2)]) []) from by kernel_rfl).trans (dbl_split_t_eq a0_0 a0_1 a1 _)
theorem dbl_split_good : TX.Good Tryz.prog 128 dbl_split_sp := good_form E4_ok mixed Tryz.func128 (body_of rfl) (by kernel_rfl) false fun α a m k r h => by
  obtain ⟨⟨a0_0, a0_1⟩, a1, _⟩ := a; obtain _ := m
  exact ⟨dbl_split_M2_h, 60, dbl_split_M2_h_ok, rfl, (dbl_split_ev a0_0 a0_1 a1 k).trans h⟩
def cell_Floor_h0 : Hints := Hints.nil 0
theorem cell_Floor_h0_ok : cell_Floor_h0.OK Tryz.prog (bodyOf Tryz.f118) := Hints.nil_ok
abbrev cell_Floor_R : Type := (Int × Int × Int)
noncomputable def cell_Floor_t {γ : Type} (a0 : Int) (a1 : Int) (k : cell_Floor_R → Option γ) : Option γ := outOf (cell_Symm a0 a1) fun (x1 : (Int × (Int × Int))) => cond (Prod.fst (Prod.snd x1) != (0 : Int)) (cond (decide (ibits BinOp.xor IntKind.i64 (Prod.fst (Prod.snd x1)) a1 < (0 : Int))) (k (IntKind.wrap IntKind.i64 (Prod.fst x1 - (1 : Int)), IntKind.wrap IntKind.i64 (Prod.fst (Prod.snd x1) + a1), Prod.snd (Prod.snd x1))) (k (Prod.fst x1, Prod.fst (Prod.snd x1), Prod.snd (Prod.snd x1)))) (k (Prod.fst x1, Prod.fst (Prod.snd x1), Prod.snd (Prod.snd x1)))
noncomputable def cell_Floor (a0 : Int) (a1 : Int) : Option cell_Floor_R := cell_Floor_t a0 a1 some
theorem cell_Floor_t_eq {γ : Type} (a0 : Int) (a1 : Int) (k : cell_Floor_R → Option γ) : cell_Floor_t a0 a1 k = outOf (cell_Floor a0 a1) k := by
  delta cell_Floor cell_Floor_t; exact (Tr.bd fun x1 => (Tr.nd (Tr.nd Tr.lf Tr.lf) Tr.lf))
noncomputable def cell_Floor_sp : TX.Spec := specD [.val (.int .i64), .val (.int .i64)] [] fun _ a m k => match a, m with | ⟨a0, a1, _⟩, _ => outOf (cell_Floor a0 a1) fun v => k (.tup [.lit (.int .i64 v.1), .lit (.int .i64 v.2.1), .lit (.int .i64 v.2.2)]) []
theorem cell_Floor_ev {α : Type} (a0 : Int) (a1 : Int) (k : Kont α) : evFun Tryz.prog E4 (cell_Floor_h0) false Tryz.f118 (bodyOf Tryz.f118) 60 (mkS [.val (.int .i64), .val (.int .i64)] (a0, a1, ())) (mkH [] ()) k = outOf (cell_Floor a0 a1) fun v => k (.tup [.lit (.int .i64 v.1), .lit (.int .i64 v.2.1), .lit (.int .i64 v.2.2)]) [] :=
  (show _ = cell_Floor_t a0 a1 (fun v => k (.tup [.lit (.int .i64 v.1), .lit (.int .i64 v.2.1), .lit (.int .i64 v.2.2)]) []) from by kernel_rfl).trans (cell_Floor_t_eq a0 a1 _)
theorem cell_Floor_good : TX.Good Tryz.prog 118 cell_Floor_sp := good_form E4_ok mixed Tryz.func118 (body_of rfl) (by kernel_rfl) false fun α a m k r h => by
  obtain ⟨a0, a1, _⟩ := a; obtain _ := m
  exact ⟨cell_Floor_h0, 60, cell_Floor_h0_ok, rfl, (cell_Floor_ev a0 a1 k).trans h⟩
noncomputable def E5 : Env := E4.add 128 true dbl_split_sp |>.add 118 true cell_Floor_sp
theorem E5_ok : E5.OK Tryz.prog := ((E4_ok).add_ok dbl_split_good).add_ok cell_Floor_good
def dbl_Symm_h0 : Hints := Hints.nil 0
theorem dbl_Symm_h0_ok : dbl_Symm_h0.OK Tryz.prog (bodyOf Tryz.f90) := Hints.nil_ok
abbrev dbl_Symm_R : Type := (Int × Int × Int)
noncomputable def dbl_Symm_t {γ : Type} (a0_0 : Int) (a0_1 : Int) (a1 : Int) (k : dbl_Symm_R → Option γ) : Option γ := cond (a1 == (0 : Int)) (k ((0 : Int), (0 : Int), (-10 : Int))) (outOf (dbl_split a0_0 a0_1 a1) fun (x1 : (Int × (Int × (Int × Bool)))) => outOf (dbl_fits (Prod.fst x1) (Prod.fst (Prod.snd x1)) (Prod.fst (Prod.snd (Prod.snd x1))) (Prod.snd (Prod.snd (Prod.snd x1)))) fun (x2 : (Int × (Int × Int))) => k (Prod.fst x2, Prod.fst (Prod.snd x2), Prod.snd (Prod.snd x2)))
noncomputable def dbl_Symm (a0_0 : Int) (a0_1 : Int) (a1 : Int) : Option dbl_Symm_R := dbl_Symm_t a0_0 a0_1 a1 some
theorem dbl_Symm_t_eq {γ : Type} (a0_0 : Int) (a0_1 : Int) (a1 : Int) (k : dbl_Symm_R → Option γ) : dbl_Symm_t a0_0 a0_1 a1 k = outOf (dbl_Symm a0_0 a0_1 a1) k := by
  delta dbl_Symm dbl_Symm_t; exact (Tr.nd Tr.lf (Tr.bd fun x1 => (Tr.bd fun x2 => Tr.lf)))
noncomputable def dbl_Symm_sp : TX.Spec := specD [.agg (.pair (.int .i64) (.int .i64)), .val (.int .i64)] [] fun _ a m k => match a, m with | ⟨⟨a0_0, a0_1⟩, a1, _⟩, _ => outOf (dbl_Symm a0_0 a0_1 a1) fun v => k (.tup [.lit (.int .i64 v.1), .lit (.int .i64 v.2.1), .lit (.int .i64 v.2.2)]) []
theorem dbl_Symm_ev {α : Type} (a0_0 : Int) (a0_1 : Int) (a1 : Int) (k : Kont α) : evFun Tryz.prog E5 (dbl_Symm_h0) false Tryz.f90 (bodyOf Tryz.f90) 60 (mkS [.agg (.pair (.int .i64) (.int .i64)), .val (.int .i64)] ((a0_0, a0_1), a1, ())) (mkH [] ()) k = outOf (dbl_Symm a0_0 a0_1 a1) fun v => k (.tup [.lit (.int .i64 v.1), .lit (.int .i64 v.2.1), .lit (.int .i64 v.2.2)]) [] :=
  (show _ = dbl_Symm_t a0_0 a0_1 a1 (fun v => k (.tup [.lit (.int .i64 v.1), .lit (.int .i64 v.2.1), .lit (.int .i64 v.2.2)]) []) from by kernel_rfl).trans (dbl_Symm_t_eq a0_0 a0_1 a1 _)
theorem dbl_Symm_good : TX.Good Tryz.prog 90 dbl_Symm_sp := good_form E5_ok mixed Tryz.func90 (body_of rfl) (by kernel_rfl) false fun α a m k r h => by
  obtain ⟨⟨a0_0, a0_1⟩, a1, _⟩ := a; obtain _ := m
  exact ⟨dbl_Symm_h0, 60, dbl_Symm_h0_ok, rfl, (dbl_Symm_ev a0_0 a0_1 a1 k).trans h⟩
def dbl_Floor_h0 : Hints := Hints.nil 0
theorem dbl_Floor_h0_ok : dbl_Floor_h0.OK Tryz.prog (bodyOf Tryz.f89) := Hints.nil_ok
def dbl_Floor_M1_A : List SD := [.any, .val (.int .i64), .loc 0 0 0, .any, .any, .any, .any, .val (.int .i64), .loc 1 0 0, .val .bool, .any, .any, .any, .any, .any, .any, .any, .any, .any, .any, .any, .any, .any, .any, .any, .any, .any, .any, .any, .any, .any, .any, .any, .any, .any, .any, .any, .any, .any, .any, .any]
def dbl_Floor_M1_H : List HD := [.box [.val (.int .i64), .val (.int .i64)], .box [.val (.int .i64), .val (.int .i64)]]
abbrev dbl_Floor_M1_D : Type := Int × Int × Bool × Int × Int × Int × Int
def dbl_Floor_M1_to (a : DenS dbl_Floor_M1_A) (m : DenH dbl_Floor_M1_H) : dbl_Floor_M1_D := (a.2.1, a.2.2.2.2.2.2.2.1, a.2.2.2.2.2.2.2.2.2.1, m.1.1, m.1.2.1, m.2.1.1, m.2.1.2.1)
def dbl_Floor_M1_ofA (d : dbl_Floor_M1_D) : DenS dbl_Floor_M1_A := match d with | (s1, s7, s9, m0_0, m0_1, m1_0, m1_1) => ((), s1, (), (), (), (), (), s7, (), s9, (), (), (), (), (), (), (), (), (), (), (), (), (), (), (), (), (), (), (), (), (), (), (), (), (), (), (), (), (), (), (), ())
def dbl_Floor_M1_ofH (d : dbl_Floor_M1_D) : DenH dbl_Floor_M1_H := match d with | (s1, s7, s9, m0_0, m0_1, m1_0, m1_1) => ((m0_0, m0_1, ()), (m1_0, m1_1, ()), ())
def dbl_Floor_M1_N : Norm := (⟨[1, 2, 7, 8, 9], [], []⟩ : Go.TX.Norm)
def dbl_Floor_M1_X : Exit → Norm := fun e => match e with | .normal => ⟨[1, 7, 8, 9, 27], [], []⟩ | _ => ⟨[], [], []⟩
abbrev dbl_Floor_M1_R : Type := (Bool)
def dbl_Floor_M1_fin (d : dbl_Floor_M1_D) (v : dbl_Floor_M1_R) : Exit × St := (.normal, ⟨[.any, .lit (.int .i64 d.1), .any, .any, .any, .any, .any, .lit (.int .i64 d.2.1), .ptr 0 0 0, .lit (.bool d.2.2.1), .any, .any, .any, .any, .any, .any, .any, .any, .any, .any, .any, .any, .any, .any, .any, .any, .any, .lit (.bool v), .any, .any, .any, .any, .any, .any, .any, .any, .any, .any, .any, .any, .any], [.box [.lit (.int .i64 d.2.2.2.2.2.1), .lit (.int .i64 d.2.2.2.2.2.2)]]⟩)
noncomputable def dbl_Floor_M1_t {γ : Type} (s1 : Int) (s7 : Int) (m0_1 : Int) (k : dbl_Floor_M1_R → Option γ) : Option γ := cond (s7 != (0 : Int)) (k (decide (ibits BinOp.xor IntKind.i64 m0_1 s1 < (0 : Int)))) (k (false))
noncomputable def dbl_Floor_M1 (s1 : Int) (s7 : Int) (m0_1 : Int) : Option dbl_Floor_M1_R := dbl_Floor_M1_t s1 s7 m0_1 some
theorem dbl_Floor_M1_t_eq {γ : Type} (s1 : Int) (s7 : Int) (m0_1 : Int) (k : dbl_Floor_M1_R → Option γ) : dbl_Floor_M1_t s1 s7 m0_1 k = outOf (dbl_Floor_M1 s1 s7 m0_1) k := by
  delta dbl_Floor_M1 dbl_Floor_M1_t; exact (Tr.nd Tr.lf Tr.lf)
theorem dbl_Floor_M1_ev (α : Type) (d : dbl_Floor_M1_D) (k : Exit → St → Option α) : ev Tryz.prog E5 dbl_Floor_h0 60 [0, 0, 1, 1, 1] ((codeAt (bodyOf Tryz.f89) [0, 0, 1, 1, 1]).getD .skip) ⟨mkS dbl_Floor_M1_A (dbl_Floor_M1_ofA d), mkH dbl_Floor_M1_H (dbl_Floor_M1_ofH d)⟩ (exitN 0 dbl_Floor_M1_X k) = outOf (dbl_Floor_M1 d.1 d.2.1 d.2.2.2.2.1) fun x => k (dbl_Floor_M1_fin d x).1 (dbl_Floor_M1_fin d x).2 := by
  obtain ⟨s1, s7, s9, m0_0, m0_1, m1_0, m1_1⟩ := d
  exact (show _ = dbl_Floor_M1_t s1 s7 m0_1 (fun x => k (dbl_Floor_M1_fin (s1, s7, s9, m0_0, m0_1, m1_0, m1_1) x).1 (dbl_Floor_M1_fin (s1, s7, s9, m0_0, m0_1, m1_0, m1_1) x).2) from by kernel_rfl).trans (dbl_Floor_M1_t_eq s1 s7 m0_1 _)
noncomputable def dbl_Floor_M1_sp : CSpec := fun _ st k => reNorm 0 dbl_Floor_M1_N dbl_Floor_M1_A dbl_Floor_M1_H st fun a m => outOf (dbl_Floor_M1 (dbl_Floor_M1_to a m).1 (dbl_Floor_M1_to a m).2.1 (dbl_Floor_M1_to a m).2.2.2.2.1) fun v => k .normal ⟨[.any, .lit (.int .i64 (dbl_Floor_M1_to a m).1), .any, .any, .any, .any, .any, .lit (.int .i64 (dbl_Floor_M1_to a m).2.1), .ptr 0 0 0, .lit (.bool (dbl_Floor_M1_to a m).2.2.1), .any, .any, .any, .any, .any, .any, .any, .any, .any, .any, .any, .any, .any, .any, .any, .any, .any, .lit (.bool v), .any, .any, .any, .any, .any, .any, .any, .any, .any, .any, .any, .any, .any], [.box [.lit (.int .i64 (dbl_Floor_M1_to a m).2.2.2.2.2.1), .lit (.int .i64 (dbl_Floor_M1_to a m).2.2.2.2.2.2)]]⟩
theorem dbl_Floor_M1_ok : SumOK Tryz.prog 0 ((codeAt (bodyOf Tryz.f89) [0, 0, 1, 1, 1]).getD .skip) dbl_Floor_M1_sp := (SumOK.once E5_ok mixed dbl_Floor_h0_ok (show codeAt (bodyOf Tryz.f89) [0, 0, 1, 1, 1] = some ((codeAt (bodyOf Tryz.f89) [0, 0, 1, 1, 1]).getD .skip) from by kernel_rfl) (N := dbl_Floor_M1_N) (Nx := dbl_Floor_M1_X) (A := dbl_Floor_M1_A) (Hs := dbl_Floor_M1_H) (toD := dbl_Floor_M1_to) (ofA := dbl_Floor_M1_ofA) (ofH := dbl_Floor_M1_ofH) (fun _ _ => rfl) (fun _ _ => rfl) (M := fun d => dbl_Floor_M1 d.1 d.2.1 d.2.2.2.2.1) (fin := dbl_Floor_M1_fin) 60 dbl_Floor_M1_ev).mono fun α st k r h => by
  refine Eq.trans (congrArg (reNorm 0 dbl_Floor_M1_N dbl_Floor_M1_A dbl_Floor_M1_H st) ?_) h
  funext a m
  exact outOf_congr fun x => rfl
noncomputable def dbl_Floor_M1_h : Hints := dbl_Floor_h0.add [0, 0, 1, 1, 1] dbl_Floor_M1_sp
theorem dbl_Floor_M1_h_ok : dbl_Floor_M1_h.OK Tryz.prog (bodyOf Tryz.f89) := dbl_Floor_h0_ok.add (show codeAt (bodyOf Tryz.f89) [0, 0, 1, 1, 1] = some ((codeAt (bodyOf Tryz.f89) [0, 0, 1, 1, 1]).getD .skip) from by kernel_rfl) dbl_Floor_M1_ok
def dbl_Floor_M2_A : List SD := [.any, .val (.int .i64), .loc 0 0 0, .any, .any, .any, .any, .val (.int .i64), .loc 1 0 0, .val .bool, .any, .any, .any, .any, .any, .any, .any, .any, .any, .any, .any, .any, .any, .any, .any, .any, .any, .any, .any, .any, .any, .any, .any, .any, .any, .any, .any, .any, .any, .any, .any]
def dbl_Floor_M2_H : List HD := [.box [.val (.int .i64), .val (.int .i64)], .box [.val (.int .i64), .val (.int .i64)]]
abbrev dbl_Floor_M2_D : Type := Int × Int × Bool × Int × Int × Int × Int
def dbl_Floor_M2_to (a : DenS dbl_Floor_M2_A) (m : DenH dbl_Floor_M2_H) : dbl_Floor_M2_D := (a.2.1, a.2.2.2.2.2.2.2.1, a.2.2.2.2.2.2.2.2.2.1, m.1.1, m.1.2.1, m.2.1.1, m.2.1.2.1)
def dbl_Floor_M2_ofA (d : dbl_Floor_M2_D) : DenS dbl_Floor_M2_A := match d with | (s1, s7, s9, m0_0, m0_1, m1_0, m1_1) => ((), s1, (), (), (), (), (), s7, (), s9, (), (), (), (), (), (), (), (), (), (), (), (), (), (), (), (), (), (), (), (), (), (), (), (), (), (), (), (), (), (), (), ())
def dbl_Floor_M2_ofH (d : dbl_Floor_M2_D) : DenH dbl_Floor_M2_H := match d with | (s1, s7, s9, m0_0, m0_1, m1_0, m1_1) => ((m0_0, m0_1, ()), (m1_0, m1_1, ()), ())
def dbl_Floor_M2_N : Norm := (⟨[1, 2, 7, 8, 9], [], []⟩ : Go.TX.Norm)
def dbl_Floor_M2_X : Exit → Norm := fun e => match e with | .normal => ⟨[7, 8, 9], [], []⟩ | _ => ⟨[], [], []⟩
abbrev dbl_Floor_M2_R : Type := (Int × Int × Int)
def dbl_Floor_M2_fin (d : dbl_Floor_M2_D) (v : dbl_Floor_M2_R) : Exit × St := (.normal, ⟨[.any, .any, .any, .any, .any, .any, .any, .lit (.int .i64 v.1), .ptr 0 0 0, .lit (.bool d.2.2.1), .any, .any, .any, .any, .any, .any, .any, .any, .any, .any, .any, .any, .any, .any, .any, .any, .any, .any, .any, .any, .any, .any, .any, .any, .any, .any, .any, .any, .any, .any, .any], [.box [.lit (.int .i64 v.2.1), .lit (.int .i64 v.2.2)]]⟩)
noncomputable def dbl_Floor_M2_t {γ : Type} (s1 : Int) (s7 : Int) (m0_1 : Int) (m1_0 : Int) (m1_1 : Int) (k : dbl_Floor_M2_R → Option γ) : Option γ := outOf (dbl_Floor_M1 s1 s7 m0_1) fun (x5 : Bool) => cond x5 (outOf (dbl_Add m1_0 m1_1 (-1 : Int) (-1 : Int)) fun (x6 : (Int × Int)) => k (IntKind.wrap IntKind.i64 (s7 + s1), Prod.fst x6, Prod.snd x6)) (k (s7, m1_0, m1_1))
noncomputable def dbl_Floor_M2 (s1 : Int) (s7 : Int) (m0_1 : Int) (m1_0 : Int) (m1_1 : Int) : Option dbl_Floor_M2_R := dbl_Floor_M2_t s1 s7 m0_1 m1_0 m1_1 some
theorem dbl_Floor_M2_t_eq {γ : Type} (s1 : Int) (s7 : Int) (m0_1 : Int) (m1_0 : Int) (m1_1 : Int) (k : dbl_Floor_M2_R → Option γ) : dbl_Floor_M2_t s1 s7 m0_1 m1_0 m1_1 k = outOf (dbl_Floor_M2 s1 s7 m0_1 m1_0 m1_1) k := by
  delta dbl_Floor_M2 dbl_Floor_M2_t; exact (Tr.bd fun x5 => (Tr.nd (Tr.bd fun x6 => Tr.lf) Tr.lf))
theorem dbl_Floor_M2_ev (α : Type) (d : dbl_Floor_M2_D) (k : Exit → St → Option α) : ev Tryz.prog E5 dbl_Floor_M1_h 60 [0, 1, 1, 1] ((codeAt (bodyOf Tryz.f89) [0, 1, 1, 1]).getD .skip) ⟨mkS dbl_Floor_M2_A (dbl_Floor_M2_ofA d), mkH dbl_Floor_M2_H (dbl_Floor_M2_ofH d)⟩ (exitN 0 dbl_Floor_M2_X k) = outOf (dbl_Floor_M2 d.1 d.2.1 d.2.2.2.2.1 d.2.2.2.2.2.1 d.2.2.2.2.2.2) fun x => k (dbl_Floor_M2_fin d x).1 (dbl_Floor_M2_fin d x).2 := by
  obtain ⟨s1, s7, s9, m0_0, m0_1, m1_0, m1_1⟩ := d
  exact (show _ = dbl_Floor_M2_t s1 s7 m0_1 m1_0 m1_1 (fun x => k (dbl_Floor_M2_fin (s1, s7, s9, m0_0, m0_1, m1_0, m1_1) x).1 (dbl_Floor_M2_fin (s1, s7, s9, m0_0, m0_1, m1_0, m1_1) x).2) from by kernel_rfl).trans (dbl_Floor_M2_t_eq s1 s7 m0_1 m1_0 m1_1 _)
noncomputable def dbl_Floor_M2_sp : CSpec := fun _ st k => reNorm 0 dbl_Floor_M2_N dbl_Floor_M2_A dbl_Floor_M2_H st fun a m => outOf (dbl_Floor_M2 (dbl_Floor_M2_to a m).1 (dbl_Floor_M2_to a m).2.1 (dbl_Floor_M2_to a m).2.2.2.2.1 (dbl_Floor_M2_to a m).2.2.2.2.2.1 (dbl_Floor_M2_to a m).2.2.2.2.2.2) fun v => k .normal ⟨[.any, .any, .any, .any, .any, .any, .any, .lit (.int .i64 v.1), .ptr 0 0 0, .lit (.bool (dbl_Floor_M2_to a m).2.2.1), .any, .any, .any, .any, .any, .any, .any, .any, .any, .any, .any, .any, .any, .any, .any, .any, .any, .any, .any, .any, .any, .any, .any, .any, .any, .any, .any, .any, .any, .any, .any], [.box [.lit (.int .i64 v.2.1), .lit (.int .i64 v.2.2)]]⟩
theorem dbl_Floor_M2_ok : SumOK Tryz.prog 0 ((codeAt (bodyOf Tryz.f89) [0, 1, 1, 1]).getD .skip) dbl_Floor_M2_sp := (SumOK.once E5_ok mixed dbl_Floor_M1_h_ok (show codeAt (bodyOf Tryz.f89) [0, 1, 1, 1] = some ((codeAt (bodyOf Tryz.f89) [0, 1, 1, 1]).getD .skip) from by kernel_rfl) (N := dbl_Floor_M2_N) (Nx := dbl_Floor_M2_X) (A := dbl_Floor_M2_A) (Hs := dbl_Floor_M2_H) (toD := dbl_Floor_M2_to) (ofA := dbl_Floor_M2_ofA) (ofH := dbl_Floor_M2_ofH) (fun _ _ => rfl) (fun _ _ => rfl) (M := fun d => dbl_Floor_M2 d.1 d.2.1 d.2.2.2.2.1 d.2.2.2.2.2.1 d.2.2.2.2.2.2) (fin := dbl_Floor_M2_fin) 60 dbl_Floor_M2_ev).mono fun α st k r h => by
  refine Eq.trans (congrArg (reNorm 0 dbl_Floor_M2_N dbl_Floor_M2_A dbl_Floor_M2_H st) ?_) h
  funext a m
  exact outOf_congr fun x => rfl
noncomputable def dbl_Floor_M2_h : Hints := dbl_Floor_M1_h.add [0, 1, 1, 1] dbl_Floor_M2_sp
theorem dbl_Floor_M2_h_ok : dbl_Floor_M2_h.OK Tryz.prog (bodyOf Tryz.f89) := dbl_Floor_M1_h_ok.add (show codeAt (bodyOf Tryz.f89) [0, 1, 1, 1] = some ((codeAt (bodyOf Tryz.f89) [0, 1, 1, 1]).getD .skip) from by kernel_rfl) dbl_Floor_M2_ok
abbrev dbl_Floor_R : Type := (Int × Int × Int)
noncomputable def dbl_Floor_t {γ : Type} (a0_0 : Int) (a0_1 : Int) (a1 : Int) (k : dbl_Floor_R → Option γ) : Option γ := cond (a1 == (0 : Int)) (k ((0 : Int), (0 : Int), (-10 : Int))) (outOf (dbl_split a0_0 a0_1 a1) fun (x7 : (Int × (Int × (Int × Bool)))) => outOf (dbl_Floor_M2 a1 (Prod.fst x7) a0_1 (Prod.fst (Prod.snd x7)) (Prod.fst (Prod.snd (Prod.snd x7)))) fun (x8 : (Int × (Int × Int))) => outOf (dbl_fits (Prod.fst x8) (Prod.fst (Prod.snd x8)) (Prod.snd (Prod.snd x8)) (Prod.snd (Prod.snd (Prod.snd x7)))) fun (x9 : (Int × (Int × Int))) => k (Prod.fst x9, Prod.fst (Prod.snd x9), Prod.snd (Prod.snd x9)))
noncomputable def dbl_Floor (a0_0 : Int) (a0_1 : Int) (a1 : Int) : Option dbl_Floor_R := dbl_Floor_t a0_0 a0_1 a1 some
theorem dbl_Floor_t_eq {γ : Type} (a0_0 : Int) (a0_1 : Int) (a1 : Int) (k : dbl_Floor_R → Option γ) : dbl_Floor_t a0_0 a0_1 a1 k = outOf (dbl_Floor a0_0 a0_1 a1) k := by
  delta dbl_Floor dbl_Floor_t; exact (Tr.nd Tr.lf (Tr.bd fun x7 => (Tr.bd fun x8 => (Tr.bd fun x9 => Tr.lf))))
noncomputable def dbl_Floor_sp : TX.Spec := specD [.agg (.pair (.int .i64) (.int .i64)), .val (.int .i64)] [] fun _ a m k => match a, m with | ⟨⟨a0_0, a0_1⟩, a1, _⟩, _ => outOf (dbl_Floor a0_0 a0_1 a1) fun v => k (.tup [.lit (.int .i64 v.1), .lit (.int .i64 v.2.1), .lit (.int .i64 v.2.2)]) []
theorem dbl_Floor_ev {α : Type} (a0_0 : Int) (a0_1 : Int) (a1 : Int) (k : Kont α) : evFun Tryz.prog E5 (dbl_Floor_M2_h) false Tryz.f89 (bodyOf Tryz.f89) 60 (mkS [.agg (.pair (.int .i64) (.int .i64)), .val (.int .i64)] ((a0_0, a0_1), a1, ())) (mkH [] ()) k = outOf (dbl_Floor a0_0 a0_1 a1) fun v => k (.tup [.lit (.int .i64 v.1), .lit (.int .i64 v.2.1), .lit (.int .i64 v.2.2)]) [] :=
  (show _ = dbl_Floor_t a0_0 a0_1 a1 (fun v => k (.tup [.lit (.int .i64 v.1), .lit (.int .i64 v.2.1), .lit (.int .i64 v.2.2)]) []) from by kernel_rfl).trans (dbl_Floor_t_eq a0_0 a0_1 a1 _)
theorem dbl_Floor_good : TX.Good Tryz.prog 89 dbl_Floor_sp := good_form E5_ok mixed Tryz.func89 (body_of rfl) (by kernel_rfl) false fun α a m k r h => by
  obtain ⟨⟨a0_0, a0_1⟩, a1, _⟩ := a; obtain _ := m
  exact ⟨dbl_Floor_M2_h, 60, dbl_Floor_M2_h_ok, rfl, (dbl_Floor_ev a0_0 a0_1 a1 k).trans h⟩
noncomputable def E6 : Env := E5.add 90 true dbl_Symm_sp |>.add 89 true dbl_Floor_sp
theorem E6_ok : E6.OK Tryz.prog := ((E5_ok).add_ok dbl_Symm_good).add_ok dbl_Floor_good
def dbl_Scale_h0 : Hints := Hints.nil 0
theorem dbl_Scale_h0_ok : dbl_Scale_h0.OK Tryz.prog (bodyOf Tryz.f119) := Hints.nil_ok
abbrev dbl_Scale_R : Type := (Int × Int × Int)
noncomputable def dbl_Scale_t {γ : Type} (a0 : Int) (a1 : Int) (a2 : Int) (k : dbl_Scale_R → Option γ) : Option γ := outOf (dbl_Mul a0 a1) fun (x1 : (Int × Int)) => outOf (dbl_Floor (Prod.fst x1) (Prod.snd x1) a2) fun (x2 : (Int × (Int × Int))) => k (Prod.fst x2, Prod.fst (Prod.snd x2), Prod.snd (Prod.snd x2))
noncomputable def dbl_Scale (a0 : Int) (a1 : Int) (a2 : Int) : Option dbl_Scale_R := dbl_Scale_t a0 a1 a2 some
theorem dbl_Scale_t_eq {γ : Type} (a0 : Int) (a1 : Int) (a2 : Int) (k : dbl_Scale_R → Option γ) : dbl_Scale_t a0 a1 a2 k = outOf (dbl_Scale a0 a1 a2) k := by
  delta dbl_Scale dbl_Scale_t; exact (Tr.bd fun x1 => (Tr.bd fun x2 => Tr.lf))
noncomputable def dbl_Scale_sp : TX.Spec := specD [.val (.int .i64), .val (.int .i64), .val (.int .i64)] [] fun _ a m k => match a, m with | ⟨a0, a1, a2, _⟩, _ => outOf (dbl_Scale a0 a1 a2) fun v => k (.tup [.lit (.int .i64 v.1), .lit (.int .i64 v.2.1), .lit (.int .i64 v.2.2)]) []
theorem dbl_Scale_ev {α : Type} (a0 : Int) (a1 : Int) (a2 : Int) (k : Kont α) : evFun Tryz.prog E6 (dbl_Scale_h0) false Tryz.f119 (bodyOf Tryz.f119) 60 (mkS [.val (.int .i64), .val (.int .i64), .val (.int .i64)] (a0, a1, a2, ())) (mkH [] ()) k = outOf (dbl_Scale a0 a1 a2) fun v => k (.tup [.lit (.int .i64 v.1), .lit (.int .i64 v.2.1), .lit (.int .i64 v.2.2)]) [] :=
  (show _ = dbl_Scale_t a0 a1 a2 (fun v => k (.tup [.lit (.int .i64 v.1), .lit (.int .i64 v.2.1), .lit (.int .i64 v.2.2)]) []) from by kernel_rfl).trans (dbl_Scale_t_eq a0 a1 a2 _)
theorem dbl_Scale_good : TX.Good Tryz.prog 119 dbl_Scale_sp := good_form E6_ok mixed Tryz.func119 (body_of rfl) (by kernel_rfl) false fun α a m k r h => by
  obtain ⟨a0, a1, a2, _⟩ := a; obtain _ := m
  exact ⟨dbl_Scale_h0, 60, dbl_Scale_h0_ok, rfl, (dbl_Scale_ev a0 a1 a2 k).trans h⟩
noncomputable def E7 : Env := E6.add 119 true dbl_Scale_sp
theorem E7_ok : E7.OK Tryz.prog := (E6_ok).add_ok dbl_Scale_good
end Go.Proofs.Dbl
