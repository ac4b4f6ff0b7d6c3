import Derived.Test.YtfmdhcialeddaaaDoorNuG
namespace Go.Proofs.Dbl
open Go Go.TX Go.Proofs
set_option maxRecDepth 100000
set_option linter.unusedVariables false
set_option maxHeartbeats 0
def log10p_h0 : Hints := Hints.nil 0
theorem log10p_h0_ok : log10p_h0.OK Tryd.prog (bodyOf Tryd.f129) := Hints.nil_ok
noncomputable def log10p (a0 : Int) : Int := (Int.fdiv (IntKind.wrap IntKind.i64 (a0 * (78913 : Int))) (262144 : Int))
noncomputable def log10p_sp : TX.Spec := specD [.val (.int .i64)] [] fun _ a m k => match a, m with | ⟨a0, _⟩, _ => k (.lit (.int .i64 (log10p a0))) []
theorem log10p_ev {α : Type} (a0 : Int) (k : Kont α) : evFun Tryd.prog NE0 (log10p_h0) false Tryd.f129 (bodyOf Tryd.f129) 60 (mkS [.val (.int .i64)] (a0, ())) (mkH [] ()) k = k (.lit (.int .i64 (log10p a0))) [] :=
  by kernel_rfl
theorem log10p_good : TX.Good Tryd.prog 129 log10p_sp := good_form NE0_ok mixed Tryd.func129 (body_of rfl) (by kernel_rfl) false fun α a m k r h => by
  obtain ⟨a0, _⟩ := a; obtain _ := m
  exact ⟨log10p_h0, 60, log10p_h0_ok, rfl, (log10p_ev a0 k).trans h⟩
def bool2_h0 : Hints := Hints.nil 0
theorem bool2_h0_ok : bool2_h0.OK Tryd.prog (bodyOf Tryd.f131) := Hints.nil_ok
abbrev bool2_R : Type := (Int)
noncomputable def bool2_t {γ : Type} (a0 : Bool) (k : bool2_R → Option γ) : Option γ := cond a0 (k ((1 : Int))) (k ((0 : Int)))
noncomputable def bool2 (a0 : Bool) : Option bool2_R := bool2_t a0 some
theorem bool2_t_eq {γ : Type} (a0 : Bool) (k : bool2_R → Option γ) : bool2_t a0 k = outOf (bool2 a0) k := by
  delta bool2 bool2_t; exact (Tr.nd Tr.lf Tr.lf)
noncomputable def bool2_sp : TX.Spec := specD [.val .bool] [] fun _ a m k => match a, m with | ⟨a0, _⟩, _ => outOf (bool2 a0) fun v => k (.lit (.int .i64 v)) []
theorem bool2_ev {α : Type} (a0 : Bool) (k : Kont α) : evFun Tryd.prog NE0 (bool2_h0) false Tryd.f131 (bodyOf Tryd.f131) 60 (mkS [.val .bool] (a0, ())) (mkH [] ()) k = outOf (bool2 a0) fun v => k (.lit (.int .i64 v)) [] :=
  (show _ = bool2_t a0 (fun v => k (.lit (.int .i64 v)) []) from by kernel_rfl).trans (bool2_t_eq a0 _)
theorem bool2_good : TX.Good Tryd.prog 131 bool2_sp := good_form NE0_ok mixed Tryd.func131 (body_of rfl) (by kernel_rfl) false fun α a m k r h => by
  obtain ⟨a0, _⟩ := a; obtain _ := m
  exact ⟨bool2_h0, 60, bool2_h0_ok, rfl, (bool2_ev a0 k).trans h⟩
def small_h0 : Hints := Hints.nil 0
theorem small_h0_ok : small_h0.OK Tryd.prog (bodyOf Tryd.f110) := Hints.nil_ok
abbrev small_R : Type := (ByteArray)
noncomputable def small_t {γ : Type} (a0 : Int) (k : small_R → Option γ) : Option γ := cond (decide (a0 < (10 : Int))) (cond (decide ((0 : Int) ≤ a0 ∧ a0 ≤ IntKind.wrap IntKind.i64 (a0 + (1 : Int)) ∧ IntKind.wrap IntKind.i64 (a0 + (1 : Int)) ≤ (36 : Int))) (k (ByteArray.extract (bytesOf [48, 49, 50, 51, 52, 53, 54, 55, 56, 57, 97, 98, 99, 100, 101, 102, 103, 104, 105, 106, 107, 108, 109, 110, 111, 112, 113, 114, 115, 116, 117, 118, 119, 120, 121, 122]) (Int.toNat a0) (Int.toNat (IntKind.wrap IntKind.i64 (a0 + (1 : Int)))))) (none)) (cond (decide ((0 : Int) ≤ IntKind.wrap IntKind.i64 (a0 * (2 : Int)) ∧ IntKind.wrap IntKind.i64 (a0 * (2 : Int)) ≤ IntKind.wrap IntKind.i64 (IntKind.wrap IntKind.i64 (a0 * (2 : Int)) + (2 : Int)) ∧ IntKind.wrap IntKind.i64 (IntKind.wrap IntKind.i64 (a0 * (2 : Int)) + (2 : Int)) ≤ (200 : Int))) (k (ByteArray.extract (bytesOf [48, 48, 48, 49, 48, 50, 48, 51, 48, 52, 48, 53, 48, 54, 48, 55, 48, 56, 48, 57, 49, 48, 49, 49, 49, 50, 49, 51, 49, 52, 49, 53, 49, 54, 49, 55, 49, 56, 49, 57, 50, 48, 50, 49, 50, 50, 50, 51, 50, 52, 50, 53, 50, 54, 50, 55, 50, 56, 50, 57, 51, 48, 51, 49, 51, 50, 51, 51, 51, 52, 51, 53, 51, 54, 51, 55, 51, 56, 51, 57, 52, 48, 52, 49, 52, 50, 52, 51, 52, 52, 52, 53, 52, 54, 52, 55, 52, 56, 52, 57, 53, 48, 53, 49, 53, 50, 53, 51, 53, 52, 53, 53, 53, 54, 53, 55, 53, 56, 53, 57, 54, 48, 54, 49, 54, 50, 54, 51, 54, 52, 54, 53, 54, 54, 54, 55, 54, 56, 54, 57, 55, 48, 55, 49, 55, 50, 55, 51, 55, 52, 55, 53, 55, 54, 55, 55, 55, 56, 55, 57, 56, 48, 56, 49, 56, 50, 56, 51, 56, 52, 56, 53, 56, 54, 56, 55, 56, 56, 56, 57, 57, 48, 57, 49, 57, 50, 57, 51, 57, 52, 57, 53, 57, 54, 57, 55, 57, 56, 57, 57]) (Int.toNat (IntKind.wrap IntKind.i64 (a0 * (2 : Int)))) (Int.toNat (IntKind.wrap IntKind.i64 (IntKind.wrap IntKind.i64 (a0 * (2 : Int)) + (2 : Int)))))) (none))
noncomputable def small (a0 : Int) : Option small_R := small_t a0 some
theorem small_t_eq {γ : Type} (a0 : Int) (k : small_R → Option γ) : small_t a0 k = outOf (small a0) k := by
  delta small small_t; exact (Tr.nd (Tr.nd Tr.lf Tr.no) (Tr.nd Tr.lf Tr.no))
noncomputable def small_sp : TX.Spec := specD [.val (.int .i64)] [] fun _ a m k => match a, m with | ⟨a0, _⟩, _ => outOf (small a0) fun v => k (.lit (.string v)) []
theorem small_ev {α : Type} (a0 : Int) (k : Kont α) : evFun Tryd.prog NE0 (small_h0) false Tryd.f110 (bodyOf Tryd.f110) 60 (mkS [.val (.int .i64)] (a0, ())) (mkH [] ()) k = outOf (small a0) fun v => k (.lit (.string v)) [] :=
  (show _ = small_t a0 (fun v => k (.lit (.string v)) []) from by kernel_rfl).trans (small_t_eq a0 _)
theorem small_good : TX.Good Tryd.prog 110 small_sp := good_form NE0_ok mixed Tryd.func110 (body_of rfl) (by kernel_rfl) false fun α a m k r h => by
  obtain ⟨a0, _⟩ := a; obtain _ := m
  exact ⟨small_h0, 60, small_h0_ok, rfl, (small_ev a0 k).trans h⟩
def isPow_h0 : Hints := Hints.nil 0
theorem isPow_h0_ok : isPow_h0.OK Tryd.prog (bodyOf Tryd.f132) := Hints.nil_ok
noncomputable def isPow (a0 : Int) : Bool := (ibits BinOp.and IntKind.i64 a0 (IntKind.wrap IntKind.i64 (a0 - (1 : Int))) == (0 : Int))
noncomputable def isPow_sp : TX.Spec := specD [.val (.int .i64)] [] fun _ a m k => match a, m with | ⟨a0, _⟩, _ => k (.lit (.bool (isPow a0))) []
theorem isPow_ev {α : Type} (a0 : Int) (k : Kont α) : evFun Tryd.prog NE0 (isPow_h0) false Tryd.f132 (bodyOf Tryd.f132) 60 (mkS [.val (.int .i64)] (a0, ())) (mkH [] ()) k = k (.lit (.bool (isPow a0))) [] :=
  by kernel_rfl
theorem isPow_good : TX.Good Tryd.prog 132 isPow_sp := good_form NE0_ok mixed Tryd.func132 (body_of rfl) (by kernel_rfl) false fun α a m k r h => by
  obtain ⟨a0, _⟩ := a; obtain _ := m
  exact ⟨isPow_h0, 60, isPow_h0_ok, rfl, (isPow_ev a0 k).trans h⟩
def tz64_h0 : Hints := Hints.nil 0
theorem tz64_h0_ok : tz64_h0.OK Tryd.prog (bodyOf Tryd.f143) := Hints.nil_ok
abbrev tz64_R : Type := (Int)
noncomputable def tz64_t {γ : Type} (a0 : Int) (k : tz64_R → Option γ) : Option γ := cond (a0 == (0 : Int)) (k ((64 : Int))) (cond (decide ((0 : Int) ≤ Int.fdiv (IntKind.wrap IntKind.u64 (ibits BinOp.and IntKind.u64 a0 (IntKind.wrap IntKind.u64 ((0 : Int) - a0)) * (285870213051353865 : Int))) (288230376151711744 : Int) ∧ Int.fdiv (IntKind.wrap IntKind.u64 (ibits BinOp.and IntKind.u64 a0 (IntKind.wrap IntKind.u64 ((0 : Int) - a0)) * (285870213051353865 : Int))) (288230376151711744 : Int) < (64 : Int) ∧ (0 : Nat) + Int.toNat (Int.fdiv (IntKind.wrap IntKind.u64 (ibits BinOp.and IntKind.u64 a0 (IntKind.wrap IntKind.u64 ((0 : Int) - a0)) * (285870213051353865 : Int))) (288230376151711744 : Int)) < (64 : Nat))) (k (IntKind.wrap IntKind.i64 (List.getD tabTz ((0 : Nat) + Int.toNat (Int.fdiv (IntKind.wrap IntKind.u64 (ibits BinOp.and IntKind.u64 a0 (IntKind.wrap IntKind.u64 ((0 : Int) - a0)) * (285870213051353865 : Int))) (288230376151711744 : Int))) (0 : Int)))) (none))
noncomputable def tz64 (a0 : Int) : Option tz64_R := tz64_t a0 some
theorem tz64_t_eq {γ : Type} (a0 : Int) (k : tz64_R → Option γ) : tz64_t a0 k = outOf (tz64 a0) k := by
  delta tz64 tz64_t; exact (Tr.nd Tr.lf (Tr.nd Tr.lf Tr.no))
noncomputable def tz64_sp : TX.Spec := specD [.val (.int .u64)] [] fun _ a m k => match a, m with | ⟨a0, _⟩, _ => outOf (tz64 a0) fun v => k (.lit (.int .i64 v)) []
theorem tz64_ev {α : Type} (a0 : Int) (k : Kont α) : evFun Tryd.prog NE0 (tz64_h0) false Tryd.f143 (bodyOf Tryd.f143) 60 (mkS [.val (.int .u64)] (a0, ())) (mkH [] ()) k = outOf (tz64 a0) fun v => k (.lit (.int .i64 v)) [] :=
  (show _ = tz64_t a0 (fun v => k (.lit (.int .i64 v)) []) from by kernel_rfl).trans (tz64_t_eq a0 _)
theorem tz64_good : TX.Good Tryd.prog 143 tz64_sp := good_form NE0_ok mixed Tryd.func143 (body_of rfl) (by kernel_rfl) false fun α a m k r h => by
  obtain ⟨a0, _⟩ := a; obtain _ := m
  exact ⟨tz64_h0, 60, tz64_h0_ok, rfl, (tz64_ev a0 k).trans h⟩
def num_good_h0 : Hints := Hints.nil 0
theorem num_good_h0_ok : num_good_h0.OK Tryd.prog (bodyOf Tryd.f46) := Hints.nil_ok
abbrev num_good_R : Type := (Bool)
noncomputable def num_good_t {γ : Type} (a0 : Int) (k : num_good_R → Option γ) : Option γ := cond (decide (a0 ≥ (2 : Int))) (k (decide (a0 ≤ (36 : Int)))) (k (false))
noncomputable def num_good (a0 : Int) : Option num_good_R := num_good_t a0 some
theorem num_good_t_eq {γ : Type} (a0 : Int) (k : num_good_R → Option γ) : num_good_t a0 k = outOf (num_good a0) k := by
  delta num_good num_good_t; exact (Tr.nd Tr.lf Tr.lf)
noncomputable def num_good_sp : TX.Spec := specD [.val (.int .i64)] [] fun _ a m k => match a, m with | ⟨a0, _⟩, _ => outOf (num_good a0) fun v => k (.lit (.bool v)) []
theorem num_good_ev {α : Type} (a0 : Int) (k : Kont α) : evFun Tryd.prog NE0 (num_good_h0) false Tryd.f46 (bodyOf Tryd.f46) 60 (mkS [.val (.int .i64)] (a0, ())) (mkH [] ()) k = outOf (num_good a0) fun v => k (.lit (.bool v)) [] :=
  (show _ = num_good_t a0 (fun v => k (.lit (.bool v)) []) from by kernel_rfl).trans (num_good_t_eq a0 _)
theorem num_good_good : TX.Good Tryd.prog 46 num_good_sp := good_form NE0_ok mixed Tryd.func46 (body_of rfl) (by kernel_rfl) false fun α a m k r h => by
  obtain ⟨a0, _⟩ := a; obtain _ := m
  exact ⟨num_good_h0, 60, num_good_h0_ok, rfl, (num_good_ev a0 k).trans h⟩
def dbl_Add_h0 : Hints := Hints.nil 0
theorem dbl_Add_h0_ok : dbl_Add_h0.OK Tryd.prog (bodyOf Tryd.f89) := Hints.nil_ok
abbrev dbl_Add_R : Type := (Int × Int)
noncomputable def dbl_Add_t {γ : Type} (a0_0 : Int) (a0_1 : Int) (a1_0 : Int) (a1_1 : Int) (k : dbl_Add_R → Option γ) : Option γ := cond (decide ((0 : Int) ≤ IntKind.wrap IntKind.u64 a0_0 ∧ (0 : Int) ≤ IntKind.wrap IntKind.u64 a1_0 ∧ (0 : Int) ≤ (0 : Int) ∧ (0 : Int) ≤ (1 : Int))) (cond (decide ((0 : Int) ≤ IntKind.wrap IntKind.u64 a0_1 ∧ (0 : Int) ≤ IntKind.wrap IntKind.u64 a1_1 ∧ (0 : Int) ≤ (IntKind.wrap IntKind.u64 a0_0 + IntKind.wrap IntKind.u64 a1_0 + (0 : Int)) / (18446744073709551616 : Int) ∧ (IntKind.wrap IntKind.u64 a0_0 + IntKind.wrap IntKind.u64 a1_0 + (0 : Int)) / (18446744073709551616 : Int) ≤ (1 : Int))) (k (IntKind.wrap IntKind.i64 ((IntKind.wrap IntKind.u64 a0_0 + IntKind.wrap IntKind.u64 a1_0 + (0 : Int)) % (18446744073709551616 : Int)), IntKind.wrap IntKind.i64 ((IntKind.wrap IntKind.u64 a0_1 + IntKind.wrap IntKind.u64 a1_1 + (IntKind.wrap IntKind.u64 a0_0 + IntKind.wrap IntKind.u64 a1_0 + (0 : Int)) / (18446744073709551616 : Int)) % (18446744073709551616 : Int)))) (none)) (none)
noncomputable def dbl_Add (a0_0 : Int) (a0_1 : Int) (a1_0 : Int) (a1_1 : Int) : Option dbl_Add_R := dbl_Add_t a0_0 a0_1 a1_0 a1_1 some
theorem dbl_Add_t_eq {γ : Type} (a0_0 : Int) (a0_1 : Int) (a1_0 : Int) (a1_1 : Int) (k : dbl_Add_R → Option γ) : dbl_Add_t a0_0 a0_1 a1_0 a1_1 k = outOf (dbl_Add a0_0 a0_1 a1_0 a1_1) k := by
  delta dbl_Add dbl_Add_t; exact (Tr.nd (Tr.nd Tr.lf Tr.no) Tr.no)
noncomputable def dbl_Add_sp : TX.Spec := specD [.agg (.pair (.int .i64) (.int .i64)), .agg (.pair (.int .i64) (.int .i64))] [] fun _ a m k => match a, m with | ⟨⟨a0_0, a0_1⟩, ⟨a1_0, a1_1⟩, _⟩, _ => outOf (dbl_Add a0_0 a0_1 a1_0 a1_1) fun v => k (.agg [.lit (.int .i64 v.1), .lit (.int .i64 v.2)]) []
theorem dbl_Add_ev {α : Type} (a0_0 : Int) (a0_1 : Int) (a1_0 : Int) (a1_1 : Int) (k : Kont α) : evFun Tryd.prog NE0 (dbl_Add_h0) false Tryd.f89 (bodyOf Tryd.f89) 60 (mkS [.agg (.pair (.int .i64) (.int .i64)), .agg (.pair (.int .i64) (.int .i64))] ((a0_0, a0_1), (a1_0, a1_1), ())) (mkH [] ()) k = outOf (dbl_Add a0_0 a0_1 a1_0 a1_1) fun v => k (.agg [.lit (.int .i64 v.1), .lit (.int .i64 v.2)]) [] :=
  (show _ = dbl_Add_t a0_0 a0_1 a1_0 a1_1 (fun v => k (.agg [.lit (.int .i64 v.1), .lit (.int .i64 v.2)]) []) from by kernel_rfl).trans (dbl_Add_t_eq a0_0 a0_1 a1_0 a1_1 _)
theorem dbl_Add_good : TX.Good Tryd.prog 89 dbl_Add_sp := good_form NE0_ok mixed Tryd.func89 (body_of rfl) (by kernel_rfl) false fun α a m k r h => by
  obtain ⟨⟨a0_0, a0_1⟩, ⟨a1_0, a1_1⟩, _⟩ := a; obtain _ := m
  exact ⟨dbl_Add_h0, 60, dbl_Add_h0_ok, rfl, (dbl_Add_ev a0_0 a0_1 a1_0 a1_1 k).trans h⟩
def mul64_h0 : Hints := Hints.nil 0
theorem mul64_h0_ok : mul64_h0.OK Tryd.prog (bodyOf Tryd.f114) := Hints.nil_ok
noncomputable def mul64 (a0 : Int) (a1 : Int) : Int × Int := (IntKind.wrap IntKind.u64 (IntKind.wrap IntKind.u64 (IntKind.wrap IntKind.u64 (Int.fdiv a0 (4294967296 : Int) * Int.fdiv a1 (4294967296 : Int)) + Int.fdiv (IntKind.wrap IntKind.u64 (IntKind.wrap IntKind.u64 (Int.fdiv a0 (4294967296 : Int) * ibits BinOp.and IntKind.u64 a1 (4294967295 : Int)) + Int.fdiv (IntKind.wrap IntKind.u64 (ibits BinOp.and IntKind.u64 a0 (4294967295 : Int) * ibits BinOp.and IntKind.u64 a1 (4294967295 : Int))) (4294967296 : Int))) (4294967296 : Int)) + Int.fdiv (IntKind.wrap IntKind.u64 (ibits BinOp.and IntKind.u64 (IntKind.wrap IntKind.u64 (IntKind.wrap IntKind.u64 (Int.fdiv a0 (4294967296 : Int) * ibits BinOp.and IntKind.u64 a1 (4294967295 : Int)) + Int.fdiv (IntKind.wrap IntKind.u64 (ibits BinOp.and IntKind.u64 a0 (4294967295 : Int) * ibits BinOp.and IntKind.u64 a1 (4294967295 : Int))) (4294967296 : Int))) (4294967295 : Int) + IntKind.wrap IntKind.u64 (ibits BinOp.and IntKind.u64 a0 (4294967295 : Int) * Int.fdiv a1 (4294967296 : Int)))) (4294967296 : Int)), IntKind.wrap IntKind.u64 (a0 * a1))
noncomputable def mul64_sp : TX.Spec := specD [.val (.int .u64), .val (.int .u64)] [] fun _ a m k => match a, m with | ⟨a0, a1, _⟩, _ => k (.tup [.lit (.int .u64 ((mul64 a0 a1).1)), .lit (.int .u64 ((mul64 a0 a1).2))]) []
theorem mul64_ev {α : Type} (a0 : Int) (a1 : Int) (k : Kont α) : evFun Tryd.prog NE0 (mul64_h0) false Tryd.f114 (bodyOf Tryd.f114) 60 (mkS [.val (.int .u64), .val (.int .u64)] (a0, a1, ())) (mkH [] ()) k = k (.tup [.lit (.int .u64 ((mul64 a0 a1).1)), .lit (.int .u64 ((mul64 a0 a1).2))]) [] :=
  by kernel_rfl
theorem mul64_good : TX.Good Tryd.prog 114 mul64_sp := good_form NE0_ok mixed Tryd.func114 (body_of rfl) (by kernel_rfl) false fun α a m k r h => by
  obtain ⟨a0, a1, _⟩ := a; obtain _ := m
  exact ⟨mul64_h0, 60, mul64_h0_ok, rfl, (mul64_ev a0 a1 k).trans h⟩
noncomputable def NrAE1 : Env := NE0.add 129 true log10p_sp |>.add 131 true bool2_sp |>.add 110 true small_sp |>.add 132 true isPow_sp |>.add 143 true tz64_sp |>.add 46 true num_good_sp |>.add 89 true dbl_Add_sp |>.add 114 true mul64_sp
theorem NrAE1_ok : NrAE1.OK Tryd.prog := ((((((((NE0_ok).add_ok log10p_good).add_ok bool2_good).add_ok small_good).add_ok isPow_good).add_ok tz64_good).add_ok num_good_good).add_ok dbl_Add_good).add_ok mul64_good
def numDigits_h0 : Hints := Hints.nil 0
theorem numDigits_h0_ok : numDigits_h0.OK Tryd.prog (bodyOf Tryd.f111) := Hints.nil_ok
abbrev numDigits_R : Type := (Int)
noncomputable def numDigits_t {γ : Type} (a0 : Int) (k : numDigits_R → Option γ) : Option γ := cond (decide ((0 : Int) ≤ a0 ∧ a0 ≤ (18446744073709551615 : Int))) (cond (decide ((0 : Int) ≤ log10p (held (↑(Lib.bitLen (Int.toNat a0)) : Int)) ∧ log10p (held (↑(Lib.bitLen (Int.toNat a0)) : Int)) < (20 : Int) ∧ (0 : Nat) + Int.toNat (log10p (held (↑(Lib.bitLen (Int.toNat a0)) : Int))) < (20 : Nat))) (outOf (bool2 (decide (a0 ≥ List.getD tabTen ((0 : Nat) + Int.toNat (log10p (held (↑(Lib.bitLen (Int.toNat a0)) : Int)))) (0 : Int)))) fun (x1 : Int) => k (IntKind.wrap IntKind.i64 (log10p (held (↑(Lib.bitLen (Int.toNat a0)) : Int)) + x1))) (none)) (none)
noncomputable def numDigits (a0 : Int) : Option numDigits_R := numDigits_t a0 some
theorem numDigits_t_eq {γ : Type} (a0 : Int) (k : numDigits_R → Option γ) : numDigits_t a0 k = outOf (numDigits a0) k := by
  delta numDigits numDigits_t; exact (Tr.nd (Tr.nd (Tr.bd fun x1 => Tr.lf) Tr.no) Tr.no)
noncomputable def numDigits_sp : TX.Spec := specD [.val (.int .u64)] [] fun _ a m k => match a, m with | ⟨a0, _⟩, _ => outOf (numDigits a0) fun v => k (.lit (.int .i64 v)) []
theorem numDigits_ev {α : Type} (a0 : Int) (k : Kont α) : evFun Tryd.prog NrAE1 (numDigits_h0) false Tryd.f111 (bodyOf Tryd.f111) 60 (mkS [.val (.int .u64)] (a0, ())) (mkH [] ()) k = outOf (numDigits a0) fun v => k (.lit (.int .i64 v)) [] :=
  (show _ = numDigits_t a0 (fun v => k (.lit (.int .i64 v)) []) from by kernel_rfl).trans (numDigits_t_eq a0 _)
theorem numDigits_good : TX.Good Tryd.prog 111 numDigits_sp := good_form NrAE1_ok mixed Tryd.func111 (body_of rfl) (by kernel_rfl) false fun α a m k r h => by
  obtain ⟨a0, _⟩ := a; obtain _ := m
  exact ⟨numDigits_h0, 60, numDigits_h0_ok, rfl, (numDigits_ev a0 k).trans h⟩
def tz_h0 : Hints := Hints.nil 0
theorem tz_h0_ok : tz_h0.OK Tryd.prog (bodyOf Tryd.f133) := Hints.nil_ok
abbrev tz_R : Type := (Int)
noncomputable def tz_t {γ : Type} (a0 : Int) (k : tz_R → Option γ) : Option γ := outOf (tz64 a0) fun (x1 : Int) => k (x1)
noncomputable def tz (a0 : Int) : Option tz_R := tz_t a0 some
theorem tz_t_eq {γ : Type} (a0 : Int) (k : tz_R → Option γ) : tz_t a0 k = outOf (tz a0) k := by
  delta tz tz_t; exact (Tr.bd fun x1 => Tr.lf)
noncomputable def tz_sp : TX.Spec := specD [.val (.int .u64)] [] fun _ a m k => match a, m with | ⟨a0, _⟩, _ => outOf (tz a0) fun v => k (.lit (.int .i64 v)) []
theorem tz_ev {α : Type} (a0 : Int) (k : Kont α) : evFun Tryd.prog NrAE1 (tz_h0) false Tryd.f133 (bodyOf Tryd.f133) 60 (mkS [.val (.int .u64)] (a0, ())) (mkH [] ()) k = outOf (tz a0) fun v => k (.lit (.int .i64 v)) [] :=
  (show _ = tz_t a0 (fun v => k (.lit (.int .i64 v)) []) from by kernel_rfl).trans (tz_t_eq a0 _)
theorem tz_good : TX.Good Tryd.prog 133 tz_sp := good_form NrAE1_ok mixed Tryd.func133 (body_of rfl) (by kernel_rfl) false fun α a m k r h => by
  obtain ⟨a0, _⟩ := a; obtain _ := m
  exact ⟨tz_h0, 60, tz_h0_ok, rfl, (tz_ev a0 k).trans h⟩
def dbl_Neg_h0 : Hints := Hints.nil 0
theorem dbl_Neg_h0_ok : dbl_Neg_h0.OK Tryd.prog (bodyOf Tryd.f55) := Hints.nil_ok
abbrev dbl_Neg_R : Type := (Int × Int)
noncomputable def dbl_Neg_t {γ : Type} (a0_0 : Int) (a0_1 : Int) (k : dbl_Neg_R → Option γ) : Option γ := outOf (dbl_Add (ibits BinOp.xor IntKind.i64 (-1 : Int) a0_0) (ibits BinOp.xor IntKind.i64 (-1 : Int) a0_1) (1 : Int) (0 : Int)) fun (x1 : (Int × Int)) => k (Prod.fst x1, Prod.snd x1)
noncomputable def dbl_Neg (a0_0 : Int) (a0_1 : Int) : Option dbl_Neg_R := dbl_Neg_t a0_0 a0_1 some
theorem dbl_Neg_t_eq {γ : Type} (a0_0 : Int) (a0_1 : Int) (k : dbl_Neg_R → Option γ) : dbl_Neg_t a0_0 a0_1 k = outOf (dbl_Neg a0_0 a0_1) k := by
  delta dbl_Neg dbl_Neg_t; exact (Tr.bd fun x1 => Tr.lf)
noncomputable def dbl_Neg_sp : TX.Spec := specD [.agg (.pair (.int .i64) (.int .i64))] [] fun _ a m k => match a, m with | ⟨⟨a0_0, a0_1⟩, _⟩, _ => outOf (dbl_Neg a0_0 a0_1) fun v => k (.agg [.lit (.int .i64 v.1), .lit (.int .i64 v.2)]) []
theorem dbl_Neg_ev {α : Type} (a0_0 : Int) (a0_1 : Int) (k : Kont α) : evFun Tryd.prog NrAE1 (dbl_Neg_h0) false Tryd.f55 (bodyOf Tryd.f55) 60 (mkS [.agg (.pair (.int .i64) (.int .i64))] ((a0_0, a0_1), ())) (mkH [] ()) k = outOf (dbl_Neg a0_0 a0_1) fun v => k (.agg [.lit (.int .i64 v.1), .lit (.int .i64 v.2)]) [] :=
  (show _ = dbl_Neg_t a0_0 a0_1 (fun v => k (.agg [.lit (.int .i64 v.1), .lit (.int .i64 v.2)]) []) from by kernel_rfl).trans (dbl_Neg_t_eq a0_0 a0_1 _)
theorem dbl_Neg_good : TX.Good Tryd.prog 55 dbl_Neg_sp := good_form NrAE1_ok mixed Tryd.func55 (body_of rfl) (by kernel_rfl) false fun α a m k r h => by
  obtain ⟨⟨a0_0, a0_1⟩, _⟩ := a; obtain _ := m
  exact ⟨dbl_Neg_h0, 60, dbl_Neg_h0_ok, rfl, (dbl_Neg_ev a0_0 a0_1 k).trans h⟩
noncomputable def NrAE2 : Env := NrAE1.add 111 true numDigits_sp |>.add 133 true tz_sp |>.add 55 true dbl_Neg_sp
theorem NrAE2_ok : NrAE2.OK Tryd.prog := (((NrAE1_ok).add_ok numDigits_good).add_ok tz_good).add_ok dbl_Neg_good
end Go.Proofs.Dbl
