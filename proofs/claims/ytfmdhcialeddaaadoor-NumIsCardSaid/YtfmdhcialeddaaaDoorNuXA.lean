import Derived.Test.YtfmdhcialeddaaaDoorNuG
namespace Go.Proofs.Dbl
open Go Go.TX Go.Proofs
set_option maxRecDepth 100000
set_option linter.unusedVariables false
set_option maxHeartbeats 0
/-! f129 internal/strconv.log10Pow2 -/
def log10p_h0 : Hints := Hints.nil 0
theorem log10p_h0_ok : log10p_h0.OK Tryd.prog (bodyOf Tryd.f129) := Hints.nil_ok
noncomputable def log10p (a0 : Int) : Int := (Int.fdiv (IntKind.wrap IntKind.i64 (a0 * (78913 : Int))) (262144 : Int))
noncomputable def log10p_sp : TX.Spec := specD [.val (.int .i64)] [] fun _ a m k => match a, m with | ⟨a0, _⟩, _ => k (.lit (.int .i64 (log10p a0))) []
theorem log10p_ev {α : Type} (a0 : Int) (k : Kont α) : evFun Tryd.prog NE0 (log10p_h0) false Tryd.f129 (bodyOf Tryd.f129) 60 (mkS [.val (.int .i64)] (a0, ())) (mkH [] ()) k = k (.lit (.int .i64 (log10p a0))) [] :=
  by kernel_rfl
theorem log10p_good : TX.Good Tryd.prog 129 log10p_sp := good_form NE0_ok mixed Tryd.func129 (body_of rfl) (by kernel_rfl) false fun α a m k r h => by
  obtain ⟨a0, _⟩ := a; obtain _ := m
  exact ⟨log10p_h0, 60, log10p_h0_ok, rfl, (log10p_ev a0 k).trans h⟩
/-! f131 internal/strconv.bool2[int] -/
def bool2_h0 : Hints := Hints.nil 0
theorem bool2_h0_ok : bool2_h0.OK Tryd.prog (bodyOf Tryd.f131) := Hints.nil_ok
abbrev bool2_R : Type := (Int)
noncomputable def bool2_t {γ : Type} (a0 : Bool) (k : bool2_R → Option γ) : Option γ := cond a0 (k ((1 : Int))) (k ((0 : Int)))
noncomputable def bool2 (a0 : Bool) : Option bool2_R := bool2_t a0 some
theorem bool2_t_eq {γ : Type} (a0 : Bool) (k : bool2_R → Option γ) : bool2_t a0 k = outOf (bool2 a0) k := by
  delta bool2 bool2_t; exact (Tr.nd Tr.lf Tr.lf)
noncomputable def bool2_sp : TX.Spec := specD [.val .bool] [] fun _ a m k => match a, m with | ⟨a0, _⟩, _ => outOf (bool2 a0) fun v => k (.lit (.int .i64 v)) []
theorem bool2_ev {α : Type} (a0 : Bool) (k : Kont α) : evFun Tryd.prog NE0 (bool2_h0) false Tryd.f131 (bodyOf Tryd.f131) 60 (mkS [.val .bool] (a0, ())) (mkH [] ()) k = outOf (bool2 a0) fun v => k (.lit (.int .i64 v)) [] :=
  (show _ = bool2_t a0 (fun v => k (.lit (.int .i64 v)) []) from by kernel_rfl).trans (bool2_t_eq a0 _)
theorem bool2_good : TX.Good Tryd.prog 131 bool2_sp := good_form NE0_ok mixed Tryd.func131 (body_of rfl) (by kernel_rfl) false fun α a m k r h => by
  obtain ⟨a0, _⟩ := a; obtain _ := m
  exact ⟨bool2_h0, 60, bool2_h0_ok, rfl, (bool2_ev a0 k).trans h⟩
/-! f110 internal/strconv.small -/
def small_h0 : Hints := Hints.nil 0
theorem small_h0_ok : small_h0.OK Tryd.prog (bodyOf Tryd.f110) := Hints.nil_ok
abbrev small_R : Type := (ByteArray)
noncomputable def small_t {γ : Type} (a0 : Int) (k : small_R → Option γ) : Option γ := cond (decide (a0 < (10 : Int))) (cond (decide ((0 : Int) ≤ a0 ∧ a0 ≤ IntKind.wrap IntKind.i64 (a0 + (1 : Int)) ∧ IntKind.wrap IntKind.i64 (a0 + (1 : Int)) ≤ (36 : Int))) (k (ByteArray.extract (bytesOf [48, 49, 50, 51, 52, 53, 54, 55, 56, 57, 97, 98, 99, 100, 101, 102, 103, 104, 105, 106, 107, 108, 109, 110, 111, 112, 113, 114, 115, 116, 117, 118, 119, 120, 121, 122]) (Int.toNat a0) (Int.toNat (IntKind.wrap IntKind.i64 (a0 + (1 : Int)))))) (none)) (cond (decide ((0 : Int) ≤ IntKind.wrap IntKind.i64 (a0 * (2 : Int)) ∧ IntKind.wrap IntKind.i64 (a0 * (2 : Int)) ≤ IntKind.wrap IntKind.i64 (IntKind.wrap IntKind.i64 (a0 * (2 : Int)) + (2 : Int)) ∧ IntKind.wrap IntKind.i64 (IntKind.wrap IntKind.i64 (a0 * (2 : Int)) + (2 : Int)) ≤ (200 : Int))) (k (ByteArray.extract (bytesOf [48, 48, 48, 49, 48, 50, 48, 51, 48, 52, 48, 53, 48, 54, 48, 55, 48, 56, 48, 57, 49, 48, 49, 49, 49, 50, 49, 51, 49, 52, 49, 53, 49, 54, 49, 55, 49, 56, 49, 57, 50, 48, 50, 49, 50, 50, 50, 51, 50, 52, 50, 53, 50, 54, 50, 55, 50, 56, 50, 57, 51, 48, 51, 49, 51, 50, 51, 51, 51, 52, 51, 53, 51, 54, 51, 55, 51, 56, 51, 57, 52, 48, 52, 49, 52, 50, 52, 51, 52, 52, 52, 53, 52, 54, 52, 55, 52, 56, 52, 57, 53, 48, 53, 49, 53, 50, 53, 51, 53, 52, 53, 53, 53, 54, 53, 55, 53, 56, 53, 57, 54, 48, 54, 49, 54, 50, 54, 51, 54, 52, 54, 53, 54, 54, 54, 55, 54, 56, 54, 57, 55, 48, 55, 49, 55, 50, 55, 51, 55, 52, 55, 53, 55, 54, 55, 55, 55, 56, 55, 57, 56, 48, 56, 49, 56, 50, 56, 51, 56, 52, 56, 53, 56, 54, 56, 55, 56, 56, 56, 57, 57, 48, 57, 49, 57, 50, 57, 51, 57, 52, 57, 53, 57, 54, 57, 55, 57, 56, 57, 57]) (Int.toNat (IntKind.wrap IntKind.i64 (a0 * (2 : Int)))) (Int.toNat (IntKind.wrap IntKind.i64 (IntKind.wrap IntKind.i64 (a0 * (2 : Int)) + (2 : Int)))))) (none))
noncomputable def small (a0 : Int) : Option small_R := small_t a0 some
theorem small_t_eq {γ : Type} (a0 : Int) (k : small_R → Option γ) : small_t a0 k = outOf (small a0) k := by
  delta small small_t; exact (Tr.nd (Tr.nd Tr.lf Tr.no) (Tr.nd Tr.lf Tr.no))
noncomputable def small_sp : TX.Spec := specD [.val (.int .i64)] [] fun _ a m k => match a, m with | ⟨a0, _⟩, _ => outOf (small a0) fun v => k (.lit (.string v)) []
theorem small_ev {α : Type} (a0 : Int) (k : Kont α) : evFun Tryd.prog NE0 (small_h0) false Tryd.f110 (bodyOf Tryd.f110) 60 (mkS [.val (.int .i64)] (a0, ())) (mkH [] ()) k = outOf (small a0) fun v => k (.lit (.string v)) [] :=
  (show _ = small_t a0 (fun v => k (.lit (.string v)) []) from by kernel_rfl).trans (small_t_eq a0 _)
theorem small_good : TX.Good Tryd.prog 110 small_sp := good_form NE0_ok mixed Tryd.func110 (body_of rfl) (by kernel_rfl) false fun α a m k r h => by
  obtain ⟨a0, _⟩ := a; obtain _ := m
  exact ⟨small_h0, 60, small_h0_ok, rfl, (small_ev a0 k).trans h⟩
/-! f132 internal/strconv.isPowerOfTwo -/
def isPow_h0 : Hints := Hints.nil 0
theorem isPow_h0_ok : isPow_h0.OK Tryd.prog (bodyOf Tryd.f132) := Hints.nil_ok
noncomputable def isPow (a0 : Int) : Bool := (ibits BinOp.and IntKind.i64 a0 (IntKind.wrap IntKind.i64 (a0 - (1 : Int))) == (0 : Int))
noncomputable def isPow_sp : TX.Spec := specD [.val (.int .i64)] [] fun _ a m k => match a, m with | ⟨a0, _⟩, _ => k (.lit (.bool (isPow a0))) []
theorem isPow_ev {α : Type} (a0 : Int) (k : Kont α) : evFun Tryd.prog NE0 (isPow_h0) false Tryd.f132 (bodyOf Tryd.f132) 60 (mkS [.val (.int .i64)] (a0, ())) (mkH [] ()) k = k (.lit (.bool (isPow a0))) [] :=
  by kernel_rfl
theorem isPow_good : TX.Good Tryd.prog 132 isPow_sp := good_form NE0_ok mixed Tryd.func132 (body_of rfl) (by kernel_rfl) false fun α a m k r h => by
  obtain ⟨a0, _⟩ := a; obtain _ := m
  exact ⟨isPow_h0, 60, isPow_h0_ok, rfl, (isPow_ev a0 k).trans h⟩
/-! f143 math/bits.TrailingZeros64 -/
def tz64_h0 : Hints := Hints.nil 0
theorem tz64_h0_ok : tz64_h0.OK Tryd.prog (bodyOf Tryd.f143) := Hints.nil_ok
abbrev tz64_R : Type := (Int)
noncomputable def tz64_t {γ : Type} (a0 : Int) (k : tz64_R → Option γ) : Option γ := cond (a0 == (0 : Int)) (k ((64 : Int))) (cond (decide ((0 : Int) ≤ Int.fdiv (IntKind.wrap IntKind.u64 (ibits BinOp.and IntKind.u64 a0 (IntKind.wrap IntKind.u64 ((0 : Int) - a0)) * (285870213051353865 : Int))) (288230376151711744 : Int) ∧ Int.fdiv (IntKind.wrap IntKind.u64 (ibits BinOp.and IntKind.u64 a0 (IntKind.wrap IntKind.u64 ((0 : Int) - a0)) * (285870213051353865 : Int))) (288230376151711744 : Int) < (64 : Int) ∧ (0 : Nat) + Int.toNat (Int.fdiv (IntKind.wrap IntKind.u64 (ibits BinOp.and IntKind.u64 a0 (IntKind.wrap IntKind.u64 ((0 : Int) - a0)) * (285870213051353865 : Int))) (288230376151711744 : Int)) < (64 : Nat))) (k (IntKind.wrap IntKind.i64 (List.getD tabTz ((0 : Nat) + Int.toNat (Int.fdiv (IntKind.wrap IntKind.u64 (ibits BinOp.and IntKind.u64 a0 (IntKind.wrap IntKind.u64 ((0 : Int) - a0)) * (285870213051353865 : Int))) (288230376151711744 : Int))) (0 : Int)))) (none))
noncomputable def tz64 (a0 : Int) : Option tz64_R := tz64_t a0 some
theorem tz64_t_eq {γ : Type} (a0 : Int) (k : tz64_R → Option γ) : tz64_t a0 k = outOf (tz64 a0) k := by
  delta tz64 tz64_t; exact (Tr.nd Tr.lf (Tr.nd Tr.lf Tr.no))
noncomputable def tz64_sp : TX.Spec := specD [.val (.int .u64)] [] fun _ a m k => match a, m with | ⟨a0, _⟩, _ => outOf (tz64 a0) fun v => k (.lit (.int .i64 v)) []
theorem tz64_ev {α : Type} (a0 : Int) (k : Kont α) : evFun Tryd.prog NE0 (tz64_h0) false Tryd.f143 (bodyOf Tryd.f143) 60 (mkS [.val (.int .u64)] (a0, ())) (mkH [] ()) k = outOf (tz64 a0) fun v => k (.lit (.int .i64 v)) [] :=
  (show _ = tz64_t a0 (fun v => k (.lit (.int .i64 v)) []) from by kernel_rfl).trans (tz64_t_eq a0 _)
theorem tz64_good : TX.Good Tryd.prog 143 tz64_sp := good_form NE0_ok mixed Tryd.func143 (body_of rfl) (by kernel_rfl) false fun α a m k r h => by
  obtain ⟨a0, _⟩ := a; obtain _ := m
  exact ⟨tz64_h0, 60, tz64_h0_ok, rfl, (tz64_ev a0 k).trans h⟩
/-! f46 tenterhook/num.good -/
def num_good_h0 : Hints := Hints.nil 0
theorem num_good_h0_ok : num_good_h0.OK Tryd.prog (bodyOf Tryd.f46) := Hints.nil_ok
abbrev num_good_R : Type := (Bool)
noncomputable def num_good_t {γ : Type} (a0 : Int) (k : num_good_R → Option γ) : Option γ := cond (decide (a0 ≥ (2 : Int))) (k (decide (a0 ≤ (36 : Int)))) (k (false))
noncomputable def num_good (a0 : Int) : Option num_good_R := num_good_t a0 some
theorem num_good_t_eq {γ : Type} (a0 : Int) (k : num_good_R → Option γ) : num_good_t a0 k = outOf (num_good a0) k := by
  delta num_good num_good_t; exact (Tr.nd Tr.lf Tr.lf)
noncomputable def num_good_sp : TX.Spec := specD [.val (.int .i64)] [] fun _ a m k => match a, m with | ⟨a0, _⟩, _ => outOf (num_good a0) fun v => k (.lit (.bool v)) []
theorem num_good_ev {α : Type} (a0 : Int) (k : Kont α) : evFun Tryd.prog NE0 (num_good_h0) false Tryd.f46 (bodyOf Tryd.f46) 60 (mkS [.val (.int .i64)] (a0, ())) (mkH [] ()) k = outOf (num_good a0) fun v => k (.lit (.bool v)) [] :=
  (show _ = num_good_t a0 (fun v => k (.lit (.bool v)) []) from by kernel_rfl).trans (num_good_t_eq a0 _)
theorem num_good_good : TX.Good Tryd.prog 46 num_good_sp := good_form NE0_ok mixed Tryd.func46 (body_of rfl) (by kernel_rfl) false fun α a m k r h => by
  obtain ⟨a0, _⟩ := a; obtain _ := m
  exact ⟨num_good_h0, 60, num_good_h0_ok, rfl, (num_good_ev a0 k).trans h⟩
/-! f89 tenterhook/dbl.Add -/
def dbl_Add_h0 : Hints := Hints.nil 0
theorem dbl_Add_h0_ok : dbl_Add_h0.OK Tryd.prog (bodyOf Tryd.f89) := Hints.nil_ok
abbrev dbl_Add_R : Type := (Int × Int)
noncomputable def dbl_Add_t {γ : Type} (a0_0 : Int) (a0_1 : Int) (a1_0 : Int) (a1_1 : Int) (k : dbl_Add_R → Option γ) : Option γ := cond (decide ((0 : Int) ≤ IntKind.wrap IntKind.u64 a0_0 ∧ (0 : Int) ≤ IntKind.wrap IntKind.u64 a1_0 ∧ (0 : Int) ≤ (0 : Int) ∧ (0 : Int) ≤ (1 : Int))) (cond (decide ((0 : Int) ≤ IntKind.wrap IntKind.u64 a0_1 ∧ (0 : Int) ≤ IntKind.wrap IntKind.u64 a1_1 ∧ (0 : Int) ≤ (IntKind.wrap IntKind.u64 a0_0 + IntKind.wrap IntKind.u64 a1_0 + (0 : Int)) / (18446744073709551616 : Int) ∧ (IntKind.wrap IntKind.u64 a0_0 + IntKind.wrap IntKind.u64 a1_0 + (0 : Int)) / (18446744073709551616 : Int) ≤ (1 : Int))) (k (IntKind.wrap IntKind.i64 ((IntKind.wrap IntKind.u64 a0_0 + IntKind.wrap IntKind.u64 a1_0 + (0 : Int)) % (18446744073709551616 : Int)), IntKind.wrap IntKind.i64 ((IntKind.wrap IntKind.u64 a0_1 + IntKind.wrap IntKind.u64 a1_1 + (IntKind.wrap IntKind.u64 a0_0 + IntKind.wrap IntKind.u64 a1_0 + (0 : Int)) / (18446744073709551616 : Int)) % (18446744073709551616 : Int)))) (none)) (none)
noncomputable def dbl_Add (a0_0 : Int) (a0_1 : Int) (a1_0 : Int) (a1_1 : Int) : Option dbl_Add_R := dbl_Add_t a0_0 a0_1 a1_0 a1_1 some
theorem dbl_Add_t_eq {γ : Type} (a0_0 : Int) (a0_1 : Int) (a1_0 : Int) (a1_1 : Int) (k : dbl_Add_R → Option γ) : dbl_Add_t a0_0 a0_1 a1_0 a1_1 k = outOf (dbl_Add a0_0 a0_1 a1_0 a1_1) k := by
  delta dbl_Add dbl_Add_t; exact (Tr.nd (Tr.nd Tr.lf Tr.no) Tr.no)
noncomputable def dbl_Add_sp : TX.Spec := specD [.agg (.pair (.int .i64) (.int .i64)), .agg (.pair (.int .i64) (.int .i64))] [] fun _ a m k => match a, m with | ⟨⟨a0_0, a0_1⟩, ⟨a1_0, a1_1⟩, _⟩, _ => outOf (dbl_Add a0_0 a0_1 a1_0 a1_1) fun v => k (.agg [.lit (.int .i64 v.1), .lit (.int .i64 v.2)]) []
theorem dbl_Add_ev {α : Type} (a0_0 : Int) (a0_1 : Int) (a1_0 : Int) (a1_1 : Int) (k : Kont α) : evFun Tryd.prog NE0 (dbl_Add_h0) false Tryd.f89 (bodyOf Tryd.f89) 60 (mkS [.agg (.pair (.int .i64) (.int .i64)), .agg (.pair (.int .i64) (.int .i64))] ((a0_0, a0_1), (a1_0, a1_1), ())) (mkH [] ()) k = outOf (dbl_Add a0_0 a0_1 a1_0 a1_1) fun v => k (.agg [.lit (.int .i64 v.1), .lit (.int .i64 v.2)]) [] :=
  (show _ = dbl_Add_t a0_0 a0_1 a1_0 a1_1 (fun v => k (.agg [.lit (.int .i64 v.1), .lit (.int .i64 v.2)]) []) from by kernel_rfl).trans (dbl_Add_t_eq a0_0 a0_1 a1_0 a1_1 _)
theorem dbl_Add_good : TX.Good Tryd.prog 89 dbl_Add_sp := good_form NE0_ok mixed Tryd.func89 (body_of rfl) (by kernel_rfl) false fun α a m k r h => by
  obtain ⟨⟨a0_0, a0_1⟩, ⟨a1_0, a1_1⟩, _⟩ := a; obtain _ := m
  exact ⟨dbl_Add_h0, 60, dbl_Add_h0_ok, rfl, (dbl_Add_ev a0_0 a0_1 a1_0 a1_1 k).trans h⟩
/-! f114 math/bits.Mul64 -/
def mul64_h0 : Hints := Hints.nil 0
theorem mul64_h0_ok : mul64_h0.OK Tryd.prog (bodyOf Tryd.f114) := Hints.nil_ok
noncomputable def mul64 (a0 : Int) (a1 : Int) : Int × Int := (IntKind.wrap IntKind.u64 (IntKind.wrap IntKind.u64 (IntKind.wrap IntKind.u64 (Int.fdiv a0 (4294967296 : Int) * Int.fdiv a1 (4294967296 : Int)) + Int.fdiv (IntKind.wrap IntKind.u64 (IntKind.wrap IntKind.u64 (Int.fdiv a0 (4294967296 : Int) * ibits BinOp.and IntKind.u64 a1 (4294967295 : Int)) + Int.fdiv (IntKind.wrap IntKind.u64 (ibits BinOp.and IntKind.u64 a0 (4294967295 : Int) * ibits BinOp.and IntKind.u64 a1 (4294967295 : Int))) (4294967296 : Int))) (4294967296 : Int)) + Int.fdiv (IntKind.wrap IntKind.u64 (ibits BinOp.and IntKind.u64 (IntKind.wrap IntKind.u64 (IntKind.wrap IntKind.u64 (Int.fdiv a0 (4294967296 : Int) * ibits BinOp.and IntKind.u64 a1 (4294967295 : Int)) + Int.fdiv (IntKind.wrap IntKind.u64 (ibits BinOp.and IntKind.u64 a0 (4294967295 : Int) * ibits BinOp.and IntKind.u64 a1 (4294967295 : Int))) (4294967296 : Int))) (4294967295 : Int) + IntKind.wrap IntKind.u64 (ibits BinOp.and IntKind.u64 a0 (4294967295 : Int) * Int.fdiv a1 (4294967296 : Int)))) (4294967296 : Int)), IntKind.wrap IntKind.u64 (a0 * a1))
noncomputable def mul64_sp : TX.Spec := specD [.val (.int .u64), .val (.int .u64)] [] fun _ a m k => match a, m with | ⟨a0, a1, _⟩, _ => k (.tup [.lit (.int .u64 ((mul64 a0 a1).1)), .lit (.int .u64 ((mul64 a0 a1).2))]) []
theorem mul64_ev {α : Type} (a0 : Int) (a1 : Int) (k : Kont α) : evFun Tryd.prog NE0 (mul64_h0) false Tryd.f114 (bodyOf Tryd.f114) 60 (mkS [.val (.int .u64), .val (.int .u64)] (a0, a1, ())) (mkH [] ()) k = k (.tup [.lit (.int .u64 ((mul64 a0 a1).1)), .lit (.int .u64 ((mul64 a0 a1).2))]) [] :=
  by kernel_rfl
theorem mul64_good : TX.Good Tryd.prog 114 mul64_sp := good_form NE0_ok mixed Tryd.func114 (body_of rfl) (by kernel_rfl) false fun α a m k r h => by
  obtain ⟨a0, a1, _⟩ := a; obtain _ := m
  exact ⟨mul64_h0, 60, mul64_h0_ok, rfl, (mul64_ev a0 a1 k).trans h⟩
/-! f84 internal/stringslite.HasPrefix -/
def hasPre_h0 : Hints := Hints.nil 0
theorem hasPre_h0_ok : hasPre_h0.OK Tryd.prog (bodyOf Tryd.f84) := Hints.nil_ok
abbrev hasPre_R : Type := (Bool)
noncomputable def hasPre_t {γ : Type} (a0 : ByteArray) (a1 : ByteArray) (k : hasPre_R → Option γ) : Option γ := cond (decide ((↑(ByteArray.size a0) : Int) ≥ (↑(ByteArray.size a1) : Int))) (cond (decide ((0 : Int) ≤ (0 : Int) ∧ (0 : Int) ≤ (↑(ByteArray.size a1) : Int) ∧ (↑(ByteArray.size a1) : Int) ≤ (↑(ByteArray.size a0) : Int))) (k (ByteArray.toList (ByteArray.extract a0 (0 : Nat) (Int.toNat (↑(ByteArray.size a1) : Int))) == ByteArray.toList a1)) (none)) (k (false))
noncomputable def hasPre (a0 : ByteArray) (a1 : ByteArray) : Option hasPre_R := hasPre_t a0 a1 some
theorem hasPre_t_eq {γ : Type} (a0 : ByteArray) (a1 : ByteArray) (k : hasPre_R → Option γ) : hasPre_t a0 a1 k = outOf (hasPre a0 a1) k := by
  delta hasPre hasPre_t; exact (Tr.nd (Tr.nd Tr.lf Tr.no) Tr.lf)
noncomputable def hasPre_sp : TX.Spec := specD [.val .str, .val .str] [] fun _ a m k => match a, m with | ⟨a0, a1, _⟩, _ => outOf (hasPre a0 a1) fun v => k (.lit (.bool v)) []
theorem hasPre_ev {α : Type} (a0 : ByteArray) (a1 : ByteArray) (k : Kont α) : evFun Tryd.prog NE0 (hasPre_h0) false Tryd.f84 (bodyOf Tryd.f84) 60 (mkS [.val .str, .val .str] (a0, a1, ())) (mkH [] ()) k = outOf (hasPre a0 a1) fun v => k (.lit (.bool v)) [] :=
  (show _ = hasPre_t a0 a1 (fun v => k (.lit (.bool v)) []) from by kernel_rfl).trans (hasPre_t_eq a0 a1 _)
theorem hasPre_good : TX.Good Tryd.prog 84 hasPre_sp := good_form NE0_ok mixed Tryd.func84 (body_of rfl) (by kernel_rfl) false fun α a m k r h => by
  obtain ⟨a0, a1, _⟩ := a; obtain _ := m
  exact ⟨hasPre_h0, 60, hasPre_h0_ok, rfl, (hasPre_ev a0 a1 k).trans h⟩
/-! f85 internal/stringslite.HasSuffix -/
def hasSuf_h0 : Hints := Hints.nil 0
theorem hasSuf_h0_ok : hasSuf_h0.OK Tryd.prog (bodyOf Tryd.f85) := Hints.nil_ok
abbrev hasSuf_R : Type := (Bool)
noncomputable def hasSuf_t {γ : Type} (a0 : ByteArray) (a1 : ByteArray) (k : hasSuf_R → Option γ) : Option γ := cond (decide ((↑(ByteArray.size a0) : Int) ≥ (↑(ByteArray.size a1) : Int))) (cond (decide ((0 : Int) ≤ IntKind.wrap IntKind.i64 ((↑(ByteArray.size a0) : Int) - (↑(ByteArray.size a1) : Int)) ∧ IntKind.wrap IntKind.i64 ((↑(ByteArray.size a0) : Int) - (↑(ByteArray.size a1) : Int)) ≤ (↑(ByteArray.size a0) : Int) ∧ (↑(ByteArray.size a0) : Int) ≤ (↑(ByteArray.size a0) : Int))) (k (ByteArray.toList (ByteArray.extract a0 (Int.toNat (IntKind.wrap IntKind.i64 ((↑(ByteArray.size a0) : Int) - (↑(ByteArray.size a1) : Int)))) (Int.toNat (↑(ByteArray.size a0) : Int))) == ByteArray.toList a1)) (none)) (k (false))
noncomputable def hasSuf (a0 : ByteArray) (a1 : ByteArray) : Option hasSuf_R := hasSuf_t a0 a1 some
theorem hasSuf_t_eq {γ : Type} (a0 : ByteArray) (a1 : ByteArray) (k : hasSuf_R → Option γ) : hasSuf_t a0 a1 k = outOf (hasSuf a0 a1) k := by
  delta hasSuf hasSuf_t; exact (Tr.nd (Tr.nd Tr.lf Tr.no) Tr.lf)
noncomputable def hasSuf_sp : TX.Spec := specD [.val .str, .val .str] [] fun _ a m k => match a, m with | ⟨a0, a1, _⟩, _ => outOf (hasSuf a0 a1) fun v => k (.lit (.bool v)) []
theorem hasSuf_ev {α : Type} (a0 : ByteArray) (a1 : ByteArray) (k : Kont α) : evFun Tryd.prog NE0 (hasSuf_h0) false Tryd.f85 (bodyOf Tryd.f85) 60 (mkS [.val .str, .val .str] (a0, a1, ())) (mkH [] ()) k = outOf (hasSuf a0 a1) fun v => k (.lit (.bool v)) [] :=
  (show _ = hasSuf_t a0 a1 (fun v => k (.lit (.bool v)) []) from by kernel_rfl).trans (hasSuf_t_eq a0 a1 _)
theorem hasSuf_good : TX.Good Tryd.prog 85 hasSuf_sp := good_form NE0_ok mixed Tryd.func85 (body_of rfl) (by kernel_rfl) false fun α a m k r h => by
  obtain ⟨a0, a1, _⟩ := a; obtain _ := m
  exact ⟨hasSuf_h0, 60, hasSuf_h0_ok, rfl, (hasSuf_ev a0 a1 k).trans h⟩
noncomputable def NrAE1 : Env := NE0.add 129 true log10p_sp |>.add 131 true bool2_sp |>.add 110 true small_sp |>.add 132 true isPow_sp |>.add 143 true tz64_sp |>.add 46 true num_good_sp |>.add 89 true dbl_Add_sp |>.add 114 true mul64_sp |>.add 84 true hasPre_sp |>.add 85 true hasSuf_sp
theorem NrAE1_ok : NrAE1.OK Tryd.prog := ((((((((((NE0_ok).add_ok log10p_good).add_ok bool2_good).add_ok small_good).add_ok isPow_good).add_ok tz64_good).add_ok num_good_good).add_ok dbl_Add_good).add_ok mul64_good).add_ok hasPre_good).add_ok hasSuf_good
/-! f111 internal/strconv.numDigits -/
def numDigits_h0 : Hints := Hints.nil 0
theorem numDigits_h0_ok : numDigits_h0.OK Tryd.prog (bodyOf Tryd.f111) := Hints.nil_ok
abbrev numDigits_R : Type := (Int)
noncomputable def numDigits_t {γ : Type} (a0 : Int) (k : numDigits_R → Option γ) : Option γ := cond (decide ((0 : Int) ≤ a0 ∧ a0 ≤ (18446744073709551615 : Int))) (cond (decide ((0 : Int) ≤ log10p (held (↑(Lib.bitLen (Int.toNat a0)) : Int)) ∧ log10p (held (↑(Lib.bitLen (Int.toNat a0)) : Int)) < (20 : Int) ∧ (0 : Nat) + Int.toNat (log10p (held (↑(Lib.bitLen (Int.toNat a0)) : Int))) < (20 : Nat))) (outOf (bool2 (decide (a0 ≥ List.getD tabTen ((0 : Nat) + Int.toNat (log10p (held (↑(Lib.bitLen (Int.toNat a0)) : Int)))) (0 : Int)))) fun (x1 : Int) => k (IntKind.wrap IntKind.i64 (log10p (held (↑(Lib.bitLen (Int.toNat a0)) : Int)) + x1))) (none)) (none)
noncomputable def numDigits (a0 : Int) : Option numDigits_R := numDigits_t a0 some
theorem numDigits_t_eq {γ : Type} (a0 : Int) (k : numDigits_R → Option γ) : numDigits_t a0 k = outOf (numDigits a0) k := by
  delta numDigits numDigits_t; exact (Tr.nd (Tr.nd (Tr.bd fun x1 => Tr.lf) Tr.no) Tr.no)
noncomputable def numDigits_sp : TX.Spec := specD [.val (.int .u64)] [] fun _ a m k => match a, m with | ⟨a0, _⟩, _ => outOf (numDigits a0) fun v => k (.lit (.int .i64 v)) []
theorem numDigits_ev {α : Type} (a0 : Int) (k : Kont α) : evFun Tryd.prog NrAE1 (numDigits_h0) false Tryd.f111 (bodyOf Tryd.f111) 60 (mkS [.val (.int .u64)] (a0, ())) (mkH [] ()) k = outOf (numDigits a0) fun v => k (.lit (.int .i64 v)) [] :=
  (show _ = numDigits_t a0 (fun v => k (.lit (.int .i64 v)) []) from by kernel_rfl).trans (numDigits_t_eq a0 _)
theorem numDigits_good : TX.Good Tryd.prog 111 numDigits_sp := good_form NrAE1_ok mixed Tryd.func111 (body_of rfl) (by kernel_rfl) false fun α a m k r h => by
  obtain ⟨a0, _⟩ := a; obtain _ := m
  exact ⟨numDigits_h0, 60, numDigits_h0_ok, rfl, (numDigits_ev a0 k).trans h⟩
/-! f133 math/bits.TrailingZeros -/
def tz_h0 : Hints := Hints.nil 0
theorem tz_h0_ok : tz_h0.OK Tryd.prog (bodyOf Tryd.f133) := Hints.nil_ok
abbrev tz_R : Type := (Int)
noncomputable def tz_t {γ : Type} (a0 : Int) (k : tz_R → Option γ) : Option γ := outOf (tz64 a0) fun (x1 : Int) => k (x1)
noncomputable def tz (a0 : Int) : Option tz_R := tz_t a0 some
theorem tz_t_eq {γ : Type} (a0 : Int) (k : tz_R → Option γ) : tz_t a0 k = outOf (tz a0) k := by
  delta tz tz_t; exact (Tr.bd fun x1 => Tr.lf)
noncomputable def tz_sp : TX.Spec := specD [.val (.int .u64)] [] fun _ a m k => match a, m with | ⟨a0, _⟩, _ => outOf (tz a0) fun v => k (.lit (.int .i64 v)) []
theorem tz_ev {α : Type} (a0 : Int) (k : Kont α) : evFun Tryd.prog NrAE1 (tz_h0) false Tryd.f133 (bodyOf Tryd.f133) 60 (mkS [.val (.int .u64)] (a0, ())) (mkH [] ()) k = outOf (tz a0) fun v => k (.lit (.int .i64 v)) [] :=
  (show _ = tz_t a0 (fun v => k (.lit (.int .i64 v)) []) from by kernel_rfl).trans (tz_t_eq a0 _)
theorem tz_good : TX.Good Tryd.prog 133 tz_sp := good_form NrAE1_ok mixed Tryd.func133 (body_of rfl) (by kernel_rfl) false fun α a m k r h => by
  obtain ⟨a0, _⟩ := a; obtain _ := m
  exact ⟨tz_h0, 60, tz_h0_ok, rfl, (tz_ev a0 k).trans h⟩
/-! f55 tenterhook/dbl.Neg -/
def dbl_Neg_h0 : Hints := Hints.nil 0
theorem dbl_Neg_h0_ok : dbl_Neg_h0.OK Tryd.prog (bodyOf Tryd.f55) := Hints.nil_ok
abbrev dbl_Neg_R : Type := (Int × Int)
noncomputable def dbl_Neg_t {γ : Type} (a0_0 : Int) (a0_1 : Int) (k : dbl_Neg_R → Option γ) : Option γ := outOf (dbl_Add (ibits BinOp.xor IntKind.i64 (-1 : Int) a0_0) (ibits BinOp.xor IntKind.i64 (-1 : Int) a0_1) (1 : Int) (0 : Int)) fun (x1 : (Int × Int)) => k (Prod.fst x1, Prod.snd x1)
noncomputable def dbl_Neg (a0_0 : Int) (a0_1 : Int) : Option dbl_Neg_R := dbl_Neg_t a0_0 a0_1 some
theorem dbl_Neg_t_eq {γ : Type} (a0_0 : Int) (a0_1 : Int) (k : dbl_Neg_R → Option γ) : dbl_Neg_t a0_0 a0_1 k = outOf (dbl_Neg a0_0 a0_1) k := by
  delta dbl_Neg dbl_Neg_t; exact (Tr.bd fun x1 => Tr.lf)
noncomputable def dbl_Neg_sp : TX.Spec := specD [.agg (.pair (.int .i64) (.int .i64))] [] fun _ a m k => match a, m with | ⟨⟨a0_0, a0_1⟩, _⟩, _ => outOf (dbl_Neg a0_0 a0_1) fun v => k (.agg [.lit (.int .i64 v.1), .lit (.int .i64 v.2)]) []
theorem dbl_Neg_ev {α : Type} (a0_0 : Int) (a0_1 : Int) (k : Kont α) : evFun Tryd.prog NrAE1 (dbl_Neg_h0) false Tryd.f55 (bodyOf Tryd.f55) 60 (mkS [.agg (.pair (.int .i64) (.int .i64))] ((a0_0, a0_1), ())) (mkH [] ()) k = outOf (dbl_Neg a0_0 a0_1) fun v => k (.agg [.lit (.int .i64 v.1), .lit (.int .i64 v.2)]) [] :=
  (show _ = dbl_Neg_t a0_0 a0_1 (fun v => k (.agg [.lit (.int .i64 v.1), .lit (.int .i64 v.2)]) []) from by kernel_rfl).trans (dbl_Neg_t_eq a0_0 a0_1 _)
theorem dbl_Neg_good : TX.Good Tryd.prog 55 dbl_Neg_sp := good_form NrAE1_ok mixed Tryd.func55 (body_of rfl) (by kernel_rfl) false fun α a m k r h => by
  obtain ⟨⟨a0_0, a0_1⟩, _⟩ := a; obtain _ := m
  exact ⟨dbl_Neg_h0, 60, dbl_Neg_h0_ok, rfl, (dbl_Neg_ev a0_0 a0_1 k).trans h⟩
/-! f16 tenterhook/num.Digit -/
def num_Digit_h0 : Hints := Hints.nil 0
theorem num_Digit_h0_ok : num_Digit_h0.OK Tryd.prog (bodyOf Tryd.f16) := Hints.nil_ok
def num_Digit_M1_A : List SD := [.val (.int .i64), .val (.int .i64), .any, .any, .any, .any, .val (.int .i64), .any, .any, .any, .any, .any, .any, .any, .any, .any, .any, .any, .any, .any, .any, .any, .any, .any, .any, .any, .any, .any, .any, .any, .any, .any, .any, .any, .any, .any, .any, .any, .any, .any, .any, .any, .any, .any, .any, .any, .any, .any]
def num_Digit_M1_H : List HD := []
abbrev num_Digit_M1_D : Type := Int × Int × Int
def num_Digit_M1_to (a : DenS num_Digit_M1_A) (m : DenH num_Digit_M1_H) : num_Digit_M1_D := (a.1, a.2.1, a.2.2.2.2.2.2.1)
def num_Digit_M1_ofA (d : num_Digit_M1_D) : DenS num_Digit_M1_A := match d with | (s0, s1, s6) => (s0, s1, (), (), (), (), s6, (), (), (), (), (), (), (), (), (), (), (), (), (), (), (), (), (), (), (), (), (), (), (), (), (), (), (), (), (), (), (), (), (), (), (), (), (), (), (), (), (), ())
def num_Digit_M1_ofH (d : num_Digit_M1_D) : DenH num_Digit_M1_H := match d with | (s0, s1, s6) => ()
def num_Digit_M1_N : Norm := (⟨[0, 1, 6], [], []⟩ : Go.TX.Norm)
def num_Digit_M1_X : Exit → Norm := fun e => match e with | .normal => ⟨[0, 1, 6, 7], [], []⟩ | _ => ⟨[], [], []⟩
abbrev num_Digit_M1_R : Type := (Bool)
def num_Digit_M1_fin (d : num_Digit_M1_D) (v : num_Digit_M1_R) : Exit × St := (.normal, ⟨[.lit (.int .i64 d.1), .lit (.int .i64 d.2.1), .any, .any, .any, .any, .lit (.int .i64 d.2.2), .lit (.bool v), .any, .any, .any, .any, .any, .any, .any, .any, .any, .any, .any, .any, .any, .any, .any, .any, .any, .any, .any, .any, .any, .any, .any, .any, .any, .any, .any, .any, .any, .any, .any, .any, .any, .any, .any, .any, .any, .any, .any, .any], []⟩)
noncomputable def num_Digit_M1_t {γ : Type} (s0 : Int) (k : num_Digit_M1_R → Option γ) : Option γ := cond (decide (s0 ≥ (48 : Int))) (k (decide (s0 ≤ (57 : Int)))) (k (false))
noncomputable def num_Digit_M1 (s0 : Int) : Option num_Digit_M1_R := num_Digit_M1_t s0 some
theorem num_Digit_M1_t_eq {γ : Type} (s0 : Int) (k : num_Digit_M1_R → Option γ) : num_Digit_M1_t s0 k = outOf (num_Digit_M1 s0) k := by
  delta num_Digit_M1 num_Digit_M1_t; exact (Tr.nd Tr.lf Tr.lf)
theorem num_Digit_M1_ev (α : Type) (d : num_Digit_M1_D) (k : Exit → St → Option α) : ev Tryd.prog NrAE1 num_Digit_h0 60 [0, 0, 0, 1, 1] ((codeAt (bodyOf Tryd.f16) [0, 0, 0, 1, 1]).getD .skip) ⟨mkS num_Digit_M1_A (num_Digit_M1_ofA d), mkH num_Digit_M1_H (num_Digit_M1_ofH d)⟩ (exitN 0 num_Digit_M1_X k) = outOf (num_Digit_M1 d.1) fun x => k (num_Digit_M1_fin d x).1 (num_Digit_M1_fin d x).2 := by
  obtain ⟨s0, s1, s6⟩ := d
  exact (show _ = num_Digit_M1_t s0 (fun x => k (num_Digit_M1_fin (s0, s1, s6) x).1 (num_Digit_M1_fin (s0, s1, s6) x).2) from by kernel_rfl).trans (num_Digit_M1_t_eq s0 _)
noncomputable def num_Digit_M1_sp : CSpec := fun _ st k => reNorm 0 num_Digit_M1_N num_Digit_M1_A num_Digit_M1_H st fun a m => outOf (num_Digit_M1 (num_Digit_M1_to a m).1) fun v => k .normal ⟨[.lit (.int .i64 (num_Digit_M1_to a m).1), .lit (.int .i64 (num_Digit_M1_to a m).2.1), .any, .any, .any, .any, .lit (.int .i64 (num_Digit_M1_to a m).2.2), .lit (.bool v), .any, .any, .any, .any, .any, .any, .any, .any, .any, .any, .any, .any, .any, .any, .any, .any, .any, .any, .any, .any, .any, .any, .any, .any, .any, .any, .any, .any, .any, .any, .any, .any, .any, .any, .any, .any, .any, .any, .any, .any], []⟩
theorem num_Digit_M1_ok : SumOK Tryd.prog 0 ((codeAt (bodyOf Tryd.f16) [0, 0, 0, 1, 1]).getD .skip) num_Digit_M1_sp := (SumOK.once NrAE1_ok mixed num_Digit_h0_ok (show codeAt (bodyOf Tryd.f16) [0, 0, 0, 1, 1] = some ((codeAt (bodyOf Tryd.f16) [0, 0, 0, 1, 1]).getD .skip) from by kernel_rfl) (N := num_Digit_M1_N) (Nx := num_Digit_M1_X) (A := num_Digit_M1_A) (Hs := num_Digit_M1_H) (toD := num_Digit_M1_to) (ofA := num_Digit_M1_ofA) (ofH := num_Digit_M1_ofH) (fun _ _ => rfl) (fun _ _ => rfl) (M := fun d => num_Digit_M1 d.1) (fin := num_Digit_M1_fin) 60 num_Digit_M1_ev).mono fun α st k r h => by
  refine Eq.trans (congrArg (reNorm 0 num_Digit_M1_N num_Digit_M1_A num_Digit_M1_H st) ?_) h
  funext a m
  exact outOf_congr fun x => rfl
noncomputable def num_Digit_M1_h : Hints := num_Digit_h0.add [0, 0, 0, 1, 1] num_Digit_M1_sp
theorem num_Digit_M1_h_ok : num_Digit_M1_h.OK Tryd.prog (bodyOf Tryd.f16) := num_Digit_h0_ok.add (show codeAt (bodyOf Tryd.f16) [0, 0, 0, 1, 1] = some ((codeAt (bodyOf Tryd.f16) [0, 0, 0, 1, 1]).getD .skip) from by kernel_rfl) num_Digit_M1_ok
def num_Digit_M2_A : List SD := [.val (.int .i64), .val (.int .i64), .any, .any, .any, .any, .val (.int .i64), .any, .any, .any, .any, .any, .any, .any, .any, .any, .any, .any, .any, .any, .any, .any, .any, .any, .any, .any, .any, .any, .any, .any, .any, .any, .any, .any, .any, .any, .any, .any, .any, .any, .any, .any, .any, .any, .any, .any, .any, .any]
def num_Digit_M2_H : List HD := []
abbrev num_Digit_M2_D : Type := Int × Int × Int
def num_Digit_M2_to (a : DenS num_Digit_M2_A) (m : DenH num_Digit_M2_H) : num_Digit_M2_D := (a.1, a.2.1, a.2.2.2.2.2.2.1)
def num_Digit_M2_ofA (d : num_Digit_M2_D) : DenS num_Digit_M2_A := match d with | (s0, s1, s6) => (s0, s1, (), (), (), (), s6, (), (), (), (), (), (), (), (), (), (), (), (), (), (), (), (), (), (), (), (), (), (), (), (), (), (), (), (), (), (), (), (), (), (), (), (), (), (), (), (), (), ())
def num_Digit_M2_ofH (d : num_Digit_M2_D) : DenH num_Digit_M2_H := match d with | (s0, s1, s6) => ()
def num_Digit_M2_N : Norm := (⟨[0, 1, 6], [], []⟩ : Go.TX.Norm)
def num_Digit_M2_X : Exit → Norm := fun e => match e with | .normal => ⟨[0, 1, 6, 16], [], []⟩ | _ => ⟨[], [], []⟩
abbrev num_Digit_M2_R : Type := (Bool)
def num_Digit_M2_fin (d : num_Digit_M2_D) (v : num_Digit_M2_R) : Exit × St := (.normal, ⟨[.lit (.int .i64 d.1), .lit (.int .i64 d.2.1), .any, .any, .any, .any, .lit (.int .i64 d.2.2), .any, .any, .any, .any, .any, .any, .any, .any, .any, .lit (.bool v), .any, .any, .any, .any, .any, .any, .any, .any, .any, .any, .any, .any, .any, .any, .any, .any, .any, .any, .any, .any, .any, .any, .any, .any, .any, .any, .any, .any, .any, .any, .any], []⟩)
noncomputable def num_Digit_M2_t {γ : Type} (s0 : Int) (k : num_Digit_M2_R → Option γ) : Option γ := cond (decide (s0 ≥ (65 : Int))) (k (decide (s0 ≤ (90 : Int)))) (k (false))
noncomputable def num_Digit_M2 (s0 : Int) : Option num_Digit_M2_R := num_Digit_M2_t s0 some
theorem num_Digit_M2_t_eq {γ : Type} (s0 : Int) (k : num_Digit_M2_R → Option γ) : num_Digit_M2_t s0 k = outOf (num_Digit_M2 s0) k := by
  delta num_Digit_M2 num_Digit_M2_t; exact (Tr.nd Tr.lf Tr.lf)
theorem num_Digit_M2_ev (α : Type) (d : num_Digit_M2_D) (k : Exit → St → Option α) : ev Tryd.prog NrAE1 num_Digit_M1_h 60 [0, 1, 1, 0, 0, 1, 1] ((codeAt (bodyOf Tryd.f16) [0, 1, 1, 0, 0, 1, 1]).getD .skip) ⟨mkS num_Digit_M2_A (num_Digit_M2_ofA d), mkH num_Digit_M2_H (num_Digit_M2_ofH d)⟩ (exitN 0 num_Digit_M2_X k) = outOf (num_Digit_M2 d.1) fun x => k (num_Digit_M2_fin d x).1 (num_Digit_M2_fin d x).2 := by
  obtain ⟨s0, s1, s6⟩ := d
  exact (show _ = num_Digit_M2_t s0 (fun x => k (num_Digit_M2_fin (s0, s1, s6) x).1 (num_Digit_M2_fin (s0, s1, s6) x).2) from by kernel_rfl).trans (num_Digit_M2_t_eq s0 _)
noncomputable def num_Digit_M2_sp : CSpec := fun _ st k => reNorm 0 num_Digit_M2_N num_Digit_M2_A num_Digit_M2_H st fun a m => outOf (num_Digit_M2 (num_Digit_M2_to a m).1) fun v => k .normal ⟨[.lit (.int .i64 (num_Digit_M2_to a m).1), .lit (.int .i64 (num_Digit_M2_to a m).2.1), .any, .any, .any, .any, .lit (.int .i64 (num_Digit_M2_to a m).2.2), .any, .any, .any, .any, .any, .any, .any, .any, .any, .lit (.bool v), .any, .any, .any, .any, .any, .any, .any, .any, .any, .any, .any, .any, .any, .any, .any, .any, .any, .any, .any, .any, .any, .any, .any, .any, .any, .any, .any, .any, .any, .any, .any], []⟩
theorem num_Digit_M2_ok : SumOK Tryd.prog 0 ((codeAt (bodyOf Tryd.f16) [0, 1, 1, 0, 0, 1, 1]).getD .skip) num_Digit_M2_sp := (SumOK.once NrAE1_ok mixed num_Digit_M1_h_ok (show codeAt (bodyOf Tryd.f16) [0, 1, 1, 0, 0, 1, 1] = some ((codeAt (bodyOf Tryd.f16) [0, 1, 1, 0, 0, 1, 1]).getD .skip) from by kernel_rfl) (N := num_Digit_M2_N) (Nx := num_Digit_M2_X) (A := num_Digit_M2_A) (Hs := num_Digit_M2_H) (toD := num_Digit_M2_to) (ofA := num_Digit_M2_ofA) (ofH := num_Digit_M2_ofH) (fun _ _ => rfl) (fun _ _ => rfl) (M := fun d => num_Digit_M2 d.1) (fin := num_Digit_M2_fin) 60 num_Digit_M2_ev).mono fun α st k r h => by
  refine Eq.trans (congrArg (reNorm 0 num_Digit_M2_N num_Digit_M2_A num_Digit_M2_H st) ?_) h
  funext a m
  exact outOf_congr fun x => rfl
noncomputable def num_Digit_M2_h : Hints := num_Digit_M1_h.add [0, 1, 1, 0, 0, 1, 1] num_Digit_M2_sp
theorem num_Digit_M2_h_ok : num_Digit_M2_h.OK Tryd.prog (bodyOf Tryd.f16) := num_Digit_M1_h_ok.add (show codeAt (bodyOf Tryd.f16) [0, 1, 1, 0, 0, 1, 1] = some ((codeAt (bodyOf Tryd.f16) [0, 1, 1, 0, 0, 1, 1]).getD .skip) from by kernel_rfl) num_Digit_M2_ok
def num_Digit_M3_A : List SD := [.val (.int .i64), .val (.int .i64), .any, .any, .any, .any, .val (.int .i64), .any, .any, .any, .any, .any, .any, .any, .any, .any, .any, .any, .any, .any, .any, .any, .any, .any, .any, .any, .any, .any, .any, .any, .any, .any, .any, .any, .any, .any, .any, .any, .any, .any, .any, .any, .any, .any, .any, .any, .any, .any]
def num_Digit_M3_H : List HD := []
abbrev num_Digit_M3_D : Type := Int × Int × Int
def num_Digit_M3_to (a : DenS num_Digit_M3_A) (m : DenH num_Digit_M3_H) : num_Digit_M3_D := (a.1, a.2.1, a.2.2.2.2.2.2.1)
def num_Digit_M3_ofA (d : num_Digit_M3_D) : DenS num_Digit_M3_A := match d with | (s0, s1, s6) => (s0, s1, (), (), (), (), s6, (), (), (), (), (), (), (), (), (), (), (), (), (), (), (), (), (), (), (), (), (), (), (), (), (), (), (), (), (), (), (), (), (), (), (), (), (), (), (), (), (), ())
def num_Digit_M3_ofH (d : num_Digit_M3_D) : DenH num_Digit_M3_H := match d with | (s0, s1, s6) => ()
def num_Digit_M3_N : Norm := (⟨[0, 1, 6], [], []⟩ : Go.TX.Norm)
def num_Digit_M3_X : Exit → Norm := fun e => match e with | .normal => ⟨[1, 6], [], []⟩ | _ => ⟨[], [], []⟩
abbrev num_Digit_M3_R : Type := (Int)
def num_Digit_M3_fin (d : num_Digit_M3_D) (v : num_Digit_M3_R) : Exit × St := (.normal, ⟨[.any, .lit (.int .i64 d.2.1), .any, .any, .any, .any, .lit (.int .i64 v), .any, .any, .any, .any, .any, .any, .any, .any, .any, .any, .any, .any, .any, .any, .any, .any, .any, .any, .any, .any, .any, .any, .any, .any, .any, .any, .any, .any, .any, .any, .any, .any, .any, .any, .any, .any, .any, .any, .any, .any, .any], []⟩)
noncomputable def num_Digit_M3_t {γ : Type} (s0 : Int) (s6 : Int) (k : num_Digit_M3_R → Option γ) : Option γ := outOf (num_Digit_M1 s0) fun (x5 : Bool) => cond x5 (k (IntKind.wrap IntKind.i64 (s0 - (48 : Int)))) (outOf (num_Digit_M2 s0) fun (x6 : Bool) => cond x6 (k (IntKind.wrap IntKind.i64 (s0 - (55 : Int)))) (cond (decide (s0 ≥ (97 : Int))) (cond (decide (s0 ≤ (122 : Int))) (k (IntKind.wrap IntKind.i64 (IntKind.wrap IntKind.i64 (s0 - (55 : Int)) - (32 : Int)))) (k (s6))) (k (s6))))
noncomputable def num_Digit_M3 (s0 : Int) (s6 : Int) : Option num_Digit_M3_R := num_Digit_M3_t s0 s6 some
theorem num_Digit_M3_t_eq {γ : Type} (s0 : Int) (s6 : Int) (k : num_Digit_M3_R → Option γ) : num_Digit_M3_t s0 s6 k = outOf (num_Digit_M3 s0 s6) k := by
  delta num_Digit_M3 num_Digit_M3_t; exact (Tr.bd fun x5 => (Tr.nd Tr.lf (Tr.bd fun x6 => (Tr.nd Tr.lf (Tr.nd (Tr.nd Tr.lf Tr.lf) Tr.lf)))))
theorem num_Digit_M3_ev (α : Type) (d : num_Digit_M3_D) (k : Exit → St → Option α) : ev Tryd.prog NrAE1 num_Digit_M2_h 60 [0, 1, 1] ((codeAt (bodyOf Tryd.f16) [0, 1, 1]).getD .skip) ⟨mkS num_Digit_M3_A (num_Digit_M3_ofA d), mkH num_Digit_M3_H (num_Digit_M3_ofH d)⟩ (exitN 0 num_Digit_M3_X k) = outOf (num_Digit_M3 d.1 d.2.2) fun x => k (num_Digit_M3_fin d x).1 (num_Digit_M3_fin d x).2 := by
  obtain ⟨s0, s1, s6⟩ := d
  exact (show _ = num_Digit_M3_t s0 s6 (fun x => k (num_Digit_M3_fin (s0, s1, s6) x).1 (num_Digit_M3_fin (s0, s1, s6) x).2) from by kernel_rfl).trans (num_Digit_M3_t_eq s0 s6 _)
noncomputable def num_Digit_M3_sp : CSpec := fun _ st k => reNorm 0 num_Digit_M3_N num_Digit_M3_A num_Digit_M3_H st fun a m => outOf (num_Digit_M3 (num_Digit_M3_to a m).1 (num_Digit_M3_to a m).2.2) fun v => k .normal ⟨[.any, .lit (.int .i64 (num_Digit_M3_to a m).2.1), .any, .any, .any, .any, .lit (.int .i64 v), .any, .any, .any, .any, .any, .any, .any, .any, .any, .any, .any, .any, .any, .any, .any, .any, .any, .any, .any, .any, .any, .any, .any, .any, .any, .any, .any, .any, .any, .any, .any, .any, .any, .any, .any, .any, .any, .any, .any, .any, .any], []⟩
theorem num_Digit_M3_ok : SumOK Tryd.prog 0 ((codeAt (bodyOf Tryd.f16) [0, 1, 1]).getD .skip) num_Digit_M3_sp := (SumOK.once NrAE1_ok mixed num_Digit_M2_h_ok (show codeAt (bodyOf Tryd.f16) [0, 1, 1] = some ((codeAt (bodyOf Tryd.f16) [0, 1, 1]).getD .skip) from by kernel_rfl) (N := num_Digit_M3_N) (Nx := num_Digit_M3_X) (A := num_Digit_M3_A) (Hs := num_Digit_M3_H) (toD := num_Digit_M3_to) (ofA := num_Digit_M3_ofA) (ofH := num_Digit_M3_ofH) (fun _ _ => rfl) (fun _ _ => rfl) (M := fun d => num_Digit_M3 d.1 d.2.2) (fin := num_Digit_M3_fin) 60 num_Digit_M3_ev).mono fun α st k r h => by
  refine Eq.trans (congrArg (reNorm 0 num_Digit_M3_N num_Digit_M3_A num_Digit_M3_H st) ?_) h
  funext a m
  exact outOf_congr fun x => rfl
noncomputable def num_Digit_M3_h : Hints := num_Digit_M2_h.add [0, 1, 1] num_Digit_M3_sp
theorem num_Digit_M3_h_ok : num_Digit_M3_h.OK Tryd.prog (bodyOf Tryd.f16) := num_Digit_M2_h_ok.add (show codeAt (bodyOf Tryd.f16) [0, 1, 1] = some ((codeAt (bodyOf Tryd.f16) [0, 1, 1]).getD .skip) from by kernel_rfl) num_Digit_M3_ok
abbrev num_Digit_R : Type := (Int × Bool)
noncomputable def num_Digit_t {γ : Type} (a0 : Int) (a1 : Int) (k : num_Digit_R → Option γ) : Option γ := outOf (num_Digit_M3 a0 (-1 : Int)) fun (x7 : Int) => outOf (num_good a1) fun (x8 : Bool) => cond (!x8) (k ((0 : Int), false)) (cond (decide (x7 < (0 : Int))) (k ((0 : Int), false)) (cond (decide (x7 ≥ a1)) (k ((0 : Int), false)) (k (x7, true))))
noncomputable def num_Digit (a0 : Int) (a1 : Int) : Option num_Digit_R := num_Digit_t a0 a1 some
theorem num_Digit_t_eq {γ : Type} (a0 : Int) (a1 : Int) (k : num_Digit_R → Option γ) : num_Digit_t a0 a1 k = outOf (num_Digit a0 a1) k := by
  delta num_Digit num_Digit_t; exact (Tr.bd fun x7 => (Tr.bd fun x8 => (Tr.nd Tr.lf (Tr.nd Tr.lf (Tr.nd Tr.lf Tr.lf)))))
noncomputable def num_Digit_sp : TX.Spec := specD [.val (.int .i64), .val (.int .i64)] [] fun _ a m k => match a, m with | ⟨a0, a1, _⟩, _ => outOf (num_Digit a0 a1) fun v => k (.tup [.lit (.int .i64 v.1), .lit (.bool v.2)]) []
theorem num_Digit_ev {α : Type} (a0 : Int) (a1 : Int) (k : Kont α) : evFun Tryd.prog NrAE1 (num_Digit_M3_h) false Tryd.f16 (bodyOf Tryd.f16) 60 (mkS [.val (.int .i64), .val (.int .i64)] (a0, a1, ())) (mkH [] ()) k = outOf (num_Digit a0 a1) fun v => k (.tup [.lit (.int .i64 v.1), .lit (.bool v.2)]) [] :=
  (show _ = num_Digit_t a0 a1 (fun v => k (.tup [.lit (.int .i64 v.1), .lit (.bool v.2)]) []) from by kernel_rfl).trans (num_Digit_t_eq a0 a1 _)
theorem num_Digit_good : TX.Good Tryd.prog 16 num_Digit_sp := good_form NrAE1_ok mixed Tryd.func16 (body_of rfl) (by kernel_rfl) false fun α a m k r h => by
  obtain ⟨a0, a1, _⟩ := a; obtain _ := m
  exact ⟨num_Digit_M3_h, 60, num_Digit_M3_h_ok, rfl, (num_Digit_ev a0 a1 k).trans h⟩
/-! f86 internal/stringslite.CutPrefix -/
def cutPre0_h0 : Hints := Hints.nil 0
theorem cutPre0_h0_ok : cutPre0_h0.OK Tryd.prog (bodyOf Tryd.f86) := Hints.nil_ok
abbrev cutPre0_R : Type := (ByteArray × Bool)
noncomputable def cutPre0_t {γ : Type} (a0 : ByteArray) (a1 : ByteArray) (k : cutPre0_R → Option γ) : Option γ := outOf (hasPre a0 a1) fun (x1 : Bool) => cond (!x1) (k (a0, false)) (cond (decide ((0 : Int) ≤ (↑(ByteArray.size a1) : Int) ∧ (↑(ByteArray.size a1) : Int) ≤ (↑(ByteArray.size a0) : Int) ∧ (↑(ByteArray.size a0) : Int) ≤ (↑(ByteArray.size a0) : Int))) (k (ByteArray.extract a0 (Int.toNat (↑(ByteArray.size a1) : Int)) (Int.toNat (↑(ByteArray.size a0) : Int)), true)) (none))
noncomputable def cutPre0 (a0 : ByteArray) (a1 : ByteArray) : Option cutPre0_R := cutPre0_t a0 a1 some
theorem cutPre0_t_eq {γ : Type} (a0 : ByteArray) (a1 : ByteArray) (k : cutPre0_R → Option γ) : cutPre0_t a0 a1 k = outOf (cutPre0 a0 a1) k := by
  delta cutPre0 cutPre0_t; exact (Tr.bd fun x1 => (Tr.nd Tr.lf (Tr.nd Tr.lf Tr.no)))
noncomputable def cutPre0_sp : TX.Spec := specD [.val .str, .val .str] [] fun _ a m k => match a, m with | ⟨a0, a1, _⟩, _ => outOf (cutPre0 a0 a1) fun v => k (.tup [.lit (.string v.1), .lit (.bool v.2)]) []
theorem cutPre0_ev {α : Type} (a0 : ByteArray) (a1 : ByteArray) (k : Kont α) : evFun Tryd.prog NrAE1 (cutPre0_h0) false Tryd.f86 (bodyOf Tryd.f86) 60 (mkS [.val .str, .val .str] (a0, a1, ())) (mkH [] ()) k = outOf (cutPre0 a0 a1) fun v => k (.tup [.lit (.string v.1), .lit (.bool v.2)]) [] :=
  (show _ = cutPre0_t a0 a1 (fun v => k (.tup [.lit (.string v.1), .lit (.bool v.2)]) []) from by kernel_rfl).trans (cutPre0_t_eq a0 a1 _)
theorem cutPre0_good : TX.Good Tryd.prog 86 cutPre0_sp := good_form NrAE1_ok mixed Tryd.func86 (body_of rfl) (by kernel_rfl) false fun α a m k r h => by
  obtain ⟨a0, a1, _⟩ := a; obtain _ := m
  exact ⟨cutPre0_h0, 60, cutPre0_h0_ok, rfl, (cutPre0_ev a0 a1 k).trans h⟩
/-! f87 internal/stringslite.CutSuffix -/
def cutSuf0_h0 : Hints := Hints.nil 0
theorem cutSuf0_h0_ok : cutSuf0_h0.OK Tryd.prog (bodyOf Tryd.f87) := Hints.nil_ok
abbrev cutSuf0_R : Type := (ByteArray × Bool)
noncomputable def cutSuf0_t {γ : Type} (a0 : ByteArray) (a1 : ByteArray) (k : cutSuf0_R → Option γ) : Option γ := outOf (hasSuf a0 a1) fun (x1 : Bool) => cond (!x1) (k (a0, false)) (cond (decide ((0 : Int) ≤ (0 : Int) ∧ (0 : Int) ≤ IntKind.wrap IntKind.i64 ((↑(ByteArray.size a0) : Int) - (↑(ByteArray.size a1) : Int)) ∧ IntKind.wrap IntKind.i64 ((↑(ByteArray.size a0) : Int) - (↑(ByteArray.size a1) : Int)) ≤ (↑(ByteArray.size a0) : Int))) (k (ByteArray.extract a0 (0 : Nat) (Int.toNat (IntKind.wrap IntKind.i64 ((↑(ByteArray.size a0) : Int) - (↑(ByteArray.size a1) : Int)))), true)) (none))
noncomputable def cutSuf0 (a0 : ByteArray) (a1 : ByteArray) : Option cutSuf0_R := cutSuf0_t a0 a1 some
theorem cutSuf0_t_eq {γ : Type} (a0 : ByteArray) (a1 : ByteArray) (k : cutSuf0_R → Option γ) : cutSuf0_t a0 a1 k = outOf (cutSuf0 a0 a1) k := by
  delta cutSuf0 cutSuf0_t; exact (Tr.bd fun x1 => (Tr.nd Tr.lf (Tr.nd Tr.lf Tr.no)))
noncomputable def cutSuf0_sp : TX.Spec := specD [.val .str, .val .str] [] fun _ a m k => match a, m with | ⟨a0, a1, _⟩, _ => outOf (cutSuf0 a0 a1) fun v => k (.tup [.lit (.string v.1), .lit (.bool v.2)]) []
theorem cutSuf0_ev {α : Type} (a0 : ByteArray) (a1 : ByteArray) (k : Kont α) : evFun Tryd.prog NrAE1 (cutSuf0_h0) false Tryd.f87 (bodyOf Tryd.f87) 60 (mkS [.val .str, .val .str] (a0, a1, ())) (mkH [] ()) k = outOf (cutSuf0 a0 a1) fun v => k (.tup [.lit (.string v.1), .lit (.bool v.2)]) [] :=
  (show _ = cutSuf0_t a0 a1 (fun v => k (.tup [.lit (.string v.1), .lit (.bool v.2)]) []) from by kernel_rfl).trans (cutSuf0_t_eq a0 a1 _)
theorem cutSuf0_good : TX.Good Tryd.prog 87 cutSuf0_sp := good_form NrAE1_ok mixed Tryd.func87 (body_of rfl) (by kernel_rfl) false fun α a m k r h => by
  obtain ⟨a0, a1, _⟩ := a; obtain _ := m
  exact ⟨cutSuf0_h0, 60, cutSuf0_h0_ok, rfl, (cutSuf0_ev a0 a1 k).trans h⟩
/-! f49 strings.HasPrefix -/
def hasPre1_h0 : Hints := Hints.nil 0
theorem hasPre1_h0_ok : hasPre1_h0.OK Tryd.prog (bodyOf Tryd.f49) := Hints.nil_ok
abbrev hasPre1_R : Type := (Bool)
noncomputable def hasPre1_t {γ : Type} (a0 : ByteArray) (a1 : ByteArray) (k : hasPre1_R → Option γ) : Option γ := outOf (hasPre a0 a1) fun (x1 : Bool) => k (x1)
noncomputable def hasPre1 (a0 : ByteArray) (a1 : ByteArray) : Option hasPre1_R := hasPre1_t a0 a1 some
theorem hasPre1_t_eq {γ : Type} (a0 : ByteArray) (a1 : ByteArray) (k : hasPre1_R → Option γ) : hasPre1_t a0 a1 k = outOf (hasPre1 a0 a1) k := by
  delta hasPre1 hasPre1_t; exact (Tr.bd fun x1 => Tr.lf)
noncomputable def hasPre1_sp : TX.Spec := specD [.val .str, .val .str] [] fun _ a m k => match a, m with | ⟨a0, a1, _⟩, _ => outOf (hasPre1 a0 a1) fun v => k (.lit (.bool v)) []
theorem hasPre1_ev {α : Type} (a0 : ByteArray) (a1 : ByteArray) (k : Kont α) : evFun Tryd.prog NrAE1 (hasPre1_h0) false Tryd.f49 (bodyOf Tryd.f49) 60 (mkS [.val .str, .val .str] (a0, a1, ())) (mkH [] ()) k = outOf (hasPre1 a0 a1) fun v => k (.lit (.bool v)) [] :=
  (show _ = hasPre1_t a0 a1 (fun v => k (.lit (.bool v)) []) from by kernel_rfl).trans (hasPre1_t_eq a0 a1 _)
theorem hasPre1_good : TX.Good Tryd.prog 49 hasPre1_sp := good_form NrAE1_ok mixed Tryd.func49 (body_of rfl) (by kernel_rfl) false fun α a m k r h => by
  obtain ⟨a0, a1, _⟩ := a; obtain _ := m
  exact ⟨hasPre1_h0, 60, hasPre1_h0_ok, rfl, (hasPre1_ev a0 a1 k).trans h⟩
/-! f50 strings.HasSuffix -/
def hasSuf1_h0 : Hints := Hints.nil 0
theorem hasSuf1_h0_ok : hasSuf1_h0.OK Tryd.prog (bodyOf Tryd.f50) := Hints.nil_ok
abbrev hasSuf1_R : Type := (Bool)
noncomputable def hasSuf1_t {γ : Type} (a0 : ByteArray) (a1 : ByteArray) (k : hasSuf1_R → Option γ) : Option γ := outOf (hasSuf a0 a1) fun (x1 : Bool) => k (x1)
noncomputable def hasSuf1 (a0 : ByteArray) (a1 : ByteArray) : Option hasSuf1_R := hasSuf1_t a0 a1 some
theorem hasSuf1_t_eq {γ : Type} (a0 : ByteArray) (a1 : ByteArray) (k : hasSuf1_R → Option γ) : hasSuf1_t a0 a1 k = outOf (hasSuf1 a0 a1) k := by
  delta hasSuf1 hasSuf1_t; exact (Tr.bd fun x1 => Tr.lf)
noncomputable def hasSuf1_sp : TX.Spec := specD [.val .str, .val .str] [] fun _ a m k => match a, m with | ⟨a0, a1, _⟩, _ => outOf (hasSuf1 a0 a1) fun v => k (.lit (.bool v)) []
theorem hasSuf1_ev {α : Type} (a0 : ByteArray) (a1 : ByteArray) (k : Kont α) : evFun Tryd.prog NrAE1 (hasSuf1_h0) false Tryd.f50 (bodyOf Tryd.f50) 60 (mkS [.val .str, .val .str] (a0, a1, ())) (mkH [] ()) k = outOf (hasSuf1 a0 a1) fun v => k (.lit (.bool v)) [] :=
  (show _ = hasSuf1_t a0 a1 (fun v => k (.lit (.bool v)) []) from by kernel_rfl).trans (hasSuf1_t_eq a0 a1 _)
theorem hasSuf1_good : TX.Good Tryd.prog 50 hasSuf1_sp := good_form NrAE1_ok mixed Tryd.func50 (body_of rfl) (by kernel_rfl) false fun α a m k r h => by
  obtain ⟨a0, a1, _⟩ := a; obtain _ := m
  exact ⟨hasSuf1_h0, 60, hasSuf1_h0_ok, rfl, (hasSuf1_ev a0 a1 k).trans h⟩
/-! f88 tenterhook/num.scaled -/
def num_scaled_h0 : Hints := Hints.nil 0
theorem num_scaled_h0_ok : num_scaled_h0.OK Tryd.prog (bodyOf Tryd.f88) := Hints.nil_ok
abbrev num_scaled_R : Type := (Int × Int)
noncomputable def num_scaled_t {γ : Type} (a0_0 : Int) (a0_1 : Int) (a1 : Int) (a2 : Int) (k : num_scaled_R → Option γ) : Option γ := outOf (dbl_Add (IntKind.wrap IntKind.i64 (Prod.snd (mul64 (IntKind.wrap IntKind.u64 a0_0) (IntKind.wrap IntKind.u64 a1)))) (IntKind.wrap IntKind.i64 (IntKind.wrap IntKind.i64 (Prod.fst (mul64 (IntKind.wrap IntKind.u64 a0_0) (IntKind.wrap IntKind.u64 a1))) + IntKind.wrap IntKind.i64 (a0_1 * a1))) a2 (0 : Int)) fun (x1 : (Int × Int)) => k (Prod.fst x1, Prod.snd x1)
noncomputable def num_scaled (a0_0 : Int) (a0_1 : Int) (a1 : Int) (a2 : Int) : Option num_scaled_R := num_scaled_t a0_0 a0_1 a1 a2 some
theorem num_scaled_t_eq {γ : Type} (a0_0 : Int) (a0_1 : Int) (a1 : Int) (a2 : Int) (k : num_scaled_R → Option γ) : num_scaled_t a0_0 a0_1 a1 a2 k = outOf (num_scaled a0_0 a0_1 a1 a2) k := by
  delta num_scaled num_scaled_t; exact (Tr.bd fun x1 => Tr.lf)
noncomputable def num_scaled_sp : TX.Spec := specD [.agg (.pair (.int .i64) (.int .i64)), .val (.int .i64), .val (.int .i64)] [] fun _ a m k => match a, m with | ⟨⟨a0_0, a0_1⟩, a1, a2, _⟩, _ => outOf (num_scaled a0_0 a0_1 a1 a2) fun v => k (.agg [.lit (.int .i64 v.1), .lit (.int .i64 v.2)]) []
theorem num_scaled_ev {α : Type} (a0_0 : Int) (a0_1 : Int) (a1 : Int) (a2 : Int) (k : Kont α) : evFun Tryd.prog NrAE1 (num_scaled_h0) false Tryd.f88 (bodyOf Tryd.f88) 60 (mkS [.agg (.pair (.int .i64) (.int .i64)), .val (.int .i64), .val (.int .i64)] ((a0_0, a0_1), a1, a2, ())) (mkH [] ()) k = outOf (num_scaled a0_0 a0_1 a1 a2) fun v => k (.agg [.lit (.int .i64 v.1), .lit (.int .i64 v.2)]) [] :=
  (show _ = num_scaled_t a0_0 a0_1 a1 a2 (fun v => k (.agg [.lit (.int .i64 v.1), .lit (.int .i64 v.2)]) []) from by kernel_rfl).trans (num_scaled_t_eq a0_0 a0_1 a1 a2 _)
theorem num_scaled_good : TX.Good Tryd.prog 88 num_scaled_sp := good_form NrAE1_ok mixed Tryd.func88 (body_of rfl) (by kernel_rfl) false fun α a m k r h => by
  obtain ⟨⟨a0_0, a0_1⟩, a1, a2, _⟩ := a; obtain _ := m
  exact ⟨num_scaled_h0, 60, num_scaled_h0_ok, rfl, (num_scaled_ev a0_0 a0_1 a1 a2 k).trans h⟩
noncomputable def NrAE2 : Env := NrAE1.add 111 true numDigits_sp |>.add 133 true tz_sp |>.add 55 true dbl_Neg_sp |>.add 16 true num_Digit_sp |>.add 86 true cutPre0_sp |>.add 87 true cutSuf0_sp |>.add 49 true hasPre1_sp |>.add 50 true hasSuf1_sp |>.add 88 true num_scaled_sp
theorem NrAE2_ok : NrAE2.OK Tryd.prog := (((((((((NrAE1_ok).add_ok numDigits_good).add_ok tz_good).add_ok dbl_Neg_good).add_ok num_Digit_good).add_ok cutPre0_good).add_ok cutSuf0_good).add_ok hasPre1_good).add_ok hasSuf1_good).add_ok num_scaled_good
end Go.Proofs.Dbl
