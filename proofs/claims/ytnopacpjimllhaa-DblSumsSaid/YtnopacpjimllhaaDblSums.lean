/- DblSums: for every input the law answers true and leaves its arguments as they were. -/
import Derived.Test.YtnopacpjimllhaaXDbl4
import Derived.Test.YtnopacpjimllhaaRows
import Derived.Test.YtnopacpjimllhaaTxS
import Derived.IntWalk
import Derived.Laws.Bits64
namespace Go.Proofs.Ytnopacpjimllhaa
open Go Go.TX Go.Proofs Go.Proofs.Dbl
set_option maxRecDepth 100000
set_option maxHeartbeats 0
set_option linter.unusedSectionVars false
set_option linter.unusedSimpArgs false
set_option linter.unusedVariables false

theorem u64m (n : Int) : IntKind.wrap .u64 n = n % 18446744073709551616 := IntKind.wrap_u64 n
theorem i64m (n : Int) : IntKind.wrap .i64 n = (n + 9223372036854775808) % 18446744073709551616 - 9223372036854775808 := by
  have := IntWalk.i64_left n
  unfold RowKit.wrap64 at this
  omega

theorem add_ok (a b c d : Int) : dbl_Add_ok a b c d = true := by
  unfold dbl_Add_ok
  simp only [u64m]
  rw [decide_eq_true (by omega), decide_eq_true (by omega)]
  rfl

theorem add_1 (a b c d : Int) : (dbl_Add a b c d).1 = (a + c + 9223372036854775808) % 18446744073709551616 - 9223372036854775808 := by
  unfold dbl_Add
  simp only [u64m, i64m]
  rw [decide_eq_true (by omega), decide_eq_true (by omega)]
  simp only [cond_true]
  omega

theorem add_2 (a b c d : Int) : (dbl_Add a b c d).2 = (b + d + (a % 18446744073709551616 + c % 18446744073709551616) / 18446744073709551616 + 9223372036854775808) % 18446744073709551616 - 9223372036854775808 := by
  unfold dbl_Add
  simp only [u64m, i64m]
  rw [decide_eq_true (by omega), decide_eq_true (by omega)]
  simp only [cond_true]
  omega

theorem xor_m1 (n : Int) (h1 : -9223372036854775808 ≤ n) (h2 : n ≤ 9223372036854775807) : ibits .xor .i64 (-1) n = -1 - n := by
  have e : (BitVec.ofInt 64 (-1) ^^^ BitVec.ofInt 64 n) = ~~~ (BitVec.ofInt 64 n) := by
    rw [show BitVec.ofInt 64 (-1) = BitVec.allOnes 64 from by decide, BitVec.allOnes_xor]
  show IntKind.wrap .i64 (((BitVec.ofInt 64 (-1) ^^^ BitVec.ofInt 64 n).toNat : Nat) : Int) = _
  rw [e, i64m, BitVec.toNat_not, BitVec.toNat_ofInt]
  omega

theorem and_48 (n : Int) : ibits .and .i64 n 281474976710655 = n % 281474976710656 := by
  show IntKind.wrap .i64 (((BitVec.ofInt 64 n &&& BitVec.ofInt 64 281474976710655).toNat : Nat) : Int) = _
  rw [BitVec.toNat_and, show (BitVec.ofInt 64 281474976710655).toNat = 2 ^ 48 - 1 from by decide, Nat.and_two_pow_sub_one_eq_mod, i64m, BitVec.toNat_ofInt]
  omega

theorem fdiv63 (n : Int) : Int.fdiv n 9223372036854775808 = n / 9223372036854775808 := Int.fdiv_eq_ediv_of_nonneg _ (by decide)

theorem cond_t {b X Y : Bool} (h : b = true) (hX : X = true) : cond b X Y = true := by rw [h]; exact hX

theorem neg_ok (a b : Int) : dbl_Neg_ok a b = true := by
  unfold dbl_Neg_ok
  rw [add_ok]; rfl

theorem neg_1 (a b : Int) (h1 : -9223372036854775808 ≤ a) (h2 : a ≤ 9223372036854775807) (h3 : -9223372036854775808 ≤ b) (h4 : b ≤ 9223372036854775807) : (dbl_Neg a b).1 = (0 - a + 9223372036854775808) % 18446744073709551616 - 9223372036854775808 := by
  unfold dbl_Neg
  rw [add_ok]
  simp only [cond_true, add_1, xor_m1 a h1 h2]
  omega
theorem neg_2 (a b : Int) (h1 : -9223372036854775808 ≤ a) (h2 : a ≤ 9223372036854775807) (h3 : -9223372036854775808 ≤ b) (h4 : b ≤ 9223372036854775807) : (dbl_Neg a b).2 = (-1 - b + ((-1 - a) % 18446744073709551616 + 1) / 18446744073709551616 + 9223372036854775808) % 18446744073709551616 - 9223372036854775808 := by
  unfold dbl_Neg
  rw [add_ok]
  simp only [cond_true, add_2, xor_m1 a h1 h2, xor_m1 b h3 h4]
  omega

theorem eq_true' {a b c d : Int} (h1 : a = b) (h2 : c = d) : (a == b && (c == d && true)) = true := by subst h1 h2; simp

theorem sub_hi (x y : Int) (h1 : 0 ≤ x) (h2 : x < 281474976710656) (h3 : 0 ≤ y) (h4 : y < 281474976710656) :
    (x / 9223372036854775808 + ((0 - y + 9223372036854775808) % 18446744073709551616 - 9223372036854775808) / 9223372036854775808 + (x % 18446744073709551616 + ((0 - y + 9223372036854775808) % 18446744073709551616 - 9223372036854775808) % 18446744073709551616) / 18446744073709551616 + 9223372036854775808) % 18446744073709551616 - 9223372036854775808 =
      ((x - y + 9223372036854775808) % 18446744073709551616 - 9223372036854775808) / 9223372036854775808 := by
  have e1 : (0 - y + 9223372036854775808) % 18446744073709551616 - 9223372036854775808 = -y := by omega
  have e2 : (x - y + 9223372036854775808) % 18446744073709551616 - 9223372036854775808 = x - y := by omega
  have e3 : x / 9223372036854775808 = 0 := by omega
  have e4 : x % 18446744073709551616 = x := by omega
  rw [e1, e2, e3, e4]
  by_cases hy : y = 0
  · subst hy; omega
  · have e5 : (-y) / 9223372036854775808 = -1 := by omega
    have e6 : (-y) % 18446744073709551616 = 18446744073709551616 - y := by omega
    rw [e5, e6]
    by_cases hxy : x < y
    · have : (x - y) / 9223372036854775808 = -1 := by omega
      rw [this]; omega
    · have : (x - y) / 9223372036854775808 = 0 := by omega
      rw [this]; omega

section
variable (a0 a1 b0 b1 c0 c1 n m : Int) (ha0 : -9223372036854775808 ≤ a0 ∧ a0 ≤ 9223372036854775807) (ha1 : -9223372036854775808 ≤ a1 ∧ a1 ≤ 9223372036854775807)
  (hb0 : -9223372036854775808 ≤ b0 ∧ b0 ≤ 9223372036854775807) (hb1 : -9223372036854775808 ≤ b1 ∧ b1 ≤ 9223372036854775807) (hc0 : -9223372036854775808 ≤ c0 ∧ c0 ≤ 9223372036854775807) (hc1 : -9223372036854775808 ≤ c1 ∧ c1 ≤ 9223372036854775807)
  (hn : -9223372036854775808 ≤ n ∧ n ≤ 9223372036854775807) (hm : -9223372036854775808 ≤ m ∧ m ≤ 9223372036854775807)
include ha0 ha1 hb0 hb1 hc0 hc1 hn hm

theorem sums_ok : lawSums_ok a0 a1 b0 b1 c0 c1 n m = true := by
  unfold lawSums_ok
  simp only [add_ok, neg_ok, cond_true, Bool.cond_self, ite_self, cond_eq_ite]
  try simp

theorem sums_val : lawSums a0 a1 b0 b1 c0 c1 n m = true := by
  unfold lawSums
  have e1 := neg_1 a0 a1 ha0.1 ha0.2 ha1.1 ha1.2
  have e2 := neg_2 a0 a1 ha0.1 ha0.2 ha1.1 ha1.2
  have r1 : -9223372036854775808 ≤ (dbl_Neg a0 a1).1 ∧ (dbl_Neg a0 a1).1 ≤ 9223372036854775807 := by rw [e1]; omega
  have r2 : -9223372036854775808 ≤ (dbl_Neg a0 a1).2 ∧ (dbl_Neg a0 a1).2 ≤ 9223372036854775807 := by rw [e2]; omega
  have e3 := neg_1 _ _ r1.1 r1.2 r2.1 r2.2
  have e4 := neg_2 _ _ r1.1 r1.2 r2.1 r2.2
  simp only [add_ok, neg_ok, cond_true]
  repeat' (with_reducible refine cond_t ?_ ?_)
  all_goals (refine eq_true' ?_ ?_)
  all_goals (try simp only [add_1, add_2, e3, e4, and_48, dbl_Of, fdiv63, i64m])
  all_goals (try simp only [e1, e2])
  all_goals first
    | exact sub_hi _ _ (by omega) (by omega) (by omega) (by omega)
    | omega
end


def dblS : Sh := .pair (.int .i64) (.int .i64)

theorem dblSums_run : ∀ d : DenL [dblS, dblS, dblS, .int .i64, .int .i64], FitsL reachBytes [dblS, dblS, dblS, .int .i64, .int .i64] d →
    ∃ sp, TX.Good Try.prog 4 sp ∧ ∃ H', sp (AV × Heap) (argsAV Try.prog Try.f4.params.toList [dblS, dblS, dblS, .int .i64, .int .i64] d) [] (fun v H => some (v, H)) = some (.lit (.bool true), H') := by
  rintro ⟨⟨a0, a1⟩, ⟨b0, b1⟩, ⟨c0, c1⟩, n, m, _⟩ ⟨⟨ha0, ha1⟩, ⟨hb0, hb1⟩, ⟨hc0, hc1⟩, hn, hm, _⟩
  refine ⟨lawSums_sp, lawSums_good, [], ?_⟩
  show cond (lawSums_ok a0 a1 b0 b1 c0 c1 n m) (some (AV.lit (.bool (lawSums a0 a1 b0 b1 c0 c1 n m)), [])) none = _
  rw [sums_ok _ _ _ _ _ _ _ _ ha0 ha1 hb0 hb1 hc0 hc1 hn hm, sums_val _ _ _ _ _ _ _ _ ha0 ha1 hb0 hb1 hc0 hc1 hn hm]
  rfl

theorem dblSums_lifted (os : Os) (started : os.Started) (H : Type) (enc : TypeId × Value → H) :
    ReturnsInHanded {} Try.checked os 4 .any (Rows.dblSumsSpec.pre6 enc Try.prog Try.f4 [] false) (Rows.dblSumsSpec.post enc Try.prog Try.f4 false true false false) :=
  law_lifted (C := Try.checked) (fn := Try.f4) (code := bodyOf Try.f4) (tb := 4) (B := reachBytes) (by kernel_rfl) started (by kernel_rfl) Try.func4 (body_of rfl) (by kernel_rfl)
    (ChangeSpec.witness6 (enc := enc) (C := Try.checked) false ⟨#[], #[.agg #[.int .i64 0, .int .i64 0], .agg #[.int .i64 0, .int .i64 0], .agg #[.int .i64 0, .int .i64 0], .int .i64 0, .int .i64 0], []⟩ 8 (by kernel_rfl) (by kernel_rfl) (by kernel_rfl) (by kernel_rfl))
    (by kernel_rfl) (by kernel_rfl) (by kernel_rfl) (shs := [dblS, dblS, dblS, .int .i64, .int .i64]) (by kernel_rfl) (by kernel_rfl) (by kernel_rfl) rfl
    (fun ds hd => match ds, hd with | [_, _, _, _, _], _ => rfl) (meas_said Try.prog H) dblSums_run

theorem dblSums_holds : Rows.DblSumsSaid :=
  OpenClaim.holds_of_wide 4 Try.f4 rfl rfl rfl rfl rfl rfl rfl ⟨rfl, rfl, rfl, rfl, rfl⟩ rfl rfl rfl rfl rfl (by kernel_rfl) Try.func4 (by kernel_rfl)
    (of_decide_eq_true (by kernel_rfl)) (by unfold Func.isWrapper; rw [if_neg (by decide +kernel)]; exact ⟨rfl, rfl⟩)
    (fun os started H enc _ => dblSums_lifted os started H enc)

#print axioms dblSums_holds
end Go.Proofs.Ytnopacpjimllhaa
