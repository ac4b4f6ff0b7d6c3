/- Plain facts: a signed number's text, by every base. -/
import Derived.Test.YtfmdhcialeddaaaDoorNuPk
namespace Go.Proofs.Dbl
open Go Go.TX Go.Proofs
set_option maxRecDepth 100000
set_option maxHeartbeats 0
set_option linter.unusedVariables false
set_option linter.unusedSimpArgs false

theorem set_mid (z : List Int) {n : Nat} (u : Int) (h : 1 + n ≤ z.length) : (((z.take 1 ++ dec10 n u ++ z.drop (1 + n)).set 0 45).drop 0).take (1 + n) = 45 :: dec10 n u := by
  cases z with
  | nil => simp at h
  | cons x r =>
    simp only [List.take_succ_cons, List.take_zero, List.cons_append, List.nil_append, List.set_cons_zero, List.drop_zero]
    rw [Nat.add_comm 1 n, List.take_succ_cons, List.take_append_of_le_length (by rw [dec10_length]; omega), List.take_of_length_le (by rw [dec10_length]; omega)]

theorem ten_tail {a : Int} {u : Nat} (hu1 : 1 ≤ u) (hu : u < 18446744073709551616) (z : List Int) (hz : z.length = 24) :
    (outOf (numDigits (u : Int)) fun (x12 : Int) => cond (decide ((0 : Int) ≤ (1 : Int) ∧ (1 : Int) ≤ IntKind.wrap IntKind.i64 ((1 : Int) + x12) ∧ IntKind.wrap IntKind.i64 ((1 : Int) + x12) ≤ (24 : Int))) (cond (decide ((0 : Int) ≤ (u : Int) ∧ (u : Int) < (18446744073709551616 : Int) ∧ Int.toNat (u : Int) < (10 : Nat) ^ (Int.toNat (IntKind.wrap IntKind.i64 ((1 : Int) + x12)) - (1 : Nat)) ∧ (0 : Nat) < Int.toNat (IntKind.wrap IntKind.i64 ((1 : Int) + x12)) - (1 : Nat) ∧ (1 : Nat) + (Int.toNat (IntKind.wrap IntKind.i64 ((1 : Int) + x12)) - (1 : Nat)) ≤ (24 : Nat) ∧ Int.toNat (IntKind.wrap IntKind.i64 ((1 : Int) + x12)) - (1 : Nat) < (4611686018427387904 : Nat)))
      (cond (decide (a < (0 : Int)))
        (cond (decide (List.length (List.set (List.take (1 : Nat) z ++ dec10 (Int.toNat (IntKind.wrap IntKind.i64 ((1 : Int) + x12)) - (1 : Nat)) (u : Int) ++ List.drop ((1 : Nat) + (Int.toNat (IntKind.wrap IntKind.i64 ((1 : Int) + x12)) - (1 : Nat))) z) (0 : Nat) (45 : Int)) = (24 : Nat))) (cond (decide ((0 : Int) ≤ (0 : Int) ∧ (0 : Int) ≤ IntKind.wrap IntKind.i64 ((1 : Int) + x12) ∧ IntKind.wrap IntKind.i64 ((1 : Int) + x12) ≤ (24 : Int)))
          (some (strOf (List.take (Int.toNat (IntKind.wrap IntKind.i64 ((1 : Int) + x12)) - (0 : Nat)) (List.drop (0 : Nat) (List.set (List.take (1 : Nat) z ++ dec10 (Int.toNat (IntKind.wrap IntKind.i64 ((1 : Int) + x12)) - (1 : Nat)) (u : Int) ++ List.drop ((1 : Nat) + (Int.toNat (IntKind.wrap IntKind.i64 ((1 : Int) + x12)) - (1 : Nat))) z) (0 : Nat) (45 : Int)))))) (none)) (none))
        (cond (decide (List.length (List.take (1 : Nat) z ++ dec10 (Int.toNat (IntKind.wrap IntKind.i64 ((1 : Int) + x12)) - (1 : Nat)) (u : Int) ++ List.drop ((1 : Nat) + (Int.toNat (IntKind.wrap IntKind.i64 ((1 : Int) + x12)) - (1 : Nat))) z) = (24 : Nat))) (cond (decide ((0 : Int) ≤ (1 : Int) ∧ (1 : Int) ≤ IntKind.wrap IntKind.i64 ((1 : Int) + x12) ∧ IntKind.wrap IntKind.i64 ((1 : Int) + x12) ≤ (24 : Int)))
          (some (strOf (List.take (Int.toNat (IntKind.wrap IntKind.i64 ((1 : Int) + x12)) - (1 : Nat)) (List.drop (1 : Nat) (List.take (1 : Nat) z ++ dec10 (Int.toNat (IntKind.wrap IntKind.i64 ((1 : Int) + x12)) - (1 : Nat)) (u : Int) ++ List.drop ((1 : Nat) + (Int.toNat (IntKind.wrap IntKind.i64 ((1 : Int) + x12)) - (1 : Nat))) z))))) (none)) (none))) (none)) (none)) =
    some (bs ((if a < 0 then [45] else []) ++ digs 10 u)) := by
  obtain ⟨e1, e2⟩ := numDigits_val hu1 hu
  have hp := Lib.lt_pow_nDigits u
  have hq := Lib.nDigits_pos u
  rw [e1]
  simp only [outOf]
  have hd := dec10_nums u
  generalize Lib.nDigits u = m at *
  have w : IntKind.wrap IntKind.i64 ((1 : Int) + (m : Int)) = ((1 + m : Nat) : Int) := by rw [wi, W_of ⟨by omega, by omega⟩]; omega
  have hm : 1 + m - 1 = m := by omega
  rw [w]
  simp only [Int.toNat_natCast, hm]
  have c1 : decide ((0 : Int) ≤ 1 ∧ (1 : Int) ≤ ((1 + m : Nat) : Int) ∧ ((1 + m : Nat) : Int) ≤ 24) = true := decide_eq_true (by omega)
  have c2 : decide ((0 : Int) ≤ (u : Int) ∧ (u : Int) < (18446744073709551616 : Int) ∧ u < 10 ^ m ∧ 0 < m ∧ 1 + m ≤ 24 ∧ m < 4611686018427387904) = true := decide_eq_true (by omega)
  have c3 : decide ((0 : Int) ≤ 0 ∧ (0 : Int) ≤ ((1 + m : Nat) : Int) ∧ ((1 + m : Nat) : Int) ≤ 24) = true := decide_eq_true (by omega)
  rw [c1, c2, c3]
  simp only [cond_true]
  by_cases h : a < 0
  · rw [decide_eq_true h, if_pos h, decide_eq_true (by simp [dec10_length]; omega)]
    simp only [cond_true, Nat.sub_zero]
    rw [set_mid z _ (by omega), hd]
    have : (45 : Int) :: nums (digs 10 u) = nums (45 :: digs 10 u) := rfl
    rw [this, strOf_nums]
    rfl
  · rw [decide_eq_false h, if_neg h]
    simp only [cond_false]
    rw [decide_eq_true (by simp [dec10_length]; omega)]
    simp only [cond_true]
    rw [mid z _ (by omega), hd, strOf_nums]
    rfl

theorem fmtInt_ten {n : Int} (hn : Cell n) : fmtInt n 10 = some (bs ((if n < 0 then [45] else []) ++ digs 10 n.natAbs)) := by
  unfold Cell at hn
  unfold fmtInt fmtInt_t fmtInt0 fmtInt0_t
  have h10 : ((10 : Int) == 10) = true := rfl
  rw [h10]
  simp only [cond_true]
  by_cases h : 0 ≤ n ∧ n < 100
  · have m1 : fmtInt0_M1 n = some (.inl (bs (digs 10 n.natAbs))) := by
      unfold fmtInt0_M1 fmtInt0_M1_t
      rw [decide_eq_true h.1, decide_eq_true h.2]
      obtain ⟨i, rfl⟩ : ∃ i : Nat, n = i := ⟨n.toNat, by omega⟩
      rw [small_eq (by omega)]
      rfl
    rw [m1, if_neg (by omega)]
    rfl
  · have m1 : fmtInt0_M1 n = some (.inr ()) := by
      unfold fmtInt0_M1 fmtInt0_M1_t
      by_cases h0 : 0 ≤ n
      · rw [decide_eq_true h0, decide_eq_false (by omega)]; rfl
      · rw [decide_eq_false h0]; rfl
    have m2 : fmtInt0_M2 n (IntKind.wrap IntKind.u64 n) = some (n.natAbs : Int) := by
      unfold fmtInt0_M2 fmtInt0_M2_t
      by_cases h0 : n < 0
      · rw [decide_eq_true h0]
        simp only [cond_true]
        have e : IntKind.wrap IntKind.u64 ((0 : Int) - IntKind.wrap IntKind.u64 n) = (n.natAbs : Int) := by rw [wu, wu]; omega
        rw [e]
      · rw [decide_eq_false h0]
        simp only [cond_false]
        have e : IntKind.wrap IntKind.u64 n = (n.natAbs : Int) := by rw [wu]; omega
        rw [e]
    rw [m1, m2]
    simp only [sumOf]
    have ht := ten_tail (a := n) (u := n.natAbs) (by omega) (by omega) [(0 : Int), (0 : Int), (0 : Int), (0 : Int), (0 : Int), (0 : Int), (0 : Int), (0 : Int), (0 : Int), (0 : Int), (0 : Int), (0 : Int), (0 : Int), (0 : Int), (0 : Int), (0 : Int), (0 : Int), (0 : Int), (0 : Int), (0 : Int), (0 : Int), (0 : Int), (0 : Int), (0 : Int)] rfl
    simp only [outOf] at ht ⊢
    rw [ht]

end Go.Proofs.Dbl
