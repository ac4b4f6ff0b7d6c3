/- Plain facts: a number's text by base ten; by any base. -/
import Derived.Test.YtfmdhcialeddaaaDoorNuPf
import Derived.Lib.ItoaNum
namespace Go.Proofs.Dbl
open Go Go.TX Go.Proofs
set_option maxRecDepth 100000
set_option maxHeartbeats 0
set_option linter.unusedVariables false
set_option linter.unusedSimpArgs false

theorem dch_ten {v : Nat} (h : v < 10) : dch v = UInt8.ofNat (48 + v) := by
  have : ∀ v : Fin 10, dch v.val = UInt8.ofNat (48 + v.val) := by decide
  exact this ⟨v, h⟩

theorem dec_digs (u : Nat) : Lib.decDigits u = digs 10 u := by
  induction u using Nat.strongRecOn with
  | ind u ih =>
    by_cases h : u < 10
    · rw [Lib.decDigits_one h, digs_small h, dch_ten h]
    · rw [Lib.decDigits, dif_neg h, digs_big h (by omega), ih _ (by omega), dch_ten (Nat.mod_lt _ (by omega))]

theorem small_eq {i : Nat} (h : i < 100) : small (i : Int) = some (bs (digs 10 i)) := by
  have : ∀ i : Fin 100, small_t (γ := ByteArray) (i.val : Int) some = some (bs (if i.val < 10 then [UInt8.ofNat (48 + i.val)] else [UInt8.ofNat (48 + i.val / 10), UInt8.ofNat (48 + i.val % 10)])) := by decide +kernel
  have h1 := this ⟨i, h⟩
  have h2 : small (i : Int) = small_t (γ := ByteArray) (i : Int) some := rfl
  rw [h2, h1, ← dec_digs]
  by_cases h3 : i < 10
  · rw [Lib.decDigits_one h3]; simp [h3]
  · rw [Lib.decDigits_two h3 h]; simp [h3]

theorem ten_at : ∀ i : Fin 20, tabTen.getD i.val 0 = ((10 ^ i.val : Nat) : Int) := by decide +kernel

theorem numDigits_val {u : Nat} (h1 : 1 ≤ u) (h2 : u < 18446744073709551616) : numDigits (u : Int) = some (Lib.nDigits u : Int) ∧ Lib.nDigits u ≤ 20 := by
  obtain ⟨e1, e2⟩ := Lib.numDigits_eq u h1 h2
  have hL : Lib.bitLen u ≤ 64 := Lib.bitLen_le u 64 (Nat.le_refl _) h2
  have hn : Lib.nDigits u ≤ 20 := by rw [← e1]; split <;> omega
  refine ⟨?_, hn⟩
  unfold numDigits numDigits_t
  have hl : log10p (held ((Lib.bitLen (Int.toNat (u : Int)) : Nat) : Int)) = (Lib.l10 (Lib.bitLen u) : Int) := by
    rw [held_is, Int.toNat_natCast]
    unfold log10p Lib.l10
    generalize Lib.bitLen u = L at hL
    rw [wi, W_of ⟨by omega, by omega⟩, fdiv_lit (by decide)]
    omega
  rw [hl, decide_eq_true (by omega), decide_eq_true (by omega)]
  simp only [cond_true, Nat.zero_add, Int.toNat_natCast]
  have ht := ten_at ⟨Lib.l10 (Lib.bitLen u), by omega⟩
  simp only at ht
  rw [ht]
  by_cases hb : 10 ^ Lib.l10 (Lib.bitLen u) ≤ u
  · rw [if_pos hb] at e1
    rw [decide_eq_true (by exact_mod_cast hb)]
    show some (IntKind.wrap IntKind.i64 ((Lib.l10 (Lib.bitLen u) : Int) + 1)) = _
    rw [wi, W_of ⟨by omega, by omega⟩]
    exact congrArg some (by omega)
  · rw [if_neg hb] at e1
    rw [decide_eq_false (by exact_mod_cast hb)]
    show some (IntKind.wrap IntKind.i64 ((Lib.l10 (Lib.bitLen u) : Int) + 0)) = _
    rw [wi, W_of ⟨by omega, by omega⟩]
    exact congrArg some (by omega)

theorem dec10_nums (u : Nat) : dec10 (Lib.nDigits u) (u : Int) = nums (digs 10 u) := by
  rw [← dec_digs, Lib.decDigits_eq]
  unfold dec10 nums
  rw [List.map_map, Int.toNat_natCast]
  rfl

theorem mid (z : List Int) {i n : Nat} (u : Int) (h : i + n ≤ z.length) : ((z.take i ++ dec10 n u ++ z.drop (i + n)).drop i).take n = dec10 n u := by
  have h1 : (z.take i).length = i := by simp; omega
  rw [List.append_assoc, List.drop_append_of_le_length (by omega), List.drop_eq_nil_of_le (by omega), List.nil_append, List.take_append_of_le_length (by rw [dec10_length]; omega), List.take_of_length_le (by rw [dec10_length]; omega)]

theorem fmtUint_ten {u : Nat} (hu : u < 18446744073709551616) : fmtUint (u : Int) 10 = some (bs (digs 10 u)) := by
  unfold fmtUint fmtUint_t fmtUint0 fmtUint0_t
  have : ((10 : Int) == 10) = true := rfl
  rw [this]
  simp only [cond_true]
  by_cases h : u < 100
  · rw [decide_eq_true (by omega), wi, W_of ⟨by omega, by omega⟩, small_eq h]
    rfl
  · obtain ⟨e1, e2⟩ := numDigits_val (u := u) (by omega) hu
    have hp := Lib.lt_pow_nDigits u
    have hq := Lib.nDigits_pos u
    rw [decide_eq_false (by omega), e1]
    simp only [cond_false, outOf]
    have hz : ∀ z : List Int, z.length = 24 → (cond (decide ((0 : Int) ≤ (0 : Int) ∧ (0 : Int) ≤ (Lib.nDigits u : Int) ∧ (Lib.nDigits u : Int) ≤ (24 : Int))) (cond (decide ((0 : Int) ≤ (u : Int) ∧ (u : Int) < (18446744073709551616 : Int) ∧ Int.toNat (u : Int) < (10 : Nat) ^ (Int.toNat (Lib.nDigits u : Int) - (0 : Nat)) ∧ (0 : Nat) < Int.toNat (Lib.nDigits u : Int) - (0 : Nat) ∧ (0 : Nat) + (Int.toNat (Lib.nDigits u : Int) - (0 : Nat)) ≤ (24 : Nat) ∧ Int.toNat (Lib.nDigits u : Int) - (0 : Nat) < (4611686018427387904 : Nat)))
        (cond (decide (List.length (List.take (0 : Nat) z ++ dec10 (Int.toNat (Lib.nDigits u : Int) - (0 : Nat)) (u : Int) ++ List.drop ((0 : Nat) + (Int.toNat (Lib.nDigits u : Int) - (0 : Nat))) z) = (24 : Nat))) (cond (decide ((0 : Int) ≤ (0 : Int) ∧ (0 : Int) ≤ (Lib.nDigits u : Int) ∧ (Lib.nDigits u : Int) ≤ (24 : Int)))
          (some (strOf (List.take (Int.toNat (Lib.nDigits u : Int) - (0 : Nat)) (List.drop (0 : Nat) (List.take (0 : Nat) z ++ dec10 (Int.toNat (Lib.nDigits u : Int) - (0 : Nat)) (u : Int) ++ List.drop ((0 : Nat) + (Int.toNat (Lib.nDigits u : Int) - (0 : Nat))) z))))) none) none) none) none) = some (bs (digs 10 u)) := by
      intro z hz
      have hn : Int.toNat (Lib.nDigits u : Int) - 0 = Lib.nDigits u := by simp
      rw [hn, Int.toNat_natCast, decide_eq_true (show (0 : Int) ≤ 0 ∧ (0 : Int) ≤ (Lib.nDigits u : Int) ∧ (Lib.nDigits u : Int) ≤ (24 : Int) by omega), decide_eq_true (by omega), decide_eq_true (by simp [dec10_length]; omega)]
      simp only [cond_true]
      rw [mid z _ (by omega), dec10_nums, strOf_nums]
    have h24 := hz [(0 : Int), (0 : Int), (0 : Int), (0 : Int), (0 : Int), (0 : Int), (0 : Int), (0 : Int), (0 : Int), (0 : Int), (0 : Int), (0 : Int), (0 : Int), (0 : Int), (0 : Int), (0 : Int), (0 : Int), (0 : Int), (0 : Int), (0 : Int), (0 : Int), (0 : Int), (0 : Int), (0 : Int)] rfl
    rw [h24]

theorem UText_eq {b : Nat} (h1 : 2 ≤ b) (h2 : b ≤ 36) (n : Int) : num_UText n (b : Int) = some (bs (caps b (n % 18446744073709551616).toNat)) := by
  by_cases h10 : b = 10
  · subst h10
    unfold num_UText num_UText_t
    have hg : goodB ((10 : Nat) : Int) = true := rfl
    have wn : IntKind.wrap IntKind.u64 n = ((n % 18446744073709551616).toNat : Int) := by rw [wu]; omega
    have ht := fmtUint_ten (u := (n % 18446744073709551616).toNat) (by omega)
    rw [good_eq, hg, wn]
    simp only [outOf, Bool.not_true, cond_false]
    rw [show (((10 : Nat) : Int)) = 10 from rfl, ht]
    simp only [outOf]
    rw [upper_ok (digs_ascii _ _) (by have := digs_length 10 64 (n % 18446744073709551616).toNat (by omega); omega)]
    rfl
  · exact UText_ne h1 h2 h10 n

end Go.Proofs.Dbl
