/- Plain facts about the document's doubles: digit of two by digit of two. -/
import Derived.Test.YtnopacpjimllhaaDbPe
import Derived.Test.YtnopacpjimllhaaDbXR
namespace Go.Proofs.Dbl
open Go Go.TX Go.Proofs
set_option maxRecDepth 100000
set_option maxHeartbeats 0
set_option linter.unusedVariables false
set_option linter.unusedSimpArgs false

/-- A loop of a known number of passes. -/
theorem runs_count {D X : Type} {pass : D → Option (D ⊕ X)} (f : Nat → D) (x : X) : ∀ (N : Nat), (∀ i, i < N → pass (f i) = some (.inl (f (i + 1)))) → pass (f N) = some (.inr x) → ∀ k, k ≤ N → runs pass (f (N - k)) = some x
  | N, hs, he, 0, _ => runs_out he
  | N, hs, he, k + 1, hk => by
    have h1 := hs (N - (k + 1)) (by omega)
    rw [show N - (k + 1) + 1 = N - k from by omega] at h1
    rw [runs_next h1]
    exact runs_count f x N hs he k (by omega)

theorem runs_all {D X : Type} {pass : D → Option (D ⊕ X)} (f : Nat → D) (N : Nat) {x : X} (hs : ∀ i, i < N → pass (f i) = some (.inl (f (i + 1)))) (he : pass (f N) = some (.inr x)) : runs pass (f 0) = some x := by
  have := runs_count f x N hs he N (Nat.le_refl _)
  rwa [Nat.sub_self] at this

theorem two_pos (n : Nat) : (0 : Int) < 2 ^ n := Int.pow_pos (by decide)

theorem div_step (X : Int) (i : Nat) : X / 2 ^ (i + 1) = X / 2 ^ i / 2 := by
  rw [Int.ediv_ediv_of_nonneg (Int.le_of_lt (two_pos i)), Int.pow_succ]

theorem div_bit (X : Int) (i : Nat) : X / 2 ^ i = 2 * (X / 2 ^ (i + 1)) + X / 2 ^ i % 2 := by
  rw [div_step]; omega

theorem mod_bit (X : Int) (i : Nat) : X % 2 ^ (i + 1) = X % 2 ^ i + 2 ^ i * (X / 2 ^ i % 2) := by
  have h1 := Int.mul_ediv_add_emod X (2 ^ (i + 1))
  have h2 := Int.mul_ediv_add_emod X (2 ^ i)
  have h3 := div_bit X i
  have e : (2 : Int) ^ (i + 1) = 2 ^ i * 2 := Int.pow_succ _ _
  generalize X / 2 ^ (i + 1) = q' at *
  generalize hb : X / 2 ^ i % 2 = b at *
  rw [h3, Int.mul_add] at h2
  rw [e, Int.mul_assoc] at h1
  rw [e]
  generalize X % (2 ^ i * 2) = r at *
  generalize X % 2 ^ i = r' at *
  generalize (2 : Int) ^ i * (2 * q') = t at *
  omega

/-! ### A digit -/

theorem Bit_eq (a : Int) (i : Nat) (hi : i ≤ 63) : ref_Bit a (i : Int) = some (a % 18446744073709551616 / 2 ^ i % 2) := by
  unfold ref_Bit ref_Bit_t
  rw [decide_eq_false (by omega), decide_eq_false (by omega), wu, wu, wi, decide_eq_false (by omega)]
  simp only [cond_false]
  have e : min (Int.toNat ((i : Int) % 18446744073709551616)) 64 = i := by omega
  have h0 : 0 ≤ a % 18446744073709551616 := by omega
  have h1 : a % 18446744073709551616 / 2 ^ i < 18446744073709551616 := Int.lt_of_le_of_lt (Int.ediv_le_self _ h0) (by omega)
  rw [e, Int.fdiv_eq_ediv_of_nonneg _ (Int.le_of_lt (two_pos i)), and1 (Int.ediv_nonneg h0 (Int.le_of_lt (two_pos i))) h1]
  exact congrArg some (W_of (by unfold Cell; omega))

theorem and1_i64 {b : Int} (h : b = 0 ∨ b = 1) : ibits .and .i64 b 1 = b := by
  rcases h with rfl | rfl <;> decide

/-- The digits of two of a number. -/
def bitL (x : Int) (n : Nat) : List Int := (List.range n).map fun i => x / 2 ^ i % 2

theorem bitL_len (x : Int) (n : Nat) : (bitL x n).length = n := by simp [bitL]
theorem bitL_succ (x : Int) (n : Nat) : bitL x (n + 1) = bitL x n ++ [x / 2 ^ n % 2] := by simp [bitL, List.range_succ]
theorem bitL_get (x : Int) {n i : Nat} (h : i < n) : (bitL x n).getD i 0 = x / 2 ^ i % 2 := by
  simp [bitL, List.getD_eq_getElem?_getD, h]
theorem bitL_01 {x : Int} {n : Nat} : ∀ b ∈ bitL x n, b = 0 ∨ b = 1 := fun b hb => by
  simp only [bitL, List.mem_map] at hb
  obtain ⟨i, _, rfl⟩ := hb
  omega
theorem bitL_take (x : Int) {n m : Nat} (h : m ≤ n) : (bitL x n).take m = bitL x m := by
  simp only [bitL, ← List.map_take, List.take_range, Nat.min_eq_left h]
theorem bitL_drop (x : Int) (n m : Nat) : (bitL x (m + n)).drop m = bitL (x / 2 ^ m) n := by
  simp only [bitL]
  rw [← List.map_drop]
  apply List.ext_getElem
  · simp
  · intro i h1 h2
    simp only [List.getElem_map, List.getElem_drop, List.getElem_range]
    rw [Int.ediv_ediv_of_nonneg (Int.le_of_lt (two_pos m)), ← Int.pow_add]

theorem bits_L1 (lo hi : Int) : ref_bits_L1 (0, 0, lo, hi, []) = some (64, lo, hi, bitL (lo % 18446744073709551616) 64) := by
  refine runs_all (fun i => (i, (i : Int), lo, hi, bitL (lo % 18446744073709551616) i)) 64 (fun i h => ?_) ?_
  · unfold ref_bits_L1_pass ref_bits_L1_t
    simp only [List.drop_zero]
    rw [decide_eq_true (by omega), Bit_eq lo i (by omega), List.take_of_length_le (by rw [bitL_len]; omega)]
    simp only [cond_true, outOf_some, List.length_singleton]
    rw [decide_eq_true (by omega), wi, show W ((i : Int) + 1) = ((i + 1 : Nat) : Int) from by unfold W; omega, bitL_succ]
    rfl
  · unfold ref_bits_L1_pass ref_bits_L1_t
    rfl

theorem bits_L2 (lo hi : Int) : ref_bits_L2 (64, 0, lo, hi, bitL (D lo hi) 64) = some (128, bitL (D lo hi) 128) := by
  refine runs_all (fun i => (64 + i, (i : Int), lo, hi, bitL (D lo hi) (64 + i))) 64 (fun i h => ?_) ?_
  · unfold ref_bits_L2_pass ref_bits_L2_t
    simp only [List.drop_zero]
    rw [decide_eq_true (by omega), Bit_eq hi i (by omega), List.take_of_length_le (by rw [bitL_len]; omega)]
    simp only [cond_true, outOf_some, List.length_singleton]
    rw [decide_eq_true (by omega), wi, show W ((i : Int) + 1) = ((i + 1 : Nat) : Int) from by unfold W; omega, ← Nat.add_assoc, bitL_succ]
    have := bit_hi lo hi (64 + i) (by omega)
    rw [show 64 + i - 64 = i from by omega] at this
    rw [this]
    rfl
  · unfold ref_bits_L2_pass ref_bits_L2_t
    rfl

theorem bitL_lo (lo hi : Int) : bitL (lo % 18446744073709551616) 64 = bitL (D lo hi) 64 := by
  unfold bitL
  apply List.map_congr_left
  intro i hi'
  exact bit_lo lo hi i (List.mem_range.1 hi')

theorem bits_eq (lo hi : Int) : ref_bits lo hi = some (bitL (D lo hi) 128) := by
  unfold ref_bits ref_bits_t
  rw [bits_L1]
  simp only [outOf_some]
  rw [bitL_lo lo hi, bits_L2]
  simp only [outOf_some, List.drop_zero]
  rw [List.take_of_length_le (by rw [bitL_len]; omega)]

/-! ### Numbers of digits -/

def valL : List Int → Int
  | [] => 0
  | b :: l => b + 2 * valL l

theorem valL_bitL : ∀ (n : Nat) (x : Int), valL (bitL x n) = x % 2 ^ n
  | 0, x => by simp [bitL, valL, Int.emod_one]
  | n + 1, x => by
    have h : bitL x (n + 1) = (x % 2) :: bitL (x / 2) n := by
      have := bitL_drop x n 1
      rw [Nat.add_comm] at this
      have hl := bitL_len x (n + 1)
      cases hb : bitL x (n + 1) with
      | nil => rw [hb] at hl; simp at hl
      | cons a l =>
        rw [hb] at this
        have h0 := bitL_get x (n := n + 1) (i := 0) (by omega)
        rw [hb] at h0
        simp at this h0
        rw [this, h0]
    rw [h]
    show x % 2 + 2 * valL (bitL (x / 2) n) = _
    rw [valL_bitL n]
    have h1 := Int.mul_ediv_add_emod (x / 2) (2 ^ n)
    have h2 := Int.mul_ediv_add_emod x (2 ^ (n + 1))
    have h3 : x / 2 ^ (n + 1) = x / 2 / 2 ^ n := by rw [Int.ediv_ediv_of_nonneg (by decide), Int.pow_succ, Int.mul_comm]
    have e : (2 : Int) ^ (n + 1) = 2 * 2 ^ n := by rw [Int.pow_succ, Int.mul_comm]
    rw [h3] at h2
    generalize x / 2 / 2 ^ n = q at *
    have e2 : (2 : Int) ^ (n + 1) * q = 2 * (2 ^ n * q) := by rw [e, Int.mul_assoc]
    omega

theorem Make_L1 (l : List Int) (hl : l.length = 64) (h01 : ∀ b ∈ l, b = 0 ∨ b = 1) : ref_Make_L1 (l, 0, 63) = some (valL l % 18446744073709551616) := by
  have := runs_all (pass := ref_Make_L1_pass) (fun j => (l, valL (l.drop (64 - j)) % 18446744073709551616, (63 : Int) - j)) 64 (x := valL l % 18446744073709551616) (fun j h => ?_) ?_
  · rw [show 64 - 0 = 64 from rfl, List.drop_of_length_le (by omega)] at this
    exact this
  · unfold ref_Make_L1_pass ref_Make_L1_t
    simp only
    rw [decide_eq_true (by omega), decide_eq_true (by rw [hl]; omega)]
    simp only [cond_true]
    have e1 : (63 - (j : Int)).toNat = 63 - j := by omega
    have hlt : 63 - j < l.length := by omega
    have e2 : l.getD (63 - j) 0 = l[63 - j] := by simp [List.getD_eq_getElem?_getD, hlt]
    have hb := h01 l[63 - j] (List.getElem_mem hlt)
    have e3 : l.drop (64 - (j + 1)) = l[63 - j] :: l.drop (64 - j) := by
      rw [show 64 - (j + 1) = 63 - j from by omega, List.drop_eq_getElem_cons hlt, show 63 - j + 1 = 64 - j from by omega]
    rw [e1, e2, and1_i64 hb, e3]
    simp only [wi, wu, valL]
    have e4 : W (63 - (j : Int) - 1) = 63 - ((j + 1 : Nat) : Int) := by unfold W; omega
    rw [e4]
    generalize valL (l.drop (64 - j)) = v
    generalize l[63 - j] = b at *
    rw [show (v % 18446744073709551616 * 2 % 18446744073709551616 + b % 18446744073709551616) % 18446744073709551616 = (b + 2 * v) % 18446744073709551616 from by omega]
  · unfold ref_Make_L1_pass ref_Make_L1_t
    simp only
    rw [decide_eq_false (by omega)]
    rfl

theorem Make_eq (l : List Int) (hl : l.length = 64) (h01 : ∀ b ∈ l, b = 0 ∨ b = 1) : ref_Make l = some (W (valL l)) := by
  unfold ref_Make ref_Make_t
  rw [hl]
  have e : IntKind.wrap .i64 ((if (64 : Int) < ((64 : Nat) : Int) then (64 : Int) else ((64 : Nat) : Int)) - 1) = 63 := by decide
  rw [e, Make_L1 l hl h01]
  simp only [outOf_some, wi, W_mod]

theorem make2_eq (x : Int) : ref_make2 (bitL x 128) = some (Pd x) := by
  unfold ref_make2 ref_make2_t
  rw [bitL_len, decide_eq_true (by decide), decide_eq_true (by decide), List.drop_zero, bitL_take x (by omega), show (128 : Nat) = 64 + 64 from rfl, bitL_drop x 64 64,
    List.take_of_length_le (by rw [bitL_len]; omega)]
  simp only [cond_true]
  rw [Make_eq _ (bitL_len _ _) bitL_01, Make_eq _ (bitL_len _ _) bitL_01]
  simp only [outOf_some, valL_bitL, p64, W_mod]
  rfl

end Go.Proofs.Dbl
