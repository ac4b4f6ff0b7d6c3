/- Plain facts about the document's doubles: digit of two by digit of two. -/
import Derived.Test.YtbcijnfednjohaaGreatPzP
import Derived.Test.YtbcijnfednjohaaGreatPzXR
namespace Go.Proofs.Dbl
open Go Go.TX Go.Proofs
set_option maxRecDepth 100000
set_option maxHeartbeats 0
set_option linter.unusedVariables false
set_option linter.unusedSimpArgs false
theorem two_pos (n : Nat) : (0 : Int) < 2 ^ n := Int.pow_pos (by decide)
theorem div_step (X : Int) (i : Nat) : X / 2 ^ (i + 1) = X / 2 ^ i / 2 := by
  rw [Int.ediv_ediv_of_nonneg (Int.le_of_lt (two_pos i)), Int.pow_succ]
theorem div_bit (X : Int) (i : Nat) : X / 2 ^ i = 2 * (X / 2 ^ (i + 1)) + X / 2 ^ i % 2 := by
  rw [div_step]; omega
theorem mod_bit (X : Int) (i : Nat) : X % 2 ^ (i + 1) = X % 2 ^ i + 2 ^ i * (X / 2 ^ i % 2) := by
  have h1 := Int.mul_ediv_add_emod X (2 ^ (i + 1))
  have h2 := Int.mul_ediv_add_emod X (2 ^ i)
  have h3 := div_bit X i
  have e : (2 : Int) ^ (i + 1) = 2 ^ i * 2 := Int.pow_succ _ _
  generalize X / 2 ^ (i + 1) = q' at *
  generalize hb : X / 2 ^ i % 2 = b at *
  rw [h3, Int.mul_add] at h2
  rw [e, Int.mul_assoc] at h1
  rw [e]
  generalize X % (2 ^ i * 2) = r at *
  generalize X % 2 ^ i = r' at *
  generalize (2 : Int) ^ i * (2 * q') = t at *
  omega
theorem Bit_eq (a : Int) (i : Nat) (hi : i ≤ 63) : ref_Bit a (i : Int) = some (a % 18446744073709551616 / 2 ^ i % 2) := by
  unfold ref_Bit ref_Bit_t
  rw [decide_eq_false (by omega), decide_eq_false (by omega), wu, wu, wi, decide_eq_false (by omega)]
  simp only [cond_false]
  have e : min (Int.toNat ((i : Int) % 18446744073709551616)) 64 = i := by omega
  have h0 : 0 ≤ a % 18446744073709551616 := by omega
  have h1 : a % 18446744073709551616 / 2 ^ i < 18446744073709551616 := Int.lt_of_le_of_lt (Int.ediv_le_self _ h0) (by omega)
  rw [e, Int.fdiv_eq_ediv_of_nonneg _ (Int.le_of_lt (two_pos i)), and1 (Int.ediv_nonneg h0 (Int.le_of_lt (two_pos i))) h1]
  exact congrArg some (W_of (by unfold Cell; omega))
theorem and1_i64 {b : Int} (h : b = 0 ∨ b = 1) : ibits .and .i64 b 1 = b := by
  rcases h with rfl | rfl <;> (rw [ibits_def]; decide)
/-- The digits of two of a number. -/
def bitL (x : Int) (n : Nat) : List Int := (List.range n).map fun i => x / 2 ^ i % 2
theorem bitL_len (x : Int) (n : Nat) : (bitL x n).length = n := by simp [bitL]
theorem bitL_succ (x : Int) (n : Nat) : bitL x (n + 1) = bitL x n ++ [x / 2 ^ n % 2] := by simp [bitL, List.range_succ]
theorem bitL_get (x : Int) {n i : Nat} (h : i < n) : (bitL x n).getD i 0 = x / 2 ^ i % 2 := by
  simp [bitL, List.getD_eq_getElem?_getD, h]
theorem bitL_01 {x : Int} {n : Nat} : ∀ b ∈ bitL x n, b = 0 ∨ b = 1 := fun b hb => by
  simp only [bitL, List.mem_map] at hb
  obtain ⟨i, _, rfl⟩ := hb
  omega
theorem bitL_take (x : Int) {n m : Nat} (h : m ≤ n) : (bitL x n).take m = bitL x m := by
  simp only [bitL, ← List.map_take, List.take_range, Nat.min_eq_left h]
theorem bitL_drop (x : Int) (n m : Nat) : (bitL x (m + n)).drop m = bitL (x / 2 ^ m) n := by
  simp only [bitL]
  rw [← List.map_drop]
  apply List.ext_getElem
  · simp
  · intro i h1 h2
    simp only [List.getElem_map, List.getElem_drop, List.getElem_range]
    rw [Int.ediv_ediv_of_nonneg (Int.le_of_lt (two_pos m)), ← Int.pow_add]
theorem bits_L1 (lo hi : Int) : ref_bits_L1 (0, 0, lo, hi, []) = some (64, lo, hi, bitL (lo % 18446744073709551616) 64) := by
  refine runs_all (fun i => (i, (i : Int), lo, hi, bitL (lo % 18446744073709551616) i)) 64 (fun i h => ?_) ?_
  · unfold ref_bits_L1_pass ref_bits_L1_t
    simp only [List.drop_zero]
    rw [decide_eq_true (by omega), Bit_eq lo i (by omega), List.take_of_length_le (by rw [bitL_len]; omega)]
    simp only [cond_true, outOf_some, List.length_singleton]
    rw [decide_eq_true (by omega), wi, show W ((i : Int) + 1) = ((i + 1 : Nat) : Int) from by unfold W; omega, bitL_succ]
    rfl
  · unfold ref_bits_L1_pass ref_bits_L1_t
    rfl
theorem bits_L2 (lo hi : Int) : ref_bits_L2 (64, 0, lo, hi, bitL (D lo hi) 64) = some (128, bitL (D lo hi) 128) := by
  refine runs_all (fun i => (64 + i, (i : Int), lo, hi, bitL (D lo hi) (64 + i))) 64 (fun i h => ?_) ?_
  · unfold ref_bits_L2_pass ref_bits_L2_t
    simp only [List.drop_zero]
    rw [decide_eq_true (by omega), Bit_eq hi i (by omega), List.take_of_length_le (by rw [bitL_len]; omega)]
    simp only [cond_true, outOf_some, List.length_singleton]
    rw [decide_eq_true (by omega), wi, show W ((i : Int) + 1) = ((i + 1 : Nat) : Int) from by unfold W; omega, ← Nat.add_assoc, bitL_succ]
    have := bit_hi lo hi (64 + i) (by omega)
    rw [show 64 + i - 64 = i from by omega] at this
    rw [this]
    rfl
  · unfold ref_bits_L2_pass ref_bits_L2_t
    rfl
theorem bitL_lo (lo hi : Int) : bitL (lo % 18446744073709551616) 64 = bitL (D lo hi) 64 := by
  unfold bitL
  apply List.map_congr_left
  intro i hi'
  exact bit_lo lo hi i (List.mem_range.1 hi')
theorem bits_eq (lo hi : Int) : ref_bits lo hi = some (bitL (D lo hi) 128) := by
  unfold ref_bits ref_bits_t
  rw [bits_L1]
  simp only [outOf_some]
  rw [bitL_lo lo hi, bits_L2]
  simp only [outOf_some, List.drop_zero]
  rw [List.take_of_length_le (by rw [bitL_len]; omega)]
def valL : List Int → Int
  | [] => 0
  | b :: l => b + 2 * valL l
theorem valL_bitL : ∀ (n : Nat) (x : Int), valL (bitL x n) = x % 2 ^ n
  | 0, x => by simp [bitL, valL, Int.emod_one]
  | n + 1, x => by
    have h : bitL x (n + 1) = (x % 2) :: bitL (x / 2) n := by
      have := bitL_drop x n 1
      rw [Nat.add_comm] at this
      have hl := bitL_len x (n + 1)
      cases hb : bitL x (n + 1) with
      | nil => rw [hb] at hl; simp at hl
      | cons a l =>
        rw [hb] at this
        have h0 := bitL_get x (n := n + 1) (i := 0) (by omega)
        rw [hb] at h0
        simp at this h0
        rw [this, h0]
    rw [h]
    show x % 2 + 2 * valL (bitL (x / 2) n) = _
    rw [valL_bitL n]
    have h1 := Int.mul_ediv_add_emod (x / 2) (2 ^ n)
    have h2 := Int.mul_ediv_add_emod x (2 ^ (n + 1))
    have h3 : x / 2 ^ (n + 1) = x / 2 / 2 ^ n := by rw [Int.ediv_ediv_of_nonneg (by decide), Int.pow_succ, Int.mul_comm]
    have e : (2 : Int) ^ (n + 1) = 2 * 2 ^ n := by rw [Int.pow_succ, Int.mul_comm]
    rw [h3] at h2
    generalize x / 2 / 2 ^ n = q at *
    have e2 : (2 : Int) ^ (n + 1) * q = 2 * (2 ^ n * q) := by rw [e, Int.mul_assoc]
    omega
theorem Make_L1 (l : List Int) (hl : l.length = 64) (h01 : ∀ b ∈ l, b = 0 ∨ b = 1) : ref_Make_L1 (l, 0, 63) = some (valL l % 18446744073709551616) := by
  have := runs_all (pass := ref_Make_L1_pass) (fun j => (l, valL (l.drop (64 - j)) % 18446744073709551616, (63 : Int) - j)) 64 (x := valL l % 18446744073709551616) (fun j h => ?_) ?_
  · rw [show 64 - 0 = 64 from rfl, List.drop_of_length_le (by omega)] at this
    exact this
  · unfold ref_Make_L1_pass ref_Make_L1_t
    simp only
    rw [decide_eq_true (by omega), decide_eq_true (by rw [hl]; omega)]
    simp only [cond_true]
    have e1 : (63 - (j : Int)).toNat = 63 - j := by omega
    have hlt : 63 - j < l.length := by omega
    have e2 : l.getD (63 - j) 0 = l[63 - j] := by simp [List.getD_eq_getElem?_getD, hlt]
    have hb := h01 l[63 - j] (List.getElem_mem hlt)
    have e3 : l.drop (64 - (j + 1)) = l[63 - j] :: l.drop (64 - j) := by
      rw [show 64 - (j + 1) = 63 - j from by omega, List.drop_eq_getElem_cons hlt, show 63 - j + 1 = 64 - j from by omega]
    rw [e1, e2, and1_i64 hb, e3]
    simp only [wi, wu, valL]
    have e4 : W (63 - (j : Int) - 1) = 63 - ((j + 1 : Nat) : Int) := by unfold W; omega
    rw [e4]
    generalize valL (l.drop (64 - j)) = v
    generalize l[63 - j] = b at *
    rw [show (v % 18446744073709551616 * 2 % 18446744073709551616 + b % 18446744073709551616) % 18446744073709551616 = (b + 2 * v) % 18446744073709551616 from by omega]
  · unfold ref_Make_L1_pass ref_Make_L1_t
    simp only
    rw [decide_eq_false (by omega)]
    rfl
theorem Make_eq (l : List Int) (hl : l.length = 64) (h01 : ∀ b ∈ l, b = 0 ∨ b = 1) : ref_Make l = some (W (valL l)) := by
  unfold ref_Make ref_Make_t
  rw [hl]
  have e : IntKind.wrap .i64 ((if (64 : Int) < ((64 : Nat) : Int) then (64 : Int) else ((64 : Nat) : Int)) - 1) = 63 := by decide
  rw [e, Make_L1 l hl h01]
  simp only [outOf_some, wi, W_mod]
theorem make2_eq (x : Int) : ref_make2 (bitL x 128) = some (Pd x) := by
  unfold ref_make2 ref_make2_t
  rw [bitL_len, decide_eq_true (by decide), decide_eq_true (by decide), List.drop_zero, bitL_take x (by omega), show (128 : Nat) = 64 + 64 from rfl, bitL_drop x 64 64,
    List.take_of_length_le (by rw [bitL_len]; omega)]
  simp only [cond_true]
  rw [Make_eq _ (bitL_len _ _) bitL_01, Make_eq _ (bitL_len _ _) bitL_01]
  simp only [outOf_some, valL_bitL, p64, W_mod]
  rfl
end Go.Proofs.Dbl

/- Plain facts about the document's doubles: sums, and what is below what. -/
namespace Go.Proofs.Dbl
open Go Go.TX Go.Proofs
set_option maxRecDepth 100000
set_option maxHeartbeats 0
set_option linter.unusedVariables false
set_option linter.unusedSimpArgs false
/-- What is carried into digit i. -/
def carry (X Y : Int) (i : Nat) : Int := (X % 2 ^ i + Y % 2 ^ i) / 2 ^ i
theorem carry_step (X Y : Int) (i : Nat) : carry X Y (i + 1) = (X / 2 ^ i % 2 + Y / 2 ^ i % 2 + carry X Y i) / 2 := by
  unfold carry
  rw [mod_bit X i, mod_bit Y i, Int.pow_succ, ← Int.ediv_ediv_of_nonneg (Int.le_of_lt (two_pos i))]
  have : X % 2 ^ i + 2 ^ i * (X / 2 ^ i % 2) + (Y % 2 ^ i + 2 ^ i * (Y / 2 ^ i % 2)) = (X % 2 ^ i + Y % 2 ^ i) + 2 ^ i * (X / 2 ^ i % 2 + Y / 2 ^ i % 2) := by
    rw [Int.mul_add]; omega
  rw [this, Int.add_mul_ediv_left _ _ (by have := two_pos i; omega)]
  congr 1
  omega
theorem sum_bit (X Y : Int) (i : Nat) : (X + Y) / 2 ^ i % 2 = (X / 2 ^ i % 2 + Y / 2 ^ i % 2 + carry X Y i) % 2 := by
  have h1 := Int.mul_ediv_add_emod X (2 ^ i)
  have h2 := Int.mul_ediv_add_emod Y (2 ^ i)
  have : X + Y = (X % 2 ^ i + Y % 2 ^ i) + 2 ^ i * (X / 2 ^ i + Y / 2 ^ i) := by rw [Int.mul_add]; omega
  rw [this, Int.add_mul_ediv_left _ _ (by have := two_pos i; omega)]
  unfold carry
  omega
theorem carry_01 (X Y : Int) (i : Nat) : carry X Y i = 0 ∨ carry X Y i = 1 := by
  unfold carry
  have h0 := two_pos i
  have a0 := Int.emod_nonneg X (b := 2 ^ i) (by omega)
  have a1 := Int.emod_lt_of_pos X h0
  have b0 := Int.emod_nonneg Y (b := 2 ^ i) (by omega)
  have b1 := Int.emod_lt_of_pos Y h0
  have h1 : 0 ≤ (X % 2 ^ i + Y % 2 ^ i) / 2 ^ i := Int.ediv_nonneg (by omega) (by omega)
  have h2 : (X % 2 ^ i + Y % 2 ^ i) / 2 ^ i < 2 := Int.ediv_lt_of_lt_mul h0 (by omega)
  omega
theorem set_next (x : Int) {i n : Nat} (h : i < n) (v : Int) : (bitL x i ++ List.replicate (n - i) 0).set i v = bitL x i ++ v :: List.replicate (n - (i + 1)) 0 := by
  rw [List.set_append_right _ _ (by rw [bitL_len]; omega), bitL_len, Nat.sub_self]
  rw [show n - i = (n - (i + 1)) + 1 from by omega, List.replicate_succ]
  rfl
theorem Add_L1 (X Y : Int) : ref_Add_L1 (bitL X 128, bitL Y 128, 128, 0, 0, 0, 0, List.replicate 128 0) = some (128, 0, 0, bitL (X + Y) 128) := by
  have := runs_all (pass := ref_Add_L1_pass) (fun i => (bitL X 128, bitL Y 128, 128, carry X Y i, (i : Int), 0, 0, bitL (X + Y) i ++ List.replicate (128 - i) 0)) 128 (x := (128, 0, 0, bitL (X + Y) 128)) (fun i h => ?_) ?_
  · have e : carry X Y 0 = 0 := by unfold carry; simp [Int.emod_one]
    simp only [e] at this
    exact this
  · unfold ref_Add_L1_pass ref_Add_L1_t
    simp only [bitL_len, wi, Nat.zero_add]
    rw [decide_eq_true (by omega), decide_eq_true (by omega)]
    simp only [cond_true, Int.toNat_natCast]
    rw [bitL_get X (by omega), bitL_get Y (by omega), set_next (X + Y) h, bitL_succ (X + Y) i, List.append_assoc]
    have hc := carry_01 X Y i
    have e0 : W (X / 2 ^ i % 2 + Y / 2 ^ i % 2) = X / 2 ^ i % 2 + Y / 2 ^ i % 2 := W_of (by unfold Cell; omega)
    have e1 : W (X / 2 ^ i % 2 + Y / 2 ^ i % 2 + carry X Y i) = X / 2 ^ i % 2 + Y / 2 ^ i % 2 + carry X Y i := W_of (by unfold Cell; omega)
    rw [e0, e1, Int.tdiv_eq_ediv_of_nonneg (by omega), Int.tmod_eq_emod_of_nonneg (by omega), ← sum_bit, ← carry_step, show W ((i : Int) + 1) = ((i + 1 : Nat) : Int) from by unfold W; omega]
    rw [W_of (by have := carry_01 X Y (i + 1); unfold Cell; omega)]
    rfl
  · unfold ref_Add_L1_pass ref_Add_L1_t
    simp only [Nat.sub_self, List.replicate_zero, List.append_nil]
    rfl
theorem rAdd_D (a b c d : Int) : ref_Add a b c d = some (Pd (D a b + D c d)) := by
  unfold ref_Add ref_Add_t
  rw [bits_eq, bits_eq]
  simp only [outOf_some]
  rw [Add_L1]
  simp only [outOf_some, List.drop_zero]
  rw [List.take_of_length_le (by rw [bitL_len]; omega), make2_eq]
  rfl
theorem rAdd (v w : Int) : ref_Add (W v) (W (v / 18446744073709551616)) (W w) (W (w / 18446744073709551616)) = some (Pd (v + w)) := by
  rw [rAdd_D]
  refine congrArg some (Pd_eq.2 ?_)
  unfold D W; omega
theorem rNeg (v : Int) : ref_Neg (W v) (W (v / 18446744073709551616)) = some (Pd (-v)) := by
  unfold ref_Neg ref_Neg_t
  have h := rAdd (-1 - v) 1
  rw [show W 1 = 1 from by decide, show W (1 / 18446744073709551616) = 0 from by decide] at h
  rw [wi, wi, show W (-1 - W v) = W (-1 - v) from by unfold W; omega, show W (-1 - W (v / 18446744073709551616)) = W ((-1 - v) / 18446744073709551616) from by unfold W; omega, h]
  show some _ = some _
  rw [show -1 - v + 1 = -v from by omega]
theorem rTwice (v : Int) : ref_twice (W v) (W (v / 18446744073709551616)) = some (Pd (2 * v)) := by
  unfold ref_twice ref_twice_t
  rw [rAdd]
  show some _ = some _
  rw [show v + v = 2 * v from by omega]
theorem rOf {n : Int} (h : Cell n) : ref_Of n = some (Pd n) := by
  unfold ref_Of ref_Of_t
  have : Pd n = (n, if n < 0 then -1 else 0) := by
    unfold Cell at h
    unfold Pd W
    refine Prod.ext ?_ ?_ <;> simp only
    · omega
    · split <;> omega
  rw [this]
  by_cases g : n < 0 <;> simp [g]
theorem Ult_L1 (a b : Int) : ∀ (n : Nat), n ≤ 64 → a % 18446744073709551616 / 2 ^ n = b % 18446744073709551616 / 2 ^ n →
    ∃ r, ref_Ult_L1 (a, b, (n : Int) - 1) = some r ∧ sumOf r (fun x => x) (fun _ => false) = decide (a % 18446744073709551616 < b % 18446744073709551616)
  | 0, _, h => by
    refine ⟨.inr (), runs_out ?_, ?_⟩
    · unfold ref_Ult_L1_pass ref_Ult_L1_t
      rfl
    · simp at h
      simp [h]
  | n + 1, hn, h => by
    have e : ((n + 1 : Nat) : Int) - 1 = (n : Int) := by omega
    have hp : ref_Ult_L1_pass (a, b, ((n + 1 : Nat) : Int) - 1) = if a % 18446744073709551616 / 2 ^ n % 2 ≠ b % 18446744073709551616 / 2 ^ n % 2 then some (.inr (.inl (b % 18446744073709551616 / 2 ^ n % 2 == 1))) else some (.inl (a, b, (n : Int) - 1)) := by
      rw [e]
      unfold ref_Ult_L1_pass ref_Ult_L1_t
      simp only
      rw [decide_eq_true (by omega), Bit_eq a n (by omega), Bit_eq b n (by omega), wi, show W ((n : Int) - 1) = (n : Int) - 1 from by unfold W; omega]
      by_cases g : a % 18446744073709551616 / 2 ^ n % 2 = b % 18446744073709551616 / 2 ^ n % 2
      · rw [if_neg (by simpa using g)]; simp [g]
      · rw [if_pos g]
        simp only [cond_true, outOf_some]
        rw [show (a % 18446744073709551616 / 2 ^ n % 2 != b % 18446744073709551616 / 2 ^ n % 2) = true from by simpa using g]
        rfl
    by_cases g : a % 18446744073709551616 / 2 ^ n % 2 = b % 18446744073709551616 / 2 ^ n % 2
    · rw [if_neg (by simpa using g)] at hp
      have h' : a % 18446744073709551616 / 2 ^ n = b % 18446744073709551616 / 2 ^ n := by
        have h1 := div_bit (a % 18446744073709551616) n
        have h2 := div_bit (b % 18446744073709551616) n
        rw [h] at h1
        omega
      obtain ⟨r, h1, h2⟩ := Ult_L1 a b n (by omega) h'
      exact ⟨r, (runs_next hp).trans h1, h2⟩
    · rw [if_pos g] at hp
      refine ⟨_, runs_out hp, ?_⟩
      show (b % 18446744073709551616 / 2 ^ n % 2 == 1) = _
      have h1 := div_bit (a % 18446744073709551616) n
      have h2 := div_bit (b % 18446744073709551616) n
      rw [h] at h1
      have mono : ∀ x y : Int, x / 2 ^ n < y / 2 ^ n → x < y := fun x y hxy => Classical.byContradiction fun hc => by
        have := Int.ediv_le_ediv (two_pos n) (show y ≤ x by omega)
        omega
      by_cases g1 : b % 18446744073709551616 / 2 ^ n % 2 = 1
      · rw [g1, decide_eq_true (mono _ _ (by omega))]; rfl
      · rw [beq_eq_false_iff_ne.2 g1, decide_eq_false (by
          have := mono (b % 18446744073709551616) (a % 18446744073709551616) (by omega)
          omega)]
theorem rUlt (a b : Int) : ref_Ult a b = some (decide (a % 18446744073709551616 < b % 18446744073709551616)) := by
  unfold ref_Ult ref_Ult_t
  have z : ∀ x : Int, x % 18446744073709551616 / 2 ^ 64 = 0 := fun x => by rw [p64]; omega
  obtain ⟨r, h1, h2⟩ := Ult_L1 a b 64 (by omega) (by rw [z, z])
  rw [show (63 : Int) = ((64 : Nat) : Int) - 1 from by omega, h1, ← h2]
  cases r <;> rfl
theorem rLess (a b c d : Int) (h2 : Cell b) (h4 : Cell d) : ref_less a b c d = some (decide (D a b < D c d)) := by
  unfold ref_less ref_less_t
  rw [rUlt, rUlt]
  simp only [outOf_some]
  unfold Cell at *
  by_cases g1 : b % 18446744073709551616 < d % 18446744073709551616
  · rw [decide_eq_true g1, show decide (D a b < D c d) = true from decide_eq_true (by unfold D; omega)]; rfl
  · rw [decide_eq_false g1]
    by_cases g2 : b = d
    · subst g2
      rw [beq_self_eq_true]
      simp only [cond_true, cond_false, outOf_some]
      congr 1
      rw [decide_eq_decide]
      unfold D; omega
    · rw [beq_eq_false_iff_ne.2 g2, show decide (D a b < D c d) = false from decide_eq_false (by unfold D; omega)]; rfl
end Go.Proofs.Dbl

/- Plain facts about the document's doubles: products and quotients. -/
namespace Go.Proofs.Dbl
open Go Go.TX Go.Proofs
set_option maxRecDepth 100000
set_option maxHeartbeats 0
set_option linter.unusedVariables false
set_option linter.unusedSimpArgs false
theorem Pd_1 (v : Int) : (Pd v).1 = W v := rfl
theorem Pd_2 (v : Int) : (Pd v).2 = W (v / 18446744073709551616) := rfl
theorem low_0 (a : Int) : W (a % 18446744073709551616) = W a ∧ W (a % 18446744073709551616 / 18446744073709551616) = 0 := by unfold W; omega
theorem UMul_L1 {a b : Int} (ha : Cell a) : ref_UMul_L1 (a, b, 63, 0, 0, 0, 0) = some (0, 0, Pd (a % 18446744073709551616 * (b % 18446744073709551616))) := by
  have := runs_all (pass := ref_UMul_L1_pass) (fun j => (a, b, (63 : Int) - j, 0, 0, Pd (a % 18446744073709551616 * (b % 18446744073709551616 / 2 ^ (64 - j))))) 64 (x := (0, 0, Pd (a % 18446744073709551616 * (b % 18446744073709551616)))) (fun j h => ?_) ?_
  · have z : b % 18446744073709551616 / 2 ^ (64 - 0) = 0 := by rw [Nat.sub_zero, p64]; omega
    rw [z, Int.mul_zero] at this
    exact this
  · unfold ref_UMul_L1_pass ref_UMul_L1_t
    simp only [Pd_1, Pd_2]
    have e : (63 : Int) - j = ((63 - j : Nat) : Int) := by omega
    rw [decide_eq_true (by omega), e, Bit_eq b (63 - j) (by omega), rTwice, wi, show W (((63 - j : Nat) : Int) - 1) = 63 - ((j + 1 : Nat) : Int) from by unfold W; omega]
    simp only [cond_true, outOf_some, Pd_1, Pd_2]
    have hd := div_bit (b % 18446744073709551616) (63 - j)
    rw [show 63 - j + 1 = 64 - j from by omega] at hd
    rw [show 64 - (j + 1) = 63 - j from by omega]
    generalize b % 18446744073709551616 / 2 ^ (64 - j) = q at *
    generalize hY : b % 18446744073709551616 / 2 ^ (63 - j) = Y at *
    generalize ht : Y % 2 = t at *
    rw [hd]
    by_cases g : t = 1
    · rw [g]
      have ha2 := rAdd (2 * (a % 18446744073709551616 * q)) (a % 18446744073709551616)
      rw [(low_0 a).1, (low_0 a).2, W_of ha] at ha2
      rw [ha2]
      simp only [beq_self_eq_true, cond_true, outOf_some]
      rw [show a % 18446744073709551616 * (2 * q + 1) = 2 * (a % 18446744073709551616 * q) + a % 18446744073709551616 from by rw [Int.mul_add, Int.mul_one, Int.mul_left_comm]]
    · rw [beq_eq_false_iff_ne.2 g]
      have g0 : t = 0 := by omega
      rw [g0, Int.add_zero]
      simp only [cond_false]
      rw [show a % 18446744073709551616 * (2 * q) = 2 * (a % 18446744073709551616 * q) from Int.mul_left_comm _ _ _]
      rfl
  · unfold ref_UMul_L1_pass ref_UMul_L1_t
    simp only [Nat.sub_self, Int.pow_zero, Int.ediv_one]
    rfl
theorem rUMul {a b : Int} (ha : Cell a) : ref_UMul a b = some (Pd (a % 18446744073709551616 * (b % 18446744073709551616))) := by
  unfold ref_UMul ref_UMul_t
  rw [UMul_L1 ha]
  rfl
theorem Mul_L1 {a b : Int} (ha : Cell a) (hb : Cell b) : ref_Mul_L1 (b, 0, 0, 0, 0, 0, Pd a) = some (0, 0, Pd (a * b)) := by
  have := runs_all (pass := ref_Mul_L1_pass) (fun j => (b, (j : Int), 0, 0, (Pd (if j ≤ 63 then a * (b % 18446744073709551616 % 2 ^ j) else a * b)).1, (Pd (if j ≤ 63 then a * (b % 18446744073709551616 % 2 ^ j) else a * b)).2, Pd (a * 2 ^ j))) 64 (x := (0, 0, Pd (a * b))) (fun j h => ?_) ?_
  · simp only [Int.pow_zero, Int.mul_one, Int.emod_one, Nat.zero_le, if_true, Int.mul_zero] at this
    exact this
  · unfold ref_Mul_L1_pass ref_Mul_L1_t ref_Mul_M1 ref_Mul_M1_t ref_Mul_M2 ref_Mul_M2_t
    simp only [Pd_1, Pd_2]
    rw [decide_eq_true (by omega), Bit_eq b j (by omega), wi, show W ((j : Int) + 1) = ((j + 1 : Nat) : Int) from by unfold W; omega, if_pos (by omega)]
    have hm := mod_bit (b % 18446744073709551616) j
    have hp : a * 2 ^ (j + 1) = 2 * (a * 2 ^ j) := by rw [Int.pow_succ, ← Int.mul_assoc, Int.mul_comm]
    simp only [cond_true, outOf_some, rTwice, rNeg, Pd_1, Pd_2, hp]
    by_cases g : b % 18446744073709551616 / 2 ^ j % 2 = 1
    · rw [g] at hm ⊢
      rw [Int.mul_one] at hm
      simp only [beq_self_eq_true, cond_true]
      by_cases g63 : (j : Int) < 63
      · rw [decide_eq_true g63, beq_eq_false_iff_ne.2 (by omega), rAdd, if_pos (by omega), hm, Int.mul_add]
        rfl
      · have hj : j = 63 := by omega
        subst hj
        rw [decide_eq_false (by omega), if_neg (by omega)]
        have hval : a * (b % 18446744073709551616 % 2 ^ 63) + -(a * 2 ^ 63) = a * b := by
          rw [← Int.mul_neg, ← Int.mul_add]
          congr 1
          have e63 : (2 : Int) ^ 63 = 9223372036854775808 := by decide
          rw [e63] at g ⊢
          unfold Cell at hb
          omega
        simp only [cond_false, outOf_some]
        rw [show (((63 : Nat) : Int) == 63) = true from rfl]
        simp only [cond_true]
        rw [rAdd, hval]
        rfl
    · rw [beq_eq_false_iff_ne.2 g]
      have g0 : b % 18446744073709551616 / 2 ^ j % 2 = 0 := by omega
      rw [g0, Int.mul_zero, Int.add_zero] at hm
      simp only [cond_false, outOf_some]
      by_cases g63 : j + 1 ≤ 63
      · rw [if_pos g63, hm]; rfl
      · have hj : j = 63 := by omega
        subst hj
        rw [if_neg (by omega)]
        have hval : b % 18446744073709551616 % 2 ^ 63 = b := by
          have e63 : (2 : Int) ^ 63 = 9223372036854775808 := by decide
          rw [e63] at g ⊢
          unfold Cell at hb
          omega
        rw [hval]; rfl
  · unfold ref_Mul_L1_pass ref_Mul_L1_t
    rfl
theorem rMul {a b : Int} (ha : Cell a) (hb : Cell b) : ref_Mul a b = some (Pd (a * b)) := by
  unfold ref_Mul ref_Mul_t
  rw [rOf ha]
  simp only [outOf_some]
  rw [show ((Pd a).fst, (Pd a).snd) = Pd a from rfl, Mul_L1 ha hb]
  rfl
theorem D_low (u : Int) : D u 0 = u % 18446744073709551616 := by unfold D; omega
theorem set_at (x' : List Int) {i n : Nat} (h : i < n) : (List.replicate (i + 1) (0 : Int) ++ x' ).set i 1 = List.replicate i 0 ++ 1 :: x' := by
  rw [List.replicate_succ', List.append_assoc, List.set_append_right _ _ (by simp)]
  simp
theorem bitL_from (Q : Int) {i : Nat} (h : i < 128) : (bitL Q 128).drop i = (Q / 2 ^ i % 2) :: (bitL Q 128).drop (i + 1) := by
  have hl : i < (bitL Q 128).length := by rw [bitL_len]; exact h
  rw [List.drop_eq_getElem_cons hl]
  congr 1
  have := bitL_get Q h
  simp only [List.getD_eq_getElem?_getD, List.getElem?_eq_getElem hl, Option.getD_some] at this
  exact this
theorem divide_L1 {lo hi u : Int} (hu : Cell u) (h0 : u % 18446744073709551616 ≠ 0) :
    ref_divide_L1 (bitL (D lo hi) 128, 128, 127, 0, 0, 0, 0, List.replicate 128 0, u, 0) =
      some (128, 0, 0, (Pd (D lo hi % (u % 18446744073709551616))).1, (Pd (D lo hi % (u % 18446744073709551616))).2, bitL (D lo hi / (u % 18446744073709551616)) 128) := by
  have hB : 0 < u % 18446744073709551616 := by omega
  have hB' : u % 18446744073709551616 < 18446744073709551616 := by omega
  have hDr := D_range lo hi
  have eu : W (u % 18446744073709551616) = u ∧ W (u % 18446744073709551616 / 18446744073709551616) = 0 := ⟨(low_0 u).1.trans (W_of hu), (low_0 u).2⟩
  generalize hBu : u % 18446744073709551616 = B at *
  have := runs_all (pass := ref_divide_L1_pass) (fun j => (bitL (D lo hi) 128, 128, (127 : Int) - j, 0, 0, (Pd (D lo hi / 2 ^ (128 - j) % B)).1, (Pd (D lo hi / 2 ^ (128 - j) % B)).2, List.replicate (128 - j) 0 ++ (bitL (D lo hi / B) 128).drop (128 - j), u, 0)) 128
    (x := (128, 0, 0, (Pd (D lo hi % B)).1, (Pd (D lo hi % B)).2, bitL (D lo hi / B) 128)) (fun j h => ?_) ?_
  · have z : D lo hi / 2 ^ (128 - 0) = 0 := by rw [Nat.sub_zero, show (2 : Int) ^ 128 = 340282366920938463463374607431768211456 from by decide]; omega
    rw [z, Int.zero_emod, List.drop_of_length_le (by rw [bitL_len]; omega), List.append_nil] at this
    exact this
  · unfold ref_divide_L1_pass ref_divide_L1_t
    simp only [Pd_1, Pd_2, bitL_len]
    have e : (127 : Int) - j = ((127 - j : Nat) : Int) := by omega
    rw [decide_eq_true (by omega), decide_eq_true (by omega), rTwice, e, wi, show W (((127 - j : Nat) : Int) - 1) = 127 - ((j + 1 : Nat) : Int) from by unfold W; omega]
    simp only [cond_true, outOf_some, Int.toNat_natCast, Pd_1, Pd_2, Nat.zero_add]
    have hlt : 127 - j < 128 := by omega
    rw [bitL_get _ hlt]
    have hd := div_bit (D lo hi) (127 - j)
    rw [show 127 - j + 1 = 128 - j from by omega] at hd
    have hX0 : 0 ≤ D lo hi / 2 ^ (128 - j) := Int.ediv_nonneg hDr.1 (Int.le_of_lt (two_pos _))
    have hqX : D lo hi / B / 2 ^ (127 - j) = D lo hi / 2 ^ (127 - j) / B := by
      rw [Int.ediv_ediv_of_nonneg (by omega), Int.ediv_ediv_of_nonneg (Int.le_of_lt (two_pos _)), Int.mul_comm]
    have hdrop : (bitL (D lo hi / B) 128).drop (127 - j) = (D lo hi / 2 ^ (127 - j) / B % 2) :: (bitL (D lo hi / B) 128).drop (128 - j) := by
      have := bitL_from (D lo hi / B) hlt
      rw [hqX, show 127 - j + 1 = 128 - j from by omega] at this
      exact this
    rw [show 128 - (j + 1) = 127 - j from by omega, hdrop, show 128 - j = (127 - j) + 1 from by omega, set_at _ hlt]
    rw [show 127 - j + 1 = 128 - j from by omega]
    generalize hX : D lo hi / 2 ^ (128 - j) = X at *
    generalize hY : D lo hi / 2 ^ (127 - j) = Y at *
    generalize (bitL (D lo hi / B) 128).drop (128 - j) = tl
    generalize hb : Y % 2 = b at *
    have hb01 : b = 0 ∨ b = 1 := by omega
    obtain ⟨s1, s2⟩ := step_div hB hX0 hb01
    have hR0 := Int.emod_nonneg X (b := B) (by omega)
    have hR1 := Int.emod_lt_of_pos X hB
    have hadd := rAdd (2 * (X % B)) b
    rw [show W b = b from W_of (by unfold Cell; omega), show W (b / 18446744073709551616) = 0 from by unfold W; omega] at hadd
    rw [hadd]
    simp only [outOf_some, Pd_1, Pd_2]
    rw [rLess _ _ _ _ (W_cell _) (by unfold Cell; omega), D_Pd (by omega) (by omega), D_low, hBu]
    have hneg := rNeg B
    rw [eu.1, eu.2] at hneg
    simp only [outOf_some, hneg, Pd_1, Pd_2, rAdd]
    rw [hd]
    by_cases hge : 2 * (X % B) + b ≥ B
    · obtain ⟨g1, g2⟩ := s1 hge
      rw [decide_eq_false (by omega), g1, g2]
      simp only [Bool.not_false, cond_true]
      have e1 : (2 * (X / B) + 1) % 2 = 1 := by omega
      rw [e1, show 2 * (X % B) + b + -B = 2 * (X % B) + b - B from by omega]
    · obtain ⟨g1, g2⟩ := s2 (by omega)
      rw [decide_eq_true (by omega), g1, g2]
      simp only [Bool.not_true, cond_false]
      have e1 : (2 * (X / B)) % 2 = 0 := by omega
      rw [e1, show 128 - j = (127 - j) + 1 from by omega, List.replicate_succ', List.append_assoc]
      rfl
  · unfold ref_divide_L1_pass ref_divide_L1_t
    simp only [Nat.sub_self, Int.pow_zero, Int.ediv_one, List.replicate_zero, List.nil_append, List.drop_zero]
    rfl
theorem rDivide {lo hi u : Int} (hu : Cell u) (h0 : u % 18446744073709551616 ≠ 0) :
    ref_divide lo hi u = some (W (D lo hi % (u % 18446744073709551616)), Pd (D lo hi / (u % 18446744073709551616))) := by
  unfold ref_divide ref_divide_t
  rw [bits_eq]
  simp only [outOf_some]
  rw [divide_L1 hu h0]
  simp only [outOf_some, List.drop_zero]
  rw [List.take_of_length_le (by rw [bitL_len]; omega), make2_eq]
  rfl
end Go.Proofs.Dbl

/- Plain facts about the document's doubles: quotients that are told, or not. -/
namespace Go.Proofs.Dbl
open Go Go.TX Go.Proofs
set_option maxRecDepth 100000
set_option maxHeartbeats 0
set_option linter.unusedVariables false
set_option linter.unusedSimpArgs false
theorem rUMod {lo hi u : Int} (h1 : Cell lo) (h2 : Cell hi) (hu : Cell u) :
    ref_UMod lo hi u = some (if u = 0 then (0, 0, -10) else if hi % 18446744073709551616 < u % 18446744073709551616 then (W (D lo hi % (u % 18446744073709551616)), W (D lo hi / (u % 18446744073709551616)), 0) else (0, 0, -11)) := by
  unfold ref_UMod ref_UMod_t
  by_cases h0 : u = 0
  · subst h0; rfl
  · rw [beq_eq_false_iff_ne.2 h0, if_neg h0]
    have hB : u % 18446744073709551616 ≠ 0 := by unfold Cell at hu; omega
    rw [rDivide hu hB]
    simp only [cond_false, outOf_some, Pd_1, Pd_2]
    have hDr := D_range lo hi
    have q0 : 0 ≤ D lo hi / (u % 18446744073709551616) := Int.ediv_nonneg hDr.1 (by omega)
    by_cases h : hi % 18446744073709551616 < u % 18446744073709551616
    · have q1 := (UMod_q (lo := lo) (by omega) h).2
      rw [if_pos h, show W (D lo hi / (u % 18446744073709551616) / 18446744073709551616) = 0 from by unfold W; omega]
      rfl
    · have q1 : 18446744073709551616 ≤ D lo hi / (u % 18446744073709551616) := Int.le_ediv_of_mul_le (by omega) (by unfold D; omega)
      have q2 : D lo hi / (u % 18446744073709551616) ≤ D lo hi := Int.ediv_le_self _ hDr.1
      rw [if_neg h, show (W (D lo hi / (u % 18446744073709551616) / 18446744073709551616) != 0) = true from by
        rw [bne_iff_ne]; unfold W; omega]
      rfl
/-- What is left, and the quotient, of a double and a cell by their parts without signs. -/
theorem parts {lo hi n : Int} (h1 : Cell lo) (h2 : Cell hi) (hn : Cell n) (h0 : n ≠ 0) :
    ∃ A B : Int, (if hi < 0 then -S lo hi else S lo hi) = A ∧ (if n < 0 then W (0 - n) else n) % 18446744073709551616 = B ∧ 0 ≤ A ∧ A ≤ 170141183460469231731687303715884105728 ∧ 0 < B ∧ B ≤ 9223372036854775808 ∧
      (S lo hi).tdiv n = (if (hi < 0) ≠ (n < 0) then -(A / B) else A / B) ∧ (S lo hi).tmod n = (if hi < 0 then -(A % B) else A % B) ∧ 0 ≤ A % B ∧ A % B < B ∧ 0 ≤ A / B ∧ A / B ≤ A := by
  have hS := S_range h1 h2
  have hSs : S lo hi < 0 ↔ hi < 0 := by unfold Cell at h1 h2; unfold S; omega
  refine ⟨_, if n < 0 then -n else n, rfl, ?_, ?_⟩
  · unfold Cell at hn; unfold W; split <;> omega
  generalize hA : (if hi < 0 then -S lo hi else S lo hi) = A
  generalize hB : (if n < 0 then -n else n) = B
  have hA0 : 0 ≤ A := by subst hA; split <;> omega
  have hA1 : A ≤ 170141183460469231731687303715884105728 := by subst hA; split <;> omega
  have hB0 : 0 < B := by subst hB; split <;> omega
  have hB1 : B ≤ 9223372036854775808 := by unfold Cell at hn; subst hB; split <;> omega
  refine ⟨hA0, hA1, hB0, hB1, ?_, ?_, Int.emod_nonneg A (by omega), Int.emod_lt_of_pos A hB0, Int.ediv_nonneg hA0 (by omega), Int.ediv_le_self _ hA0⟩
  · subst hA hB
    by_cases g1 : hi < 0 <;> by_cases g2 : n < 0 <;> simp only [g1, g2, if_true, if_false, ne_eq, not_true_eq_false, not_false_eq_true, true_iff, false_iff, eq_self_iff_true, eq_iff_iff, iff_self, iff_true, iff_false] <;>
      rw [← Int.tdiv_eq_ediv_of_nonneg (by omega)] <;> simp only [Int.neg_tdiv, Int.tdiv_neg, Int.neg_neg]
  · subst hA hB
    by_cases g1 : hi < 0 <;> by_cases g2 : n < 0 <;> simp only [g1, g2, if_true, if_false] <;>
      rw [← Int.tmod_eq_emod_of_nonneg (by omega)] <;> simp only [Int.neg_tmod, Int.tmod_neg, Int.neg_neg]
theorem unlike_eq (a b : Prop) [Decidable a] [Decidable b] : (!(decide a == decide b)) = decide (a ≠ b) := by
  by_cases ha : a <;> by_cases hb : b <;> simp [ha, hb]
/-- Is a pair the double of a cell? -/
theorem of_fits {v : Int} (hv : -170141183460469231731687303715884105729 ≤ v ∧ v < 170141183460469231731687303715884105728) :
    (W v == (Pd (W v)).1 && (W (v / 18446744073709551616) == (Pd (W v)).2 && true)) = decide (Cell v) := by
  by_cases h : Cell v
  · rw [decide_eq_true h, W_of h, show (Pd v).fst = v from W_of h, show (Pd v).snd = W (v / 18446744073709551616) from rfl]; simp
  · rw [decide_eq_false h]
    have : ¬ (W (v / 18446744073709551616) = (Pd (W v)).snd) := by
      unfold Cell at h
      unfold Pd W; simp only
      omega
    simp [beq_eq_false_iff_ne.2 this]
theorem neg_of {lo hi : Int} (h1 : Cell lo) (h2 : Cell hi) : ref_Neg lo hi = some (Pd (-S lo hi)) := by
  have e := Pd_S h1 h2
  unfold Pd at e
  simp only [Prod.mk.injEq] at e
  have hn := rNeg (S lo hi)
  rw [e.1, e.2] at hn
  exact hn
theorem rSymm {lo hi n : Int} (h1 : Cell lo) (h2 : Cell hi) (hn : Cell n) :
    ref_Symm lo hi n = some (if n = 0 then (0, 0, -10) else if Cell ((S lo hi).tdiv n) then ((S lo hi).tmod n, (S lo hi).tdiv n, 0) else (0, 0, -11)) := by
  unfold ref_Symm ref_Symm_t
  by_cases h0 : n = 0
  · subst h0; rfl
  · rw [beq_eq_false_iff_ne.2 h0, if_neg h0]
    obtain ⟨A, B, eA, eB, a0, a1, b0, b1, eq, er, r0, r1, q0, q1⟩ := parts h1 h2 hn h0
    have m1 : ref_Symm_M1 lo hi lo hi = some (Pd A) := by
      unfold ref_Symm_M1 ref_Symm_M1_t
      rw [neg_of h1 h2, ← eA]
      by_cases g : hi < 0
      · simp [g]
      · rw [decide_eq_false g, if_neg g, Pd_S h1 h2]; rfl
    have m2 : ref_Symm_M2 n n = some (if n < 0 then W (0 - n) else n) := by
      unfold ref_Symm_M2 ref_Symm_M2_t
      rw [wi]
      by_cases g : n < 0 <;> simp [g]
    rw [m1, m2]
    have hu : Cell (if n < 0 then W (0 - n) else n) := by split; exact W_cell _; exact hn
    simp only [cond_false, outOf_some, Pd_1, Pd_2]
    rw [rDivide hu (by rw [eB]; omega), eB, D_Pd a0 (by omega)]
    simp only [outOf_some, Pd_1, Pd_2]
    have m3 : ref_Symm_M3 n hi (W (A / B)) (W (A / B / 18446744073709551616)) = some (if (hi < 0) = (n < 0) ∧ A / B = 170141183460469231731687303715884105728 then .inr (0, 0, -11) else .inl (Pd ((S lo hi).tdiv n))) := by
      unfold ref_Symm_M3 ref_Symm_M3_t
      rw [unlike_eq, rNeg, eq]
      by_cases g : (hi < 0) ≠ (n < 0)
      · rw [decide_eq_true g, if_pos g, if_neg (fun h => g h.1)]; rfl
      · rw [decide_eq_false g, if_neg g]
        have g' : (hi < 0) = (n < 0) := Classical.byContradiction g
        simp only [cond_false]
        by_cases g2 : A / B = 170141183460469231731687303715884105728
        · rw [if_pos ⟨g', g2⟩, decide_eq_true (by unfold W; omega)]; rfl
        · rw [if_neg (fun h => g2 h.2), decide_eq_false (by unfold W; omega)]; rfl
    rw [m3]
    by_cases g : (hi < 0) = (n < 0) ∧ A / B = 170141183460469231731687303715884105728
    · rw [if_pos g]
      have : ¬ Cell ((S lo hi).tdiv n) := by rw [eq, if_neg (by simp [g.1]), g.2]; unfold Cell; omega
      rw [if_neg this]; rfl
    · rw [if_neg g]
      have hv : -170141183460469231731687303715884105729 ≤ (S lo hi).tdiv n ∧ (S lo hi).tdiv n < 170141183460469231731687303715884105728 := by
        rw [eq]
        by_cases g' : (hi < 0) ≠ (n < 0)
        · rw [if_pos g']; omega
        · rw [if_neg g']
          have g'' : (hi < 0) = (n < 0) := Classical.byContradiction g'
          have : A / B ≠ 170141183460469231731687303715884105728 := fun h => g ⟨g'', h⟩
          omega
      simp only [outOf_some, sumOf_inl, rOf (W_cell _), Pd_1, Pd_2]
      have hf := of_fits hv
      simp only [Pd_1, Pd_2] at hf
      rw [hf]
      by_cases c : Cell ((S lo hi).tdiv n)
      · rw [decide_eq_true c, if_pos c, W_of c, er, wi]
        simp only [Bool.not_true, cond_false]
        by_cases g1 : hi < 0
        · rw [decide_eq_true g1, if_pos g1]
          simp only [cond_true]
          rw [show W (0 - W (A % B)) = -(A % B) from by unfold W; omega]
        · rw [decide_eq_false g1, if_neg g1]
          simp only [cond_false]
          rw [show W (A % B) = A % B from by unfold W; omega]
      · rw [decide_eq_false c, if_neg c]; rfl
theorem rFloor {lo hi n : Int} (h1 : Cell lo) (h2 : Cell hi) (hn : Cell n) :
    ref_Floor lo hi n = some (if n = 0 then (0, 0, -10) else if Cell ((S lo hi).fdiv n) then ((S lo hi).fmod n, (S lo hi).fdiv n, 0) else (0, 0, -11)) := by
  unfold ref_Floor ref_Floor_t
  by_cases h0 : n = 0
  · subst h0; rfl
  · rw [beq_eq_false_iff_ne.2 h0, if_neg h0]
    have hSs : S lo hi < 0 ↔ hi < 0 := by unfold Cell at h1 h2; unfold S; omega
    obtain ⟨e1, e2⟩ := fdiv_of_tdiv (S := S lo hi) h0 hSs
    obtain ⟨t1, t2, t3⟩ := tmod_facts (S lo hi) n h0
    obtain ⟨A, B, eA, eB, a0, a1, b0, b1, eq, er, r0, r1, q0, q1⟩ := parts h1 h2 hn h0
    have m1 : ref_Floor_M1 lo hi lo hi = some (Pd A) := by
      unfold ref_Floor_M1 ref_Floor_M1_t
      rw [neg_of h1 h2, ← eA]
      by_cases g : hi < 0
      · simp [g]
      · rw [decide_eq_false g, if_neg g, Pd_S h1 h2]; rfl
    have m2 : ref_Floor_M2 n n = some (if n < 0 then W (0 - n) else n) := by
      unfold ref_Floor_M2 ref_Floor_M2_t
      rw [wi]
      by_cases g : n < 0 <;> simp [g]
    rw [m1, m2]
    have hu : Cell (if n < 0 then W (0 - n) else n) := by split; exact W_cell _; exact hn
    simp only [cond_false, outOf_some, Pd_1, Pd_2, unlike_eq]
    rw [rDivide hu (by rw [eB]; omega), eB, D_Pd a0 (by omega)]
    simp only [outOf_some, Pd_1, Pd_2]
    have m3 : ref_Floor_M3 (decide ((hi < 0) ≠ (n < 0))) (W (A / B / 18446744073709551616)) = some (if (hi < 0) = (n < 0) ∧ A / B = 170141183460469231731687303715884105728 then .inl (0, 0, -11) else .inr ()) := by
      unfold ref_Floor_M3 ref_Floor_M3_t
      by_cases g : (hi < 0) ≠ (n < 0)
      · rw [decide_eq_true g, if_neg (fun h => g h.1)]; rfl
      · rw [decide_eq_false g]
        have g' : (hi < 0) = (n < 0) := Classical.byContradiction g
        simp only [Bool.not_false, cond_true]
        by_cases g2 : A / B = 170141183460469231731687303715884105728
        · rw [if_pos ⟨g', g2⟩, decide_eq_true (by unfold W; omega)]; rfl
        · rw [if_neg (fun h => g2 h.2), decide_eq_false (by unfold W; omega)]; rfl
    rw [m3]
    by_cases g : (hi < 0) = (n < 0) ∧ A / B = 170141183460469231731687303715884105728
    · rw [if_pos g]
      have : ¬ Cell ((S lo hi).fdiv n) := by rw [e1, if_neg (by simp [g.1]), eq, if_neg (by simp [g.1]), g.2]; unfold Cell; omega
      rw [if_neg this]; rfl
    · rw [if_neg g]
      have hv : -170141183460469231731687303715884105728 ≤ (S lo hi).tdiv n ∧ (S lo hi).tdiv n < 170141183460469231731687303715884105728 := by
        rw [eq]
        by_cases g' : (hi < 0) ≠ (n < 0)
        · rw [if_pos g']; omega
        · rw [if_neg g']
          have g'' : (hi < 0) = (n < 0) := Classical.byContradiction g'
          have : A / B ≠ 170141183460469231731687303715884105728 := fun h => g ⟨g'', h⟩
          omega
      have m4 : ref_Floor_M4 (decide ((hi < 0) ≠ (n < 0))) (W (A / B)) (W (A / B / 18446744073709551616)) = some (Pd ((S lo hi).tdiv n)) := by
        unfold ref_Floor_M4 ref_Floor_M4_t
        rw [rNeg, eq]
        by_cases g : (hi < 0) ≠ (n < 0)
        · rw [decide_eq_true g, if_pos g]; rfl
        · rw [decide_eq_false g, if_neg g]; rfl
      have hrc : Cell ((S lo hi).tmod n) := by unfold Cell at *; omega
      have m5 : ref_Floor_M5 (W (A % B)) hi = some ((S lo hi).tmod n) := by
        unfold ref_Floor_M5 ref_Floor_M5_t
        rw [er, wi]
        by_cases g1 : hi < 0
        · rw [decide_eq_true g1, if_pos g1, show W (0 - W (A % B)) = -(A % B) from by unfold W; omega]; rfl
        · rw [decide_eq_false g1, if_neg g1, show W (A % B) = A % B from by unfold W; omega]; rfl
      have m6 : ref_Floor_M6 ((S lo hi).tmod n) (decide ((hi < 0) ≠ (n < 0))) = some (decide ((S lo hi).tmod n ≠ 0 ∧ ((hi < 0) ≠ (n < 0)))) := by
        unfold ref_Floor_M6 ref_Floor_M6_t
        by_cases g : (hi < 0) ≠ (n < 0)
        · rw [decide_eq_true g]
          by_cases g2 : (S lo hi).tmod n = 0
          · simp [g2]
          · simp [g2, g]
        · rw [decide_eq_false g, decide_eq_false (fun h => g h.2)]; rfl
      have m7 : ref_Floor_M7 n ((S lo hi).tmod n) (decide ((hi < 0) ≠ (n < 0))) (W ((S lo hi).tdiv n)) (W ((S lo hi).tdiv n / 18446744073709551616)) = some ((S lo hi).fmod n, Pd ((S lo hi).fdiv n)) := by
        unfold ref_Floor_M7 ref_Floor_M7_t
        rw [m6]
        simp only [outOf_some]
        by_cases gg : (S lo hi).tmod n ≠ 0 ∧ ((hi < 0) ≠ (n < 0))
        · have ha := rAdd ((S lo hi).tdiv n) (-1)
          rw [show W (-1) = -1 from by decide, show W (-1 / 18446744073709551616) = -1 from by decide] at ha
          rw [decide_eq_true gg, e1, e2, if_pos gg, if_pos gg, wi]
          simp only [cond_true, ha, outOf_some]
          rw [W_of (by
            obtain ⟨ga, gb⟩ := gg
            by_cases g1 : hi < 0
            · have g2 : ¬ n < 0 := fun h => gb (by simp [g1, h])
              have := t3 (hSs.2 g1)
              unfold Cell at *
              omega
            · have g2 : n < 0 := Classical.byContradiction fun h => gb (by simp [g1, h])
              have := t2 (by omega)
              unfold Cell at *
              omega)]
          rfl
        · rw [decide_eq_false gg, e1, e2, if_neg gg, if_neg gg]; rfl
      simp only [outOf_some, sumOf_inr, m4, m5, Pd_1, Pd_2, m7, rOf (W_cell _)]
      have hf := of_fits (v := (S lo hi).fdiv n) (by rw [e1]; split <;> omega)
      simp only [Pd_1, Pd_2] at hf
      rw [hf]
      by_cases c : Cell ((S lo hi).fdiv n)
      · rw [decide_eq_true c, if_pos c, W_of c]; rfl
      · rw [decide_eq_false c, if_neg c]; rfl
theorem rScale {a b c : Int} (ha : Cell a) (hb : Cell b) (hc : Cell c) : ref_Scale a b c = some (if c = 0 then (0, 0, -10) else if Cell ((a * b).fdiv c) then ((a * b).fmod c, (a * b).fdiv c, 0) else (0, 0, -11)) := by
  unfold ref_Scale ref_Scale_t
  rw [rMul ha hb]
  simp only [outOf_some]
  rw [rFloor (show Cell (Pd _).fst from W_cell _) (show Cell (Pd _).snd from W_cell _) hc, S_of (mul_range ha hb)]
  rfl
end Go.Proofs.Dbl
