/- Plain facts about the document's doubles: digit of two by digit of two. -/
import Derived.Test.YtfmdhcialeddaaaDoorNuP
import Derived.Test.YtfmdhcialeddaaaDoorNuXG
namespace Go.Proofs.Dbl
open Go Go.TX Go.Proofs
set_option maxRecDepth 100000
set_option maxHeartbeats 0
set_option linter.unusedVariables false
set_option linter.unusedSimpArgs false
def D (lo hi : Int) : Int := lo % 18446744073709551616 + 18446744073709551616 * (hi % 18446744073709551616)
theorem D_range (lo hi : Int) : 0 ≤ D lo hi ∧ D lo hi < 340282366920938463463374607431768211456 := by unfold D; omega
theorem D_Pd {v : Int} (h0 : 0 ≤ v) (h1 : v < 340282366920938463463374607431768211456) : D (W v) (W (v / 18446744073709551616)) = v := by
  unfold D W; omega
theorem p64 : (2:Int) ^ 64 = 18446744073709551616 := by decide
theorem bit_lo (lo hi : Int) (n : Nat) (hn : n < 64) : (lo % 18446744073709551616 / 2 ^ n) % 2 = (D lo hi / 2 ^ n) % 2 := by
  unfold D
  have hp : (0:Int) < 2 ^ n := Int.pow_pos (by decide)
  have e : (18446744073709551616 : Int) = 2 ^ n * (2 * 2 ^ (63 - n)) := by
    rw [← p64, show (64:Nat) = n + (1 + (63 - n)) from by omega, Int.pow_add, Int.pow_add]; rfl
  generalize hl : lo % 18446744073709551616 = l
  generalize hh : hi % 18446744073709551616 = h
  rw [e, Int.mul_assoc, Int.add_mul_ediv_left _ _ (by omega), Int.mul_assoc]
  omega
theorem bit_hi (lo hi : Int) (n : Nat) (hn : 64 ≤ n) : hi % 18446744073709551616 / 2 ^ (n - 64) = D lo hi / 2 ^ n := by
  unfold D
  have e : (2:Int) ^ n = 18446744073709551616 * 2 ^ (n - 64) := by
    rw [← p64, ← Int.pow_add, show 64 + (n - 64) = n from by omega]
  rw [e, ← Int.ediv_ediv_of_nonneg (by decide)]
  have : (lo % 18446744073709551616 + 18446744073709551616 * (hi % 18446744073709551616)) / 18446744073709551616 = hi % 18446744073709551616 := by omega
  rw [this]
theorem and1 {n : Int} (h1 : 0 ≤ n) (h2 : n < 18446744073709551616) : ibits .and .u64 n 1 = n % 2 := and_u64 h1 h2 1 (by decide) (by decide)
theorem two_pos (n : Nat) : (0 : Int) < 2 ^ n := Int.pow_pos (by decide)
theorem div_step (X : Int) (i : Nat) : X / 2 ^ (i + 1) = X / 2 ^ i / 2 := by
  rw [Int.ediv_ediv_of_nonneg (Int.le_of_lt (two_pos i)), Int.pow_succ]
theorem div_bit (X : Int) (i : Nat) : X / 2 ^ i = 2 * (X / 2 ^ (i + 1)) + X / 2 ^ i % 2 := by
  rw [div_step]; omega
theorem mod_bit (X : Int) (i : Nat) : X % 2 ^ (i + 1) = X % 2 ^ i + 2 ^ i * (X / 2 ^ i % 2) := by
  have h1 := Int.mul_ediv_add_emod X (2 ^ (i + 1))
  have h2 := Int.mul_ediv_add_emod X (2 ^ i)
  have h3 := div_bit X i
  have e : (2 : Int) ^ (i + 1) = 2 ^ i * 2 := Int.pow_succ _ _
  generalize X / 2 ^ (i + 1) = q' at *
  generalize hb : X / 2 ^ i % 2 = b at *
  rw [h3, Int.mul_add] at h2
  rw [e, Int.mul_assoc] at h1
  rw [e]
  generalize X % (2 ^ i * 2) = r at *
  generalize X % 2 ^ i = r' at *
  generalize (2 : Int) ^ i * (2 * q') = t at *
  omega
theorem Bit_eq (a : Int) (i : Nat) (hi : i ≤ 63) : ref_Bit a (i : Int) = some (a % 18446744073709551616 / 2 ^ i % 2) := by
  unfold ref_Bit ref_Bit_t
  rw [decide_eq_false (by omega), decide_eq_false (by omega), wu, wu, wi, decide_eq_false (by omega)]
  simp only [cond_false]
  have e : min (Int.toNat ((i : Int) % 18446744073709551616)) 64 = i := by omega
  have h0 : 0 ≤ a % 18446744073709551616 := by omega
  have h1 : a % 18446744073709551616 / 2 ^ i < 18446744073709551616 := Int.lt_of_le_of_lt (Int.ediv_le_self _ h0) (by omega)
  rw [e, Int.fdiv_eq_ediv_of_nonneg _ (Int.le_of_lt (two_pos i)), and1 (Int.ediv_nonneg h0 (Int.le_of_lt (two_pos i))) h1]
  exact congrArg some (W_of (by unfold Cell; omega))
theorem and1_i64 {b : Int} (h : b = 0 ∨ b = 1) : ibits .and .i64 b 1 = b := by
  rcases h with rfl | rfl <;> (rw [ibits_def]; decide)
/-- The digits of two of a number. -/
def bitL (x : Int) (n : Nat) : List Int := (List.range n).map fun i => x / 2 ^ i % 2
theorem bitL_len (x : Int) (n : Nat) : (bitL x n).length = n := by simp [bitL]
theorem bitL_succ (x : Int) (n : Nat) : bitL x (n + 1) = bitL x n ++ [x / 2 ^ n % 2] := by simp [bitL, List.range_succ]
theorem bitL_get (x : Int) {n i : Nat} (h : i < n) : (bitL x n).getD i 0 = x / 2 ^ i % 2 := by
  simp [bitL, List.getD_eq_getElem?_getD, h]
theorem bitL_01 {x : Int} {n : Nat} : ∀ b ∈ bitL x n, b = 0 ∨ b = 1 := fun b hb => by
  simp only [bitL, List.mem_map] at hb
  obtain ⟨i, _, rfl⟩ := hb
  omega
theorem bitL_take (x : Int) {n m : Nat} (h : m ≤ n) : (bitL x n).take m = bitL x m := by
  simp only [bitL, ← List.map_take, List.take_range, Nat.min_eq_left h]
theorem bitL_drop (x : Int) (n m : Nat) : (bitL x (m + n)).drop m = bitL (x / 2 ^ m) n := by
  simp only [bitL]
  rw [← List.map_drop]
  apply List.ext_getElem
  · simp
  · intro i h1 h2
    simp only [List.getElem_map, List.getElem_drop, List.getElem_range]
    rw [Int.ediv_ediv_of_nonneg (Int.le_of_lt (two_pos m)), ← Int.pow_add]
theorem bits_L1 (lo hi : Int) : ref_bits_L1 (0, 0, lo, hi, []) = some (64, lo, hi, bitL (lo % 18446744073709551616) 64) := by
  refine runs_all (fun i => (i, (i : Int), lo, hi, bitL (lo % 18446744073709551616) i)) 64 (fun i h => ?_) ?_
  · unfold ref_bits_L1_pass ref_bits_L1_t
    simp only [List.drop_zero]
    rw [decide_eq_true (by omega), Bit_eq lo i (by omega), List.take_of_length_le (by rw [bitL_len]; omega)]
    simp only [cond_true, outOf_some, List.length_singleton]
    rw [decide_eq_true (by omega), wi, show W ((i : Int) + 1) = ((i + 1 : Nat) : Int) from by unfold W; omega, bitL_succ]
    rfl
  · unfold ref_bits_L1_pass ref_bits_L1_t
    rfl
theorem bits_L2 (lo hi : Int) : ref_bits_L2 (64, 0, lo, hi, bitL (D lo hi) 64) = some (128, bitL (D lo hi) 128) := by
  refine runs_all (fun i => (64 + i, (i : Int), lo, hi, bitL (D lo hi) (64 + i))) 64 (fun i h => ?_) ?_
  · unfold ref_bits_L2_pass ref_bits_L2_t
    simp only [List.drop_zero]
    rw [decide_eq_true (by omega), Bit_eq hi i (by omega), List.take_of_length_le (by rw [bitL_len]; omega)]
    simp only [cond_true, outOf_some, List.length_singleton]
    rw [decide_eq_true (by omega), wi, show W ((i : Int) + 1) = ((i + 1 : Nat) : Int) from by unfold W; omega, ← Nat.add_assoc, bitL_succ]
    have := bit_hi lo hi (64 + i) (by omega)
    rw [show 64 + i - 64 = i from by omega] at this
    rw [this]
    rfl
  · unfold ref_bits_L2_pass ref_bits_L2_t
    rfl
theorem bitL_lo (lo hi : Int) : bitL (lo % 18446744073709551616) 64 = bitL (D lo hi) 64 := by
  unfold bitL
  apply List.map_congr_left
  intro i hi'
  exact bit_lo lo hi i (List.mem_range.1 hi')
theorem bits_eq (lo hi : Int) : ref_bits lo hi = some (bitL (D lo hi) 128) := by
  unfold ref_bits ref_bits_t
  rw [bits_L1]
  simp only [outOf_some]
  rw [bitL_lo lo hi, bits_L2]
  simp only [outOf_some, List.drop_zero]
  rw [List.take_of_length_le (by rw [bitL_len]; omega)]
def valL : List Int → Int
  | [] => 0
  | b :: l => b + 2 * valL l
theorem valL_bitL : ∀ (n : Nat) (x : Int), valL (bitL x n) = x % 2 ^ n
  | 0, x => by simp [bitL, valL, Int.emod_one]
  | n + 1, x => by
    have h : bitL x (n + 1) = (x % 2) :: bitL (x / 2) n := by
      have := bitL_drop x n 1
      rw [Nat.add_comm] at this
      have hl := bitL_len x (n + 1)
      cases hb : bitL x (n + 1) with
      | nil => rw [hb] at hl; simp at hl
      | cons a l =>
        rw [hb] at this
        have h0 := bitL_get x (n := n + 1) (i := 0) (by omega)
        rw [hb] at h0
        simp at this h0
        rw [this, h0]
    rw [h]
    show x % 2 + 2 * valL (bitL (x / 2) n) = _
    rw [valL_bitL n]
    have h1 := Int.mul_ediv_add_emod (x / 2) (2 ^ n)
    have h2 := Int.mul_ediv_add_emod x (2 ^ (n + 1))
    have h3 : x / 2 ^ (n + 1) = x / 2 / 2 ^ n := by rw [Int.ediv_ediv_of_nonneg (by decide), Int.pow_succ, Int.mul_comm]
    have e : (2 : Int) ^ (n + 1) = 2 * 2 ^ n := by rw [Int.pow_succ, Int.mul_comm]
    rw [h3] at h2
    generalize x / 2 / 2 ^ n = q at *
    have e2 : (2 : Int) ^ (n + 1) * q = 2 * (2 ^ n * q) := by rw [e, Int.mul_assoc]
    omega
theorem Make_L1 (l : List Int) (hl : l.length = 64) (h01 : ∀ b ∈ l, b = 0 ∨ b = 1) : ref_Make_L1 (l, 0, 63) = some (valL l % 18446744073709551616) := by
  have := runs_all (pass := ref_Make_L1_pass) (fun j => (l, valL (l.drop (64 - j)) % 18446744073709551616, (63 : Int) - j)) 64 (x := valL l % 18446744073709551616) (fun j h => ?_) ?_
  · rw [show 64 - 0 = 64 from rfl, List.drop_of_length_le (by omega)] at this
    exact this
  · unfold ref_Make_L1_pass ref_Make_L1_t
    simp only
    rw [decide_eq_true (by omega), decide_eq_true (by rw [hl]; omega)]
    simp only [cond_true]
    have e1 : (63 - (j : Int)).toNat = 63 - j := by omega
    have hlt : 63 - j < l.length := by omega
    have e2 : l.getD (63 - j) 0 = l[63 - j] := by simp [List.getD_eq_getElem?_getD, hlt]
    have hb := h01 l[63 - j] (List.getElem_mem hlt)
    have e3 : l.drop (64 - (j + 1)) = l[63 - j] :: l.drop (64 - j) := by
      rw [show 64 - (j + 1) = 63 - j from by omega, List.drop_eq_getElem_cons hlt, show 63 - j + 1 = 64 - j from by omega]
    rw [e1, e2, and1_i64 hb, e3]
    simp only [wi, wu, valL]
    have e4 : W (63 - (j : Int) - 1) = 63 - ((j + 1 : Nat) : Int) := by unfold W; omega
    rw [e4]
    generalize valL (l.drop (64 - j)) = v
    generalize l[63 - j] = b at *
    rw [show (v % 18446744073709551616 * 2 % 18446744073709551616 + b % 18446744073709551616) % 18446744073709551616 = (b + 2 * v) % 18446744073709551616 from by omega]
  · unfold ref_Make_L1_pass ref_Make_L1_t
    simp only
    rw [decide_eq_false (by omega)]
    rfl
theorem Make_eq (l : List Int) (hl : l.length = 64) (h01 : ∀ b ∈ l, b = 0 ∨ b = 1) : ref_Make l = some (W (valL l)) := by
  unfold ref_Make ref_Make_t
  rw [hl]
  have e : IntKind.wrap .i64 ((if (64 : Int) < ((64 : Nat) : Int) then (64 : Int) else ((64 : Nat) : Int)) - 1) = 63 := by decide
  rw [e, Make_L1 l hl h01]
  simp only [outOf_some, wi, W_mod]
theorem make2_eq (x : Int) : ref_make2 (bitL x 128) = some (Pd x) := by
  unfold ref_make2 ref_make2_t
  rw [bitL_len, decide_eq_true (by decide), decide_eq_true (by decide), List.drop_zero, bitL_take x (by omega), show (128 : Nat) = 64 + 64 from rfl, bitL_drop x 64 64,
    List.take_of_length_le (by rw [bitL_len]; omega)]
  simp only [cond_true]
  rw [Make_eq _ (bitL_len _ _) bitL_01, Make_eq _ (bitL_len _ _) bitL_01]
  simp only [outOf_some, valL_bitL, p64, W_mod]
  rfl
end Go.Proofs.Dbl

/- Plain facts about the document's doubles: sums, and what is below what. -/
namespace Go.Proofs.Dbl
open Go Go.TX Go.Proofs
set_option maxRecDepth 100000
set_option maxHeartbeats 0
set_option linter.unusedVariables false
set_option linter.unusedSimpArgs false
/-- What is carried into digit i. -/
def carry (X Y : Int) (i : Nat) : Int := (X % 2 ^ i + Y % 2 ^ i) / 2 ^ i
theorem carry_step (X Y : Int) (i : Nat) : carry X Y (i + 1) = (X / 2 ^ i % 2 + Y / 2 ^ i % 2 + carry X Y i) / 2 := by
  unfold carry
  rw [mod_bit X i, mod_bit Y i, Int.pow_succ, ← Int.ediv_ediv_of_nonneg (Int.le_of_lt (two_pos i))]
  have : X % 2 ^ i + 2 ^ i * (X / 2 ^ i % 2) + (Y % 2 ^ i + 2 ^ i * (Y / 2 ^ i % 2)) = (X % 2 ^ i + Y % 2 ^ i) + 2 ^ i * (X / 2 ^ i % 2 + Y / 2 ^ i % 2) := by
    rw [Int.mul_add]; omega
  rw [this, Int.add_mul_ediv_left _ _ (by have := two_pos i; omega)]
  congr 1
  omega
theorem sum_bit (X Y : Int) (i : Nat) : (X + Y) / 2 ^ i % 2 = (X / 2 ^ i % 2 + Y / 2 ^ i % 2 + carry X Y i) % 2 := by
  have h1 := Int.mul_ediv_add_emod X (2 ^ i)
  have h2 := Int.mul_ediv_add_emod Y (2 ^ i)
  have : X + Y = (X % 2 ^ i + Y % 2 ^ i) + 2 ^ i * (X / 2 ^ i + Y / 2 ^ i) := by rw [Int.mul_add]; omega
  rw [this, Int.add_mul_ediv_left _ _ (by have := two_pos i; omega)]
  unfold carry
  omega
theorem carry_01 (X Y : Int) (i : Nat) : carry X Y i = 0 ∨ carry X Y i = 1 := by
  unfold carry
  have h0 := two_pos i
  have a0 := Int.emod_nonneg X (b := 2 ^ i) (by omega)
  have a1 := Int.emod_lt_of_pos X h0
  have b0 := Int.emod_nonneg Y (b := 2 ^ i) (by omega)
  have b1 := Int.emod_lt_of_pos Y h0
  have h1 : 0 ≤ (X % 2 ^ i + Y % 2 ^ i) / 2 ^ i := Int.ediv_nonneg (by omega) (by omega)
  have h2 : (X % 2 ^ i + Y % 2 ^ i) / 2 ^ i < 2 := Int.ediv_lt_of_lt_mul h0 (by omega)
  omega
theorem set_next (x : Int) {i n : Nat} (h : i < n) (v : Int) : (bitL x i ++ List.replicate (n - i) 0).set i v = bitL x i ++ v :: List.replicate (n - (i + 1)) 0 := by
  rw [List.set_append_right _ _ (by rw [bitL_len]; omega), bitL_len, Nat.sub_self]
  rw [show n - i = (n - (i + 1)) + 1 from by omega, List.replicate_succ]
  rfl
theorem Add_L1 (X Y : Int) : ref_Add_L1 (bitL X 128, bitL Y 128, 128, 0, 0, 0, 0, List.replicate 128 0) = some (128, 0, 0, bitL (X + Y) 128) := by
  have := runs_all (pass := ref_Add_L1_pass) (fun i => (bitL X 128, bitL Y 128, 128, carry X Y i, (i : Int), 0, 0, bitL (X + Y) i ++ List.replicate (128 - i) 0)) 128 (x := (128, 0, 0, bitL (X + Y) 128)) (fun i h => ?_) ?_
  · have e : carry X Y 0 = 0 := by unfold carry; simp [Int.emod_one]
    simp only [e] at this
    exact this
  · unfold ref_Add_L1_pass ref_Add_L1_t
    simp only [bitL_len, wi, Nat.zero_add]
    rw [decide_eq_true (by omega), decide_eq_true (by omega)]
    simp only [cond_true, Int.toNat_natCast]
    rw [bitL_get X (by omega), bitL_get Y (by omega), set_next (X + Y) h, bitL_succ (X + Y) i, List.append_assoc]
    have hc := carry_01 X Y i
    have e0 : W (X / 2 ^ i % 2 + Y / 2 ^ i % 2) = X / 2 ^ i % 2 + Y / 2 ^ i % 2 := W_of (by unfold Cell; omega)
    have e1 : W (X / 2 ^ i % 2 + Y / 2 ^ i % 2 + carry X Y i) = X / 2 ^ i % 2 + Y / 2 ^ i % 2 + carry X Y i := W_of (by unfold Cell; omega)
    rw [e0, e1, Int.tdiv_eq_ediv_of_nonneg (by omega), Int.tmod_eq_emod_of_nonneg (by omega), ← sum_bit, ← carry_step, show W ((i : Int) + 1) = ((i + 1 : Nat) : Int) from by unfold W; omega]
    rw [W_of (by have := carry_01 X Y (i + 1); unfold Cell; omega)]
    rfl
  · unfold ref_Add_L1_pass ref_Add_L1_t
    simp only [Nat.sub_self, List.replicate_zero, List.append_nil]
    rfl
theorem rAdd_D (a b c d : Int) : ref_Add a b c d = some (Pd (D a b + D c d)) := by
  unfold ref_Add ref_Add_t
  rw [bits_eq, bits_eq]
  simp only [outOf_some]
  rw [Add_L1]
  simp only [outOf_some, List.drop_zero]
  rw [List.take_of_length_le (by rw [bitL_len]; omega), make2_eq]
  rfl
theorem rAdd (v w : Int) : ref_Add (W v) (W (v / 18446744073709551616)) (W w) (W (w / 18446744073709551616)) = some (Pd (v + w)) := by
  rw [rAdd_D]
  refine congrArg some (Pd_eq.2 ?_)
  unfold D W; omega
theorem rNeg (v : Int) : ref_Neg (W v) (W (v / 18446744073709551616)) = some (Pd (-v)) := by
  unfold ref_Neg ref_Neg_t
  have h := rAdd (-1 - v) 1
  rw [show W 1 = 1 from by decide, show W (1 / 18446744073709551616) = 0 from by decide] at h
  rw [wi, wi, show W (-1 - W v) = W (-1 - v) from by unfold W; omega, show W (-1 - W (v / 18446744073709551616)) = W ((-1 - v) / 18446744073709551616) from by unfold W; omega, h]
  show some _ = some _
  rw [show -1 - v + 1 = -v from by omega]
theorem rTwice (v : Int) : ref_twice (W v) (W (v / 18446744073709551616)) = some (Pd (2 * v)) := by
  unfold ref_twice ref_twice_t
  rw [rAdd]
  show some _ = some _
  rw [show v + v = 2 * v from by omega]
theorem Ult_L1 (a b : Int) : ∀ (n : Nat), n ≤ 64 → a % 18446744073709551616 / 2 ^ n = b % 18446744073709551616 / 2 ^ n →
    ∃ r, ref_Ult_L1 (a, b, (n : Int) - 1) = some r ∧ sumOf r (fun x => x) (fun _ => false) = decide (a % 18446744073709551616 < b % 18446744073709551616)
  | 0, _, h => by
    refine ⟨.inr (), runs_out ?_, ?_⟩
    · unfold ref_Ult_L1_pass ref_Ult_L1_t
      rfl
    · simp at h
      simp [h]
  | n + 1, hn, h => by
    have e : ((n + 1 : Nat) : Int) - 1 = (n : Int) := by omega
    have hp : ref_Ult_L1_pass (a, b, ((n + 1 : Nat) : Int) - 1) = if a % 18446744073709551616 / 2 ^ n % 2 ≠ b % 18446744073709551616 / 2 ^ n % 2 then some (.inr (.inl (b % 18446744073709551616 / 2 ^ n % 2 == 1))) else some (.inl (a, b, (n : Int) - 1)) := by
      rw [e]
      unfold ref_Ult_L1_pass ref_Ult_L1_t
      simp only
      rw [decide_eq_true (by omega), Bit_eq a n (by omega), Bit_eq b n (by omega), wi, show W ((n : Int) - 1) = (n : Int) - 1 from by unfold W; omega]
      by_cases g : a % 18446744073709551616 / 2 ^ n % 2 = b % 18446744073709551616 / 2 ^ n % 2
      · rw [if_neg (by simpa using g)]; simp [g]
      · rw [if_pos g]
        simp only [cond_true, outOf_some]
        rw [show (a % 18446744073709551616 / 2 ^ n % 2 != b % 18446744073709551616 / 2 ^ n % 2) = true from by simpa using g]
        rfl
    by_cases g : a % 18446744073709551616 / 2 ^ n % 2 = b % 18446744073709551616 / 2 ^ n % 2
    · rw [if_neg (by simpa using g)] at hp
      have h' : a % 18446744073709551616 / 2 ^ n = b % 18446744073709551616 / 2 ^ n := by
        have h1 := div_bit (a % 18446744073709551616) n
        have h2 := div_bit (b % 18446744073709551616) n
        rw [h] at h1
        omega
      obtain ⟨r, h1, h2⟩ := Ult_L1 a b n (by omega) h'
      exact ⟨r, (runs_next hp).trans h1, h2⟩
    · rw [if_pos g] at hp
      refine ⟨_, runs_out hp, ?_⟩
      show (b % 18446744073709551616 / 2 ^ n % 2 == 1) = _
      have h1 := div_bit (a % 18446744073709551616) n
      have h2 := div_bit (b % 18446744073709551616) n
      rw [h] at h1
      have mono : ∀ x y : Int, x / 2 ^ n < y / 2 ^ n → x < y := fun x y hxy => Classical.byContradiction fun hc => by
        have := Int.ediv_le_ediv (two_pos n) (show y ≤ x by omega)
        omega
      by_cases g1 : b % 18446744073709551616 / 2 ^ n % 2 = 1
      · rw [g1, decide_eq_true (mono _ _ (by omega))]; rfl
      · rw [beq_eq_false_iff_ne.2 g1, decide_eq_false (by
          have := mono (b % 18446744073709551616) (a % 18446744073709551616) (by omega)
          omega)]
theorem rUlt (a b : Int) : ref_Ult a b = some (decide (a % 18446744073709551616 < b % 18446744073709551616)) := by
  unfold ref_Ult ref_Ult_t
  have z : ∀ x : Int, x % 18446744073709551616 / 2 ^ 64 = 0 := fun x => by rw [p64]; omega
  obtain ⟨r, h1, h2⟩ := Ult_L1 a b 64 (by omega) (by rw [z, z])
  rw [show (63 : Int) = ((64 : Nat) : Int) - 1 from by omega, h1, ← h2]
  cases r <;> rfl
theorem rLess (a b c d : Int) (h2 : Cell b) (h4 : Cell d) : ref_less a b c d = some (decide (D a b < D c d)) := by
  unfold ref_less ref_less_t
  rw [rUlt, rUlt]
  simp only [outOf_some]
  unfold Cell at *
  by_cases g1 : b % 18446744073709551616 < d % 18446744073709551616
  · rw [decide_eq_true g1, show decide (D a b < D c d) = true from decide_eq_true (by unfold D; omega)]; rfl
  · rw [decide_eq_false g1]
    by_cases g2 : b = d
    · subst g2
      rw [beq_self_eq_true]
      simp only [cond_true, cond_false, outOf_some]
      congr 1
      rw [decide_eq_decide]
      unfold D; omega
    · rw [beq_eq_false_iff_ne.2 g2, show decide (D a b < D c d) = false from decide_eq_false (by unfold D; omega)]; rfl
end Go.Proofs.Dbl

/- Plain facts about the document's doubles: products and quotients. -/
namespace Go.Proofs.Dbl
open Go Go.TX Go.Proofs
set_option maxRecDepth 100000
set_option maxHeartbeats 0
set_option linter.unusedVariables false
set_option linter.unusedSimpArgs false
theorem step_div {X B b : Int} (hB : 0 < B) (hX : 0 ≤ X) (hb : b = 0 ∨ b = 1) :
    (2 * (X % B) + b ≥ B → (2 * X + b) % B = 2 * (X % B) + b - B ∧ (2 * X + b) / B = 2 * (X / B) + 1) ∧
    (2 * (X % B) + b < B → (2 * X + b) % B = 2 * (X % B) + b ∧ (2 * X + b) / B = 2 * (X / B)) := by
  have h1 := Int.emod_nonneg X (b := B) (by omega)
  have h2 := Int.emod_lt_of_pos X hB
  have e : X = B * (X / B) + X % B := (Int.mul_ediv_add_emod X B).symm
  generalize hr : X % B = r at *
  generalize hq : X / B = q at *
  have u : ∀ {y k : Int}, 2 * X + b = y + B * k → 0 ≤ y → y < B → (2 * X + b) % B = y ∧ (2 * X + b) / B = k := by
    intro y k hy h3 h4
    rw [hy]
    exact ⟨by rw [Int.add_mul_emod_self_left, Int.emod_eq_of_lt h3 h4], by rw [Int.add_mul_ediv_left _ _ (by omega), Int.ediv_eq_zero_of_lt h3 h4, Int.zero_add]⟩
  have e2 : B * (2 * q + 1) = 2 * (B * q) + B := by rw [Int.mul_add, Int.mul_left_comm]; omega
  have e3 : B * (2 * q) = 2 * (B * q) := Int.mul_left_comm _ _ _
  constructor
  · intro h
    exact u (by omega) (by omega) (by omega)
  · intro h
    exact u (by omega) (by omega) (by omega)
theorem UMod_q {lo hi B : Int} (hB : 0 < B) (h : hi % 18446744073709551616 < B) : 0 ≤ D lo hi / B ∧ D lo hi / B < 18446744073709551616 := by
  have hD := (D_range lo hi).1
  refine ⟨Int.ediv_nonneg hD (by omega), Int.ediv_lt_of_lt_mul hB ?_⟩
  unfold D; omega
theorem Pd_1 (v : Int) : (Pd v).1 = W v := rfl
theorem Pd_2 (v : Int) : (Pd v).2 = W (v / 18446744073709551616) := rfl
theorem low_0 (a : Int) : W (a % 18446744073709551616) = W a ∧ W (a % 18446744073709551616 / 18446744073709551616) = 0 := by unfold W; omega
theorem D_low (u : Int) : D u 0 = u % 18446744073709551616 := by unfold D; omega
theorem set_at (x' : List Int) {i n : Nat} (h : i < n) : (List.replicate (i + 1) (0 : Int) ++ x' ).set i 1 = List.replicate i 0 ++ 1 :: x' := by
  rw [List.replicate_succ', List.append_assoc, List.set_append_right _ _ (by simp)]
  simp
theorem bitL_from (Q : Int) {i : Nat} (h : i < 128) : (bitL Q 128).drop i = (Q / 2 ^ i % 2) :: (bitL Q 128).drop (i + 1) := by
  have hl : i < (bitL Q 128).length := by rw [bitL_len]; exact h
  rw [List.drop_eq_getElem_cons hl]
  congr 1
  have := bitL_get Q h
  simp only [List.getD_eq_getElem?_getD, List.getElem?_eq_getElem hl, Option.getD_some] at this
  exact this
theorem divide_L1 {lo hi u : Int} (hu : Cell u) (h0 : u % 18446744073709551616 ≠ 0) :
    ref_divide_L1 (bitL (D lo hi) 128, 128, 127, 0, 0, 0, 0, List.replicate 128 0, u, 0) =
      some (128, 0, 0, (Pd (D lo hi % (u % 18446744073709551616))).1, (Pd (D lo hi % (u % 18446744073709551616))).2, bitL (D lo hi / (u % 18446744073709551616)) 128) := by
  have hB : 0 < u % 18446744073709551616 := by omega
  have hB' : u % 18446744073709551616 < 18446744073709551616 := by omega
  have hDr := D_range lo hi
  have eu : W (u % 18446744073709551616) = u ∧ W (u % 18446744073709551616 / 18446744073709551616) = 0 := ⟨(low_0 u).1.trans (W_of hu), (low_0 u).2⟩
  generalize hBu : u % 18446744073709551616 = B at *
  have := runs_all (pass := ref_divide_L1_pass) (fun j => (bitL (D lo hi) 128, 128, (127 : Int) - j, 0, 0, (Pd (D lo hi / 2 ^ (128 - j) % B)).1, (Pd (D lo hi / 2 ^ (128 - j) % B)).2, List.replicate (128 - j) 0 ++ (bitL (D lo hi / B) 128).drop (128 - j), u, 0)) 128
    (x := (128, 0, 0, (Pd (D lo hi % B)).1, (Pd (D lo hi % B)).2, bitL (D lo hi / B) 128)) (fun j h => ?_) ?_
  · have z : D lo hi / 2 ^ (128 - 0) = 0 := by rw [Nat.sub_zero, show (2 : Int) ^ 128 = 340282366920938463463374607431768211456 from by decide]; omega
    rw [z, Int.zero_emod, List.drop_of_length_le (by rw [bitL_len]; omega), List.append_nil] at this
    exact this
  · unfold ref_divide_L1_pass ref_divide_L1_t
    simp only [Pd_1, Pd_2, bitL_len]
    have e : (127 : Int) - j = ((127 - j : Nat) : Int) := by omega
    rw [decide_eq_true (by omega), decide_eq_true (by omega), rTwice, e, wi, show W (((127 - j : Nat) : Int) - 1) = 127 - ((j + 1 : Nat) : Int) from by unfold W; omega]
    simp only [cond_true, outOf_some, Int.toNat_natCast, Pd_1, Pd_2, Nat.zero_add]
    have hlt : 127 - j < 128 := by omega
    rw [bitL_get _ hlt]
    have hd := div_bit (D lo hi) (127 - j)
    rw [show 127 - j + 1 = 128 - j from by omega] at hd
    have hX0 : 0 ≤ D lo hi / 2 ^ (128 - j) := Int.ediv_nonneg hDr.1 (Int.le_of_lt (two_pos _))
    have hqX : D lo hi / B / 2 ^ (127 - j) = D lo hi / 2 ^ (127 - j) / B := by
      rw [Int.ediv_ediv_of_nonneg (by omega), Int.ediv_ediv_of_nonneg (Int.le_of_lt (two_pos _)), Int.mul_comm]
    have hdrop : (bitL (D lo hi / B) 128).drop (127 - j) = (D lo hi / 2 ^ (127 - j) / B % 2) :: (bitL (D lo hi / B) 128).drop (128 - j) := by
      have := bitL_from (D lo hi / B) hlt
      rw [hqX, show 127 - j + 1 = 128 - j from by omega] at this
      exact this
    rw [show 128 - (j + 1) = 127 - j from by omega, hdrop, show 128 - j = (127 - j) + 1 from by omega, set_at _ hlt]
    rw [show 127 - j + 1 = 128 - j from by omega]
    generalize hX : D lo hi / 2 ^ (128 - j) = X at *
    generalize hY : D lo hi / 2 ^ (127 - j) = Y at *
    generalize (bitL (D lo hi / B) 128).drop (128 - j) = tl
    generalize hb : Y % 2 = b at *
    have hb01 : b = 0 ∨ b = 1 := by omega
    obtain ⟨s1, s2⟩ := step_div hB hX0 hb01
    have hR0 := Int.emod_nonneg X (b := B) (by omega)
    have hR1 := Int.emod_lt_of_pos X hB
    have hadd := rAdd (2 * (X % B)) b
    rw [show W b = b from W_of (by unfold Cell; omega), show W (b / 18446744073709551616) = 0 from by unfold W; omega] at hadd
    rw [hadd]
    simp only [outOf_some, Pd_1, Pd_2]
    rw [rLess _ _ _ _ (W_cell _) (by unfold Cell; omega), D_Pd (by omega) (by omega), D_low, hBu]
    have hneg := rNeg B
    rw [eu.1, eu.2] at hneg
    simp only [outOf_some, hneg, Pd_1, Pd_2, rAdd]
    rw [hd]
    by_cases hge : 2 * (X % B) + b ≥ B
    · obtain ⟨g1, g2⟩ := s1 hge
      rw [decide_eq_false (by omega), g1, g2]
      simp only [Bool.not_false, cond_true]
      have e1 : (2 * (X / B) + 1) % 2 = 1 := by omega
      rw [e1, show 2 * (X % B) + b + -B = 2 * (X % B) + b - B from by omega]
    · obtain ⟨g1, g2⟩ := s2 (by omega)
      rw [decide_eq_true (by omega), g1, g2]
      simp only [Bool.not_true, cond_false]
      have e1 : (2 * (X / B)) % 2 = 0 := by omega
      rw [e1, show 128 - j = (127 - j) + 1 from by omega, List.replicate_succ', List.append_assoc]
      rfl
  · unfold ref_divide_L1_pass ref_divide_L1_t
    simp only [Nat.sub_self, Int.pow_zero, Int.ediv_one, List.replicate_zero, List.nil_append, List.drop_zero]
    rfl
theorem rDivide {lo hi u : Int} (hu : Cell u) (h0 : u % 18446744073709551616 ≠ 0) :
    ref_divide lo hi u = some (W (D lo hi % (u % 18446744073709551616)), Pd (D lo hi / (u % 18446744073709551616))) := by
  unfold ref_divide ref_divide_t
  rw [bits_eq]
  simp only [outOf_some]
  rw [divide_L1 hu h0]
  simp only [outOf_some, List.drop_zero]
  rw [List.take_of_length_le (by rw [bitL_len]; omega), make2_eq]
  rfl
theorem rUMod {lo hi u : Int} (h1 : Cell lo) (h2 : Cell hi) (hu : Cell u) :
    ref_UMod lo hi u = some (if u = 0 then (0, 0, -10) else if hi % 18446744073709551616 < u % 18446744073709551616 then (W (D lo hi % (u % 18446744073709551616)), W (D lo hi / (u % 18446744073709551616)), 0) else (0, 0, -11)) := by
  unfold ref_UMod ref_UMod_t
  by_cases h0 : u = 0
  · subst h0; rfl
  · rw [beq_eq_false_iff_ne.2 h0, if_neg h0]
    have hB : u % 18446744073709551616 ≠ 0 := by unfold Cell at hu; omega
    rw [rDivide hu hB]
    simp only [cond_false, outOf_some, Pd_1, Pd_2]
    have hDr := D_range lo hi
    have q0 : 0 ≤ D lo hi / (u % 18446744073709551616) := Int.ediv_nonneg hDr.1 (by omega)
    by_cases h : hi % 18446744073709551616 < u % 18446744073709551616
    · have q1 := (UMod_q (lo := lo) (by omega) h).2
      rw [if_pos h, show W (D lo hi / (u % 18446744073709551616) / 18446744073709551616) = 0 from by unfold W; omega]
      rfl
    · have q1 : 18446744073709551616 ≤ D lo hi / (u % 18446744073709551616) := Int.le_ediv_of_mul_le (by omega) (by unfold D; omega)
      have q2 : D lo hi / (u % 18446744073709551616) ≤ D lo hi := Int.ediv_le_self _ hDr.1
      rw [if_neg h, show (W (D lo hi / (u % 18446744073709551616) / 18446744073709551616) != 0) = true from by
        rw [bne_iff_ne]; unfold W; omega]
      rfl
end Go.Proofs.Dbl

/- Plain facts: the document's digit, sign, and products. -/
namespace Go.Proofs.Dbl
open Go Go.TX Go.Proofs
set_option maxRecDepth 100000
set_option maxHeartbeats 0
set_option linter.unusedVariables false
set_option linter.unusedSimpArgs false
/-- The document's signs. -/
def sg : List UInt8 := [48, 49, 50, 51, 52, 53, 54, 55, 56, 57, 65, 66, 67, 68, 69, 70, 71, 72, 73, 74, 75, 76, 77, 78, 79, 80, 81, 82, 83, 84, 85, 86, 87, 88, 89, 90]
theorem sg_bs : bytesOf [48, 49, 50, 51, 52, 53, 54, 55, 56, 57, 65, 66, 67, 68, 69, 70, 71, 72, 73, 74, 75, 76, 77, 78, 79, 80, 81, 82, 83, 84, 85, 86, 87, 88, 89, 90] = bs sg := rfl
theorem sg_length : sg.length = 36 := rfl
theorem sg_cap : ∀ v : Fin 36, sg[v.1]? = some (cap v.1) := by decide +kernel
theorem sg_at {v : Nat} (h : v < 36) : sg[v]'(by rw [sg_length]; exact h) = cap v := by
  have := sg_cap ⟨v, h⟩
  rw [List.getElem?_eq_getElem (by rw [sg_length]; exact h)] at this
  exact Option.some.inj this
/-- A sign's place among the document's signs. -/
def sw (c : Int) : Int := if 48 ≤ c ∧ c ≤ 57 then c - 48 else if 65 ≤ c ∧ c ≤ 90 then c - 55 else -1
theorem r5Sign_eq {v : Nat} (h : v < 36) : r5_Sign (v : Int) = some (bs [cap v]) := by
  unfold r5_Sign r5_Sign_t
  have w2 : IntKind.wrap IntKind.i64 ((v : Int) + 1) = ((v + 1 : Nat) : Int) := by rw [wi, W_of ⟨by omega, by omega⟩]; omega
  rw [decide_eq_false (by omega), decide_eq_false (by omega), w2, decide_eq_true (show (0 : Int) ≤ v ∧ (v : Int) ≤ ((v + 1 : Nat) : Int) ∧ ((v + 1 : Nat) : Int) ≤ 36 by omega)]
  simp only [cond_true, cond_false, Int.toNat_natCast]
  rw [sg_bs, bs_piece sg v (by rw [sg_length]; exact h), sg_at h]
end Go.Proofs.Dbl

/- Plain facts: the document's number of a text. -/
namespace Go.Proofs.Dbl
open Go Go.TX Go.Proofs
set_option maxRecDepth 100000
set_option maxHeartbeats 0
set_option linter.unusedVariables false
set_option linter.unusedSimpArgs false
end Go.Proofs.Dbl

/- Plain facts: the document's texts; NumIs holds. -/
namespace Go.Proofs.Dbl
open Go Go.TX Go.Proofs
set_option maxRecDepth 100000
set_option maxHeartbeats 0
set_option linter.unusedVariables false
set_option linter.unusedSimpArgs false
theorem un_low (u : Nat) : lo_ u % 18446744073709551616 = (u : Int) % 18446744073709551616 := by unfold lo_; rw [mod_W]
theorem un_high {u : Nat} (hu : u < 340282366920938463463374607431768211456) : hi_ u % 18446744073709551616 = (u : Int) / 18446744073709551616 := by
  unfold hi_; rw [mod_W]; exact Int.emod_eq_of_lt (by omega) (by omega)
theorem D_of (a r : Int) (h0 : 0 ≤ r) (h1 : r < 18446744073709551616) : D a r = a % 18446744073709551616 + 18446744073709551616 * r := by unfold D; omega
theorem D_nought (a : Int) : D a 0 = a % 18446744073709551616 := by unfold D; omega
theorem small_cell {b : Nat} (b2 : b ≤ 36) : Cell (b : Int) := ⟨by omega, by omega⟩
theorem small_mod {b : Nat} (b2 : b ≤ 36) : (b : Int) % 18446744073709551616 = b := by omega
theorem high_eq {b : Nat} (b1 : 2 ≤ b) (b2 : b ≤ 36) {u : Nat} (hu : u < 340282366920938463463374607431768211456) :
    r5_high (lo_ u) (hi_ u) (b : Int) = some (lo_ (u / b), hi_ (u / b), ((u % b : Nat) : Int), true) := by
  unfold r5_high r5_high_t
  have c1 : Cell (lo_ u) := by unfold lo_; exact W_cell _
  have c2 : Cell (hi_ u) := by unfold hi_; exact W_cell _
  have c0 : Cell 0 := ⟨by decide, by decide⟩
  have hb0 : ¬ (b : Int) = 0 := by omega
  rw [rUMod c2 c0 (small_cell b2), if_neg hb0, small_mod b2, if_pos (show (0 : Int) % 18446744073709551616 < (b : Int) by omega), D_nought, un_high hu]
  simp only [outOf]
  have hm0 : 0 ≤ (u : Int) / 18446744073709551616 % b := Int.emod_nonneg _ (by omega)
  have hm1 : (u : Int) / 18446744073709551616 % b < b := Int.emod_lt_of_pos _ (by omega)
  have wr : W ((u : Int) / 18446744073709551616 % b) = (u : Int) / 18446744073709551616 % b := W_of ⟨by omega, by omega⟩
  rw [wr, rUMod c1 (show Cell ((u : Int) / 18446744073709551616 % b) from ⟨by omega, by omega⟩) (small_cell b2), if_neg hb0, small_mod b2]
  have hlt : (u : Int) / 18446744073709551616 % b % 18446744073709551616 < (b : Int) := by omega
  rw [if_pos hlt, D_of _ _ hm0 (by omega), un_low]
  simp only
  have key : (u : Int) % 18446744073709551616 + 18446744073709551616 * ((u : Int) / 18446744073709551616 % b) = (u : Int) - b * (((u : Int) / 18446744073709551616 / b) * 18446744073709551616) := by
    have h := Int.emod_add_mul_ediv ((u : Int) / 18446744073709551616) b
    have h' := Int.emod_add_mul_ediv (u : Int) 18446744073709551616
    rw [← Int.mul_assoc]
    generalize (b : Int) * ((u : Int) / 18446744073709551616 / b) = z at *
    omega
  have er : ((u : Int) % 18446744073709551616 + 18446744073709551616 * ((u : Int) / 18446744073709551616 % b)) % b = ((u % b : Nat) : Int) := by
    rw [key, Int.sub_mul_emod_self_left]; exact (Int.natCast_emod u b).symm
  have eq' : ((u : Int) % 18446744073709551616 + 18446744073709551616 * ((u : Int) / 18446744073709551616 % b)) / b = (u : Int) / b - ((u : Int) / 18446744073709551616 / b) * 18446744073709551616 := by
    rw [key, Int.sub_mul_ediv_left _ _ (by omega)]
  have eqh : (u : Int) / 18446744073709551616 / b = (u : Int) / b / 18446744073709551616 := by
    rw [Int.ediv_ediv_of_nonneg (by omega), Int.ediv_ediv_of_nonneg (by omega), Int.mul_comm]
  rw [er, eq', eqh]
  have hub : ((u : Int) / b) = ((u / b : Nat) : Int) := (Int.natCast_ediv u b).symm
  rw [hub]
  have w1 : W ((u % b : Nat) : Int) = ((u % b : Nat) : Int) := by
    have := Nat.mod_lt u (show 0 < b by omega)
    rw [W_of ⟨by omega, by omega⟩]
  have w2 : W (((u / b : Nat) : Int) - ((u / b : Nat) : Int) / 18446744073709551616 * 18446744073709551616) = lo_ (u / b) := by
    have := low_of (u / b)
    rw [wi] at this
    exact this
  rw [w1, w2]
  rfl
end Go.Proofs.Dbl
