/- Plain facts about the document's doubles: digit of two by digit of two. -/
import Derived.Test.YtfmdhcialeddaaaDoorNuPo
import Derived.Test.YtfmdhcialeddaaaDoorNuXG
namespace Go.Proofs.Dbl
open Go Go.TX Go.Proofs
set_option maxRecDepth 100000
set_option maxHeartbeats 0
set_option linter.unusedVariables false
set_option linter.unusedSimpArgs false

def D (lo hi : Int) : Int := lo % 18446744073709551616 + 18446744073709551616 * (hi % 18446744073709551616)

theorem D_range (lo hi : Int) : 0 ≤ D lo hi ∧ D lo hi < 340282366920938463463374607431768211456 := by unfold D; omega

theorem D_Pd {v : Int} (h0 : 0 ≤ v) (h1 : v < 340282366920938463463374607431768211456) : D (W v) (W (v / 18446744073709551616)) = v := by
  unfold D W; omega

theorem p64 : (2:Int) ^ 64 = 18446744073709551616 := by decide

theorem bit_lo (lo hi : Int) (n : Nat) (hn : n < 64) : (lo % 18446744073709551616 / 2 ^ n) % 2 = (D lo hi / 2 ^ n) % 2 := by
  unfold D
  have hp : (0:Int) < 2 ^ n := Int.pow_pos (by decide)
  have e : (18446744073709551616 : Int) = 2 ^ n * (2 * 2 ^ (63 - n)) := by
    rw [← p64, show (64:Nat) = n + (1 + (63 - n)) from by omega, Int.pow_add, Int.pow_add]; rfl
  generalize hl : lo % 18446744073709551616 = l
  generalize hh : hi % 18446744073709551616 = h
  rw [e, Int.mul_assoc, Int.add_mul_ediv_left _ _ (by omega), Int.mul_assoc]
  omega

theorem bit_hi (lo hi : Int) (n : Nat) (hn : 64 ≤ n) : hi % 18446744073709551616 / 2 ^ (n - 64) = D lo hi / 2 ^ n := by
  unfold D
  have e : (2:Int) ^ n = 18446744073709551616 * 2 ^ (n - 64) := by
    rw [← p64, ← Int.pow_add, show 64 + (n - 64) = n from by omega]
  rw [e, ← Int.ediv_ediv_of_nonneg (by decide)]
  have : (lo % 18446744073709551616 + 18446744073709551616 * (hi % 18446744073709551616)) / 18446744073709551616 = hi % 18446744073709551616 := by omega
  rw [this]

theorem and1 {n : Int} (h1 : 0 ≤ n) (h2 : n < 18446744073709551616) : ibits .and .u64 n 1 = n % 2 := and_u64 h1 h2 1 (by decide) (by decide)

theorem two_pos (n : Nat) : (0 : Int) < 2 ^ n := Int.pow_pos (by decide)

theorem div_step (X : Int) (i : Nat) : X / 2 ^ (i + 1) = X / 2 ^ i / 2 := by
  rw [Int.ediv_ediv_of_nonneg (Int.le_of_lt (two_pos i)), Int.pow_succ]

theorem div_bit (X : Int) (i : Nat) : X / 2 ^ i = 2 * (X / 2 ^ (i + 1)) + X / 2 ^ i % 2 := by
  rw [div_step]; omega

theorem mod_bit (X : Int) (i : Nat) : X % 2 ^ (i + 1) = X % 2 ^ i + 2 ^ i * (X / 2 ^ i % 2) := by
  have h1 := Int.mul_ediv_add_emod X (2 ^ (i + 1))
  have h2 := Int.mul_ediv_add_emod X (2 ^ i)
  have h3 := div_bit X i
  have e : (2 : Int) ^ (i + 1) = 2 ^ i * 2 := Int.pow_succ _ _
  generalize X / 2 ^ (i + 1) = q' at *
  generalize hb : X / 2 ^ i % 2 = b at *
  rw [h3, Int.mul_add] at h2
  rw [e, Int.mul_assoc] at h1
  rw [e]
  generalize X % (2 ^ i * 2) = r at *
  generalize X % 2 ^ i = r' at *
  generalize (2 : Int) ^ i * (2 * q') = t at *
  omega

/-! ### A digit -/

theorem Bit_eq (a : Int) (i : Nat) (hi : i ≤ 63) : ref_Bit a (i : Int) = some (a % 18446744073709551616 / 2 ^ i % 2) := by
  unfold ref_Bit ref_Bit_t
  rw [decide_eq_false (by omega), decide_eq_false (by omega), wu, wu, wi, decide_eq_false (by omega)]
  simp only [cond_false]
  have e : min (Int.toNat ((i : Int) % 18446744073709551616)) 64 = i := by omega
  have h0 : 0 ≤ a % 18446744073709551616 := by omega
  have h1 : a % 18446744073709551616 / 2 ^ i < 18446744073709551616 := Int.lt_of_le_of_lt (Int.ediv_le_self _ h0) (by omega)
  rw [e, Int.fdiv_eq_ediv_of_nonneg _ (Int.le_of_lt (two_pos i)), and1 (Int.ediv_nonneg h0 (Int.le_of_lt (two_pos i))) h1]
  exact congrArg some (W_of (by unfold Cell; omega))

theorem and1_i64 {b : Int} (h : b = 0 ∨ b = 1) : ibits .and .i64 b 1 = b := by
  rcases h with rfl | rfl <;> (rw [ibits_def]; decide)

/-- The digits of two of a number. -/
def bitL (x : Int) (n : Nat) : List Int := (List.range n).map fun i => x / 2 ^ i % 2

theorem bitL_len (x : Int) (n : Nat) : (bitL x n).length = n := by simp [bitL]
theorem bitL_succ (x : Int) (n : Nat) : bitL x (n + 1) = bitL x n ++ [x / 2 ^ n % 2] := by simp [bitL, List.range_succ]
theorem bitL_get (x : Int) {n i : Nat} (h : i < n) : (bitL x n).getD i 0 = x / 2 ^ i % 2 := by
  simp [bitL, List.getD_eq_getElem?_getD, h]
theorem bitL_01 {x : Int} {n : Nat} : ∀ b ∈ bitL x n, b = 0 ∨ b = 1 := fun b hb => by
  simp only [bitL, List.mem_map] at hb
  obtain ⟨i, _, rfl⟩ := hb
  omega
theorem bitL_take (x : Int) {n m : Nat} (h : m ≤ n) : (bitL x n).take m = bitL x m := by
  simp only [bitL, ← List.map_take, List.take_range, Nat.min_eq_left h]
theorem bitL_drop (x : Int) (n m : Nat) : (bitL x (m + n)).drop m = bitL (x / 2 ^ m) n := by
  simp only [bitL]
  rw [← List.map_drop]
  apply List.ext_getElem
  · simp
  · intro i h1 h2
    simp only [List.getElem_map, List.getElem_drop, List.getElem_range]
    rw [Int.ediv_ediv_of_nonneg (Int.le_of_lt (two_pos m)), ← Int.pow_add]

theorem bits_L1 (lo hi : Int) : ref_bits_L1 (0, 0, lo, hi, []) = some (64, lo, hi, bitL (lo % 18446744073709551616) 64) := by
  refine runs_all (fun i => (i, (i : Int), lo, hi, bitL (lo % 18446744073709551616) i)) 64 (fun i h => ?_) ?_
  · unfold ref_bits_L1_pass ref_bits_L1_t
    simp only [List.drop_zero]
    rw [decide_eq_true (by omega), Bit_eq lo i (by omega), List.take_of_length_le (by rw [bitL_len]; omega)]
    simp only [cond_true, outOf_some, List.length_singleton]
    rw [decide_eq_true (by omega), wi, show W ((i : Int) + 1) = ((i + 1 : Nat) : Int) from by unfold W; omega, bitL_succ]
    rfl
  · unfold ref_bits_L1_pass ref_bits_L1_t
    rfl

theorem bits_L2 (lo hi : Int) : ref_bits_L2 (64, 0, lo, hi, bitL (D lo hi) 64) = some (128, bitL (D lo hi) 128) := by
  refine runs_all (fun i => (64 + i, (i : Int), lo, hi, bitL (D lo hi) (64 + i))) 64 (fun i h => ?_) ?_
  · unfold ref_bits_L2_pass ref_bits_L2_t
    simp only [List.drop_zero]
    rw [decide_eq_true (by omega), Bit_eq hi i (by omega), List.take_of_length_le (by rw [bitL_len]; omega)]
    simp only [cond_true, outOf_some, List.length_singleton]
    rw [decide_eq_true (by omega), wi, show W ((i : Int) + 1) = ((i + 1 : Nat) : Int) from by unfold W; omega, ← Nat.add_assoc, bitL_succ]
    have := bit_hi lo hi (64 + i) (by omega)
    rw [show 64 + i - 64 = i from by omega] at this
    rw [this]
    rfl
  · unfold ref_bits_L2_pass ref_bits_L2_t
    rfl

theorem bitL_lo (lo hi : Int) : bitL (lo % 18446744073709551616) 64 = bitL (D lo hi) 64 := by
  unfold bitL
  apply List.map_congr_left
  intro i hi'
  exact bit_lo lo hi i (List.mem_range.1 hi')

theorem bits_eq (lo hi : Int) : ref_bits lo hi = some (bitL (D lo hi) 128) := by
  unfold ref_bits ref_bits_t
  rw [bits_L1]
  simp only [outOf_some]
  rw [bitL_lo lo hi, bits_L2]
  simp only [outOf_some, List.drop_zero]
  rw [List.take_of_length_le (by rw [bitL_len]; omega)]

/-! ### Numbers of digits -/

def valL : List Int → Int
  | [] => 0
  | b :: l => b + 2 * valL l

theorem valL_bitL : ∀ (n : Nat) (x : Int), valL (bitL x n) = x % 2 ^ n
  | 0, x => by simp [bitL, valL, Int.emod_one]
  | n + 1, x => by
    have h : bitL x (n + 1) = (x % 2) :: bitL (x / 2) n := by
      have := bitL_drop x n 1
      rw [Nat.add_comm] at this
      have hl := bitL_len x (n + 1)
      cases hb : bitL x (n + 1) with
      | nil => rw [hb] at hl; simp at hl
      | cons a l =>
        rw [hb] at this
        have h0 := bitL_get x (n := n + 1) (i := 0) (by omega)
        rw [hb] at h0
        simp at this h0
        rw [this, h0]
    rw [h]
    show x % 2 + 2 * valL (bitL (x / 2) n) = _
    rw [valL_bitL n]
    have h1 := Int.mul_ediv_add_emod (x / 2) (2 ^ n)
    have h2 := Int.mul_ediv_add_emod x (2 ^ (n + 1))
    have h3 : x / 2 ^ (n + 1) = x / 2 / 2 ^ n := by rw [Int.ediv_ediv_of_nonneg (by decide), Int.pow_succ, Int.mul_comm]
    have e : (2 : Int) ^ (n + 1) = 2 * 2 ^ n := by rw [Int.pow_succ, Int.mul_comm]
    rw [h3] at h2
    generalize x / 2 / 2 ^ n = q at *
    have e2 : (2 : Int) ^ (n + 1) * q = 2 * (2 ^ n * q) := by rw [e, Int.mul_assoc]
    omega

theorem Make_L1 (l : List Int) (hl : l.length = 64) (h01 : ∀ b ∈ l, b = 0 ∨ b = 1) : ref_Make_L1 (l, 0, 63) = some (valL l % 18446744073709551616) := by
  have := runs_all (pass := ref_Make_L1_pass) (fun j => (l, valL (l.drop (64 - j)) % 18446744073709551616, (63 : Int) - j)) 64 (x := valL l % 18446744073709551616) (fun j h => ?_) ?_
  · rw [show 64 - 0 = 64 from rfl, List.drop_of_length_le (by omega)] at this
    exact this
  · unfold ref_Make_L1_pass ref_Make_L1_t
    simp only
    rw [decide_eq_true (by omega), decide_eq_true (by rw [hl]; omega)]
    simp only [cond_true]
    have e1 : (63 - (j : Int)).toNat = 63 - j := by omega
    have hlt : 63 - j < l.length := by omega
    have e2 : l.getD (63 - j) 0 = l[63 - j] := by simp [List.getD_eq_getElem?_getD, hlt]
    have hb := h01 l[63 - j] (List.getElem_mem hlt)
    have e3 : l.drop (64 - (j + 1)) = l[63 - j] :: l.drop (64 - j) := by
      rw [show 64 - (j + 1) = 63 - j from by omega, List.drop_eq_getElem_cons hlt, show 63 - j + 1 = 64 - j from by omega]
    rw [e1, e2, and1_i64 hb, e3]
    simp only [wi, wu, valL]
    have e4 : W (63 - (j : Int) - 1) = 63 - ((j + 1 : Nat) : Int) := by unfold W; omega
    rw [e4]
    generalize valL (l.drop (64 - j)) = v
    generalize l[63 - j] = b at *
    rw [show (v % 18446744073709551616 * 2 % 18446744073709551616 + b % 18446744073709551616) % 18446744073709551616 = (b + 2 * v) % 18446744073709551616 from by omega]
  · unfold ref_Make_L1_pass ref_Make_L1_t
    simp only
    rw [decide_eq_false (by omega)]
    rfl

theorem Make_eq (l : List Int) (hl : l.length = 64) (h01 : ∀ b ∈ l, b = 0 ∨ b = 1) : ref_Make l = some (W (valL l)) := by
  unfold ref_Make ref_Make_t
  rw [hl]
  have e : IntKind.wrap .i64 ((if (64 : Int) < ((64 : Nat) : Int) then (64 : Int) else ((64 : Nat) : Int)) - 1) = 63 := by decide
  rw [e, Make_L1 l hl h01]
  simp only [outOf_some, wi, W_mod]

theorem make2_eq (x : Int) : ref_make2 (bitL x 128) = some (Pd x) := by
  unfold ref_make2 ref_make2_t
  rw [bitL_len, decide_eq_true (by decide), decide_eq_true (by decide), List.drop_zero, bitL_take x (by omega), show (128 : Nat) = 64 + 64 from rfl, bitL_drop x 64 64,
    List.take_of_length_le (by rw [bitL_len]; omega)]
  simp only [cond_true]
  rw [Make_eq _ (bitL_len _ _) bitL_01, Make_eq _ (bitL_len _ _) bitL_01]
  simp only [outOf_some, valL_bitL, p64, W_mod]
  rfl

end Go.Proofs.Dbl

/- Plain facts about the document's doubles: sums, and what is below what. -/
namespace Go.Proofs.Dbl
open Go Go.TX Go.Proofs
set_option maxRecDepth 100000
set_option maxHeartbeats 0
set_option linter.unusedVariables false
set_option linter.unusedSimpArgs false

/-- What is carried into digit i. -/
def carry (X Y : Int) (i : Nat) : Int := (X % 2 ^ i + Y % 2 ^ i) / 2 ^ i

theorem carry_step (X Y : Int) (i : Nat) : carry X Y (i + 1) = (X / 2 ^ i % 2 + Y / 2 ^ i % 2 + carry X Y i) / 2 := by
  unfold carry
  rw [mod_bit X i, mod_bit Y i, Int.pow_succ, ← Int.ediv_ediv_of_nonneg (Int.le_of_lt (two_pos i))]
  have : X % 2 ^ i + 2 ^ i * (X / 2 ^ i % 2) + (Y % 2 ^ i + 2 ^ i * (Y / 2 ^ i % 2)) = (X % 2 ^ i + Y % 2 ^ i) + 2 ^ i * (X / 2 ^ i % 2 + Y / 2 ^ i % 2) := by
    rw [Int.mul_add]; omega
  rw [this, Int.add_mul_ediv_left _ _ (by have := two_pos i; omega)]
  congr 1
  omega

theorem sum_bit (X Y : Int) (i : Nat) : (X + Y) / 2 ^ i % 2 = (X / 2 ^ i % 2 + Y / 2 ^ i % 2 + carry X Y i) % 2 := by
  have h1 := Int.mul_ediv_add_emod X (2 ^ i)
  have h2 := Int.mul_ediv_add_emod Y (2 ^ i)
  have : X + Y = (X % 2 ^ i + Y % 2 ^ i) + 2 ^ i * (X / 2 ^ i + Y / 2 ^ i) := by rw [Int.mul_add]; omega
  rw [this, Int.add_mul_ediv_left _ _ (by have := two_pos i; omega)]
  unfold carry
  omega

theorem carry_01 (X Y : Int) (i : Nat) : carry X Y i = 0 ∨ carry X Y i = 1 := by
  unfold carry
  have h0 := two_pos i
  have a0 := Int.emod_nonneg X (b := 2 ^ i) (by omega)
  have a1 := Int.emod_lt_of_pos X h0
  have b0 := Int.emod_nonneg Y (b := 2 ^ i) (by omega)
  have b1 := Int.emod_lt_of_pos Y h0
  have h1 : 0 ≤ (X % 2 ^ i + Y % 2 ^ i) / 2 ^ i := Int.ediv_nonneg (by omega) (by omega)
  have h2 : (X % 2 ^ i + Y % 2 ^ i) / 2 ^ i < 2 := Int.ediv_lt_of_lt_mul h0 (by omega)
  omega

theorem set_next (x : Int) {i n : Nat} (h : i < n) (v : Int) : (bitL x i ++ List.replicate (n - i) 0).set i v = bitL x i ++ v :: List.replicate (n - (i + 1)) 0 := by
  rw [List.set_append_right _ _ (by rw [bitL_len]; omega), bitL_len, Nat.sub_self]
  rw [show n - i = (n - (i + 1)) + 1 from by omega, List.replicate_succ]
  rfl

theorem Add_L1 (X Y : Int) : ref_Add_L1 (bitL X 128, bitL Y 128, 128, 0, 0, 0, 0, List.replicate 128 0) = some (128, 0, 0, bitL (X + Y) 128) := by
  have := runs_all (pass := ref_Add_L1_pass) (fun i => (bitL X 128, bitL Y 128, 128, carry X Y i, (i : Int), 0, 0, bitL (X + Y) i ++ List.replicate (128 - i) 0)) 128 (x := (128, 0, 0, bitL (X + Y) 128)) (fun i h => ?_) ?_
  · have e : carry X Y 0 = 0 := by unfold carry; simp [Int.emod_one]
    simp only [e] at this
    exact this
  · unfold ref_Add_L1_pass ref_Add_L1_t
    simp only [bitL_len, wi, Nat.zero_add]
    rw [decide_eq_true (by omega), decide_eq_true (by omega)]
    simp only [cond_true, Int.toNat_natCast]
    rw [bitL_get X (by omega), bitL_get Y (by omega), set_next (X + Y) h, bitL_succ (X + Y) i, List.append_assoc]
    have hc := carry_01 X Y i
    have e0 : W (X / 2 ^ i % 2 + Y / 2 ^ i % 2) = X / 2 ^ i % 2 + Y / 2 ^ i % 2 := W_of (by unfold Cell; omega)
    have e1 : W (X / 2 ^ i % 2 + Y / 2 ^ i % 2 + carry X Y i) = X / 2 ^ i % 2 + Y / 2 ^ i % 2 + carry X Y i := W_of (by unfold Cell; omega)
    rw [e0, e1, Int.tdiv_eq_ediv_of_nonneg (by omega), Int.tmod_eq_emod_of_nonneg (by omega), ← sum_bit, ← carry_step, show W ((i : Int) + 1) = ((i + 1 : Nat) : Int) from by unfold W; omega]
    rw [W_of (by have := carry_01 X Y (i + 1); unfold Cell; omega)]
    rfl
  · unfold ref_Add_L1_pass ref_Add_L1_t
    simp only [Nat.sub_self, List.replicate_zero, List.append_nil]
    rfl

theorem rAdd_D (a b c d : Int) : ref_Add a b c d = some (Pd (D a b + D c d)) := by
  unfold ref_Add ref_Add_t
  rw [bits_eq, bits_eq]
  simp only [outOf_some]
  rw [Add_L1]
  simp only [outOf_some, List.drop_zero]
  rw [List.take_of_length_le (by rw [bitL_len]; omega), make2_eq]
  rfl

theorem rAdd (v w : Int) : ref_Add (W v) (W (v / 18446744073709551616)) (W w) (W (w / 18446744073709551616)) = some (Pd (v + w)) := by
  rw [rAdd_D]
  refine congrArg some (Pd_eq.2 ?_)
  unfold D W; omega

theorem rNeg (v : Int) : ref_Neg (W v) (W (v / 18446744073709551616)) = some (Pd (-v)) := by
  unfold ref_Neg ref_Neg_t
  have h := rAdd (-1 - v) 1
  rw [show W 1 = 1 from by decide, show W (1 / 18446744073709551616) = 0 from by decide] at h
  rw [wi, wi, show W (-1 - W v) = W (-1 - v) from by unfold W; omega, show W (-1 - W (v / 18446744073709551616)) = W ((-1 - v) / 18446744073709551616) from by unfold W; omega, h]
  show some _ = some _
  rw [show -1 - v + 1 = -v from by omega]

theorem rTwice (v : Int) : ref_twice (W v) (W (v / 18446744073709551616)) = some (Pd (2 * v)) := by
  unfold ref_twice ref_twice_t
  rw [rAdd]
  show some _ = some _
  rw [show v + v = 2 * v from by omega]

theorem rOf {n : Int} (h : Cell n) : ref_Of n = some (Pd n) := by
  unfold ref_Of ref_Of_t
  have : Pd n = (n, if n < 0 then -1 else 0) := by
    unfold Cell at h
    unfold Pd W
    refine Prod.ext ?_ ?_ <;> simp only
    · omega
    · split <;> omega
  rw [this]
  by_cases g : n < 0 <;> simp [g]

theorem Ult_L1 (a b : Int) : ∀ (n : Nat), n ≤ 64 → a % 18446744073709551616 / 2 ^ n = b % 18446744073709551616 / 2 ^ n →
    ∃ r, ref_Ult_L1 (a, b, (n : Int) - 1) = some r ∧ sumOf r (fun x => x) (fun _ => false) = decide (a % 18446744073709551616 < b % 18446744073709551616)
  | 0, _, h => by
    refine ⟨.inr (), runs_out ?_, ?_⟩
    · unfold ref_Ult_L1_pass ref_Ult_L1_t
      rfl
    · simp at h
      simp [h]
  | n + 1, hn, h => by
    have e : ((n + 1 : Nat) : Int) - 1 = (n : Int) := by omega
    have hp : ref_Ult_L1_pass (a, b, ((n + 1 : Nat) : Int) - 1) = if a % 18446744073709551616 / 2 ^ n % 2 ≠ b % 18446744073709551616 / 2 ^ n % 2 then some (.inr (.inl (b % 18446744073709551616 / 2 ^ n % 2 == 1))) else some (.inl (a, b, (n : Int) - 1)) := by
      rw [e]
      unfold ref_Ult_L1_pass ref_Ult_L1_t
      simp only
      rw [decide_eq_true (by omega), Bit_eq a n (by omega), Bit_eq b n (by omega), wi, show W ((n : Int) - 1) = (n : Int) - 1 from by unfold W; omega]
      by_cases g : a % 18446744073709551616 / 2 ^ n % 2 = b % 18446744073709551616 / 2 ^ n % 2
      · rw [if_neg (by simpa using g)]; simp [g]
      · rw [if_pos g]
        simp only [cond_true, outOf_some]
        rw [show (a % 18446744073709551616 / 2 ^ n % 2 != b % 18446744073709551616 / 2 ^ n % 2) = true from by simpa using g]
        rfl
    by_cases g : a % 18446744073709551616 / 2 ^ n % 2 = b % 18446744073709551616 / 2 ^ n % 2
    · rw [if_neg (by simpa using g)] at hp
      have h' : a % 18446744073709551616 / 2 ^ n = b % 18446744073709551616 / 2 ^ n := by
        have h1 := div_bit (a % 18446744073709551616) n
        have h2 := div_bit (b % 18446744073709551616) n
        rw [h] at h1
        omega
      obtain ⟨r, h1, h2⟩ := Ult_L1 a b n (by omega) h'
      exact ⟨r, (runs_next hp).trans h1, h2⟩
    · rw [if_pos g] at hp
      refine ⟨_, runs_out hp, ?_⟩
      show (b % 18446744073709551616 / 2 ^ n % 2 == 1) = _
      have h1 := div_bit (a % 18446744073709551616) n
      have h2 := div_bit (b % 18446744073709551616) n
      rw [h] at h1
      have mono : ∀ x y : Int, x / 2 ^ n < y / 2 ^ n → x < y := fun x y hxy => Classical.byContradiction fun hc => by
        have := Int.ediv_le_ediv (two_pos n) (show y ≤ x by omega)
        omega
      by_cases g1 : b % 18446744073709551616 / 2 ^ n % 2 = 1
      · rw [g1, decide_eq_true (mono _ _ (by omega))]; rfl
      · rw [beq_eq_false_iff_ne.2 g1, decide_eq_false (by
          have := mono (b % 18446744073709551616) (a % 18446744073709551616) (by omega)
          omega)]

theorem rUlt (a b : Int) : ref_Ult a b = some (decide (a % 18446744073709551616 < b % 18446744073709551616)) := by
  unfold ref_Ult ref_Ult_t
  have z : ∀ x : Int, x % 18446744073709551616 / 2 ^ 64 = 0 := fun x => by rw [p64]; omega
  obtain ⟨r, h1, h2⟩ := Ult_L1 a b 64 (by omega) (by rw [z, z])
  rw [show (63 : Int) = ((64 : Nat) : Int) - 1 from by omega, h1, ← h2]
  cases r <;> rfl

theorem rLess (a b c d : Int) (h2 : Cell b) (h4 : Cell d) : ref_less a b c d = some (decide (D a b < D c d)) := by
  unfold ref_less ref_less_t
  rw [rUlt, rUlt]
  simp only [outOf_some]
  unfold Cell at *
  by_cases g1 : b % 18446744073709551616 < d % 18446744073709551616
  · rw [decide_eq_true g1, show decide (D a b < D c d) = true from decide_eq_true (by unfold D; omega)]; rfl
  · rw [decide_eq_false g1]
    by_cases g2 : b = d
    · subst g2
      rw [beq_self_eq_true]
      simp only [cond_true, cond_false, outOf_some]
      congr 1
      rw [decide_eq_decide]
      unfold D; omega
    · rw [beq_eq_false_iff_ne.2 g2, show decide (D a b < D c d) = false from decide_eq_false (by unfold D; omega)]; rfl

end Go.Proofs.Dbl

/- Plain facts about the document's doubles: products and quotients. -/
namespace Go.Proofs.Dbl
open Go Go.TX Go.Proofs
set_option maxRecDepth 100000
set_option maxHeartbeats 0
set_option linter.unusedVariables false
set_option linter.unusedSimpArgs false

theorem step_div {X B b : Int} (hB : 0 < B) (hX : 0 ≤ X) (hb : b = 0 ∨ b = 1) :
    (2 * (X % B) + b ≥ B → (2 * X + b) % B = 2 * (X % B) + b - B ∧ (2 * X + b) / B = 2 * (X / B) + 1) ∧
    (2 * (X % B) + b < B → (2 * X + b) % B = 2 * (X % B) + b ∧ (2 * X + b) / B = 2 * (X / B)) := by
  have h1 := Int.emod_nonneg X (b := B) (by omega)
  have h2 := Int.emod_lt_of_pos X hB
  have e : X = B * (X / B) + X % B := (Int.mul_ediv_add_emod X B).symm
  generalize hr : X % B = r at *
  generalize hq : X / B = q at *
  have u : ∀ {y k : Int}, 2 * X + b = y + B * k → 0 ≤ y → y < B → (2 * X + b) % B = y ∧ (2 * X + b) / B = k := by
    intro y k hy h3 h4
    rw [hy]
    exact ⟨by rw [Int.add_mul_emod_self_left, Int.emod_eq_of_lt h3 h4], by rw [Int.add_mul_ediv_left _ _ (by omega), Int.ediv_eq_zero_of_lt h3 h4, Int.zero_add]⟩
  have e2 : B * (2 * q + 1) = 2 * (B * q) + B := by rw [Int.mul_add, Int.mul_left_comm]; omega
  have e3 : B * (2 * q) = 2 * (B * q) := Int.mul_left_comm _ _ _
  constructor
  · intro h
    exact u (by omega) (by omega) (by omega)
  · intro h
    exact u (by omega) (by omega) (by omega)

theorem UMod_q {lo hi B : Int} (hB : 0 < B) (h : hi % 18446744073709551616 < B) : 0 ≤ D lo hi / B ∧ D lo hi / B < 18446744073709551616 := by
  have hD := (D_range lo hi).1
  refine ⟨Int.ediv_nonneg hD (by omega), Int.ediv_lt_of_lt_mul hB ?_⟩
  unfold D; omega

theorem Pd_1 (v : Int) : (Pd v).1 = W v := rfl
theorem Pd_2 (v : Int) : (Pd v).2 = W (v / 18446744073709551616) := rfl
theorem low_0 (a : Int) : W (a % 18446744073709551616) = W a ∧ W (a % 18446744073709551616 / 18446744073709551616) = 0 := by unfold W; omega

/-! ### Long division -/

theorem D_low (u : Int) : D u 0 = u % 18446744073709551616 := by unfold D; omega

theorem set_at (x' : List Int) {i n : Nat} (h : i < n) : (List.replicate (i + 1) (0 : Int) ++ x' ).set i 1 = List.replicate i 0 ++ 1 :: x' := by
  rw [List.replicate_succ', List.append_assoc, List.set_append_right _ _ (by simp)]
  simp

theorem bitL_from (Q : Int) {i : Nat} (h : i < 128) : (bitL Q 128).drop i = (Q / 2 ^ i % 2) :: (bitL Q 128).drop (i + 1) := by
  have hl : i < (bitL Q 128).length := by rw [bitL_len]; exact h
  rw [List.drop_eq_getElem_cons hl]
  congr 1
  have := bitL_get Q h
  simp only [List.getD_eq_getElem?_getD, List.getElem?_eq_getElem hl, Option.getD_some] at this
  exact this

theorem divide_L1 {lo hi u : Int} (hu : Cell u) (h0 : u % 18446744073709551616 ≠ 0) :
    ref_divide_L1 (bitL (D lo hi) 128, 128, 127, 0, 0, 0, 0, List.replicate 128 0, u, 0) =
      some (128, 0, 0, (Pd (D lo hi % (u % 18446744073709551616))).1, (Pd (D lo hi % (u % 18446744073709551616))).2, bitL (D lo hi / (u % 18446744073709551616)) 128) := by
  have hB : 0 < u % 18446744073709551616 := by omega
  have hB' : u % 18446744073709551616 < 18446744073709551616 := by omega
  have hDr := D_range lo hi
  have eu : W (u % 18446744073709551616) = u ∧ W (u % 18446744073709551616 / 18446744073709551616) = 0 := ⟨(low_0 u).1.trans (W_of hu), (low_0 u).2⟩
  generalize hBu : u % 18446744073709551616 = B at *
  have := runs_all (pass := ref_divide_L1_pass) (fun j => (bitL (D lo hi) 128, 128, (127 : Int) - j, 0, 0, (Pd (D lo hi / 2 ^ (128 - j) % B)).1, (Pd (D lo hi / 2 ^ (128 - j) % B)).2, List.replicate (128 - j) 0 ++ (bitL (D lo hi / B) 128).drop (128 - j), u, 0)) 128
    (x := (128, 0, 0, (Pd (D lo hi % B)).1, (Pd (D lo hi % B)).2, bitL (D lo hi / B) 128)) (fun j h => ?_) ?_
  · have z : D lo hi / 2 ^ (128 - 0) = 0 := by rw [Nat.sub_zero, show (2 : Int) ^ 128 = 340282366920938463463374607431768211456 from by decide]; omega
    rw [z, Int.zero_emod, List.drop_of_length_le (by rw [bitL_len]; omega), List.append_nil] at this
    exact this
  · unfold ref_divide_L1_pass ref_divide_L1_t
    simp only [Pd_1, Pd_2, bitL_len]
    have e : (127 : Int) - j = ((127 - j : Nat) : Int) := by omega
    rw [decide_eq_true (by omega), decide_eq_true (by omega), rTwice, e, wi, show W (((127 - j : Nat) : Int) - 1) = 127 - ((j + 1 : Nat) : Int) from by unfold W; omega]
    simp only [cond_true, outOf_some, Int.toNat_natCast, Pd_1, Pd_2, Nat.zero_add]
    have hlt : 127 - j < 128 := by omega
    rw [bitL_get _ hlt]
    have hd := div_bit (D lo hi) (127 - j)
    rw [show 127 - j + 1 = 128 - j from by omega] at hd
    have hX0 : 0 ≤ D lo hi / 2 ^ (128 - j) := Int.ediv_nonneg hDr.1 (Int.le_of_lt (two_pos _))
    have hqX : D lo hi / B / 2 ^ (127 - j) = D lo hi / 2 ^ (127 - j) / B := by
      rw [Int.ediv_ediv_of_nonneg (by omega), Int.ediv_ediv_of_nonneg (Int.le_of_lt (two_pos _)), Int.mul_comm]
    have hdrop : (bitL (D lo hi / B) 128).drop (127 - j) = (D lo hi / 2 ^ (127 - j) / B % 2) :: (bitL (D lo hi / B) 128).drop (128 - j) := by
      have := bitL_from (D lo hi / B) hlt
      rw [hqX, show 127 - j + 1 = 128 - j from by omega] at this
      exact this
    rw [show 128 - (j + 1) = 127 - j from by omega, hdrop, show 128 - j = (127 - j) + 1 from by omega, set_at _ hlt]
    rw [show 127 - j + 1 = 128 - j from by omega]
    generalize hX : D lo hi / 2 ^ (128 - j) = X at *
    generalize hY : D lo hi / 2 ^ (127 - j) = Y at *
    generalize (bitL (D lo hi / B) 128).drop (128 - j) = tl
    generalize hb : Y % 2 = b at *
    have hb01 : b = 0 ∨ b = 1 := by omega
    obtain ⟨s1, s2⟩ := step_div hB hX0 hb01
    have hR0 := Int.emod_nonneg X (b := B) (by omega)
    have hR1 := Int.emod_lt_of_pos X hB
    have hadd := rAdd (2 * (X % B)) b
    rw [show W b = b from W_of (by unfold Cell; omega), show W (b / 18446744073709551616) = 0 from by unfold W; omega] at hadd
    rw [hadd]
    simp only [outOf_some, Pd_1, Pd_2]
    rw [rLess _ _ _ _ (W_cell _) (by unfold Cell; omega), D_Pd (by omega) (by omega), D_low, hBu]
    have hneg := rNeg B
    rw [eu.1, eu.2] at hneg
    simp only [outOf_some, hneg, Pd_1, Pd_2, rAdd]
    rw [hd]
    by_cases hge : 2 * (X % B) + b ≥ B
    · obtain ⟨g1, g2⟩ := s1 hge
      rw [decide_eq_false (by omega), g1, g2]
      simp only [Bool.not_false, cond_true]
      have e1 : (2 * (X / B) + 1) % 2 = 1 := by omega
      rw [e1, show 2 * (X % B) + b + -B = 2 * (X % B) + b - B from by omega]
    · obtain ⟨g1, g2⟩ := s2 (by omega)
      rw [decide_eq_true (by omega), g1, g2]
      simp only [Bool.not_true, cond_false]
      have e1 : (2 * (X / B)) % 2 = 0 := by omega
      rw [e1, show 128 - j = (127 - j) + 1 from by omega, List.replicate_succ', List.append_assoc]
      rfl
  · unfold ref_divide_L1_pass ref_divide_L1_t
    simp only [Nat.sub_self, Int.pow_zero, Int.ediv_one, List.replicate_zero, List.nil_append, List.drop_zero]
    rfl

theorem rDivide {lo hi u : Int} (hu : Cell u) (h0 : u % 18446744073709551616 ≠ 0) :
    ref_divide lo hi u = some (W (D lo hi % (u % 18446744073709551616)), Pd (D lo hi / (u % 18446744073709551616))) := by
  unfold ref_divide ref_divide_t
  rw [bits_eq]
  simp only [outOf_some]
  rw [divide_L1 hu h0]
  simp only [outOf_some, List.drop_zero]
  rw [List.take_of_length_le (by rw [bitL_len]; omega), make2_eq]
  rfl

theorem rUMod {lo hi u : Int} (h1 : Cell lo) (h2 : Cell hi) (hu : Cell u) :
    ref_UMod lo hi u = some (if u = 0 then (0, 0, -10) else if hi % 18446744073709551616 < u % 18446744073709551616 then (W (D lo hi % (u % 18446744073709551616)), W (D lo hi / (u % 18446744073709551616)), 0) else (0, 0, -11)) := by
  unfold ref_UMod ref_UMod_t
  by_cases h0 : u = 0
  · subst h0; rfl
  · rw [beq_eq_false_iff_ne.2 h0, if_neg h0]
    have hB : u % 18446744073709551616 ≠ 0 := by unfold Cell at hu; omega
    rw [rDivide hu hB]
    simp only [cond_false, outOf_some, Pd_1, Pd_2]
    have hDr := D_range lo hi
    have q0 : 0 ≤ D lo hi / (u % 18446744073709551616) := Int.ediv_nonneg hDr.1 (by omega)
    by_cases h : hi % 18446744073709551616 < u % 18446744073709551616
    · have q1 := (UMod_q (lo := lo) (by omega) h).2
      rw [if_pos h, show W (D lo hi / (u % 18446744073709551616) / 18446744073709551616) = 0 from by unfold W; omega]
      rfl
    · have q1 : 18446744073709551616 ≤ D lo hi / (u % 18446744073709551616) := Int.le_ediv_of_mul_le (by omega) (by unfold D; omega)
      have q2 : D lo hi / (u % 18446744073709551616) ≤ D lo hi := Int.ediv_le_self _ hDr.1
      rw [if_neg h, show (W (D lo hi / (u % 18446744073709551616) / 18446744073709551616) != 0) = true from by
        rw [bne_iff_ne]; unfold W; omega]
      rfl

end Go.Proofs.Dbl

/- Plain facts: the document's digit, sign, and products. -/
namespace Go.Proofs.Dbl
open Go Go.TX Go.Proofs
set_option maxRecDepth 100000
set_option maxHeartbeats 0
set_option linter.unusedVariables false
set_option linter.unusedSimpArgs false

/-- The document's signs. -/
def sg : List UInt8 := [48, 49, 50, 51, 52, 53, 54, 55, 56, 57, 65, 66, 67, 68, 69, 70, 71, 72, 73, 74, 75, 76, 77, 78, 79, 80, 81, 82, 83, 84, 85, 86, 87, 88, 89, 90]

theorem sg_bs : bytesOf [48, 49, 50, 51, 52, 53, 54, 55, 56, 57, 65, 66, 67, 68, 69, 70, 71, 72, 73, 74, 75, 76, 77, 78, 79, 80, 81, 82, 83, 84, 85, 86, 87, 88, 89, 90] = bs sg := rfl
theorem sg_length : sg.length = 36 := rfl

theorem sg_cap : ∀ v : Fin 36, sg[v.1]? = some (cap v.1) := by decide +kernel

theorem sg_at {v : Nat} (h : v < 36) : sg[v]'(by rw [sg_length]; exact h) = cap v := by
  have := sg_cap ⟨v, h⟩
  rw [List.getElem?_eq_getElem (by rw [sg_length]; exact h)] at this
  exact Option.some.inj this

theorem cap_val : ∀ v : Fin 36, ((cap v.1).toNat : Int) = if v.1 < 10 then 48 + (v.1 : Int) else 55 + (v.1 : Int) := by decide +kernel

theorem cap_num {v : Nat} (h : v < 36) : ((cap v).toNat : Int) = if v < 10 then 48 + (v : Int) else 55 + (v : Int) := cap_val ⟨v, h⟩

theorem d_pass {c b : Int} (hb : b ≤ 36) {i : Nat} (hi : (i : Int) < b) :
    r5_Digit_L1_pass (c, b, (i : Int)) = if ((cap i).toNat : Int) = c then some (.inr (.inl ((i : Int), true))) else some (.inl (c, b, ((i + 1 : Nat) : Int))) := by
  unfold r5_Digit_L1_pass r5_Digit_L1_t
  simp only
  have h36 : i < 36 := by omega
  rw [decide_eq_true hi, decide_eq_true (show (0 : Int) ≤ i ∧ (i : Int) < 36 by omega), sg_bs, Int.toNat_natCast, bs_at sg i (by rw [sg_length]; exact h36), sg_at h36]
  have w : IntKind.wrap IntKind.i64 ((cap i).toNat : Int) = ((cap i).toNat : Int) := by
    have := (cap i).toNat_lt
    rw [wi, W_of ⟨by omega, by omega⟩]
  have w2 : IntKind.wrap IntKind.i64 ((i : Int) + 1) = ((i + 1 : Nat) : Int) := by rw [wi, W_of ⟨by omega, by omega⟩]; omega
  rw [w, w2]
  by_cases h : ((cap i).toNat : Int) = c
  · rw [if_pos h, beq_iff_eq.2 h]; rfl
  · rw [if_neg h, beq_eq_false_iff_ne.2 h]; rfl

theorem d_end {c b : Int} : r5_Digit_L1_pass (c, b, b) = some (.inr (.inr ())) := by
  unfold r5_Digit_L1_pass r5_Digit_L1_t
  simp only
  rw [decide_eq_false (by omega)]
  rfl

/-- A sign's place among the document's signs. -/
def sw (c : Int) : Int := if 48 ≤ c ∧ c ≤ 57 then c - 48 else if 65 ≤ c ∧ c ≤ 90 then c - 55 else -1

theorem d_loop {c b : Int} (b1 : 2 ≤ b) (b2 : b ≤ 36) : r5_Digit_L1 (c, b, 0) = some (if 0 ≤ sw c ∧ sw c < b then .inl (sw c, true) else .inr ()) := by
  unfold r5_Digit_L1
  by_cases h : 0 ≤ sw c ∧ sw c < b
  · rw [if_pos h]
    obtain ⟨N, hN⟩ : ∃ N : Nat, sw c = N := ⟨(sw c).toNat, by omega⟩
    have hc : ((cap N).toNat : Int) = c := by
      rw [cap_num (by omega)]
      unfold sw at hN h
      split <;> (split at hN <;> first | omega | (split at hN <;> omega))
    rw [hN]
    refine runs_all (fun i : Nat => ((c, b, (i : Int)) : r5_Digit_L1_D)) N (fun i hi => ?_) ?_
    · show r5_Digit_L1_pass (c, b, (i : Int)) = _
      rw [d_pass b2 (by omega), if_neg]
      intro e
      rw [← hc, cap_num (by omega), cap_num (by omega)] at e
      split at e <;> split at e <;> omega
    · show r5_Digit_L1_pass (c, b, (N : Int)) = _
      rw [d_pass b2 (by omega), if_pos hc]
  · rw [if_neg h]
    obtain ⟨N, hN⟩ : ∃ N : Nat, b = N := ⟨b.toNat, by omega⟩
    refine runs_all (fun i : Nat => ((c, b, (i : Int)) : r5_Digit_L1_D)) N (fun i hi => ?_) ?_
    · show r5_Digit_L1_pass (c, b, (i : Int)) = _
      rw [d_pass b2 (by omega), if_neg]
      intro e
      apply h
      rw [cap_num (by omega)] at e
      unfold sw
      split at e
      · rw [if_pos (by omega)]; omega
      · rw [if_neg (by omega), if_pos (by omega)]; omega
    · show r5_Digit_L1_pass (c, b, (N : Int)) = _
      rw [← hN]
      exact d_end

theorem r5Digit_eq {c b : Int} (hc : Cell c) : r5_Digit c b = some (match dig c b with | some v => (v, true) | none => (0, false)) := by
  unfold r5_Digit r5_Digit_t
  have m1 : r5_Digit_M1 b = some (if goodB b = true then .inr () else .inl (0, false)) := by
    unfold r5_Digit_M1 r5_Digit_M1_t
    by_cases h : b < 2
    · rw [decide_eq_true h, if_neg (by unfold goodB; rw [decide_eq_true_eq]; omega)]; rfl
    · rw [decide_eq_false h]
      by_cases h2 : b > 36
      · rw [decide_eq_true h2, if_neg (by unfold goodB; rw [decide_eq_true_eq]; omega)]; rfl
      · rw [decide_eq_false h2, if_pos (by unfold goodB; rw [decide_eq_true_eq]; omega)]; rfl
  have m2 : r5_Digit_M2 c = some (if 97 ≤ c ∧ c ≤ 122 then c - 32 else c) := by
    unfold r5_Digit_M2 r5_Digit_M2_t
    by_cases h : c ≥ 97
    · rw [decide_eq_true h]
      by_cases h2 : c ≤ 122
      · rw [decide_eq_true h2, if_pos ⟨h, h2⟩, wi, W_of ⟨by omega, by omega⟩]; rfl
      · rw [decide_eq_false h2, if_neg (fun hh => h2 hh.2)]; rfl
    · rw [decide_eq_false h, if_neg (fun hh => h hh.1)]; rfl
  rw [m1]
  cases hg : goodB b with
  | false =>
    have : dig c b = none := by unfold dig; rw [if_neg]; rw [hg]; exact fun hh => by cases hh.1
    rw [this]; rfl
  | true =>
    obtain ⟨g1, g2⟩ := of_decide_eq_true hg
    simp only [if_true, outOf, sumOf]
    rw [m2]
    simp only [outOf]
    rw [d_loop g1 g2]
    have hs : sw (if 97 ≤ c ∧ c ≤ 122 then c - 32 else c) = worth c := by
      unfold sw worth
      by_cases h : 97 ≤ c ∧ c ≤ 122
      · rw [if_pos h, if_neg (by omega), if_pos (by omega), if_neg (by omega), if_neg (by omega), if_pos h]; omega
      · rw [if_neg h]
        split
        · rfl
        · split
          · rfl
          · first | rfl | rw [if_neg h]
    rw [hs]
    unfold dig
    rw [hg]
    by_cases h : 0 ≤ worth c ∧ worth c < b
    · rw [if_pos h, if_pos ⟨rfl, h.1, h.2⟩]
      try rfl
    · rw [if_neg h, if_neg (fun hh => h ⟨hh.2.1, hh.2.2⟩)]
      try rfl

theorem r5Sign_eq {v : Nat} (h : v < 36) : r5_Sign (v : Int) = some (bs [cap v]) := by
  unfold r5_Sign r5_Sign_t
  have w2 : IntKind.wrap IntKind.i64 ((v : Int) + 1) = ((v + 1 : Nat) : Int) := by rw [wi, W_of ⟨by omega, by omega⟩]; omega
  rw [decide_eq_false (by omega), decide_eq_false (by omega), w2, decide_eq_true (show (0 : Int) ≤ v ∧ (v : Int) ≤ ((v + 1 : Nat) : Int) ∧ ((v + 1 : Nat) : Int) ≤ 36 by omega)]
  simp only [cond_true, cond_false, Int.toNat_natCast]
  rw [sg_bs, bs_piece sg v (by rw [sg_length]; exact h), sg_at h]

theorem signs_same (n : Int) : ∃ l, num_Sign n = some (bs l) ∧ r5_Sign n = some (bs l) := by
  by_cases h : 0 ≤ n ∧ n < 36
  · obtain ⟨v, rfl⟩ : ∃ v : Nat, n = v := ⟨n.toNat, by omega⟩
    exact ⟨_, Sign_eq (by omega), r5Sign_eq (by omega)⟩
  · refine ⟨[], ?_, ?_⟩
    · unfold num_Sign num_Sign_t num_Sign_M1 num_Sign_M1_t
      by_cases h0 : n < 0
      · rw [decide_eq_true h0]; rfl
      · rw [decide_eq_false h0, decide_eq_true (by omega)]; rfl
    · unfold r5_Sign r5_Sign_t
      by_cases h0 : n < 0
      · rw [decide_eq_true h0]; rfl
      · rw [decide_eq_false h0, decide_eq_true (by omega)]; rfl

theorem r4Same_eq (l : List Int) (hl : l.length < 4611686018427387904) : r4_Same l l = some true := by
  unfold r4_Same r4_Same_t
  have h : r4_Same_L1 (l, l, 0) = some (.inr ()) := by
    unfold r4_Same_L1
    refine runs_all (fun i : Nat => ((l, l, (i : Int)) : r4_Same_L1_D)) l.length (fun i hi => ?_) ?_
    · show r4_Same_L1_pass (l, l, (i : Int)) = _
      unfold r4_Same_L1_pass r4_Same_L1_t
      simp only
      have w2 : IntKind.wrap IntKind.i64 ((i : Int) + 1) = ((i + 1 : Nat) : Int) := by rw [wi, W_of ⟨by omega, by omega⟩]; omega
      rw [decide_eq_true (show (i : Int) < (l.length : Int) by omega), decide_eq_true (show (0 : Int) ≤ i ∧ (i : Int) < (l.length : Int) by omega), bne_self_eq_false, w2]
      rfl
    · show r4_Same_L1_pass (l, l, (l.length : Int)) = _
      unfold r4_Same_L1_pass r4_Same_L1_t
      simp only
      rw [decide_eq_false (by omega)]
      rfl
  rw [h, bne_self_eq_false]
  rfl

theorem r5times_eq {v : Int} {b : Nat} {x : Int} (hb : b ≤ 36) (hx : 0 ≤ x ∧ x < 36) : r5_times (W v) (W (v / 18446744073709551616)) (b : Int) x = some (Pd (v * b + x)) := by
  unfold r5_times r5_times_t
  have e0 : (x, (0 : Int)) = Pd x := by unfold Pd W; refine Prod.ext ?_ ?_ <;> simp only <;> omega
  have h : r5_times_L1 ((b : Int), 0, W v, W (v / 18446744073709551616), 0, 0, x, 0) = some (0, 0, (Pd (v * b + x)).1, (Pd (v * b + x)).2) := by
    unfold r5_times_L1
    have := runs_all (pass := r5_times_L1_pass) (fun i : Nat => (((b : Int), (i : Int), W v, W (v / 18446744073709551616), 0, 0, (Pd (v * i + x)).1, (Pd (v * i + x)).2) : r5_times_L1_D)) b (x := (0, 0, (Pd (v * b + x)).1, (Pd (v * b + x)).2)) (fun i hi => ?_) ?_
    · have e1 : (Pd (v * ((0 : Nat) : Int) + x)) = (x, 0) := by
        rw [e0]; congr 1; simp
      simp only [e1] at this
      exact this
    · show r5_times_L1_pass ((b : Int), (i : Int), W v, W (v / 18446744073709551616), 0, 0, (Pd (v * i + x)).1, (Pd (v * i + x)).2) = _
      unfold r5_times_L1_pass r5_times_L1_t
      simp only
      have w2 : IntKind.wrap IntKind.i64 ((i : Int) + 1) = ((i + 1 : Nat) : Int) := by rw [wi, W_of ⟨by omega, by omega⟩]; omega
      have ha : ref_Add (Pd (v * i + x)).1 (Pd (v * i + x)).2 (W v) (W (v / 18446744073709551616)) = some (Pd (v * ((i + 1 : Nat) : Int) + x)) := by
        have := rAdd (v * i + x) v
        have e : v * (i : Int) + x + v = v * ((i + 1 : Nat) : Int) + x := by
          rw [show ((i + 1 : Nat) : Int) = (i : Int) + 1 from rfl, Int.mul_add, Int.mul_one]; omega
        rw [e] at this
        exact this
      rw [decide_eq_true (by omega), w2, ha]
      rfl
    · show r5_times_L1_pass ((b : Int), (b : Int), W v, W (v / 18446744073709551616), 0, 0, (Pd (v * b + x)).1, (Pd (v * b + x)).2) = _
      unfold r5_times_L1_pass r5_times_L1_t
      simp only
      rw [decide_eq_false (by omega)]
      rfl
  rw [h]
  rfl

end Go.Proofs.Dbl

/- Plain facts: the document's number of a text. -/
namespace Go.Proofs.Dbl
open Go Go.TX Go.Proofs
set_option maxRecDepth 100000
set_option maxHeartbeats 0
set_option linter.unusedVariables false
set_option linter.unusedSimpArgs false

theorem first_is (x : UInt8) (t : List UInt8) (q : UInt8) : ((UInt8.toNat (List.getD (Array.toList (ByteArray.data (bs (x :: t)))) 0 (UInt8.ofNat (nat_lit 0))) : Int) == (q.toNat : Int)) = starts (x :: t) [q] := by
  rw [starts_cons]
  show ((x.toNat : Int) == (q.toNat : Int)) = (x == q)
  rw [Bool.eq_iff_iff, beq_iff_eq, beq_iff_eq, Int.ofNat_inj]
  exact ⟨fun h => UInt8.toNat.inj h, fun h => by rw [h]⟩

theorem last_is {t : List UInt8} (h : t ≠ []) (q : UInt8) : ((UInt8.toNat (List.getD (Array.toList (ByteArray.data (bs t))) (t.length - 1) (UInt8.ofNat (nat_lit 0))) : Int) == (q.toNat : Int)) = ends t [q] := by
  have hl : 1 ≤ t.length := by cases t with | nil => exact absurd rfl h | cons x r => simp
  rw [bs_at t (t.length - 1) (by omega)]
  unfold ends
  rw [decide_eq_true (show ([q] : List UInt8).length ≤ t.length by simpa using hl), Bool.true_and]
  have : t.drop (t.length - ([q] : List UInt8).length) = [t[t.length - 1]] := by
    rw [show ([q] : List UInt8).length = 1 from rfl, List.drop_eq_getElem_cons (by omega), List.drop_eq_nil_of_le (by omega)]
  rw [this]
  rw [Bool.eq_iff_iff, beq_iff_eq, beq_iff_eq, Int.ofNat_inj]
  exact ⟨fun h => by rw [UInt8.toNat.inj h], fun h => by injection h with h1 _; rw [h1]⟩

theorem p_M3 (x : UInt8) (t : List UInt8) (b : Int) : r5_Parse_M3 (bs (x :: t)) b = some (bs (pre (x :: t) b).1, (pre (x :: t) b).2) := by
  unfold r5_Parse_M3 r5_Parse_M3_t
  rw [bs_size]
  have hl : ((x :: t).length : Int) = (t.length : Int) + 1 := by simp
  rw [decide_eq_true (show (0 : Int) ≤ 0 ∧ (0 : Int) < ((x :: t).length : Int) by omega), decide_eq_true (show (0 : Int) ≤ 1 ∧ (1 : Int) ≤ ((x :: t).length : Int) ∧ ((x :: t).length : Int) ≤ ((x :: t).length : Int) by omega)]
  have e35 := first_is x t 35
  have e36 := first_is x t 36
  have e37 := first_is x t 37
  rw [show ((35 : UInt8).toNat : Int) = 35 from rfl] at e35
  rw [show ((36 : UInt8).toNat : Int) = 36 from rfl] at e36
  rw [show ((37 : UInt8).toNat : Int) = 37 from rfl] at e37
  rw [e35, e36, e37, bs_extract, Int.toNat_natCast, List.take_length]
  unfold pre
  cases starts (x :: t) [35] <;> cases starts (x :: t) [36] <;> cases starts (x :: t) [37] <;> rfl

theorem p_M4 (t : List UInt8) : r5_Parse_M4 (bs t) = some (starts t [45]) := by
  unfold r5_Parse_M4 r5_Parse_M4_t
  rw [bs_size]
  cases t with
  | nil => rfl
  | cons x t =>
    have hl : ((x :: t).length : Int) = (t.length : Int) + 1 := by simp
    have e := first_is x t 45
    rw [show ((45 : UInt8).toNat : Int) = 45 from rfl] at e
    rw [decide_eq_true (by omega), decide_eq_true (by omega), e]
    rfl

theorem starts_pos {t : List UInt8} {q : UInt8} (h : starts t [q] = true) : 1 ≤ t.length := by
  cases t with
  | nil => cases h
  | cons x r => simp

theorem ends_pos {t : List UInt8} {q : UInt8} (h : ends t [q] = true) : 1 ≤ t.length := by
  cases t with
  | nil => cases h
  | cons x r => simp

theorem p_M5 (t : List UInt8) : r5_Parse_M5 (bs t) (starts t [45]) = some (bs (if starts t [45] = true then t.drop 1 else t)) := by
  unfold r5_Parse_M5 r5_Parse_M5_t
  cases h : starts t [45] with
  | false => rfl
  | true =>
    have := starts_pos h
    rw [bs_size, decide_eq_true (by omega), bs_extract, Int.toNat_natCast, List.take_length]
    rfl

theorem p_M6 {t : List UInt8} (hl : t.length ≤ 1000) : r5_Parse_M6 (bs t) = some (ends t [46]) := by
  unfold r5_Parse_M6 r5_Parse_M6_t
  rw [bs_size]
  by_cases h : t = []
  · subst h; rfl
  · have hp : 1 ≤ t.length := by cases t with | nil => exact absurd rfl h | cons x r => simp
    have w : IntKind.wrap IntKind.i64 ((t.length : Int) - 1) = ((t.length - 1 : Nat) : Int) := by rw [wi, W_of ⟨by omega, by omega⟩]; omega
    have e := last_is h 46
    rw [show ((46 : UInt8).toNat : Int) = 46 from rfl] at e
    rw [w, decide_eq_true (by omega), decide_eq_true (show (0 : Int) ≤ ((t.length - 1 : Nat) : Int) ∧ ((t.length - 1 : Nat) : Int) < (t.length : Int) by omega), Int.toNat_natCast, e]
    rfl

theorem p_M7 {t : List UInt8} (hl : t.length ≤ 1000) : r5_Parse_M7 (bs t) (ends t [46]) = some (bs (if ends t [46] = true then t.take (t.length - 1) else t)) := by
  unfold r5_Parse_M7 r5_Parse_M7_t
  cases h : ends t [46] with
  | false => rfl
  | true =>
    have hp := ends_pos h
    have w : IntKind.wrap IntKind.i64 ((t.length : Int) - 1) = ((t.length - 1 : Nat) : Int) := by rw [wi, W_of ⟨by omega, by omega⟩]; omega
    rw [bs_size, w, decide_eq_true (show (0 : Int) ≤ 0 ∧ (0 : Int) ≤ ((t.length - 1 : Nat) : Int) ∧ ((t.length - 1 : Nat) : Int) ≤ (t.length : Int) by omega), bs_extract, Int.toNat_natCast, List.drop_zero]
    rfl

theorem p_pass {l : List UInt8} (hl : l.length ≤ 1000) {b : Nat} (b2 : b ≤ 36) (n1 n2 : Bool) {i : Nat} (hi : i < l.length) (v : Int) :
    r5_Parse_L1_pass (bs l, (b : Int), n1, n2, (i : Int), W v, W (v / 18446744073709551616)) =
      match dig (l[i].toNat : Int) b with
      | none => some (.inr (.inl ([], false)))
      | some x => some (.inl (bs l, (b : Int), n1, n2, ((i + 1 : Nat) : Int), W (v * b + x), W ((v * b + x) / 18446744073709551616))) := by
  unfold r5_Parse_L1_pass r5_Parse_L1_t
  simp only
  have hw : IntKind.wrap IntKind.i64 ((l[i].toNat : Nat) : Int) = ((l[i].toNat : Nat) : Int) := by
    have := l[i].toNat_lt
    rw [wi, W_of ⟨by omega, by omega⟩]
  have hcell : Cell ((l[i].toNat : Nat) : Int) := by
    have := l[i].toNat_lt
    exact ⟨by omega, by omega⟩
  have w2 : IntKind.wrap IntKind.i64 ((i : Int) + 1) = ((i + 1 : Nat) : Int) := by rw [wi, W_of ⟨by omega, by omega⟩]; omega
  rw [bs_size, decide_eq_true (show (i : Int) < (l.length : Int) by omega), decide_eq_true (show (0 : Int) ≤ i ∧ (i : Int) < (l.length : Int) by omega), Int.toNat_natCast, bs_at l i hi, hw, r5Digit_eq hcell, w2]
  simp only [cond_true, outOf]
  cases hd : dig (l[i].toNat : Int) b with
  | none => rfl
  | some x =>
    have hr := dig_range hd
    simp only [Bool.not_true, cond_false]
    rw [r5times_eq b2 ⟨hr.1, by omega⟩]
    rfl

theorem p_loop {l : List UInt8} (hl : l.length ≤ 1000) {b : Nat} (b2 : b ≤ 36) (n1 n2 : Bool) : ∀ (k i : Nat) (v : Int), i + k = l.length →
    r5_Parse_L1 (bs l, (b : Int), n1, n2, (i : Int), W v, W (v / 18446744073709551616)) =
      some (match dfold (b : Int) (l.drop i) v with
      | none => .inl ([], false)
      | some w => .inr (n1, n2, W w, W (w / 18446744073709551616)))
  | 0, i, v, h => by
    have : l.drop i = [] := List.drop_eq_nil_of_le (by omega)
    rw [this]
    refine runs_out ?_
    unfold r5_Parse_L1_pass r5_Parse_L1_t
    simp only
    rw [bs_size, decide_eq_false (by omega)]
    rfl
  | k + 1, i, v, h => by
    have hi : i < l.length := by omega
    have hp := p_pass hl b2 n1 n2 hi v
    rw [List.drop_eq_getElem_cons hi, dfold_cons]
    cases hd : dig (l[i].toNat : Int) b with
    | none =>
      rw [hd] at hp
      exact runs_out hp
    | some x =>
      rw [hd] at hp
      have := p_loop hl b2 n1 n2 k (i + 1) (v * b + x) (by omega)
      unfold r5_Parse_L1 at this ⊢
      rw [runs_next hp, this]

theorem p_M8 (neg : Bool) (v : Int) : r5_Parse_M8 neg (W v) (W (v / 18446744073709551616)) = some (Pd (if neg = true then -v else v)) := by
  unfold r5_Parse_M8 r5_Parse_M8_t
  cases neg with
  | false => rfl
  | true => rw [rNeg]; rfl

/-- What is behind a base's sign, by the document. -/
theorem p_rest {l : List UInt8} (hl : l.length ≤ 1000) {b : Nat} (b2 : b ≤ 36) :
    (outOf (r5_Parse_M4 (bs l)) fun (x147 : Bool) => outOf (r5_Parse_M5 (bs l) x147) fun (x148 : ByteArray) => outOf (r5_Parse_M6 x148) fun (x149 : Bool) => outOf (r5_Parse_M7 x148 x149) fun (x150 : ByteArray) => cond ((↑(ByteArray.size x150) : Int) == (0 : Int)) (some (([] : List Int), false)) (outOf (r5_Parse_L1 (x150, (b : Int), x147, x149, (0 : Int), (0 : Int), (0 : Int))) fun (x151 : List Int × Bool ⊕ Bool × Bool × Int × Int) => sumOf x151 (fun x152 => some (Prod.fst x152, Prod.snd x152)) (fun x153 => outOf (r5_Parse_M8 (Prod.fst x153) (Prod.fst (Prod.snd (Prod.snd x153))) (Prod.snd (Prod.snd (Prod.snd x153)))) fun (x154 : (Int × Int)) => cond (Prod.fst (Prod.snd x153)) (some ([Prod.fst x154, Prod.snd x154], true)) (some ([Prod.fst x154], true))))) = some (numOf' l b) := by
  rw [p_M4]
  simp only [outOf]
  rw [p_M5]
  simp only
  unfold numOf' numW
  generalize hneg : starts l [45] = neg
  have h1 : (if neg = true then l.drop 1 else l).length ≤ 1000 := by split <;> (try simp only [List.length_drop, List.length_take]) <;> omega
  simp only
  generalize (if neg = true then l.drop 1 else l) = l1 at *
  rw [p_M6 h1]
  simp only
  rw [p_M7 h1]
  simp only
  generalize hdot : ends l1 [46] = dot
  have h2 : (if dot = true then l1.take (l1.length - 1) else l1).length ≤ 1000 := by split <;> (try simp only [List.length_drop, List.length_take]) <;> omega
  generalize (if dot = true then l1.take (l1.length - 1) else l1) = l2 at *
  rw [bs_size]
  by_cases h0 : l2 = []
  · subst h0; rfl
  · have hz : ((l2.length : Int) == 0) = false := by
      rw [beq_eq_false_iff_ne]
      intro e
      exact h0 (List.length_eq_zero_iff.1 (by omega))
    rw [hz]
    have lp := p_loop h2 b2 neg dot l2.length 0 0 (by omega)
    rw [show W 0 = 0 from by decide, show W (0 / 18446744073709551616) = 0 from by decide, List.drop_zero] at lp
    rw [show (((0 : Nat) : Int)) = 0 from rfl] at lp
    rw [lp]
    simp only [cond_false]
    cases hd : dfold (b : Int) l2 0 with
    | none => rfl
    | some w =>
      simp only [sumOf]
      rw [p_M8, if_neg h0]
      cases dot <;> rfl

theorem quoted_3 (x y z : UInt8) : quoted [x, y, z] = (x == 39 && z == 39) := by
  unfold quoted
  rw [starts_cons]
  have : ends [x, y, z] [39] = (z == 39) := by simp [ends]
  rw [this]
  rfl

theorem p_M2 {l : List UInt8} : r5_Parse_M2 (bs l) = some (if quoted l = true then .inl ([((l.getD 1 0).toNat : Int)], true) else .inr ()) := by
  unfold r5_Parse_M2 r5_Parse_M2_t
  by_cases h : l.length = 3
  · obtain ⟨x, y, z, rfl⟩ : ∃ x y z, l = [x, y, z] := by
      match l, h with
      | [x, y, z], _ => exact ⟨x, y, z, rfl⟩
    rw [quoted_3]
    have ex : (((UInt8.toNat (List.getD (Array.toList (ByteArray.data (bs [x, y, z]))) 0 (UInt8.ofNat (nat_lit 0))) : Nat) : Int) == 39) = (x == 39) := by
      have := first_is x [y, z] 39
      rw [starts_cons] at this
      exact this
    have ez : (((UInt8.toNat (List.getD (Array.toList (ByteArray.data (bs [x, y, z]))) 2 (UInt8.ofNat (nat_lit 0))) : Nat) : Int) == 39) = (z == 39) := by
      have := first_is z [] 39
      rw [starts_cons] at this
      exact this
    have ey : IntKind.wrap IntKind.i64 (((UInt8.toNat (List.getD (Array.toList (ByteArray.data (bs [x, y, z]))) 1 (UInt8.ofNat (nat_lit 0))) : Nat) : Int)) = (y.toNat : Int) := by
      show IntKind.wrap IntKind.i64 (y.toNat : Int) = _
      have := y.toNat_lt
      rw [wi, W_of ⟨by omega, by omega⟩]
    rw [ex, ez, ey]
    cases x == 39 <;> cases z == 39 <;> rfl
  · have : (((bs l).size : Int) == 3) = false := by
      rw [bs_size, beq_eq_false_iff_ne]; omega
    rw [this]
    have hq : quoted l = false := by unfold quoted; rw [decide_eq_false h]; rfl
    rw [hq]
    rfl

theorem pre_base {l : List UInt8} {b : Int} (h : goodB b = true) : ∃ B : Nat, (pre l b).2 = (B : Int) ∧ B ≤ 36 := by
  obtain ⟨g1, g2⟩ := of_decide_eq_true h
  unfold pre
  split
  · exact ⟨10, rfl, by omega⟩
  · split
    · exact ⟨16, rfl, by omega⟩
    · split
      · exact ⟨2, rfl, by omega⟩
      · exact ⟨b.toNat, by simp only; omega, by omega⟩

theorem r5Parse_eq {l : List UInt8} (hl : l.length ≤ 1000) (b : Int) : r5_Parse (bs l) b = some (parse' l b) := by
  unfold r5_Parse r5_Parse_t
  by_cases h : goodB b = true ∧ l ≠ []
  · obtain ⟨hg, h0⟩ := h
    obtain ⟨g1, g2⟩ := of_decide_eq_true hg
    have m1 : r5_Parse_M1 (bs l) b = some (.inr ()) := by
      unfold r5_Parse_M1 r5_Parse_M1_t
      have hz : (((bs l).size : Int) == 0) = false := by
        rw [bs_size, beq_eq_false_iff_ne]
        intro e
        exact h0 (List.length_eq_zero_iff.1 (by omega))
      rw [decide_eq_false (by omega), decide_eq_false (by omega), hz]; rfl
    rw [m1, p_M2]
    simp only [outOf, sumOf]
    unfold parse'
    rw [if_pos hg]
    cases hq : quoted l with
    | true => rfl
    | false =>
      simp only [Bool.false_eq_true, if_false]
      cases l with
      | nil => exact absurd rfl h0
      | cons x t =>
        rw [p_M3]
        simp only
        obtain ⟨B, e, hB⟩ := pre_base (l := x :: t) hg
        have hpl : (pre (x :: t) b).1.length ≤ 1000 := Nat.le_trans (pre_length _ _) hl
        rw [e]
        have := p_rest hpl hB
        simp only [outOf, sumOf] at this
        exact this
  · have m1 : r5_Parse_M1 (bs l) b = some (.inl ([], false)) := by
      unfold r5_Parse_M1 r5_Parse_M1_t
      by_cases h1 : b < 2
      · rw [decide_eq_true h1]; rfl
      · rw [decide_eq_false h1]
        by_cases h2 : b > 36
        · rw [decide_eq_true h2]; rfl
        · rw [decide_eq_false h2]
          have h0 : l = [] := by
            refine Decidable.byContradiction fun hn => h ⟨?_, hn⟩
            unfold goodB; rw [decide_eq_true_eq]; omega
          subst h0; rfl
    rw [m1]
    have hp : parse' l b = ([], false) := by
      by_cases hg : goodB b = true
      · have h0 : l = [] := Decidable.byContradiction fun hn => h ⟨hg, hn⟩
        subst h0; exact bad_empty b
      · exact parse_bad_base (Bool.eq_false_iff.2 hg) l
    rw [hp]
    rfl

end Go.Proofs.Dbl

/- Plain facts: the document's texts; NumIs holds. -/
namespace Go.Proofs.Dbl
open Go Go.TX Go.Proofs
set_option maxRecDepth 100000
set_option maxHeartbeats 0
set_option linter.unusedVariables false
set_option linter.unusedSimpArgs false

theorem un_low (u : Nat) : lo_ u % 18446744073709551616 = (u : Int) % 18446744073709551616 := by unfold lo_; rw [mod_W]
theorem un_high {u : Nat} (hu : u < 340282366920938463463374607431768211456) : hi_ u % 18446744073709551616 = (u : Int) / 18446744073709551616 := by
  unfold hi_; rw [mod_W]; exact Int.emod_eq_of_lt (by omega) (by omega)

theorem D_of (a r : Int) (h0 : 0 ≤ r) (h1 : r < 18446744073709551616) : D a r = a % 18446744073709551616 + 18446744073709551616 * r := by unfold D; omega
theorem D_nought (a : Int) : D a 0 = a % 18446744073709551616 := by unfold D; omega

theorem small_cell {b : Nat} (b2 : b ≤ 36) : Cell (b : Int) := ⟨by omega, by omega⟩
theorem small_mod {b : Nat} (b2 : b ≤ 36) : (b : Int) % 18446744073709551616 = b := by omega

theorem high_eq {b : Nat} (b1 : 2 ≤ b) (b2 : b ≤ 36) {u : Nat} (hu : u < 340282366920938463463374607431768211456) :
    r5_high (lo_ u) (hi_ u) (b : Int) = some (lo_ (u / b), hi_ (u / b), ((u % b : Nat) : Int), true) := by
  unfold r5_high r5_high_t
  have c1 : Cell (lo_ u) := by unfold lo_; exact W_cell _
  have c2 : Cell (hi_ u) := by unfold hi_; exact W_cell _
  have c0 : Cell 0 := ⟨by decide, by decide⟩
  have hb0 : ¬ (b : Int) = 0 := by omega
  rw [rUMod c2 c0 (small_cell b2), if_neg hb0, small_mod b2, if_pos (show (0 : Int) % 18446744073709551616 < (b : Int) by omega), D_nought, un_high hu]
  simp only [outOf]
  have hm0 : 0 ≤ (u : Int) / 18446744073709551616 % b := Int.emod_nonneg _ (by omega)
  have hm1 : (u : Int) / 18446744073709551616 % b < b := Int.emod_lt_of_pos _ (by omega)
  have wr : W ((u : Int) / 18446744073709551616 % b) = (u : Int) / 18446744073709551616 % b := W_of ⟨by omega, by omega⟩
  rw [wr, rUMod c1 (show Cell ((u : Int) / 18446744073709551616 % b) from ⟨by omega, by omega⟩) (small_cell b2), if_neg hb0, small_mod b2]
  have hlt : (u : Int) / 18446744073709551616 % b % 18446744073709551616 < (b : Int) := by omega
  rw [if_pos hlt, D_of _ _ hm0 (by omega), un_low]
  simp only
  have key : (u : Int) % 18446744073709551616 + 18446744073709551616 * ((u : Int) / 18446744073709551616 % b) = (u : Int) - b * (((u : Int) / 18446744073709551616 / b) * 18446744073709551616) := by
    have h := Int.emod_add_mul_ediv ((u : Int) / 18446744073709551616) b
    have h' := Int.emod_add_mul_ediv (u : Int) 18446744073709551616
    rw [← Int.mul_assoc]
    generalize (b : Int) * ((u : Int) / 18446744073709551616 / b) = z at *
    omega
  have er : ((u : Int) % 18446744073709551616 + 18446744073709551616 * ((u : Int) / 18446744073709551616 % b)) % b = ((u % b : Nat) : Int) := by
    rw [key, Int.sub_mul_emod_self_left]; exact (Int.natCast_emod u b).symm
  have eq' : ((u : Int) % 18446744073709551616 + 18446744073709551616 * ((u : Int) / 18446744073709551616 % b)) / b = (u : Int) / b - ((u : Int) / 18446744073709551616 / b) * 18446744073709551616 := by
    rw [key, Int.sub_mul_ediv_left _ _ (by omega)]
  have eqh : (u : Int) / 18446744073709551616 / b = (u : Int) / b / 18446744073709551616 := by
    rw [Int.ediv_ediv_of_nonneg (by omega), Int.ediv_ediv_of_nonneg (by omega), Int.mul_comm]
  rw [er, eq', eqh]
  have hub : ((u : Int) / b) = ((u / b : Nat) : Int) := (Int.natCast_ediv u b).symm
  rw [hub]
  have w1 : W ((u % b : Nat) : Int) = ((u % b : Nat) : Int) := by
    have := Nat.mod_lt u (show 0 < b by omega)
    rw [W_of ⟨by omega, by omega⟩]
  have w2 : W (((u / b : Nat) : Int) - ((u / b : Nat) : Int) / 18446744073709551616 * 18446744073709551616) = lo_ (u / b) := by
    have := low_of (u / b)
    rw [wi] at this
    exact this
  rw [w1, w2]
  rfl

theorem r5un_pass {b : Nat} (b1 : 2 ≤ b) (b2 : b ≤ 36) {u : Nat} (hu : u < 340282366920938463463374607431768211456) {t : List UInt8} (ht : t.length ≤ 1000) :
    r5_unsigned_L1_pass ((b : Int), bs t, lo_ u, hi_ u) =
      if u < b then some (.inr (bs (cap u :: t))) else some (.inl ((b : Int), bs (cap (u % b) :: t), lo_ (u / b), hi_ (u / b))) := by
  unfold r5_unsigned_L1_pass r5_unsigned_L1_t
  simp only
  rw [high_eq b1 b2 hu]
  simp only [outOf]
  have hsl : u % b < 36 := by have := Nat.mod_lt u (show 0 < b by omega); omega
  rw [r5Sign_eq hsl]
  simp only
  have hz : lo_ (u / b) = 0 ∧ hi_ (u / b) = 0 ↔ u / b = 0 := zero_of (Nat.lt_of_le_of_lt (Nat.div_le_self _ _) hu)
  have tz : (lo_ (u / b) == (0 : Int) && (hi_ (u / b) == (0 : Int) && true)) = decide (u < b) := by
    rw [Bool.and_true]
    by_cases h : u < b
    · have h0 : u / b = 0 := Nat.div_eq_of_lt h
      have h2 := hz.2 h0
      rw [h2.1, h2.2, decide_eq_true h]; rfl
    · have h0 : ¬ u / b = 0 := by
        have := (Nat.one_le_div_iff (show 0 < b by omega)).2 (show b ≤ u by omega)
        omega
      rw [decide_eq_false h, ← Bool.not_eq_true, Bool.and_eq_true, beq_iff_eq, beq_iff_eq]
      exact fun hh => h0 (hz.1 hh)
  rw [tz, bs_append, bs_size, bs_size, decide_eq_false (by simp only [List.length_singleton]; omega)]
  simp only [cond_false]
  have e1 : [cap (u % b)] ++ t = cap (u % b) :: t := rfl
  rw [e1]
  by_cases h : u < b
  · rw [if_pos h, decide_eq_true h, Nat.mod_eq_of_lt h]; rfl
  · rw [if_neg h, decide_eq_false h]; rfl

theorem r5un_loop {b : Nat} (b1 : 2 ≤ b) (b2 : b ≤ 36) : ∀ (k u : Nat) (t : List UInt8), u < 2 ^ k → k ≤ 128 → t.length + k ≤ 1000 →
    r5_unsigned_L1 ((b : Int), bs t, lo_ u, hi_ u) = some (bs (caps b u ++ t))
  | k, u, t, hu, hk, ht => by
    have hu' : u < 340282366920938463463374607431768211456 := by
      have h1 : 2 ^ k ≤ 2 ^ 128 := Nat.pow_le_pow_right (by omega) hk
      rw [two128] at h1
      omega
    have hp := r5un_pass b1 b2 hu' (t := t) (by omega)
    by_cases h : u < b
    · rw [if_pos h] at hp
      rw [caps_small h]
      exact runs_out hp
    · rw [if_neg h] at hp
      unfold r5_unsigned_L1
      rw [runs_next hp]
      match k with
      | 0 => simp at hu; omega
      | k + 1 =>
        have hlt : u / b < 2 ^ k := by
          have e : 2 ^ (k + 1) = 2 * 2 ^ k := Nat.pow_succ'
          have h1 : u / b ≤ u / 2 := Nat.div_le_div_left b1 (by omega)
          omega
        have := r5un_loop b1 b2 k (u / b) (cap (u % b) :: t) hlt (by omega) (by simp only [List.length_cons]; omega)
        unfold r5_unsigned_L1 at this
        rw [this, caps_big h b1, List.append_assoc]
        rfl

theorem r5unsigned_eq {b : Nat} (b1 : 2 ≤ b) (b2 : b ≤ 36) {u : Nat} (hu : u < 340282366920938463463374607431768211456) : r5_unsigned (lo_ u) (hi_ u) (b : Int) = some (bs (caps b u)) := by
  unfold r5_unsigned r5_unsigned_t
  have := r5un_loop b1 b2 128 u [] (by rw [two128]; exact hu) (Nat.le_refl _) (by simp)
  rw [show bytesOf [] = bs [] from rfl, this, List.append_nil]
  rfl

theorem r5UText_eq {b : Nat} (b1 : 2 ≤ b) (b2 : b ≤ 36) {n : Int} (hn : Cell n) : r5_UText n (b : Int) = some (bs (caps b (n % 18446744073709551616).toNat)) := by
  unfold r5_UText r5_UText_t
  rw [decide_eq_false (by omega), decide_eq_false (by omega)]
  simp only [cond_false]
  have hu := r5unsigned_eq b1 b2 (u := (n % 18446744073709551616).toNat) (by omega)
  have e1 : lo_ (n % 18446744073709551616).toNat = n := by
    unfold lo_
    rw [show (((n % 18446744073709551616).toNat : Nat) : Int) = n % 18446744073709551616 by omega, W_mod, W_of hn]
  have e2 : hi_ (n % 18446744073709551616).toNat = 0 := by
    unfold hi_
    rw [show (((n % 18446744073709551616).toNat : Nat) : Int) / 18446744073709551616 = 0 by omega]
    rfl
  rw [e1, e2] at hu
  rw [hu]
  rfl

theorem r5DText_eq {b : Nat} (b1 : 2 ≤ b) (b2 : b ≤ 36) {lo hi : Int} (h1 : Cell lo) (h2 : Cell hi) :
    r5_DText lo hi (b : Int) = some (bs ((if S lo hi < 0 then [45] else []) ++ caps b (S lo hi).natAbs)) := by
  unfold r5_DText r5_DText_t
  have m1 : r5_DText_M1 (b : Int) = some (.inr ()) := by
    unfold r5_DText_M1 r5_DText_M1_t
    rw [decide_eq_false (by omega), decide_eq_false (by omega)]; rfl
  rw [m1]
  simp only [outOf, sumOf]
  obtain ⟨r1, r2⟩ := S_range h1 h2
  have hs := Pd_S h1 h2
  have hsg : S lo hi < 0 ↔ hi < 0 := by unfold S; omega
  unfold Pd at hs
  generalize S lo hi = s at *
  obtain ⟨e1, e2⟩ := Prod.mk.inj hs
  by_cases h : hi < 0
  · rw [decide_eq_true h, if_pos (hsg.2 h)]
    simp only [cond_true]
    have hn := rNeg s
    rw [e1, e2] at hn
    rw [hn]
    simp only [Pd]
    have ea : -s = (s.natAbs : Int) := by have := hsg.2 h; omega
    rw [ea]
    have := r5unsigned_eq b1 b2 (u := s.natAbs) (by omega)
    unfold lo_ hi_ at this
    rw [this]
    simp only
    have hl : (caps b s.natAbs).length ≤ 129 := caps_length b (k := 128) (by rw [two128]; omega)
    rw [bs_size, decide_eq_false (by omega)]
    rfl
  · rw [decide_eq_false h, if_neg (fun hh => h (hsg.1 hh))]
    simp only [cond_false]
    have ea : s = (s.natAbs : Int) := by
      have : ¬ s < 0 := fun hh => h (hsg.1 hh)
      omega
    have := r5unsigned_eq b1 b2 (u := s.natAbs) (by omega)
    unfold lo_ hi_ at this
    rw [← ea, e1, e2] at this
    rw [this]
    rfl

theorem r5DText_bad {b : Int} (h : ¬ (2 ≤ b ∧ b ≤ 36)) (lo hi : Int) : r5_DText lo hi b = some (bs []) := by
  unfold r5_DText r5_DText_t
  have m1 : r5_DText_M1 b = some (.inl (bytesOf [])) := by
    unfold r5_DText_M1 r5_DText_M1_t
    by_cases h1 : b < 2
    · rw [decide_eq_true h1]; rfl
    · rw [decide_eq_false h1, decide_eq_true (by omega)]; rfl
  rw [m1]
  rfl

theorem r5UText_bad {b : Int} (h : ¬ (2 ≤ b ∧ b ≤ 36)) (n : Int) : r5_UText n b = some (bs []) := by
  unfold r5_UText r5_UText_t
  by_cases h1 : b < 2
  · rw [decide_eq_true h1]; rfl
  · rw [decide_eq_false h1, decide_eq_true (by omega)]; rfl

theorem dtexts_same {lo hi b : Int} (h1 : Cell lo) (h2 : Cell hi) : ∃ l, num_DText lo hi b = some (bs l) ∧ r5_DText lo hi b = some (bs l) := by
  by_cases h : 2 ≤ b ∧ b ≤ 36
  · obtain ⟨B, rfl⟩ : ∃ B : Nat, b = B := ⟨b.toNat, by omega⟩
    exact ⟨_, DText_eq (by omega) (by omega) h1 h2, r5DText_eq (by omega) (by omega) h1 h2⟩
  · exact ⟨_, DText_bad h lo hi, r5DText_bad h lo hi⟩

theorem utexts_same {n b : Int} (hn : Cell n) : ∃ l, num_UText n b = some (bs l) ∧ r5_UText n b = some (bs l) := by
  by_cases h : 2 ≤ b ∧ b ≤ 36
  · obtain ⟨B, rfl⟩ : ∃ B : Nat, b = B := ⟨b.toNat, by omega⟩
    exact ⟨_, UText_eq (by omega) (by omega) n, r5UText_eq (by omega) (by omega) hn⟩
  · exact ⟨_, UText_bad h n, r5UText_bad h n⟩

theorem S_own {n : Int} (hn : Cell n) : S (Pd n).1 (Pd n).2 = n := by
  unfold Cell at hn
  unfold Pd S W
  simp only
  omega

theorem texts_same {n b : Int} (hn : Cell n) : ∃ l, num_Text n b = some (bs l) ∧ r5_Text n b = some (bs l) := by
  have ht : r5_Text n b = r5_DText (Pd n).1 (Pd n).2 b := by
    unfold r5_Text r5_Text_t
    rw [rOf hn]
    simp only [outOf]
    cases r5_DText (Pd n).1 (Pd n).2 b <;> rfl
  rw [ht]
  by_cases h : 2 ≤ b ∧ b ≤ 36
  · obtain ⟨B, rfl⟩ : ∃ B : Nat, b = B := ⟨b.toNat, by omega⟩
    have := r5DText_eq (b := B) (by omega) (by omega) (lo := (Pd n).1) (hi := (Pd n).2) (W_cell _) (W_cell _)
    rw [S_own hn] at this
    exact ⟨_, Text_eq (by omega) (by omega) hn, this⟩
  · exact ⟨_, Text_bad h n, r5DText_bad h _ _⟩

theorem numW_length (go : List UInt8 → Int → Option Int) (l : List UInt8) (b : Int) : (numW go l b).1.length ≤ 2 := by
  unfold numW
  simp only
  repeat' split
  all_goals simp

theorem parse_length (l : List UInt8) (b : Int) : (parse' l b).1.length ≤ 2 := by
  unfold parse'
  split
  · split
    · simp
    · exact numW_length _ _ _
  · simp

theorem is_eq {s : List UInt8} {b n lo hi : Int} (hn : Cell n) (h1 : Cell lo) (h2 : Cell hi) : lawIs (bs s) b n lo hi = some true := by
  unfold lawIs lawIs_t
  rw [awake_eq]
  simp only [outOf]
  rw [bs_size]
  by_cases hs : ((s.length : Int) > 200)
  · rw [decide_eq_true hs]; rfl
  · obtain ⟨p, hp1, hp2⟩ : ∃ p, num_Digit n b = some p ∧ r5_Digit n b = some p := ⟨_, Digit_eq hn, r5Digit_eq hn⟩
    rw [decide_eq_false hs, hp1, hp2, parsed (by omega), r5Parse_eq (by omega)]
    simp only [cond_false, cond_true]
    have hp := parse_length s b
    generalize parse' s b = q at *
    have q1 : (p.1 == p.1) = true := beq_self_eq_true _
    have q2 : (p.2 == p.2) = true := beq_self_eq_true _
    have q3 : (q.2 == q.2) = true := beq_self_eq_true _
    rw [q1, q2, q3]
    simp only [cond_true]
    obtain ⟨l1, s1, s2⟩ := signs_same n
    rw [s1, s2, r4Same_eq _ (by omega)]
    simp only
    rw [same_bs]
    simp only [cond_true]
    obtain ⟨l2, t1, t2⟩ := texts_same (b := b) hn
    rw [t1, t2]
    simp only
    rw [same_bs]
    simp only [cond_true]
    obtain ⟨l3, u1, u2⟩ := utexts_same (b := b) hn
    rw [u1, u2]
    simp only
    rw [same_bs]
    simp only [cond_true]
    obtain ⟨l4, d1, d2⟩ := dtexts_same (b := b) h1 h2
    rw [d1, d2]
    simp only
    rw [same_bs]

end Go.Proofs.Dbl
