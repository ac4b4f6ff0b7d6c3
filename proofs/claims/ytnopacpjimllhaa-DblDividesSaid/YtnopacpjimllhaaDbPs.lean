/- Plain facts about the document's doubles: sums, and what is below what. -/
import Derived.Test.YtnopacpjimllhaaDbPr
namespace Go.Proofs.Dbl
open Go Go.TX Go.Proofs
set_option maxRecDepth 100000
set_option maxHeartbeats 0
set_option linter.unusedVariables false
set_option linter.unusedSimpArgs false

/-- What is carried into digit i. -/
def carry (X Y : Int) (i : Nat) : Int := (X % 2 ^ i + Y % 2 ^ i) / 2 ^ i

theorem carry_step (X Y : Int) (i : Nat) : carry X Y (i + 1) = (X / 2 ^ i % 2 + Y / 2 ^ i % 2 + carry X Y i) / 2 := by
  unfold carry
  rw [mod_bit X i, mod_bit Y i, Int.pow_succ, ← Int.ediv_ediv_of_nonneg (Int.le_of_lt (two_pos i))]
  have : X % 2 ^ i + 2 ^ i * (X / 2 ^ i % 2) + (Y % 2 ^ i + 2 ^ i * (Y / 2 ^ i % 2)) = (X % 2 ^ i + Y % 2 ^ i) + 2 ^ i * (X / 2 ^ i % 2 + Y / 2 ^ i % 2) := by
    rw [Int.mul_add]; omega
  rw [this, Int.add_mul_ediv_left _ _ (by have := two_pos i; omega)]
  congr 1
  omega

theorem sum_bit (X Y : Int) (i : Nat) : (X + Y) / 2 ^ i % 2 = (X / 2 ^ i % 2 + Y / 2 ^ i % 2 + carry X Y i) % 2 := by
  have h1 := Int.mul_ediv_add_emod X (2 ^ i)
  have h2 := Int.mul_ediv_add_emod Y (2 ^ i)
  have : X + Y = (X % 2 ^ i + Y % 2 ^ i) + 2 ^ i * (X / 2 ^ i + Y / 2 ^ i) := by rw [Int.mul_add]; omega
  rw [this, Int.add_mul_ediv_left _ _ (by have := two_pos i; omega)]
  unfold carry
  omega

theorem carry_01 (X Y : Int) (i : Nat) : carry X Y i = 0 ∨ carry X Y i = 1 := by
  unfold carry
  have h0 := two_pos i
  have a0 := Int.emod_nonneg X (b := 2 ^ i) (by omega)
  have a1 := Int.emod_lt_of_pos X h0
  have b0 := Int.emod_nonneg Y (b := 2 ^ i) (by omega)
  have b1 := Int.emod_lt_of_pos Y h0
  have h1 : 0 ≤ (X % 2 ^ i + Y % 2 ^ i) / 2 ^ i := Int.ediv_nonneg (by omega) (by omega)
  have h2 : (X % 2 ^ i + Y % 2 ^ i) / 2 ^ i < 2 := Int.ediv_lt_of_lt_mul h0 (by omega)
  omega

theorem set_next (x : Int) {i n : Nat} (h : i < n) (v : Int) : (bitL x i ++ List.replicate (n - i) 0).set i v = bitL x i ++ v :: List.replicate (n - (i + 1)) 0 := by
  rw [List.set_append_right _ _ (by rw [bitL_len]; omega), bitL_len, Nat.sub_self]
  rw [show n - i = (n - (i + 1)) + 1 from by omega, List.replicate_succ]
  rfl

theorem Add_L1 (X Y : Int) : ref_Add_L1 (bitL X 128, bitL Y 128, 128, 0, 0, 0, 0, List.replicate 128 0) = some (128, 0, 0, bitL (X + Y) 128) := by
  have := runs_all (pass := ref_Add_L1_pass) (fun i => (bitL X 128, bitL Y 128, 128, carry X Y i, (i : Int), 0, 0, bitL (X + Y) i ++ List.replicate (128 - i) 0)) 128 (x := (128, 0, 0, bitL (X + Y) 128)) (fun i h => ?_) ?_
  · have e : carry X Y 0 = 0 := by unfold carry; simp [Int.emod_one]
    simp only [e] at this
    exact this
  · unfold ref_Add_L1_pass ref_Add_L1_t
    simp only [bitL_len, wi, Nat.zero_add]
    rw [decide_eq_true (by omega), decide_eq_true (by omega)]
    simp only [cond_true, Int.toNat_natCast]
    rw [bitL_get X (by omega), bitL_get Y (by omega), set_next (X + Y) h, bitL_succ (X + Y) i, List.append_assoc]
    have hc := carry_01 X Y i
    have e0 : W (X / 2 ^ i % 2 + Y / 2 ^ i % 2) = X / 2 ^ i % 2 + Y / 2 ^ i % 2 := W_of (by unfold Cell; omega)
    have e1 : W (X / 2 ^ i % 2 + Y / 2 ^ i % 2 + carry X Y i) = X / 2 ^ i % 2 + Y / 2 ^ i % 2 + carry X Y i := W_of (by unfold Cell; omega)
    rw [e0, e1, Int.tdiv_eq_ediv_of_nonneg (by omega), Int.tmod_eq_emod_of_nonneg (by omega), ← sum_bit, ← carry_step, show W ((i : Int) + 1) = ((i + 1 : Nat) : Int) from by unfold W; omega]
    rw [W_of (by have := carry_01 X Y (i + 1); unfold Cell; omega)]
    rfl
  · unfold ref_Add_L1_pass ref_Add_L1_t
    simp only [Nat.sub_self, List.replicate_zero, List.append_nil]
    rfl

theorem rAdd_D (a b c d : Int) : ref_Add a b c d = some (Pd (D a b + D c d)) := by
  unfold ref_Add ref_Add_t
  rw [bits_eq, bits_eq]
  simp only [outOf_some]
  rw [Add_L1]
  simp only [outOf_some, List.drop_zero]
  rw [List.take_of_length_le (by rw [bitL_len]; omega), make2_eq]
  rfl

theorem rAdd (v w : Int) : ref_Add (W v) (W (v / 18446744073709551616)) (W w) (W (w / 18446744073709551616)) = some (Pd (v + w)) := by
  rw [rAdd_D]
  refine congrArg some (Pd_eq.2 ?_)
  unfold D W; omega

theorem rNeg (v : Int) : ref_Neg (W v) (W (v / 18446744073709551616)) = some (Pd (-v)) := by
  unfold ref_Neg ref_Neg_t
  have h := rAdd (-1 - v) 1
  rw [show W 1 = 1 from by decide, show W (1 / 18446744073709551616) = 0 from by decide] at h
  rw [wi, wi, show W (-1 - W v) = W (-1 - v) from by unfold W; omega, show W (-1 - W (v / 18446744073709551616)) = W ((-1 - v) / 18446744073709551616) from by unfold W; omega, h]
  show some _ = some _
  rw [show -1 - v + 1 = -v from by omega]

theorem rTwice (v : Int) : ref_twice (W v) (W (v / 18446744073709551616)) = some (Pd (2 * v)) := by
  unfold ref_twice ref_twice_t
  rw [rAdd]
  show some _ = some _
  rw [show v + v = 2 * v from by omega]

theorem rOf {n : Int} (h : Cell n) : ref_Of n = some (Pd n) := by
  unfold ref_Of ref_Of_t
  have : Pd n = (n, if n < 0 then -1 else 0) := by
    unfold Cell at h
    unfold Pd W
    refine Prod.ext ?_ ?_ <;> simp only
    · omega
    · split <;> omega
  rw [this]
  by_cases g : n < 0 <;> simp [g]

theorem Ult_L1 (a b : Int) : ∀ (n : Nat), n ≤ 64 → a % 18446744073709551616 / 2 ^ n = b % 18446744073709551616 / 2 ^ n →
    ∃ r, ref_Ult_L1 (a, b, (n : Int) - 1) = some r ∧ sumOf r (fun x => x) (fun _ => false) = decide (a % 18446744073709551616 < b % 18446744073709551616)
  | 0, _, h => by
    refine ⟨.inr (), runs_out ?_, ?_⟩
    · unfold ref_Ult_L1_pass ref_Ult_L1_t
      rfl
    · simp at h
      simp [h]
  | n + 1, hn, h => by
    have e : ((n + 1 : Nat) : Int) - 1 = (n : Int) := by omega
    have hp : ref_Ult_L1_pass (a, b, ((n + 1 : Nat) : Int) - 1) = if a % 18446744073709551616 / 2 ^ n % 2 ≠ b % 18446744073709551616 / 2 ^ n % 2 then some (.inr (.inl (b % 18446744073709551616 / 2 ^ n % 2 == 1))) else some (.inl (a, b, (n : Int) - 1)) := by
      rw [e]
      unfold ref_Ult_L1_pass ref_Ult_L1_t
      simp only
      rw [decide_eq_true (by omega), Bit_eq a n (by omega), Bit_eq b n (by omega), wi, show W ((n : Int) - 1) = (n : Int) - 1 from by unfold W; omega]
      by_cases g : a % 18446744073709551616 / 2 ^ n % 2 = b % 18446744073709551616 / 2 ^ n % 2
      · rw [if_neg (by simpa using g)]; simp [g]
      · rw [if_pos g]
        simp only [cond_true, outOf_some]
        rw [show (a % 18446744073709551616 / 2 ^ n % 2 != b % 18446744073709551616 / 2 ^ n % 2) = true from by simpa using g]
        rfl
    by_cases g : a % 18446744073709551616 / 2 ^ n % 2 = b % 18446744073709551616 / 2 ^ n % 2
    · rw [if_neg (by simpa using g)] at hp
      have h' : a % 18446744073709551616 / 2 ^ n = b % 18446744073709551616 / 2 ^ n := by
        have h1 := div_bit (a % 18446744073709551616) n
        have h2 := div_bit (b % 18446744073709551616) n
        rw [h] at h1
        omega
      obtain ⟨r, h1, h2⟩ := Ult_L1 a b n (by omega) h'
      exact ⟨r, (runs_next hp).trans h1, h2⟩
    · rw [if_pos g] at hp
      refine ⟨_, runs_out hp, ?_⟩
      show (b % 18446744073709551616 / 2 ^ n % 2 == 1) = _
      have h1 := div_bit (a % 18446744073709551616) n
      have h2 := div_bit (b % 18446744073709551616) n
      rw [h] at h1
      have mono : ∀ x y : Int, x / 2 ^ n < y / 2 ^ n → x < y := fun x y hxy => Classical.byContradiction fun hc => by
        have := Int.ediv_le_ediv (two_pos n) (show y ≤ x by omega)
        omega
      by_cases g1 : b % 18446744073709551616 / 2 ^ n % 2 = 1
      · rw [g1, decide_eq_true (mono _ _ (by omega))]; rfl
      · rw [beq_eq_false_iff_ne.2 g1, decide_eq_false (by
          have := mono (b % 18446744073709551616) (a % 18446744073709551616) (by omega)
          omega)]

theorem rUlt (a b : Int) : ref_Ult a b = some (decide (a % 18446744073709551616 < b % 18446744073709551616)) := by
  unfold ref_Ult ref_Ult_t
  have z : ∀ x : Int, x % 18446744073709551616 / 2 ^ 64 = 0 := fun x => by rw [p64]; omega
  obtain ⟨r, h1, h2⟩ := Ult_L1 a b 64 (by omega) (by rw [z, z])
  rw [show (63 : Int) = ((64 : Nat) : Int) - 1 from by omega, h1, ← h2]
  cases r <;> rfl

theorem rLess (a b c d : Int) (h2 : Cell b) (h4 : Cell d) : ref_less a b c d = some (decide (D a b < D c d)) := by
  unfold ref_less ref_less_t
  rw [rUlt, rUlt]
  simp only [outOf_some]
  unfold Cell at *
  by_cases g1 : b % 18446744073709551616 < d % 18446744073709551616
  · rw [decide_eq_true g1, show decide (D a b < D c d) = true from decide_eq_true (by unfold D; omega)]; rfl
  · rw [decide_eq_false g1]
    by_cases g2 : b = d
    · subst g2
      rw [beq_self_eq_true]
      simp only [cond_true, cond_false, outOf_some]
      congr 1
      rw [decide_eq_decide]
      unfold D; omega
    · rw [beq_eq_false_iff_ne.2 g2, show decide (D a b < D c d) = false from decide_eq_false (by unfold D; omega)]; rfl

theorem rCmp {a b c d : Int} (ha : Cell a) (hb : Cell b) (hc : Cell c) (hd : Cell d) : ref_Cmp a b c d = some (if S a b < S c d then -1 else if S a b > S c d then 1 else 0) := by
  unfold ref_Cmp ref_Cmp_t
  rw [rUlt]
  simp only [outOf_some, Bool.and_true]
  have e1 : S a b < S c d ↔ b < d ∨ (b = d ∧ a % 18446744073709551616 < c % 18446744073709551616) := by unfold S; omega
  have e2 : S a b > S c d ↔ b > d ∨ (b = d ∧ a % 18446744073709551616 > c % 18446744073709551616) := by unfold S; omega
  unfold Cell at *
  simp only [e1, e2]
  rcases Int.lt_trichotomy b d with h | h | h
  · have h' : ¬ b = d := by omega
    simp [h, beq_eq_false_iff_ne.2 h']
  · subst h
    by_cases g : a = c
    · subst g; simp
    · by_cases g2 : a % 18446744073709551616 < c % 18446744073709551616
      · simp [beq_eq_false_iff_ne.2 g, g2]
      · have : a % 18446744073709551616 > c % 18446744073709551616 := by omega
        simp [beq_eq_false_iff_ne.2 g, g2, this]
  · have h' : ¬ b = d := by omega
    have h'' : ¬ b < d := by omega
    simp [h, h', h'', beq_eq_false_iff_ne.2 h']

end Go.Proofs.Dbl
