/- Plain facts about doubles: long division. -/
import Derived.Test.YtbcijnfednjohaaPuPb
namespace Go.Proofs.Dbl
open Go Go.TX Go.Proofs
set_option maxRecDepth 100000
set_option maxHeartbeats 0
set_option linter.unusedVariables false
set_option linter.unusedSimpArgs false

theorem or_bit_nat (x b : Nat) (hx : x % 2 = 0) (hb : b < 2) : x ||| b = x + b := by
  have h := Nat.two_pow_add_eq_or_of_lt (i := 1) (b := b) (by omega) (x / 2)
  have e : 2 ^ 1 * (x / 2) = x := by omega
  rw [e] at h
  exact h.symm

theorem or_u64 {x b : Int} (h0 : 0 ≤ x) (h1 : x < 18446744073709551616) (hx : x % 2 = 0) (hb : b = 0 ∨ b = 1) : ibits .or .u64 x b = x + b := by
  show IntKind.wrap .u64 (((BitVec.ofInt 64 x ||| BitVec.ofInt 64 b).toNat : Nat) : Int) = _
  rw [BitVec.toNat_or, BitVec.toNat_ofInt, BitVec.toNat_ofInt, show ((2:Nat) ^ 64 : Nat) = 18446744073709551616 from by decide, or_bit_nat _ _ (by omega) (by omega), wu]
  omega

theorem or_i64 {x b : Int} (hx : x % 2 = 0) (hb : b % 18446744073709551616 = 0 ∨ b % 18446744073709551616 = 1) : ibits .or .i64 x b = W (x + b) := by
  show IntKind.wrap .i64 (((BitVec.ofInt 64 x ||| BitVec.ofInt 64 b).toNat : Nat) : Int) = _
  rw [BitVec.toNat_or, BitVec.toNat_ofInt, BitVec.toNat_ofInt, show ((2:Nat) ^ 64 : Nat) = 18446744073709551616 from by decide, or_bit_nat _ _ (by omega) (by omega), wi]
  unfold W
  omega

theorem and1 {n : Int} (h1 : 0 ≤ n) (h2 : n < 18446744073709551616) : ibits .and .u64 n 1 = n % 2 := and_u64 h1 h2 1 (by decide) (by decide)

/-- The number of a double without signs. -/
def D (lo hi : Int) : Int := lo % 18446744073709551616 + 18446744073709551616 * (hi % 18446744073709551616)

theorem D_range (lo hi : Int) : 0 ≤ D lo hi ∧ D lo hi < 340282366920938463463374607431768211456 := by unfold D; omega

theorem p64 : (2:Int) ^ 64 = 18446744073709551616 := by decide

theorem bit_lo (lo hi : Int) (n : Nat) (hn : n < 64) : (lo % 18446744073709551616 / 2 ^ n) % 2 = (D lo hi / 2 ^ n) % 2 := by
  unfold D
  have hp : (0:Int) < 2 ^ n := Int.pow_pos (by decide)
  have e : (18446744073709551616 : Int) = 2 ^ n * (2 * 2 ^ (63 - n)) := by
    rw [← p64, show (64:Nat) = n + (1 + (63 - n)) from by omega, Int.pow_add, Int.pow_add]; rfl
  generalize hl : lo % 18446744073709551616 = l
  generalize hh : hi % 18446744073709551616 = h
  rw [e, Int.mul_assoc, Int.add_mul_ediv_left _ _ (by omega), Int.mul_assoc]
  omega

theorem bit_hi (lo hi : Int) (n : Nat) (hn : 64 ≤ n) : hi % 18446744073709551616 / 2 ^ (n - 64) = D lo hi / 2 ^ n := by
  unfold D
  have e : (2:Int) ^ n = 18446744073709551616 * 2 ^ (n - 64) := by
    rw [← p64, ← Int.pow_add, show 64 + (n - 64) = n from by omega]
  rw [e, ← Int.ediv_ediv_of_nonneg (by decide)]
  have : (lo % 18446744073709551616 + 18446744073709551616 * (hi % 18446744073709551616)) / 18446744073709551616 = hi % 18446744073709551616 := by omega
  rw [this]

theorem bit_eq (lo hi : Int) (n : Nat) (hn : n < 128) :
    ibits .and .u64 (Int.fdiv ((if (n : Int) ≥ 64 then hi else lo) % 18446744073709551616) ((2 : Int) ^ min (Int.toNat ((Int.tmod (n : Int) 64) % 18446744073709551616)) 64)) 1 = (D lo hi / 2 ^ n) % 2 := by
  rw [Int.tmod_eq_emod_of_nonneg (by omega)]
  have e : min (Int.toNat (((n : Int) % 64) % 18446744073709551616)) 64 = n % 64 := by omega
  rw [e, Int.fdiv_eq_ediv_of_nonneg _ (Int.le_of_lt (Int.pow_pos (by decide)))]
  have hp : (0:Int) < 2 ^ (n % 64) := Int.pow_pos (by decide)
  have r : ∀ x : Int, 0 ≤ x % 18446744073709551616 / 2 ^ (n % 64) ∧ x % 18446744073709551616 / 2 ^ (n % 64) < 18446744073709551616 := fun x => by
    have h0 : 0 ≤ x % 18446744073709551616 := by omega
    exact ⟨Int.ediv_nonneg h0 (by omega), Int.lt_of_le_of_lt (Int.ediv_le_self _ h0) (by omega)⟩
  by_cases h : (n : Int) ≥ 64
  · rw [if_pos h, and1 (r hi).1 (r hi).2, show n % 64 = n - 64 from by omega, bit_hi lo hi n (by omega)]
  · rw [if_neg h, and1 (r lo).1 (r lo).2, show n % 64 = n from by omega, bit_lo lo hi n (by omega)]

theorem M2_eq (s lo hi : Int) : dbl_long_M2 s lo hi = some (if s ≥ 64 then hi else lo) := by
  unfold dbl_long_M2 dbl_long_M2_t
  by_cases h : s ≥ 64 <;> simp [h]

theorem step_div {X B b : Int} (hB : 0 < B) (hX : 0 ≤ X) (hb : b = 0 ∨ b = 1) :
    (2 * (X % B) + b ≥ B → (2 * X + b) % B = 2 * (X % B) + b - B ∧ (2 * X + b) / B = 2 * (X / B) + 1) ∧
    (2 * (X % B) + b < B → (2 * X + b) % B = 2 * (X % B) + b ∧ (2 * X + b) / B = 2 * (X / B)) := by
  have h1 := Int.emod_nonneg X (b := B) (by omega)
  have h2 := Int.emod_lt_of_pos X hB
  have e : X = B * (X / B) + X % B := (Int.mul_ediv_add_emod X B).symm
  generalize hr : X % B = r at *
  generalize hq : X / B = q at *
  have u : ∀ {y k : Int}, 2 * X + b = y + B * k → 0 ≤ y → y < B → (2 * X + b) % B = y ∧ (2 * X + b) / B = k := by
    intro y k hy h3 h4
    rw [hy]
    exact ⟨by rw [Int.add_mul_emod_self_left, Int.emod_eq_of_lt h3 h4], by rw [Int.add_mul_ediv_left _ _ (by omega), Int.ediv_eq_zero_of_lt h3 h4, Int.zero_add]⟩
  have e2 : B * (2 * q + 1) = 2 * (B * q) + B := by rw [Int.mul_add, Int.mul_left_comm]; omega
  have e3 : B * (2 * q) = 2 * (B * q) := Int.mul_left_comm _ _ _
  constructor
  · intro h
    exact u (by omega) (by omega) (by omega)
  · intro h
    exact u (by omega) (by omega) (by omega)

theorem long_pass {lo hi B p0 p1 : Int} (hB : 0 < B) (hB' : B < 18446744073709551616) (n : Nat) (hn : n < 127) :
    dbl_long_L1_pass (D lo hi / 2 ^ (n + 1) % B, B, (n : Int), lo, hi, p0, p1, W (D lo hi / 2 ^ (n + 1) / B), W (D lo hi / 2 ^ (n + 1) / B / 18446744073709551616)) =
      if n = 0 then some (.inr (W (D lo hi / 2 ^ n % B), W (D lo hi / 2 ^ n / B), W (D lo hi / 2 ^ n / B / 18446744073709551616)))
      else some (.inl (D lo hi / 2 ^ n % B, B, (n : Int) - 1, lo, hi, p0, p1, W (D lo hi / 2 ^ n / B), W (D lo hi / 2 ^ n / B / 18446744073709551616))) := by
  have hb := bit_eq lo hi n (by omega)
  have hY : D lo hi / 2 ^ n = 2 * (D lo hi / 2 ^ (n + 1)) + (D lo hi / 2 ^ n) % 2 := by
    have : D lo hi / 2 ^ (n + 1) = D lo hi / 2 ^ n / 2 := by rw [Int.ediv_ediv_of_nonneg (Int.le_of_lt (Int.pow_pos (by decide))), Int.pow_succ]
    rw [this]; omega
  have hX0 : 0 ≤ D lo hi / 2 ^ (n + 1) := Int.ediv_nonneg (D_range lo hi).1 (Int.le_of_lt (Int.pow_pos (by decide)))
  have hX1 : D lo hi / 2 ^ (n + 1) < 170141183460469231731687303715884105728 := by
    have h1 : D lo hi / 2 ^ (n + 1) = D lo hi / 2 / 2 ^ n := by rw [Int.ediv_ediv_of_nonneg (by decide), Int.pow_succ, Int.mul_comm]
    rw [h1]
    have h2 := (D_range lo hi)
    exact Int.lt_of_le_of_lt (Int.ediv_le_self _ (by omega)) (by omega)
  generalize D lo hi / 2 ^ (n + 1) = X at *
  generalize hb' : D lo hi / 2 ^ n % 2 = b at *
  have hb01 : b = 0 ∨ b = 1 := by omega
  rw [hY]
  clear hY hb'
  have hR0 := Int.emod_nonneg X (b := B) (by omega)
  have hR1 := Int.emod_lt_of_pos X hB
  have hQ0 : 0 ≤ X / B := Int.ediv_nonneg hX0 (by omega)
  have hQ1 : X / B < 170141183460469231731687303715884105728 := Int.lt_of_le_of_lt (Int.ediv_le_self _ hX0) hX1
  obtain ⟨s1, s2⟩ := step_div hB hX0 hb01
  generalize X % B = R at *
  generalize X / B = Q at *
  unfold dbl_long_L1_pass dbl_long_L1_t
  simp only [M2_eq, outOf_some, wi, wu]
  have z : ¬ (Int.tmod (n : Int) 64 % 18446744073709551616 < 0) := by omega
  rw [decide_eq_false z]
  simp only [cond_false, hb]
  rw [or_u64 (x := R * 2 % 18446744073709551616) (by omega) (by omega) (by omega) hb01, fdiv_lit (by decide : (0:Int) ≤ 9223372036854775808), fdiv_lit (by decide : (0:Int) ≤ 9223372036854775808)]
  rw [or_i64 (x := W (W Q * 2)) (b := 1) (by unfold W; omega) (by decide), or_i64 (x := W (W (Q / 18446744073709551616) * 2)) (by unfold W; omega) (by unfold W; omega)]
  have eAt : W ((n : Int) - 1) = (n : Int) - 1 := by unfold W; omega
  rw [eAt]
  have qlo0 : W (W Q * 2) = W (2 * Q) := by unfold W; omega
  have qlo1 : W (W (W Q * 2) + 1) = W (2 * Q + 1) := by unfold W; omega
  have qhi0 : W (W (W (Q / 18446744073709551616) * 2) + W (W Q % 18446744073709551616 / 9223372036854775808)) = W (2 * Q / 18446744073709551616) := by unfold W; omega
  have qhi1 : W (2 * Q / 18446744073709551616) = W ((2 * Q + 1) / 18446744073709551616) := by unfold W; omega
  rw [qlo0, qhi0, show W (W (2 * Q) + 1) = W (2 * Q + 1) from by unfold W; omega]
  by_cases hn0 : n = 0
  · have hn1 : ¬ ((n : Int) - 1 ≥ 0) := by omega
    rw [if_pos hn0, decide_eq_false hn1]
    simp only [cond_false]
    by_cases hge : 2 * R + b ≥ B
    · obtain ⟨g1, g2⟩ := s1 hge
      rw [g1, g2, ← qhi1]
      by_cases ht : R / 9223372036854775808 = 1
      · rw [show (R / 9223372036854775808 == 1) = true from by rw [ht]; rfl]
        simp only [cond_true]
        congr 3
        unfold W; omega
      · rw [show (R / 9223372036854775808 == 1) = false from beq_eq_false_iff_ne.2 ht, decide_eq_true (by omega)]
        simp only [cond_true, cond_false]
        congr 3
        unfold W; omega
    · obtain ⟨g1, g2⟩ := s2 (by omega)
      rw [g1, g2, show (R / 9223372036854775808 == 1) = false from beq_eq_false_iff_ne.2 (by omega), decide_eq_false (by omega)]
      simp only [cond_false]
      congr 3
      unfold W; omega
  · have hn1 : ((n : Int) - 1 ≥ 0) := by omega
    rw [if_neg hn0, decide_eq_true hn1]
    simp only [cond_true]
    by_cases hge : 2 * R + b ≥ B
    · obtain ⟨g1, g2⟩ := s1 hge
      rw [g1, g2, ← qhi1]
      by_cases ht : R / 9223372036854775808 = 1
      · rw [show (R / 9223372036854775808 == 1) = true from by rw [ht]; rfl]
        simp only [cond_true]
        congr 3
        omega
      · rw [show (R / 9223372036854775808 == 1) = false from beq_eq_false_iff_ne.2 ht, decide_eq_true (by omega)]
        simp only [cond_true, cond_false]
        congr 3
        omega
    · obtain ⟨g1, g2⟩ := s2 (by omega)
      rw [g1, g2, show (R / 9223372036854775808 == 1) = false from beq_eq_false_iff_ne.2 (by omega), decide_eq_false (by omega)]
      simp only [cond_false]
      congr 3
      omega

theorem long_iter {lo hi B p0 p1 : Int} (hB : 0 < B) (hB' : B < 18446744073709551616) : ∀ (n : Nat), n < 127 →
    iter dbl_long_L1_pass (n + 1) (D lo hi / 2 ^ (n + 1) % B, B, (n : Int), lo, hi, p0, p1, W (D lo hi / 2 ^ (n + 1) / B), W (D lo hi / 2 ^ (n + 1) / B / 18446744073709551616)) =
      some (W (D lo hi % B), W (D lo hi / B), W (D lo hi / B / 18446744073709551616))
  | 0, hn => by
    unfold iter
    rw [long_pass hB hB' 0 hn, if_pos rfl]
    simp only [Int.pow_zero, Int.ediv_one]
  | n + 1, hn => by
    unfold iter
    rw [long_pass hB hB' (n + 1) hn, if_neg (by omega)]
    have := long_iter hB hB' (lo := lo) (hi := hi) (p0 := p0) (p1 := p1) n (by omega)
    simp only
    rw [show ((n + 1 : Nat) : Int) - 1 = (n : Int) from by omega]
    exact this

theorem long_eq {lo hi u : Int} (hu : u % 18446744073709551616 ≠ 0) :
    dbl_long lo hi u = some (W (D lo hi % (u % 18446744073709551616)), W (D lo hi / (u % 18446744073709551616)), W (D lo hi / (u % 18446744073709551616) / 18446744073709551616)) := by
  have hB : 0 < u % 18446744073709551616 := by omega
  have hB' : u % 18446744073709551616 < 18446744073709551616 := by omega
  have hb := bit_eq lo hi 127 (by decide)
  have hb2 : (D lo hi / 2 ^ 127) % 2 = D lo hi / 2 ^ 127 := by have := D_range lo hi; omega
  rw [if_pos (by decide), hb2] at hb
  have hb3 : ibits .and .u64 (Int.fdiv (hi % 18446744073709551616) 9223372036854775808) 1 = D lo hi / 2 ^ 127 := hb
  have hb4 : ibits .and .u64 (Int.fdiv (hi % 18446744073709551616) ((2 : Int) ^ min (Int.toNat (Int.tmod 127 64 % 18446744073709551616)) 64)) 1 = D lo hi / 2 ^ 127 := hb
  have hb01 : D lo hi / 2 ^ 127 = 0 ∨ D lo hi / 2 ^ 127 = 1 := by omega
  have hi_ := fun (p0 p1 : Int) => runs_of (long_iter (lo := lo) (hi := hi) (p0 := p0) (p1 := p1) hB hB' 126 (by decide))
  unfold dbl_long dbl_long_t dbl_long_L1
  simp only [wu, hb3, hb4]
  generalize u % 18446744073709551616 = B at *
  rw [or_u64 (by decide) (by decide) (by decide) hb01, Int.zero_add]
  have e126 : ((126 : Nat) : Int) = 126 := rfl
  simp only [show 126 + 1 = 127 from rfl, e126] at hi_
  generalize hbb : D lo hi / 2 ^ 127 = b at *
  by_cases hge : b ≥ B
  · have hB1 : B = 1 := by omega
    have hb1 : b = 1 := by omega
    subst hB1
    rw [decide_eq_true hge]
    simp only [cond_true]
    have h := hi_ 0 0
    rw [hb1, show (1 : Int) % 1 = 0 from rfl, show (1 : Int) / 1 = 1 from rfl, show W 1 = 1 from by decide, show W (1 / 18446744073709551616) = 0 from by decide] at h
    rw [hb1, show ((1 : Int) - 1) % 18446744073709551616 = 0 from by decide]
    exact (congrArg (fun r => outOf r _) h).trans rfl
  · rw [decide_eq_false hge]
    simp only [cond_false]
    have h := hi_ 0 0
    have h1 : b % B = b := Int.emod_eq_of_lt (by omega) (by omega)
    have h2 : b / B = 0 := Int.ediv_eq_zero_of_lt (by omega) (by omega)
    rw [h1, h2, show W 0 = 0 from by decide, show W (0 / 18446744073709551616) = 0 from by decide] at h
    exact (congrArg (fun r => outOf r _) h).trans rfl

end Go.Proofs.Dbl
