/- Plain facts about doubles: products. -/
import Derived.Test.YtbcijnfednjohaaPuPa
namespace Go.Proofs.Dbl
open Go Go.TX Go.Proofs
set_option maxRecDepth 100000
set_option maxHeartbeats 0
set_option linter.unusedVariables false
set_option linter.unusedSimpArgs false

theorem and_u64 {n m : Int} (h1 : 0 ≤ n) (h2 : n < 18446744073709551616) (k : Nat) (hm : m = 2 ^ k - 1) (hk : k < 64) : ibits .and .u64 n m = n % 2 ^ k := by
  show IntKind.wrap .u64 (((BitVec.ofInt 64 n &&& BitVec.ofInt 64 m).toNat : Nat) : Int) = _
  have hk2 : (2:Int) ^ k = ((2 ^ k : Nat) : Int) := by norm_cast
  have hp : 0 < 2 ^ k := Nat.two_pow_pos k
  have hlt : 2 ^ k < 2 ^ 64 := Nat.pow_lt_pow_right (by decide) hk
  have e1 : (BitVec.ofInt 64 m).toNat = 2 ^ k - 1 := by
    rw [BitVec.toNat_ofInt, hm, hk2]
    have : ((2:Nat) ^ 64 : Nat) = 18446744073709551616 := by decide
    rw [this] at hlt ⊢
    omega
  have e2 : (BitVec.ofInt 64 n).toNat = n.toNat := by
    rw [BitVec.toNat_ofInt]
    have : ((2:Nat) ^ 64 : Nat) = 18446744073709551616 := by decide
    rw [this]
    omega
  rw [BitVec.toNat_and, e1, e2, Nat.and_two_pow_sub_one_eq_mod, wu, hk2]
  have e3 : ((n.toNat % 2 ^ k : Nat) : Int) = n % ((2 ^ k : Nat) : Int) := by
    rw [Int.natCast_emod, Int.toNat_of_nonneg h1]
  rw [e3]
  have := Int.emod_nonneg n (b := ((2 ^ k : Nat) : Int)) (by omega)
  have := Int.emod_lt_of_pos n (b := ((2 ^ k : Nat) : Int)) (by omega)
  have h64 : ((2:Nat) ^ 64 : Nat) = 18446744073709551616 := by decide
  omega

theorem mul64_eq {a b : Int} (ha : 0 ≤ a) (ha' : a < 18446744073709551616) (hb : 0 ≤ b) (hb' : b < 18446744073709551616) :
    mul64 a b = ((a * b) / 18446744073709551616, (a * b) % 18446744073709551616) := by
  unfold mul64
  simp only [wu, fdiv_lit (show (0:Int) ≤ 4294967296 by decide)]
  have m0 : ∀ n : Int, 0 ≤ n → n < 18446744073709551616 → ibits .and .u64 n 4294967295 = n % 4294967296 := fun n h1 h2 => and_u64 h1 h2 32 (by decide) (by decide)
  rw [m0 a ha ha', m0 b hb hb']
  have ea : a = 4294967296 * (a / 4294967296) + a % 4294967296 := by omega
  have eb : b = 4294967296 * (b / 4294967296) + b % 4294967296 := by omega
  have ra0 : 0 ≤ a % 4294967296 := by omega
  have ra1 : a % 4294967296 ≤ 4294967295 := by omega
  have rb0 : 0 ≤ b % 4294967296 := by omega
  have rb1 : b % 4294967296 ≤ 4294967295 := by omega
  have qa0 : 0 ≤ a / 4294967296 := by omega
  have qa1 : a / 4294967296 ≤ 4294967295 := by omega
  have qb0 : 0 ≤ b / 4294967296 := by omega
  have qb1 : b / 4294967296 ≤ 4294967295 := by omega
  generalize hA1 : a / 4294967296 = a1 at *
  generalize hA0 : a % 4294967296 = a0 at *
  generalize hB1 : b / 4294967296 = b1 at *
  generalize hB0 : b % 4294967296 = b0 at *
  have bound : ∀ {x y : Int}, 0 ≤ x → x ≤ 4294967295 → 0 ≤ y → y ≤ 4294967295 → 0 ≤ x * y ∧ x * y ≤ 18446744065119617025 := fun {x y} h1 h2 h3 h4 =>
    ⟨Int.mul_nonneg h1 h3, by
      have := Int.mul_le_mul h2 h4 h3 (by decide : (0:Int) ≤ 4294967295)
      omega⟩
  have eab : a * b = 18446744073709551616 * (a1 * b1) + 4294967296 * (a1 * b0) + 4294967296 * (a0 * b1) + a0 * b0 := by
    rw [ea, eb, Int.mul_add, Int.add_mul, Int.add_mul]
    have e1 : 4294967296 * a1 * (4294967296 * b1) = 18446744073709551616 * (a1 * b1) := by
      rw [Int.mul_assoc, Int.mul_left_comm a1, ← Int.mul_assoc]; rfl
    have e2 : 4294967296 * a1 * b0 = 4294967296 * (a1 * b0) := Int.mul_assoc _ _ _
    have e3 : a0 * (4294967296 * b1) = 4294967296 * (a0 * b1) := Int.mul_left_comm _ _ _
    rw [e1, e2, e3]
    omega
  rw [eab]
  have p1 := bound qa0 qa1 qb0 qb1
  have p2 := bound qa0 qa1 rb0 rb1
  have p3 := bound ra0 ra1 qb0 qb1
  have p4 := bound ra0 ra1 rb0 rb1
  generalize a1 * b1 = x at *
  generalize a1 * b0 = y at *
  generalize a0 * b1 = z at *
  generalize a0 * b0 = w at *
  clear eab ea eb hA1 hA0 hB1 hB0 bound
  rw [m0 _ (by omega) (by omega)]
  refine Prod.ext ?_ ?_ <;> simp only <;> omega

theorem UMul_eq (a b : Int) : dbl_UMul a b = Pd (a % 18446744073709551616 * (b % 18446744073709551616)) := by
  unfold dbl_UMul
  simp only [wu]
  rw [mul64_eq (by omega) (by omega) (by omega) (by omega)]
  unfold Pd
  simp only [wi, W_mod]

theorem Mul_eq {a b : Int} (ha : Cell a) (hb : Cell b) : dbl_Mul a b = some (Pd (a * b)) := by
  unfold dbl_Mul dbl_Mul_t
  simp only [UMul_eq, wi]
  unfold Cell at ha hb
  have key : ∀ (sa sb : Int), (sa = 0 ∨ sa = 1) → (sb = 0 ∨ sb = 1) → a % 18446744073709551616 = a + 18446744073709551616 * sa → b % 18446744073709551616 = b + 18446744073709551616 * sb →
      a % 18446744073709551616 * (b % 18446744073709551616) = a * b + 18446744073709551616 * (sa * b + sb * a + 18446744073709551616 * (sa * sb)) := by
    intro sa sb h1 h2 e1 e2
    rw [e1, e2]
    rcases h1 with rfl | rfl <;> rcases h2 with rfl | rfl <;> simp only [Int.mul_zero, Int.zero_mul, Int.mul_one, Int.one_mul, Int.add_zero, Int.zero_add, Int.add_mul, Int.mul_add, Int.mul_comm b] <;> omega
  generalize hU : a % 18446744073709551616 * (b % 18446744073709551616) = U at *
  generalize hP : a * b = p at *
  by_cases h1 : a < 0
  · by_cases h2 : b < 0
    · have := key 1 1 (.inr rfl) (.inr rfl) (by omega) (by omega)
      simp only [decide_eq_true h1, decide_eq_true h2, cond_true]
      unfold Pd W; simp only
      refine congrArg some (Prod.ext ?_ ?_) <;> simp only <;> omega
    · have := key 1 0 (.inr rfl) (.inl rfl) (by omega) (by omega)
      simp only [decide_eq_true h1, decide_eq_false h2, cond_true, cond_false]
      unfold Pd W; simp only
      refine congrArg some (Prod.ext ?_ ?_) <;> simp only <;> omega
  · by_cases h2 : b < 0
    · have := key 0 1 (.inl rfl) (.inr rfl) (by omega) (by omega)
      simp only [decide_eq_false h1, decide_eq_true h2, cond_true, cond_false]
      unfold Pd W; simp only
      refine congrArg some (Prod.ext ?_ ?_) <;> simp only <;> omega
    · have := key 0 0 (.inl rfl) (.inl rfl) (by omega) (by omega)
      simp only [decide_eq_false h1, decide_eq_false h2, cond_false]
      unfold Pd W; simp only
      refine congrArg some (Prod.ext ?_ ?_) <;> simp only <;> omega

end Go.Proofs.Dbl
