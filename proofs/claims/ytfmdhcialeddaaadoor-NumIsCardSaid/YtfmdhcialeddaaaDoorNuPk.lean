/- Plain facts: bits.Div64 by a small number. -/
import Derived.Test.YtfmdhcialeddaaaDoorNuPj
namespace Go.Proofs.Dbl
open Go Go.TX Go.Proofs
set_option maxRecDepth 100000
set_option maxHeartbeats 0
set_option linter.unusedVariables false
set_option linter.unusedSimpArgs false

theorem loopA {Y s d U a1 a0 q r : Int} (hq : q < 4294967296) : div64_L1 (Y, s, d, 0, U, a1, a0, q, r) = some (Y, s, d, 0, U, a1, a0, q) := by
  refine runs_out ?_
  show div64_L1_t Y s d 0 U a1 a0 q r _ _ = _
  unfold div64_L1_t
  have h : ¬ (IntKind.wrap IntKind.u64 (q * 0) > IntKind.wrap IntKind.u64 (IntKind.wrap IntKind.u64 ((4294967296 : Int) * r) + a1)) := by
    rw [wu, wu, wu]; omega
  rw [decide_eq_false (show ¬ q ≥ 4294967296 by omega), decide_eq_false h]
  rfl

theorem loopB {Y s d a0 q1 r V q : Int} (hq : q < 4294967296) : div64_L2 (Y, s, d, 0, a0, q1, r, V, q) = some (Y, s, a0, q1, V, q) := by
  refine runs_out ?_
  show div64_L2_t Y s d 0 a0 q1 r V q _ _ = _
  unfold div64_L2_t
  have h : ¬ (IntKind.wrap IntKind.u64 (q * 0) > IntKind.wrap IntKind.u64 (IntKind.wrap IntKind.u64 ((4294967296 : Int) * r) + a0)) := by
    rw [wu, wu, wu]; omega
  rw [decide_eq_false (show ¬ q ≥ 4294967296 by omega), decide_eq_false h]
  rfl

theorem wrap3 (x y z : Int) : IntKind.wrap IntKind.u64 (IntKind.wrap IntKind.u64 (IntKind.wrap IntKind.u64 x + y) - IntKind.wrap IntKind.u64 z) = (x + y - z) % 18446744073709551616 := by
  simp only [wu]; omega

theorem div64_eq {hi lo : Int} {b : Nat} (b1 : 2 ≤ b) (b2 : b ≤ 36) (h0 : 0 ≤ hi) (h1 : hi < b) (l0 : 0 ≤ lo) (l1 : lo < 18446744073709551616) :
    div64 hi lo (b : Int) = some ((hi * 18446744073709551616 + lo) / b, (hi * 18446744073709551616 + lo) % b) := by
  have m1 : div64_M1 (b : Int) = some () := by
    unfold div64_M1 div64_M1_t
    have : ((b : Int) == 0) = false := by rw [beq_eq_false_iff_ne]; omega
    rw [this]; rfl
  have m2 : div64_M2 hi (b : Int) = some () := by
    unfold div64_M2 div64_M2_t
    rw [decide_eq_false (by omega)]; rfl
  unfold div64 div64_t
  rw [m1, m2]
  simp only [outOf]
  by_cases hz : hi = 0
  · subst hz
    have e0 : ((0 : Int) == 0) = true := rfl
    have eb : decide ((b : Int) = 0) = false := decide_eq_false (by omega)
    simp only [e0, eb, cond_true, cond_false]
    rw [Int.tdiv_eq_ediv_of_nonneg l0, Int.tmod_eq_emod_of_nonneg l0, wu]
    have hq : 0 ≤ lo / (b : Int) := Int.ediv_nonneg l0 (by omega)
    have hq2 : lo / (b : Int) ≤ lo := Int.ediv_le_self _ l0
    rw [Int.emod_eq_of_lt hq (by omega)]
    simp
  · have e0 : (hi == 0) = false := by rw [beq_eq_false_iff_ne]; exact hz
    obtain ⟨l1', l2', l3', l4'⟩ := bitLen_small ⟨b, by omega⟩ b1
    simp only at l1' l2' l3' l4'
    rw [e0, lz64_eq b1 b2]
    simp only [cond_false]
    generalize Lib.bitLen b = L at l1' l2' l3' l4'
    obtain ⟨s, hs, hs2⟩ : ∃ s : Nat, s = 64 - L ∧ 58 ≤ s ∧ s ≤ 62 := ⟨64 - L, rfl, by omega, by omega⟩
    rw [← hs]
    obtain ⟨P, D, Q, eP, eQ, hP, hPQ, hD, hQ, hbQ⟩ : ∃ P D Q : Int, (2 : Int) ^ s = P ∧ (2 : Int) ^ (64 - s) = Q ∧ P = D * 4294967296 ∧ P * Q = 18446744073709551616 ∧ 0 < D ∧ 0 < Q ∧ (b : Int) < Q := by
      have hL : L = 6 ∨ L = 5 ∨ L = 4 ∨ L = 3 ∨ L = 2 := by omega
      rcases hL with rfl | rfl | rfl | rfl | rfl
      · subst hs; exact ⟨288230376151711744, 67108864, 64, by decide, by decide, by decide, by decide, by decide, by decide, by omega⟩
      · subst hs; exact ⟨576460752303423488, 134217728, 32, by decide, by decide, by decide, by decide, by decide, by decide, by omega⟩
      · subst hs; exact ⟨1152921504606846976, 268435456, 16, by decide, by decide, by decide, by decide, by decide, by decide, by omega⟩
      · subst hs; exact ⟨2305843009213693952, 536870912, 8, by decide, by decide, by decide, by decide, by decide, by decide, by omega⟩
      · subst hs; exact ⟨4611686018427387904, 1073741824, 4, by decide, by decide, by decide, by decide, by decide, by decide, by omega⟩
    have ws : IntKind.wrap IntKind.u64 (s : Int) = (s : Int) := by rw [wu]; omega
    have w64 : IntKind.wrap IntKind.u64 ((64 : Int) - (s : Int)) = ((64 - s : Nat) : Int) := by rw [wu]; omega
    have n1 : min (Int.toNat (s : Int)) 64 = s := by simp; omega
    have n2 : min (Int.toNat ((64 - s : Nat) : Int)) 64 = 64 - s := by simp
    have s0 : decide ((s : Int) < (0 : Int)) = false := decide_eq_false (by omega)
    have s1 : decide (((64 - s : Nat) : Int) < (0 : Int)) = false := decide_eq_false (by omega)
    rw [ws, w64, n1, n2, s0, s1, eP, eQ]
    simp only [cond_false]
    have c := div_core hP hPQ hD hQ (b := (b : Int)) (hi := hi) (lo := lo) (by omega) h0 h1 l0 l1
    simp only at c
    have hPpos : 0 < P := by omega
    have hd : 0 < (b : Int) * D := Int.mul_pos (by omega) hD
    have hY0 : 0 ≤ (b : Int) * P := Int.mul_nonneg (by omega) (by omega)
    have hY1 : (b : Int) * P < 18446744073709551616 := by
      rw [← hPQ, Int.mul_comm P Q]
      exact Int.mul_lt_mul_of_pos_right hbQ hPpos
    have hYd : (b : Int) * P = (b : Int) * D * 4294967296 := by rw [hP, Int.mul_assoc]
    have hH0 : 0 ≤ hi * P := Int.mul_nonneg h0 (by omega)
    have hH1 : hi * P < (b : Int) * P := Int.mul_lt_mul_of_pos_right h1 hPpos
    have hlQ0 : 0 ≤ lo / Q := Int.ediv_nonneg l0 (by omega)
    have hlQ1 : lo / Q < P := Int.ediv_lt_of_lt_mul hQ (by rw [hPQ]; exact l1)
    have hU1 : hi * P + lo / Q < (b : Int) * P := by
      have : (hi + 1) * P ≤ (b : Int) * P := Int.mul_le_mul_of_nonneg_right (by omega) (by omega)
      rw [Int.add_mul, Int.one_mul] at this
      omega
    have eY : IntKind.wrap IntKind.u64 ((b : Int) * P) = (b : Int) * P := by rw [wu, Int.emod_eq_of_lt hY0 hY1]
    have ed : Int.fdiv ((b : Int) * P) 4294967296 = (b : Int) * D := by
      rw [fdiv_lit (by decide), hYd]; exact Int.mul_ediv_cancel _ (by decide)
    have ey0 : ibits BinOp.and IntKind.u64 ((b : Int) * P) 4294967295 = 0 := by
      rw [and_u64 hY0 hY1 32 (by decide) (by decide), hYd]
      exact Int.mul_emod_left _ _
    have eH : IntKind.wrap IntKind.u64 (hi * P) = hi * P := by rw [wu, Int.emod_eq_of_lt hH0 (by omega)]
    have eor : ibits BinOp.or IntKind.u64 (hi * P) (Int.fdiv lo Q) = hi * P + lo / Q := by
      rw [fdiv_lit (by omega)]
      have := or_u64 (x := hi) (y := lo / Q) s (by omega) h0 (by rw [eP]; omega) hlQ0 (by rw [eP]; exact hlQ1)
      rw [eP] at this
      exact this
    have et : IntKind.wrap IntKind.u64 (lo * P) = lo * P % 18446744073709551616 := wu _
    have ht0 := Int.emod_nonneg (lo * P) (b := 18446744073709551616) (by decide)
    have ht1 := Int.emod_lt_of_pos (lo * P) (b := 18446744073709551616) (by decide)
    have eand : ibits BinOp.and IntKind.u64 (lo * P % 18446744073709551616) 4294967295 = lo * P % 18446744073709551616 % 4294967296 := and_u64 ht0 ht1 32 (by decide) (by decide)
    rw [eY, ed, ey0, eH, eor, et, eand, fdiv_lit (show (0:Int) ≤ 4294967296 by decide)]
    generalize lo * P % 18446744073709551616 = t at *
    have hU0 : 0 ≤ hi * P + lo / Q := by omega
    generalize hi * P + lo / Q = U at *
    clear eor eH hH0 hH1 hlQ0 hlQ1 et eand
    generalize (b : Int) * D = d at *
    have q1a : 0 ≤ U / d := Int.ediv_nonneg hU0 (by omega)
    have q1b : U / d < 4294967296 := Int.ediv_lt_of_lt_mul hd (by rw [Int.mul_comm]; omega)
    have r1a := Int.emod_nonneg U (b := d) (by omega)
    have r1b := Int.emod_lt_of_pos U hd
    have eU := Int.emod_add_mul_ediv U d
    have f0 : Int.tdiv U d = U / d := Int.tdiv_eq_ediv_of_nonneg hU0
    have f1 : IntKind.wrap IntKind.u64 (U / d) = U / d := by rw [wu, Int.emod_eq_of_lt q1a (by omega)]
    have nz : decide (d = 0) = false := decide_eq_false (by omega)
    rw [f0, f1, nz]
    simp only [cond_false]
    rw [loopA q1b]
    simp only
    rw [nz]
    simp only [cond_false]
    have V0 : IntKind.wrap IntKind.u64 (IntKind.wrap IntKind.u64 (IntKind.wrap IntKind.u64 (U * 4294967296) + t / 4294967296) - IntKind.wrap IntKind.u64 (U / d * ((b : Int) * P))) = U % d * 4294967296 + t / 4294967296 := by
      rw [wrap3, hYd]
      have : U * 4294967296 + t / 4294967296 - U / d * (d * 4294967296) = U % d * 4294967296 + t / 4294967296 := by
        have : U / d * (d * 4294967296) = d * (U / d) * 4294967296 := by rw [← Int.mul_assoc, Int.mul_comm (U / d) d]
        rw [this]
        generalize d * (U / d) = x at *
        omega
      rw [this, Int.emod_eq_of_lt (by omega) (by omega)]
    rw [V0]
    have hV0 : 0 ≤ U % d * 4294967296 + t / 4294967296 := by omega
    have hV1 : U % d * 4294967296 + t / 4294967296 < d * 4294967296 := by omega
    generalize U % d * 4294967296 + t / 4294967296 = V at *
    have q0a : 0 ≤ V / d := Int.ediv_nonneg hV0 (by omega)
    have q0b : V / d < 4294967296 := Int.ediv_lt_of_lt_mul hd (by rw [Int.mul_comm]; omega)
    have f2 : Int.tdiv V d = V / d := Int.tdiv_eq_ediv_of_nonneg hV0
    have f3 : IntKind.wrap IntKind.u64 (V / d) = V / d := by rw [wu, Int.emod_eq_of_lt q0a (by omega)]
    rw [f2, f3, loopB q0b]
    simp only
    rw [s0, n1, eP]
    simp only [cond_false]
    have eV := Int.emod_add_mul_ediv V d
    have r0a := Int.emod_nonneg V (b := d) (by omega)
    have r0b := Int.emod_lt_of_pos V hd
    have R0 : IntKind.wrap IntKind.u64 (IntKind.wrap IntKind.u64 (IntKind.wrap IntKind.u64 (V * 4294967296) + t % 4294967296) - IntKind.wrap IntKind.u64 (V / d * ((b : Int) * P))) = V % d * 4294967296 + t % 4294967296 := by
      rw [wrap3, hYd]
      have : V * 4294967296 + t % 4294967296 - V / d * (d * 4294967296) = V % d * 4294967296 + t % 4294967296 := by
        have : V / d * (d * 4294967296) = d * (V / d) * 4294967296 := by rw [← Int.mul_assoc, Int.mul_comm (V / d) d]
        rw [this]
        generalize d * (V / d) = x at *
        omega
      rw [this, Int.emod_eq_of_lt (by omega) (by omega)]
    have Q0 : IntKind.wrap IntKind.u64 (IntKind.wrap IntKind.u64 (U / d * 4294967296) + V / d) = U / d * 4294967296 + V / d := by
      rw [wu, wu]; omega
    rw [R0, Q0, fdiv_lit (by omega), c.1, c.2]

end Go.Proofs.Dbl
