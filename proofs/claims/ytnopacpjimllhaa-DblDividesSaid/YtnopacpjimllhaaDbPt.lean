/- Plain facts about the document's doubles: products and quotients. -/
import Derived.Test.YtnopacpjimllhaaDbPs
namespace Go.Proofs.Dbl
open Go Go.TX Go.Proofs
set_option maxRecDepth 100000
set_option maxHeartbeats 0
set_option linter.unusedVariables false
set_option linter.unusedSimpArgs false

theorem Pd_1 (v : Int) : (Pd v).1 = W v := rfl
theorem Pd_2 (v : Int) : (Pd v).2 = W (v / 18446744073709551616) := rfl
theorem low_0 (a : Int) : W (a % 18446744073709551616) = W a ∧ W (a % 18446744073709551616 / 18446744073709551616) = 0 := by unfold W; omega

theorem UMul_L1 {a b : Int} (ha : Cell a) : ref_UMul_L1 (a, b, 63, 0, 0, 0, 0) = some (0, 0, Pd (a % 18446744073709551616 * (b % 18446744073709551616))) := by
  have := runs_all (pass := ref_UMul_L1_pass) (fun j => (a, b, (63 : Int) - j, 0, 0, Pd (a % 18446744073709551616 * (b % 18446744073709551616 / 2 ^ (64 - j))))) 64 (x := (0, 0, Pd (a % 18446744073709551616 * (b % 18446744073709551616)))) (fun j h => ?_) ?_
  · have z : b % 18446744073709551616 / 2 ^ (64 - 0) = 0 := by rw [Nat.sub_zero, p64]; omega
    rw [z, Int.mul_zero] at this
    exact this
  · unfold ref_UMul_L1_pass ref_UMul_L1_t
    simp only [Pd_1, Pd_2]
    have e : (63 : Int) - j = ((63 - j : Nat) : Int) := by omega
    rw [decide_eq_true (by omega), e, Bit_eq b (63 - j) (by omega), rTwice, wi, show W (((63 - j : Nat) : Int) - 1) = 63 - ((j + 1 : Nat) : Int) from by unfold W; omega]
    simp only [cond_true, outOf_some, Pd_1, Pd_2]
    have hd := div_bit (b % 18446744073709551616) (63 - j)
    rw [show 63 - j + 1 = 64 - j from by omega] at hd
    rw [show 64 - (j + 1) = 63 - j from by omega]
    generalize b % 18446744073709551616 / 2 ^ (64 - j) = q at *
    generalize hY : b % 18446744073709551616 / 2 ^ (63 - j) = Y at *
    generalize ht : Y % 2 = t at *
    rw [hd]
    by_cases g : t = 1
    · rw [g]
      have ha2 := rAdd (2 * (a % 18446744073709551616 * q)) (a % 18446744073709551616)
      rw [(low_0 a).1, (low_0 a).2, W_of ha] at ha2
      rw [ha2]
      simp only [beq_self_eq_true, cond_true, outOf_some]
      rw [show a % 18446744073709551616 * (2 * q + 1) = 2 * (a % 18446744073709551616 * q) + a % 18446744073709551616 from by rw [Int.mul_add, Int.mul_one, Int.mul_left_comm]]
    · rw [beq_eq_false_iff_ne.2 g]
      have g0 : t = 0 := by omega
      rw [g0, Int.add_zero]
      simp only [cond_false]
      rw [show a % 18446744073709551616 * (2 * q) = 2 * (a % 18446744073709551616 * q) from Int.mul_left_comm _ _ _]
      rfl
  · unfold ref_UMul_L1_pass ref_UMul_L1_t
    simp only [Nat.sub_self, Int.pow_zero, Int.ediv_one]
    rfl

theorem rUMul {a b : Int} (ha : Cell a) : ref_UMul a b = some (Pd (a % 18446744073709551616 * (b % 18446744073709551616))) := by
  unfold ref_UMul ref_UMul_t
  rw [UMul_L1 ha]
  rfl

theorem Mul_L1 {a b : Int} (ha : Cell a) (hb : Cell b) : ref_Mul_L1 (b, 0, 0, 0, 0, 0, Pd a) = some (0, 0, Pd (a * b)) := by
  have := runs_all (pass := ref_Mul_L1_pass) (fun j => (b, (j : Int), 0, 0, (Pd (if j ≤ 63 then a * (b % 18446744073709551616 % 2 ^ j) else a * b)).1, (Pd (if j ≤ 63 then a * (b % 18446744073709551616 % 2 ^ j) else a * b)).2, Pd (a * 2 ^ j))) 64 (x := (0, 0, Pd (a * b))) (fun j h => ?_) ?_
  · simp only [Int.pow_zero, Int.mul_one, Int.emod_one, Nat.zero_le, if_true, Int.mul_zero] at this
    exact this
  · unfold ref_Mul_L1_pass ref_Mul_L1_t ref_Mul_M1 ref_Mul_M1_t ref_Mul_M2 ref_Mul_M2_t
    simp only [Pd_1, Pd_2]
    rw [decide_eq_true (by omega), Bit_eq b j (by omega), wi, show W ((j : Int) + 1) = ((j + 1 : Nat) : Int) from by unfold W; omega, if_pos (by omega)]
    have hm := mod_bit (b % 18446744073709551616) j
    have hp : a * 2 ^ (j + 1) = 2 * (a * 2 ^ j) := by rw [Int.pow_succ, ← Int.mul_assoc, Int.mul_comm]
    simp only [cond_true, outOf_some, rTwice, rNeg, Pd_1, Pd_2, hp]
    by_cases g : b % 18446744073709551616 / 2 ^ j % 2 = 1
    · rw [g] at hm ⊢
      rw [Int.mul_one] at hm
      simp only [beq_self_eq_true, cond_true]
      by_cases g63 : (j : Int) < 63
      · rw [decide_eq_true g63, beq_eq_false_iff_ne.2 (by omega), rAdd, if_pos (by omega), hm, Int.mul_add]
        rfl
      · have hj : j = 63 := by omega
        subst hj
        rw [decide_eq_false (by omega), if_neg (by omega)]
        have hval : a * (b % 18446744073709551616 % 2 ^ 63) + -(a * 2 ^ 63) = a * b := by
          rw [← Int.mul_neg, ← Int.mul_add]
          congr 1
          have e63 : (2 : Int) ^ 63 = 9223372036854775808 := by decide
          rw [e63] at g ⊢
          unfold Cell at hb
          omega
        simp only [cond_false, outOf_some]
        rw [show (((63 : Nat) : Int) == 63) = true from rfl]
        simp only [cond_true]
        rw [rAdd, hval]
        rfl
    · rw [beq_eq_false_iff_ne.2 g]
      have g0 : b % 18446744073709551616 / 2 ^ j % 2 = 0 := by omega
      rw [g0, Int.mul_zero, Int.add_zero] at hm
      simp only [cond_false, outOf_some]
      by_cases g63 : j + 1 ≤ 63
      · rw [if_pos g63, hm]; rfl
      · have hj : j = 63 := by omega
        subst hj
        rw [if_neg (by omega)]
        have hval : b % 18446744073709551616 % 2 ^ 63 = b := by
          have e63 : (2 : Int) ^ 63 = 9223372036854775808 := by decide
          rw [e63] at g ⊢
          unfold Cell at hb
          omega
        rw [hval]; rfl
  · unfold ref_Mul_L1_pass ref_Mul_L1_t
    rfl

theorem rMul {a b : Int} (ha : Cell a) (hb : Cell b) : ref_Mul a b = some (Pd (a * b)) := by
  unfold ref_Mul ref_Mul_t
  rw [rOf ha]
  simp only [outOf_some]
  rw [show ((Pd a).fst, (Pd a).snd) = Pd a from rfl, Mul_L1 ha hb]
  rfl

/-! ### Long division -/

theorem D_low (u : Int) : D u 0 = u % 18446744073709551616 := by unfold D; omega

theorem set_at (x' : List Int) {i n : Nat} (h : i < n) : (List.replicate (i + 1) (0 : Int) ++ x' ).set i 1 = List.replicate i 0 ++ 1 :: x' := by
  rw [List.replicate_succ', List.append_assoc, List.set_append_right _ _ (by simp)]
  simp

theorem bitL_from (Q : Int) {i : Nat} (h : i < 128) : (bitL Q 128).drop i = (Q / 2 ^ i % 2) :: (bitL Q 128).drop (i + 1) := by
  have hl : i < (bitL Q 128).length := by rw [bitL_len]; exact h
  rw [List.drop_eq_getElem_cons hl]
  congr 1
  have := bitL_get Q h
  simp only [List.getD_eq_getElem?_getD, List.getElem?_eq_getElem hl, Option.getD_some] at this
  exact this

theorem divide_L1 {lo hi u : Int} (hu : Cell u) (h0 : u % 18446744073709551616 ≠ 0) :
    ref_divide_L1 (bitL (D lo hi) 128, 128, 127, 0, 0, 0, 0, List.replicate 128 0, u, 0) =
      some (128, 0, 0, (Pd (D lo hi % (u % 18446744073709551616))).1, (Pd (D lo hi % (u % 18446744073709551616))).2, bitL (D lo hi / (u % 18446744073709551616)) 128) := by
  have hB : 0 < u % 18446744073709551616 := by omega
  have hB' : u % 18446744073709551616 < 18446744073709551616 := by omega
  have hDr := D_range lo hi
  have eu : W (u % 18446744073709551616) = u ∧ W (u % 18446744073709551616 / 18446744073709551616) = 0 := ⟨(low_0 u).1.trans (W_of hu), (low_0 u).2⟩
  generalize hBu : u % 18446744073709551616 = B at *
  have := runs_all (pass := ref_divide_L1_pass) (fun j => (bitL (D lo hi) 128, 128, (127 : Int) - j, 0, 0, (Pd (D lo hi / 2 ^ (128 - j) % B)).1, (Pd (D lo hi / 2 ^ (128 - j) % B)).2, List.replicate (128 - j) 0 ++ (bitL (D lo hi / B) 128).drop (128 - j), u, 0)) 128
    (x := (128, 0, 0, (Pd (D lo hi % B)).1, (Pd (D lo hi % B)).2, bitL (D lo hi / B) 128)) (fun j h => ?_) ?_
  · have z : D lo hi / 2 ^ (128 - 0) = 0 := by rw [Nat.sub_zero, show (2 : Int) ^ 128 = 340282366920938463463374607431768211456 from by decide]; omega
    rw [z, Int.zero_emod, List.drop_of_length_le (by rw [bitL_len]; omega), List.append_nil] at this
    exact this
  · unfold ref_divide_L1_pass ref_divide_L1_t
    simp only [Pd_1, Pd_2, bitL_len]
    have e : (127 : Int) - j = ((127 - j : Nat) : Int) := by omega
    rw [decide_eq_true (by omega), decide_eq_true (by omega), rTwice, e, wi, show W (((127 - j : Nat) : Int) - 1) = 127 - ((j + 1 : Nat) : Int) from by unfold W; omega]
    simp only [cond_true, outOf_some, Int.toNat_natCast, Pd_1, Pd_2, Nat.zero_add]
    have hlt : 127 - j < 128 := by omega
    rw [bitL_get _ hlt]
    have hd := div_bit (D lo hi) (127 - j)
    rw [show 127 - j + 1 = 128 - j from by omega] at hd
    have hX0 : 0 ≤ D lo hi / 2 ^ (128 - j) := Int.ediv_nonneg hDr.1 (Int.le_of_lt (two_pos _))
    have hqX : D lo hi / B / 2 ^ (127 - j) = D lo hi / 2 ^ (127 - j) / B := by
      rw [Int.ediv_ediv_of_nonneg (by omega), Int.ediv_ediv_of_nonneg (Int.le_of_lt (two_pos _)), Int.mul_comm]
    have hdrop : (bitL (D lo hi / B) 128).drop (127 - j) = (D lo hi / 2 ^ (127 - j) / B % 2) :: (bitL (D lo hi / B) 128).drop (128 - j) := by
      have := bitL_from (D lo hi / B) hlt
      rw [hqX, show 127 - j + 1 = 128 - j from by omega] at this
      exact this
    rw [show 128 - (j + 1) = 127 - j from by omega, hdrop, show 128 - j = (127 - j) + 1 from by omega, set_at _ hlt]
    rw [show 127 - j + 1 = 128 - j from by omega]
    generalize hX : D lo hi / 2 ^ (128 - j) = X at *
    generalize hY : D lo hi / 2 ^ (127 - j) = Y at *
    generalize (bitL (D lo hi / B) 128).drop (128 - j) = tl
    generalize hb : Y % 2 = b at *
    have hb01 : b = 0 ∨ b = 1 := by omega
    obtain ⟨s1, s2⟩ := step_div hB hX0 hb01
    have hR0 := Int.emod_nonneg X (b := B) (by omega)
    have hR1 := Int.emod_lt_of_pos X hB
    have hadd := rAdd (2 * (X % B)) b
    rw [show W b = b from W_of (by unfold Cell; omega), show W (b / 18446744073709551616) = 0 from by unfold W; omega] at hadd
    rw [hadd]
    simp only [outOf_some, Pd_1, Pd_2]
    rw [rLess _ _ _ _ (W_cell _) (by unfold Cell; omega), D_Pd (by omega) (by omega), D_low, hBu]
    have hneg := rNeg B
    rw [eu.1, eu.2] at hneg
    simp only [outOf_some, hneg, Pd_1, Pd_2, rAdd]
    rw [hd]
    by_cases hge : 2 * (X % B) + b ≥ B
    · obtain ⟨g1, g2⟩ := s1 hge
      rw [decide_eq_false (by omega), g1, g2]
      simp only [Bool.not_false, cond_true]
      have e1 : (2 * (X / B) + 1) % 2 = 1 := by omega
      rw [e1, show 2 * (X % B) + b + -B = 2 * (X % B) + b - B from by omega]
    · obtain ⟨g1, g2⟩ := s2 (by omega)
      rw [decide_eq_true (by omega), g1, g2]
      simp only [Bool.not_true, cond_false]
      have e1 : (2 * (X / B)) % 2 = 0 := by omega
      rw [e1, show 128 - j = (127 - j) + 1 from by omega, List.replicate_succ', List.append_assoc]
      rfl
  · unfold ref_divide_L1_pass ref_divide_L1_t
    simp only [Nat.sub_self, Int.pow_zero, Int.ediv_one, List.replicate_zero, List.nil_append, List.drop_zero]
    rfl

theorem rDivide {lo hi u : Int} (hu : Cell u) (h0 : u % 18446744073709551616 ≠ 0) :
    ref_divide lo hi u = some (W (D lo hi % (u % 18446744073709551616)), Pd (D lo hi / (u % 18446744073709551616))) := by
  unfold ref_divide ref_divide_t
  rw [bits_eq]
  simp only [outOf_some]
  rw [divide_L1 hu h0]
  simp only [outOf_some, List.drop_zero]
  rw [List.take_of_length_le (by rw [bitL_len]; omega), make2_eq]
  rfl

end Go.Proofs.Dbl
