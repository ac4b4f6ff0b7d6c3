/- Plain facts about doubles: quotients. -/
import Derived.Test.YtbcijnfednjohaaPuPc
namespace Go.Proofs.Dbl
open Go Go.TX Go.Proofs
set_option maxRecDepth 100000
set_option maxHeartbeats 0
set_option linter.unusedVariables false
set_option linter.unusedSimpArgs false

theorem xor_neg {a b : Int} (ha : Cell a) (hb : Cell b) : ibits .xor .i64 a b < 0 ↔ ((a < 0) ≠ (b < 0)) := by
  show IntKind.wrap .i64 (((BitVec.ofInt 64 a ^^^ BitVec.ofInt 64 b).toNat : Nat) : Int) < 0 ↔ _
  have m : ∀ x : Int, Cell x → (BitVec.ofInt 64 x).msb = decide (x < 0) := fun x hx => by
    rw [BitVec.msb_eq_decide, BitVec.toNat_ofInt, show ((2:Nat) ^ 64 : Nat) = 18446744073709551616 from by decide, show (2 : Nat) ^ (64 - 1) = 9223372036854775808 from by decide]
    unfold Cell at hx
    by_cases h : x < 0
    · rw [decide_eq_true h, decide_eq_true (by omega)]
    · rw [decide_eq_false h, decide_eq_false (by omega)]
  have h := BitVec.msb_xor (x := BitVec.ofInt 64 a) (y := BitVec.ofInt 64 b)
  rw [m a ha, m b hb, BitVec.msb_eq_decide, show (2 : Nat) ^ (64 - 1) = 9223372036854775808 from by decide] at h
  have hlt := (BitVec.ofInt 64 a ^^^ BitVec.ofInt 64 b).isLt
  rw [show ((2:Nat) ^ 64 : Nat) = 18446744073709551616 from by decide] at hlt
  generalize (BitVec.ofInt 64 a ^^^ BitVec.ofInt 64 b).toNat = x at *
  rw [wi]
  have e : W (x : Int) < 0 ↔ 9223372036854775808 ≤ x := by unfold W; omega
  rw [e]
  have h2 : decide (9223372036854775808 ≤ x) = true ↔ ((decide (a < 0)) ^^ (decide (b < 0))) = true := by rw [h]
  simp only [decide_eq_true_eq] at h2
  rw [h2]
  by_cases h3 : a < 0 <;> by_cases h4 : b < 0 <;> simp [h3, h4]

instance (x : Int) : Decidable (Cell x) := by unfold Cell; infer_instance

theorem D_Pd {v : Int} (h0 : 0 ≤ v) (h1 : v < 340282366920938463463374607431768211456) : D (W v) (W (v / 18446744073709551616)) = v := by
  unfold D W; omega

theorem abs_eq {lo hi : Int} (h1 : Cell lo) (h2 : Cell hi) : dbl_abs lo hi = some (Pd (if hi < 0 then -S lo hi else S lo hi)) := by
  have e := Pd_S h1 h2
  have e' := e
  unfold Pd at e'
  simp only [Prod.mk.injEq] at e'
  have hn := Neg_eq (S lo hi)
  rw [e'.1, e'.2] at hn
  unfold dbl_abs dbl_abs_t
  by_cases h : hi < 0
  · rw [decide_eq_true h, if_pos h]
    simp only [cond_true, hn, outOf_some]
  · rw [decide_eq_false h, if_neg h]
    simp only [cond_false, e]

/-- What a split comes to, before it is asked whether it fits. -/
theorem split_eq {lo hi n : Int} (h1 : Cell lo) (h2 : Cell hi) (hn : Cell n) (h0 : n ≠ 0) :
    dbl_split lo hi n = some ((S lo hi).tmod n, W ((S lo hi).tdiv n), W ((S lo hi).tdiv n / 18446744073709551616),
      decide ((hi < 0) ≠ (n < 0)) || decide ((S lo hi).tdiv n < 170141183460469231731687303715884105728)) := by
  have hS := S_range h1 h2
  have hSs : S lo hi < 0 ↔ hi < 0 := by unfold S; omega
  have hn' := hn
  unfold Cell at hn'
  -- the parts without signs
  generalize hA : (if hi < 0 then -S lo hi else S lo hi) = A
  generalize hB : (if n < 0 then -n else n) = B
  have hA0 : 0 ≤ A := by subst hA; split <;> omega
  have hA1 : A ≤ 170141183460469231731687303715884105728 := by subst hA; split <;> omega
  have hB0 : 0 < B := by subst hB; split <;> omega
  have hB1 : B ≤ 9223372036854775808 := by subst hB; split <;> omega
  have hr0 := Int.emod_nonneg A (b := B) (by omega)
  have hr1 := Int.emod_lt_of_pos A hB0
  have hq0 : 0 ≤ A / B := Int.ediv_nonneg hA0 (by omega)
  have hq1 : A / B ≤ 170141183460469231731687303715884105728 := Int.le_trans (Int.ediv_le_self _ hA0) hA1
  have qd : (S lo hi).tdiv n = if (hi < 0) ≠ (n < 0) then -(A / B) else A / B := by
    subst hA hB
    by_cases g1 : hi < 0 <;> by_cases g2 : n < 0 <;> simp only [g1, g2, if_true, if_false, ne_eq, not_true_eq_false, not_false_eq_true, true_iff, false_iff, eq_self_iff_true, eq_iff_iff, iff_self, iff_true, iff_false] <;>
      rw [← Int.tdiv_eq_ediv_of_nonneg (by omega)] <;> simp only [Int.neg_tdiv, Int.tdiv_neg, Int.neg_neg]
  have rd : (S lo hi).tmod n = if hi < 0 then -(A % B) else A % B := by
    subst hA hB
    by_cases g1 : hi < 0 <;> by_cases g2 : n < 0 <;> simp only [g1, g2, if_true, if_false] <;>
      rw [← Int.tmod_eq_emod_of_nonneg (by omega)] <;> simp only [Int.neg_tmod, Int.tmod_neg, Int.neg_neg]
  have eU : (if n < 0 then W (0 - n) else n) % 18446744073709551616 = B := by
    subst hB; unfold W; split <;> omega
  unfold dbl_split dbl_split_t
  have m1 : dbl_split_M1 n n = some (if n < 0 then W (0 - n) else n) := by
    unfold dbl_split_M1 dbl_split_M1_t
    rw [wi]
    by_cases h : n < 0 <;> simp [h]
  have m2 : ∀ x, dbl_split_M2 x hi = some (if hi < 0 then W (0 - x) else x) := fun x => by
    unfold dbl_split_M2 dbl_split_M2_t
    rw [wi]
    by_cases h : hi < 0 <;> simp [h]
  rw [m1, abs_eq h1 h2, hA]
  simp only [outOf_some]
  rw [long_eq (by rw [eU]; omega), eU]
  simp only [outOf_some, m2]
  rw [show D (Pd A).fst (Pd A).snd = A from D_Pd hA0 (by omega), Neg_eq]
  have er : (if hi < 0 then W (0 - W (A % B)) else W (A % B)) = (S lo hi).tmod n := by
    rw [rd]; unfold W; split <;> omega
  rw [er, qd]
  by_cases g : (hi < 0) ≠ (n < 0)
  · rw [decide_eq_true ((xor_neg h2 hn).2 g), if_pos g, decide_eq_true g]
    simp only [cond_true, outOf_some, Bool.true_or]
    rfl
  · rw [decide_eq_false (fun h => g ((xor_neg h2 hn).1 h)), if_neg g, decide_eq_false g]
    simp only [cond_false, Bool.false_or]
    congr 4
    rw [decide_eq_decide]
    unfold W; omega

theorem fits_eq {r v : Int} {ok : Bool} (hv : -170141183460469231731687303715884105729 ≤ v ∧ v ≤ 170141183460469231731687303715884105728) (hok : Cell v → ok = true) :
    dbl_fits r (W v) (W (v / 18446744073709551616)) ok = some (if Cell v then (r, v, 0) else (0, 0, -11)) := by
  unfold dbl_fits dbl_fits_t
  rw [Of_eq (W_cell v)]
  by_cases h : Cell v
  · rw [hok h, if_pos h, W_of h, show (Pd v).fst = v from W_of h, show (Pd v).snd = W (v / 18446744073709551616) from rfl]
    simp
  · rw [if_neg h]
    cases ok
    · rfl
    · have : ¬ (W (v / 18446744073709551616) = (Pd (W v)).snd) := by
        unfold Cell at h
        unfold Pd W; simp only
        omega
      simp [beq_eq_false_iff_ne.2 this]

theorem tdiv_range {v n : Int} (h1 : -170141183460469231731687303715884105728 ≤ v ∧ v ≤ 170141183460469231731687303715884105728) : -170141183460469231731687303715884105728 ≤ v.tdiv n ∧ v.tdiv n ≤ 170141183460469231731687303715884105728 := by
  have h := Int.natAbs_tdiv_le_natAbs v n
  omega

theorem Symm_eq {lo hi n : Int} (h1 : Cell lo) (h2 : Cell hi) (hn : Cell n) :
    dbl_Symm lo hi n = some (if n = 0 then (0, 0, -10) else if Cell ((S lo hi).tdiv n) then ((S lo hi).tmod n, (S lo hi).tdiv n, 0) else (0, 0, -11)) := by
  unfold dbl_Symm dbl_Symm_t
  by_cases h0 : n = 0
  · subst h0; rfl
  · rw [beq_eq_false_iff_ne.2 h0, if_neg h0, split_eq h1 h2 hn h0]
    have hS := S_range h1 h2
    simp only [cond_false, outOf_some]
    rw [fits_eq (by have := tdiv_range (v := S lo hi) (n := n) (by omega); omega) (fun h => by
      rw [Bool.or_eq_true]; right; unfold Cell at h; exact decide_eq_true (by omega))]
    rfl

theorem fdiv_of_tdiv {S n hi : Int} (h0 : n ≠ 0) (hs : S < 0 ↔ hi < 0) : S.fdiv n = (if S.tmod n ≠ 0 ∧ ((hi < 0) ≠ (n < 0)) then S.tdiv n - 1 else S.tdiv n) ∧ S.fmod n = (if S.tmod n ≠ 0 ∧ ((hi < 0) ≠ (n < 0)) then S.tmod n + n else S.tmod n) := by
  have key : S.fdiv n = (if S.tmod n ≠ 0 ∧ ((hi < 0) ≠ (n < 0)) then S.tdiv n - 1 else S.tdiv n) := by
    rw [Int.fdiv_eq_tdiv]
    by_cases hd : n ∣ S
    · rw [if_pos hd, if_neg (fun h => h.1 (Int.tmod_eq_zero_of_dvd hd))]; omega
    · rw [if_neg hd]
      have hr : S.tmod n ≠ 0 := fun h => hd (Int.dvd_of_tmod_eq_zero h)
      by_cases g1 : S < 0
      · rw [if_neg (by omega)]
        have g1' := hs.1 g1
        by_cases g2 : n < 0
        · rw [if_neg (by omega), if_neg (by simp [g1', g2]), Int.sign_eq_neg_one_of_neg g2]; omega
        · rw [if_pos (by omega), if_pos ⟨hr, by simp [g1', g2]⟩, Int.sign_eq_one_of_pos (by omega)]
      · rw [if_pos (by omega)]
        have g1' : ¬ hi < 0 := fun h => g1 (hs.2 h)
        by_cases g2 : n < 0
        · rw [if_neg (by omega), if_pos ⟨hr, by simp [g1', g2]⟩]
        · rw [if_pos (by omega), if_neg (by simp [g1', g2])]; omega
  refine ⟨key, ?_⟩
  have e := Int.mul_tdiv_add_tmod S n
  rw [Int.fmod_def, key]
  split
  · rw [Int.mul_sub, Int.mul_one]; omega
  · omega

theorem Floor_eq {lo hi n : Int} (h1 : Cell lo) (h2 : Cell hi) (hn : Cell n) :
    dbl_Floor lo hi n = some (if n = 0 then (0, 0, -10) else if Cell ((S lo hi).fdiv n) then ((S lo hi).fmod n, (S lo hi).fdiv n, 0) else (0, 0, -11)) := by
  unfold dbl_Floor dbl_Floor_t
  by_cases h0 : n = 0
  · subst h0; rfl
  · rw [beq_eq_false_iff_ne.2 h0, if_neg h0, split_eq h1 h2 hn h0]
    have hS := S_range h1 h2
    have hSs : S lo hi < 0 ↔ hi < 0 := by unfold S; omega
    obtain ⟨e1, e2⟩ := fdiv_of_tdiv (S := S lo hi) h0 hSs
    have hr := tdiv_range (v := S lo hi) (n := n) (by omega)
    simp only [cond_false, outOf_some]
    have m1 : dbl_Floor_M1 n ((S lo hi).tmod n) hi = some (decide ((S lo hi).tmod n ≠ 0 ∧ ((hi < 0) ≠ (n < 0)))) := by
      unfold dbl_Floor_M1 dbl_Floor_M1_t
      by_cases g : (S lo hi).tmod n = 0
      · simp [g]
      · rw [show ((S lo hi).tmod n != 0) = true from by simp [g]]
        simp only [cond_true]
        congr 1
        rw [decide_eq_decide, xor_neg h2 hn]
        simp [g]
    have m2 : dbl_Floor_M2 n ((S lo hi).tmod n) hi (W ((S lo hi).tdiv n)) (W ((S lo hi).tdiv n / 18446744073709551616)) = some ((S lo hi).fmod n, W ((S lo hi).fdiv n), W ((S lo hi).fdiv n / 18446744073709551616)) := by
      unfold dbl_Floor_M2 dbl_Floor_M2_t
      rw [m1]
      simp only [outOf_some]
      by_cases g : (S lo hi).tmod n ≠ 0 ∧ ((hi < 0) ≠ (n < 0))
      · rw [decide_eq_true g]
        have ha := Add_eq ((S lo hi).tdiv n) (-1)
        rw [show W (-1) = -1 from by decide, show W (-1 / 18446744073709551616) = -1 from by decide] at ha
        simp only [cond_true, ha, outOf_some]
        rw [e1, e2, if_pos g, if_pos g, wi]
        have b1 : Cell ((S lo hi).tmod n + n) := by
          have h3 := Int.natAbs_tmod (S lo hi) n
          have h4 := Nat.mod_lt (S lo hi).natAbs (y := n.natAbs) (by omega)
          have h5 : 0 ≤ S lo hi → 0 ≤ (S lo hi).tmod n := Int.tmod_nonneg n
          have h6 : S lo hi < 0 → (S lo hi).tmod n ≤ 0 := fun h => by
            have h7 := Int.tmod_nonneg n (a := -S lo hi) (by omega)
            rw [Int.neg_tmod] at h7; omega
          have h8 := g.2
          unfold Cell at hn ⊢
          by_cases g1 : hi < 0
          · have g2 : ¬ n < 0 := fun h => h8 (by simp [g1, h])
            have := h6 (hSs.2 g1)
            omega
          · have g2 : n < 0 := Classical.byContradiction fun h => h8 (by simp [g1, h])
            have := h5 (by omega)
            omega
        rw [W_of b1]
        rfl
      · rw [decide_eq_false g, e1, e2, if_neg g, if_neg g]
        rfl
    rw [m2]
    simp only [outOf_some]
    rw [fits_eq (by rw [e1]; split <;> omega) (fun h => by
      rw [Bool.or_eq_true]
      by_cases g : (hi < 0) ≠ (n < 0)
      · left; exact decide_eq_true g
      · right
        rw [e1, if_neg (fun h => g h.2)] at h
        unfold Cell at h
        exact decide_eq_true (by omega))]
    rfl

end Go.Proofs.Dbl
