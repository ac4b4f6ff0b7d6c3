/- Plain facts about the document's doubles: quotients that are told, or not. -/
import Derived.Test.YtnopacpjimllhaaDbPt
namespace Go.Proofs.Dbl
open Go Go.TX Go.Proofs
set_option maxRecDepth 100000
set_option maxHeartbeats 0
set_option linter.unusedVariables false
set_option linter.unusedSimpArgs false

theorem rUMod {lo hi u : Int} (h1 : Cell lo) (h2 : Cell hi) (hu : Cell u) :
    ref_UMod lo hi u = some (if u = 0 then (0, 0, -10) else if hi % 18446744073709551616 < u % 18446744073709551616 then (W (D lo hi % (u % 18446744073709551616)), W (D lo hi / (u % 18446744073709551616)), 0) else (0, 0, -11)) := by
  unfold ref_UMod ref_UMod_t
  by_cases h0 : u = 0
  · subst h0; rfl
  · rw [beq_eq_false_iff_ne.2 h0, if_neg h0]
    have hB : u % 18446744073709551616 ≠ 0 := by unfold Cell at hu; omega
    rw [rDivide hu hB]
    simp only [cond_false, outOf_some, Pd_1, Pd_2]
    have hDr := D_range lo hi
    have q0 : 0 ≤ D lo hi / (u % 18446744073709551616) := Int.ediv_nonneg hDr.1 (by omega)
    by_cases h : hi % 18446744073709551616 < u % 18446744073709551616
    · have q1 := (UMod_q (lo := lo) (by omega) h).2
      rw [if_pos h, show W (D lo hi / (u % 18446744073709551616) / 18446744073709551616) = 0 from by unfold W; omega]
      rfl
    · have q1 : 18446744073709551616 ≤ D lo hi / (u % 18446744073709551616) := Int.le_ediv_of_mul_le (by omega) (by unfold D; omega)
      have q2 : D lo hi / (u % 18446744073709551616) ≤ D lo hi := Int.ediv_le_self _ hDr.1
      rw [if_neg h, show (W (D lo hi / (u % 18446744073709551616) / 18446744073709551616) != 0) = true from by
        rw [bne_iff_ne]; unfold W; omega]
      rfl

/-- What is left, and the quotient, of a double and a cell by their parts without signs. -/
theorem parts {lo hi n : Int} (h1 : Cell lo) (h2 : Cell hi) (hn : Cell n) (h0 : n ≠ 0) :
    ∃ A B : Int, (if hi < 0 then -S lo hi else S lo hi) = A ∧ (if n < 0 then W (0 - n) else n) % 18446744073709551616 = B ∧ 0 ≤ A ∧ A ≤ 170141183460469231731687303715884105728 ∧ 0 < B ∧ B ≤ 9223372036854775808 ∧
      (S lo hi).tdiv n = (if (hi < 0) ≠ (n < 0) then -(A / B) else A / B) ∧ (S lo hi).tmod n = (if hi < 0 then -(A % B) else A % B) ∧ 0 ≤ A % B ∧ A % B < B ∧ 0 ≤ A / B ∧ A / B ≤ A := by
  have hS := S_range h1 h2
  have hSs : S lo hi < 0 ↔ hi < 0 := by unfold Cell at h1 h2; unfold S; omega
  refine ⟨_, if n < 0 then -n else n, rfl, ?_, ?_⟩
  · unfold Cell at hn; unfold W; split <;> omega
  generalize hA : (if hi < 0 then -S lo hi else S lo hi) = A
  generalize hB : (if n < 0 then -n else n) = B
  have hA0 : 0 ≤ A := by subst hA; split <;> omega
  have hA1 : A ≤ 170141183460469231731687303715884105728 := by subst hA; split <;> omega
  have hB0 : 0 < B := by subst hB; split <;> omega
  have hB1 : B ≤ 9223372036854775808 := by unfold Cell at hn; subst hB; split <;> omega
  refine ⟨hA0, hA1, hB0, hB1, ?_, ?_, Int.emod_nonneg A (by omega), Int.emod_lt_of_pos A hB0, Int.ediv_nonneg hA0 (by omega), Int.ediv_le_self _ hA0⟩
  · subst hA hB
    by_cases g1 : hi < 0 <;> by_cases g2 : n < 0 <;> simp only [g1, g2, if_true, if_false, ne_eq, not_true_eq_false, not_false_eq_true, true_iff, false_iff, eq_self_iff_true, eq_iff_iff, iff_self, iff_true, iff_false] <;>
      rw [← Int.tdiv_eq_ediv_of_nonneg (by omega)] <;> simp only [Int.neg_tdiv, Int.tdiv_neg, Int.neg_neg]
  · subst hA hB
    by_cases g1 : hi < 0 <;> by_cases g2 : n < 0 <;> simp only [g1, g2, if_true, if_false] <;>
      rw [← Int.tmod_eq_emod_of_nonneg (by omega)] <;> simp only [Int.neg_tmod, Int.tmod_neg, Int.neg_neg]

theorem unlike_eq (a b : Prop) [Decidable a] [Decidable b] : (!(decide a == decide b)) = decide (a ≠ b) := by
  by_cases ha : a <;> by_cases hb : b <;> simp [ha, hb]

/-- Is a pair the double of a cell? -/
theorem of_fits {v : Int} (hv : -170141183460469231731687303715884105729 ≤ v ∧ v < 170141183460469231731687303715884105728) :
    (W v == (Pd (W v)).1 && (W (v / 18446744073709551616) == (Pd (W v)).2 && true)) = decide (Cell v) := by
  by_cases h : Cell v
  · rw [decide_eq_true h, W_of h, show (Pd v).fst = v from W_of h, show (Pd v).snd = W (v / 18446744073709551616) from rfl]; simp
  · rw [decide_eq_false h]
    have : ¬ (W (v / 18446744073709551616) = (Pd (W v)).snd) := by
      unfold Cell at h
      unfold Pd W; simp only
      omega
    simp [beq_eq_false_iff_ne.2 this]

theorem neg_of {lo hi : Int} (h1 : Cell lo) (h2 : Cell hi) : ref_Neg lo hi = some (Pd (-S lo hi)) := by
  have e := Pd_S h1 h2
  unfold Pd at e
  simp only [Prod.mk.injEq] at e
  have hn := rNeg (S lo hi)
  rw [e.1, e.2] at hn
  exact hn

theorem rSymm {lo hi n : Int} (h1 : Cell lo) (h2 : Cell hi) (hn : Cell n) :
    ref_Symm lo hi n = some (if n = 0 then (0, 0, -10) else if Cell ((S lo hi).tdiv n) then ((S lo hi).tmod n, (S lo hi).tdiv n, 0) else (0, 0, -11)) := by
  unfold ref_Symm ref_Symm_t
  by_cases h0 : n = 0
  · subst h0; rfl
  · rw [beq_eq_false_iff_ne.2 h0, if_neg h0]
    obtain ⟨A, B, eA, eB, a0, a1, b0, b1, eq, er, r0, r1, q0, q1⟩ := parts h1 h2 hn h0
    have m1 : ref_Symm_M1 lo hi lo hi = some (Pd A) := by
      unfold ref_Symm_M1 ref_Symm_M1_t
      rw [neg_of h1 h2, ← eA]
      by_cases g : hi < 0
      · simp [g]
      · rw [decide_eq_false g, if_neg g, Pd_S h1 h2]; rfl
    have m2 : ref_Symm_M2 n n = some (if n < 0 then W (0 - n) else n) := by
      unfold ref_Symm_M2 ref_Symm_M2_t
      rw [wi]
      by_cases g : n < 0 <;> simp [g]
    rw [m1, m2]
    have hu : Cell (if n < 0 then W (0 - n) else n) := by split; exact W_cell _; exact hn
    simp only [cond_false, outOf_some, Pd_1, Pd_2]
    rw [rDivide hu (by rw [eB]; omega), eB, D_Pd a0 (by omega)]
    simp only [outOf_some, Pd_1, Pd_2]
    have m3 : ref_Symm_M3 n hi (W (A / B)) (W (A / B / 18446744073709551616)) = some (if (hi < 0) = (n < 0) ∧ A / B = 170141183460469231731687303715884105728 then .inr (0, 0, -11) else .inl (Pd ((S lo hi).tdiv n))) := by
      unfold ref_Symm_M3 ref_Symm_M3_t
      rw [unlike_eq, rNeg, eq]
      by_cases g : (hi < 0) ≠ (n < 0)
      · rw [decide_eq_true g, if_pos g, if_neg (fun h => g h.1)]; rfl
      · rw [decide_eq_false g, if_neg g]
        have g' : (hi < 0) = (n < 0) := Classical.byContradiction g
        simp only [cond_false]
        by_cases g2 : A / B = 170141183460469231731687303715884105728
        · rw [if_pos ⟨g', g2⟩, decide_eq_true (by unfold W; omega)]; rfl
        · rw [if_neg (fun h => g2 h.2), decide_eq_false (by unfold W; omega)]; rfl
    rw [m3]
    by_cases g : (hi < 0) = (n < 0) ∧ A / B = 170141183460469231731687303715884105728
    · rw [if_pos g]
      have : ¬ Cell ((S lo hi).tdiv n) := by rw [eq, if_neg (by simp [g.1]), g.2]; unfold Cell; omega
      rw [if_neg this]; rfl
    · rw [if_neg g]
      have hv : -170141183460469231731687303715884105729 ≤ (S lo hi).tdiv n ∧ (S lo hi).tdiv n < 170141183460469231731687303715884105728 := by
        rw [eq]
        by_cases g' : (hi < 0) ≠ (n < 0)
        · rw [if_pos g']; omega
        · rw [if_neg g']
          have g'' : (hi < 0) = (n < 0) := Classical.byContradiction g'
          have : A / B ≠ 170141183460469231731687303715884105728 := fun h => g ⟨g'', h⟩
          omega
      simp only [outOf_some, sumOf_inl, rOf (W_cell _), Pd_1, Pd_2]
      have hf := of_fits hv
      simp only [Pd_1, Pd_2] at hf
      rw [hf]
      by_cases c : Cell ((S lo hi).tdiv n)
      · rw [decide_eq_true c, if_pos c, W_of c, er, wi]
        simp only [Bool.not_true, cond_false]
        by_cases g1 : hi < 0
        · rw [decide_eq_true g1, if_pos g1]
          simp only [cond_true]
          rw [show W (0 - W (A % B)) = -(A % B) from by unfold W; omega]
        · rw [decide_eq_false g1, if_neg g1]
          simp only [cond_false]
          rw [show W (A % B) = A % B from by unfold W; omega]
      · rw [decide_eq_false c, if_neg c]; rfl

theorem rFloor {lo hi n : Int} (h1 : Cell lo) (h2 : Cell hi) (hn : Cell n) :
    ref_Floor lo hi n = some (if n = 0 then (0, 0, -10) else if Cell ((S lo hi).fdiv n) then ((S lo hi).fmod n, (S lo hi).fdiv n, 0) else (0, 0, -11)) := by
  unfold ref_Floor ref_Floor_t
  by_cases h0 : n = 0
  · subst h0; rfl
  · rw [beq_eq_false_iff_ne.2 h0, if_neg h0]
    have hSs : S lo hi < 0 ↔ hi < 0 := by unfold Cell at h1 h2; unfold S; omega
    obtain ⟨e1, e2⟩ := fdiv_of_tdiv (S := S lo hi) h0 hSs
    obtain ⟨t1, t2, t3⟩ := tmod_facts (S lo hi) n h0
    obtain ⟨A, B, eA, eB, a0, a1, b0, b1, eq, er, r0, r1, q0, q1⟩ := parts h1 h2 hn h0
    have m1 : ref_Floor_M1 lo hi lo hi = some (Pd A) := by
      unfold ref_Floor_M1 ref_Floor_M1_t
      rw [neg_of h1 h2, ← eA]
      by_cases g : hi < 0
      · simp [g]
      · rw [decide_eq_false g, if_neg g, Pd_S h1 h2]; rfl
    have m2 : ref_Floor_M2 n n = some (if n < 0 then W (0 - n) else n) := by
      unfold ref_Floor_M2 ref_Floor_M2_t
      rw [wi]
      by_cases g : n < 0 <;> simp [g]
    rw [m1, m2]
    have hu : Cell (if n < 0 then W (0 - n) else n) := by split; exact W_cell _; exact hn
    simp only [cond_false, outOf_some, Pd_1, Pd_2, unlike_eq]
    rw [rDivide hu (by rw [eB]; omega), eB, D_Pd a0 (by omega)]
    simp only [outOf_some, Pd_1, Pd_2]
    have m3 : ref_Floor_M3 (decide ((hi < 0) ≠ (n < 0))) (W (A / B / 18446744073709551616)) = some (if (hi < 0) = (n < 0) ∧ A / B = 170141183460469231731687303715884105728 then .inl (0, 0, -11) else .inr ()) := by
      unfold ref_Floor_M3 ref_Floor_M3_t
      by_cases g : (hi < 0) ≠ (n < 0)
      · rw [decide_eq_true g, if_neg (fun h => g h.1)]; rfl
      · rw [decide_eq_false g]
        have g' : (hi < 0) = (n < 0) := Classical.byContradiction g
        simp only [Bool.not_false, cond_true]
        by_cases g2 : A / B = 170141183460469231731687303715884105728
        · rw [if_pos ⟨g', g2⟩, decide_eq_true (by unfold W; omega)]; rfl
        · rw [if_neg (fun h => g2 h.2), decide_eq_false (by unfold W; omega)]; rfl
    rw [m3]
    by_cases g : (hi < 0) = (n < 0) ∧ A / B = 170141183460469231731687303715884105728
    · rw [if_pos g]
      have : ¬ Cell ((S lo hi).fdiv n) := by rw [e1, if_neg (by simp [g.1]), eq, if_neg (by simp [g.1]), g.2]; unfold Cell; omega
      rw [if_neg this]; rfl
    · rw [if_neg g]
      have hv : -170141183460469231731687303715884105728 ≤ (S lo hi).tdiv n ∧ (S lo hi).tdiv n < 170141183460469231731687303715884105728 := by
        rw [eq]
        by_cases g' : (hi < 0) ≠ (n < 0)
        · rw [if_pos g']; omega
        · rw [if_neg g']
          have g'' : (hi < 0) = (n < 0) := Classical.byContradiction g'
          have : A / B ≠ 170141183460469231731687303715884105728 := fun h => g ⟨g'', h⟩
          omega
      have m4 : ref_Floor_M4 (decide ((hi < 0) ≠ (n < 0))) (W (A / B)) (W (A / B / 18446744073709551616)) = some (Pd ((S lo hi).tdiv n)) := by
        unfold ref_Floor_M4 ref_Floor_M4_t
        rw [rNeg, eq]
        by_cases g : (hi < 0) ≠ (n < 0)
        · rw [decide_eq_true g, if_pos g]; rfl
        · rw [decide_eq_false g, if_neg g]; rfl
      have hrc : Cell ((S lo hi).tmod n) := by unfold Cell at *; omega
      have m5 : ref_Floor_M5 (W (A % B)) hi = some ((S lo hi).tmod n) := by
        unfold ref_Floor_M5 ref_Floor_M5_t
        rw [er, wi]
        by_cases g1 : hi < 0
        · rw [decide_eq_true g1, if_pos g1, show W (0 - W (A % B)) = -(A % B) from by unfold W; omega]; rfl
        · rw [decide_eq_false g1, if_neg g1, show W (A % B) = A % B from by unfold W; omega]; rfl
      have m6 : ref_Floor_M6 ((S lo hi).tmod n) (decide ((hi < 0) ≠ (n < 0))) = some (decide ((S lo hi).tmod n ≠ 0 ∧ ((hi < 0) ≠ (n < 0)))) := by
        unfold ref_Floor_M6 ref_Floor_M6_t
        by_cases g : (hi < 0) ≠ (n < 0)
        · rw [decide_eq_true g]
          by_cases g2 : (S lo hi).tmod n = 0
          · simp [g2]
          · simp [g2, g]
        · rw [decide_eq_false g, decide_eq_false (fun h => g h.2)]; rfl
      have m7 : ref_Floor_M7 n ((S lo hi).tmod n) (decide ((hi < 0) ≠ (n < 0))) (W ((S lo hi).tdiv n)) (W ((S lo hi).tdiv n / 18446744073709551616)) = some ((S lo hi).fmod n, Pd ((S lo hi).fdiv n)) := by
        unfold ref_Floor_M7 ref_Floor_M7_t
        rw [m6]
        simp only [outOf_some]
        by_cases gg : (S lo hi).tmod n ≠ 0 ∧ ((hi < 0) ≠ (n < 0))
        · have ha := rAdd ((S lo hi).tdiv n) (-1)
          rw [show W (-1) = -1 from by decide, show W (-1 / 18446744073709551616) = -1 from by decide] at ha
          rw [decide_eq_true gg, e1, e2, if_pos gg, if_pos gg, wi]
          simp only [cond_true, ha, outOf_some]
          rw [W_of (by
            obtain ⟨ga, gb⟩ := gg
            by_cases g1 : hi < 0
            · have g2 : ¬ n < 0 := fun h => gb (by simp [g1, h])
              have := t3 (hSs.2 g1)
              unfold Cell at *
              omega
            · have g2 : n < 0 := Classical.byContradiction fun h => gb (by simp [g1, h])
              have := t2 (by omega)
              unfold Cell at *
              omega)]
          rfl
        · rw [decide_eq_false gg, e1, e2, if_neg gg, if_neg gg]; rfl
      simp only [outOf_some, sumOf_inr, m4, m5, Pd_1, Pd_2, m7, rOf (W_cell _)]
      have hf := of_fits (v := (S lo hi).fdiv n) (by rw [e1]; split <;> omega)
      simp only [Pd_1, Pd_2] at hf
      rw [hf]
      by_cases c : Cell ((S lo hi).fdiv n)
      · rw [decide_eq_true c, if_pos c, W_of c]; rfl
      · rw [decide_eq_false c, if_neg c]; rfl

theorem rScale {a b c : Int} (ha : Cell a) (hb : Cell b) (hc : Cell c) : ref_Scale a b c = some (if c = 0 then (0, 0, -10) else if Cell ((a * b).fdiv c) then ((a * b).fmod c, (a * b).fdiv c, 0) else (0, 0, -11)) := by
  unfold ref_Scale ref_Scale_t
  rw [rMul ha hb]
  simp only [outOf_some]
  rw [rFloor (show Cell (Pd _).fst from W_cell _) (show Cell (Pd _).snd from W_cell _) hc, S_of (mul_range ha hb)]
  rfl

theorem Scale_eq {a b c : Int} (ha : Cell a) (hb : Cell b) (hc : Cell c) : dbl_Scale a b c = some (if c = 0 then (0, 0, -10) else if Cell ((a * b).fdiv c) then ((a * b).fmod c, (a * b).fdiv c, 0) else (0, 0, -11)) := by
  unfold dbl_Scale dbl_Scale_t
  rw [Mul_eq ha hb]
  simp only [outOf_some]
  rw [Floor_eq (show Cell (Pd _).fst from W_cell _) (show Cell (Pd _).snd from W_cell _) hc, S_of (mul_range ha hb)]
  rfl

theorem awake2_eq : awake2 = some true := by
  unfold awake2 awake2_t
  rw [UMod_eq (by unfold Cell; omega) (by unfold Cell; omega) (by unfold Cell; omega)]
  have e : D 7 0 = 7 := by decide
  rw [e]
  decide

end Go.Proofs.Dbl
