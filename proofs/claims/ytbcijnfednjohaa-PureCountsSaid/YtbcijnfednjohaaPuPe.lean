/- Plain facts about doubles and cells: what is divided. -/
import Derived.Test.YtbcijnfednjohaaPuPd
namespace Go.Proofs.Dbl
open Go Go.TX Go.Proofs
set_option maxRecDepth 100000
set_option maxHeartbeats 0
set_option linter.unusedVariables false
set_option linter.unusedSimpArgs false

theorem S_of {v : Int} (h : -170141183460469231731687303715884105728 ≤ v ∧ v < 170141183460469231731687303715884105728) : S (Pd v).1 (Pd v).2 = v := by
  have := S_Pd v
  show S (W v) (W (v / 18446744073709551616)) = v
  omega

theorem mul_range {a b : Int} (ha : Cell a) (hb : Cell b) : -170141183460469231731687303715884105728 ≤ a * b ∧ a * b < 170141183460469231731687303715884105728 := by
  unfold Cell at ha hb
  have h1 : (a * b).natAbs = a.natAbs * b.natAbs := Int.natAbs_mul a b
  have h2 : a.natAbs * b.natAbs ≤ 9223372036854775808 * 9223372036854775808 := Nat.mul_le_mul (by omega) (by omega)
  omega

theorem tdiv_cell {a b : Int} (ha : Cell a) (hb : Cell b) (h : ¬ (b = -1 ∧ a = -9223372036854775808)) : Cell (a.tdiv b) := by
  unfold Cell at *
  have h1 := Int.natAbs_tdiv_le_natAbs a b
  by_cases g : a.tdiv b = 9223372036854775808
  · exfalso
    have h2 := Int.mul_tdiv_add_tmod a b
    rw [g] at h2
    have h3 := Int.natAbs_tmod a b
    by_cases hb0 : b = 0
    · subst hb0; rw [Int.tdiv_zero] at g; omega
    · have h4 := Nat.mod_lt a.natAbs (y := b.natAbs) (by omega)
      omega
  · omega

theorem cSymm_eq {a b : Int} (ha : Cell a) (hb : Cell b) : cell_Symm a b = some (if b = 0 then (0, 0, -10) else if b = -1 ∧ a = -9223372036854775808 then (0, 0, -11) else (a.tdiv b, a.tmod b, 0)) := by
  unfold cell_Symm cell_Symm_t
  by_cases h0 : b = 0
  · subst h0; rfl
  · rw [beq_eq_false_iff_ne.2 h0, if_neg h0, decide_eq_false h0, wi]
    simp only [cond_false]
    by_cases h1 : b = -1
    · rw [show (b == -1) = true from by rw [h1]; rfl]
      by_cases h2 : a = -9223372036854775808
      · rw [show (a == -9223372036854775808) = true from by rw [h2]; rfl, if_pos ⟨h1, h2⟩]; rfl
      · rw [beq_eq_false_iff_ne.2 h2, if_neg (fun h => h2 h.2), W_of (tdiv_cell ha hb (fun h => h2 h.2))]; rfl
    · rw [beq_eq_false_iff_ne.2 h1, if_neg (fun h => h1 h.1), W_of (tdiv_cell ha hb (fun h => h1 h.1))]; rfl

theorem tmod_facts (a b : Int) (hb : b ≠ 0) : (a.tmod b).natAbs < b.natAbs ∧ (0 ≤ a → 0 ≤ a.tmod b) ∧ (a < 0 → a.tmod b ≤ 0) := by
  have h3 := Int.natAbs_tmod a b
  have h4 := Nat.mod_lt a.natAbs (y := b.natAbs) (by omega)
  refine ⟨by omega, Int.tmod_nonneg b, fun h => ?_⟩
  have h7 := Int.tmod_nonneg b (a := -a) (by omega)
  rw [Int.neg_tmod] at h7; omega

theorem cFloor_eq {a b : Int} (ha : Cell a) (hb : Cell b) : cell_Floor a b = some (if b = 0 then (0, 0, -10) else if b = -1 ∧ a = -9223372036854775808 then (0, 0, -11) else (a.fdiv b, a.fmod b, 0)) := by
  unfold cell_Floor cell_Floor_t
  rw [cSymm_eq ha hb]
  simp only [outOf_some]
  by_cases h0 : b = 0
  · subst h0; rfl
  · rw [if_neg h0, if_neg h0]
    by_cases h1 : b = -1 ∧ a = -9223372036854775808
    · rw [if_pos h1, if_pos h1]; rfl
    · rw [if_neg h1, if_neg h1]
      simp only
      obtain ⟨e1, e2⟩ := fdiv_of_tdiv (S := a) (hi := a) h0 Iff.rfl
      obtain ⟨f1, f2, f3⟩ := tmod_facts a b h0
      have hq := tdiv_cell ha hb h1
      have hqr := Int.mul_tdiv_add_tmod a b
      have hr : Cell (a.tmod b) := by unfold Cell at *; omega
      rw [e1, e2]
      by_cases g : a.tmod b = 0
      · rw [show (a.tmod b != 0) = false from by simp [g], if_neg (fun h => h.1 g), if_neg (fun h => h.1 g)]; rfl
      · rw [show (a.tmod b != 0) = true from by simp [g]]
        have hx : (ibits .xor .i64 (a.tmod b) b < 0) ↔ ((a < 0) ≠ (b < 0)) := by
          rw [xor_neg hr hb]
          have : (a.tmod b < 0) ↔ (a < 0) := by
            constructor
            · intro h; exact Classical.byContradiction fun h' => by have := f2 (by omega); omega
            · intro h; have := f3 h; omega
          rw [this]
        by_cases g2 : (a < 0) ≠ (b < 0)
        · rw [decide_eq_true (hx.2 g2), if_pos ⟨g, g2⟩, if_pos ⟨g, g2⟩, wi, wi]
          simp only [cond_true]
          have c1 : W (a.tmod b + b) = a.tmod b + b := W_of (by
            unfold Cell at *
            by_cases g3 : a < 0
            · have := f3 g3
              have : ¬ b < 0 := fun h => g2 (by simp [g3, h])
              omega
            · have := f2 (by omega)
              have : b < 0 := Classical.byContradiction fun h => g2 (by simp [g3, h])
              omega)
          have c2 : W (a.tdiv b - 1) = a.tdiv b - 1 := by
            refine W_of ?_
            have := Int.natAbs_tdiv a b
            have hb2 : b ≠ 1 := fun h => g (by rw [h, Int.tmod_one])
            have hb3 : b ≠ -1 := fun h => g (by rw [h, Int.tmod_neg, Int.tmod_one])
            have h6 : a.natAbs / b.natAbs ≤ a.natAbs / 2 := Nat.div_le_div_left (by omega) (by omega)
            unfold Cell at *
            have h7 : (a.tdiv b).natAbs = a.natAbs / b.natAbs := this
            omega
          rw [c1, c2]
        · rw [decide_eq_false (fun h => g2 (hx.1 h)), if_neg (fun h => g2 h.2), if_neg (fun h => g2 h.2)]; rfl

theorem UMod_eq {lo hi u : Int} (h1 : Cell lo) (h2 : Cell hi) (hu : Cell u) :
    dbl_UMod lo hi u = some (if u = 0 then (0, 0, -10) else if hi % 18446744073709551616 < u % 18446744073709551616 then (W (D lo hi % (u % 18446744073709551616)), W (D lo hi / (u % 18446744073709551616)), 0) else (0, 0, -11)) := by
  unfold dbl_UMod dbl_UMod_t cell_Ult
  simp only [wu]
  by_cases h0 : u = 0
  · subst h0; rfl
  · rw [beq_eq_false_iff_ne.2 h0, if_neg h0]
    simp only [cond_false]
    by_cases h : hi % 18446744073709551616 < u % 18446744073709551616
    · rw [decide_eq_true h, if_pos h, long_eq (by unfold Cell at hu; omega)]; rfl
    · rw [decide_eq_false h, if_neg h]; rfl

/-- A quotient without signs that is told is below 2^64. -/
theorem UMod_q {lo hi B : Int} (hB : 0 < B) (h : hi % 18446744073709551616 < B) : 0 ≤ D lo hi / B ∧ D lo hi / B < 18446744073709551616 := by
  have hD := (D_range lo hi).1
  refine ⟨Int.ediv_nonneg hD (by omega), Int.ediv_lt_of_lt_mul hB ?_⟩
  unfold D; omega

theorem fits_at {v : Int} (h : Cell v) : (if Cell v then (0 : Int) else 1) = 0 := if_pos h

end Go.Proofs.Dbl
