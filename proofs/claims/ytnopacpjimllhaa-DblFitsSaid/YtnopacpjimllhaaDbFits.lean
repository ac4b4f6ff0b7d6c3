/- DblFits: for every input the law answers true and leaves its arguments as they were. -/
import Derived.Test.YtnopacpjimllhaaDbXF
import Derived.Test.YtnopacpjimllhaaDbPe
import Derived.Test.YtnopacpjimllhaaRows
import Derived.Test.YtnopacpjimllhaaTxS
namespace Go.Proofs.Ytnopacpjimllhaa
open Go Go.TX Go.Proofs Go.Proofs.Dbl
set_option maxRecDepth 100000
set_option maxHeartbeats 0
set_option linter.unusedVariables false

theorem fits_M1 (a b c : Int) : lawFits_M1 a b c b a c = some (.inr ()) := by
  unfold lawFits_M1 lawFits_M1_t
  simp

theorem S_Of {a : Int} (ha : Cell a) : S (Pd a).1 (Pd a).2 = a := S_of (by unfold Cell at ha; omega)

theorem tdiv_cell_iff {a c : Int} (ha : Cell a) (hc : Cell c) (h0 : c ≠ 0) : Cell (a.tdiv c) ↔ ¬ (c = -1 ∧ a = -9223372036854775808) := by
  constructor
  · rintro h ⟨rfl, rfl⟩
    unfold Cell at h
    rw [show Int.tdiv (-9223372036854775808) (-1) = 9223372036854775808 from by decide] at h
    omega
  · exact tdiv_cell ha hc

theorem fits_val {d0 d1 n a : Int} (h0 : Cell d0) (h1 : Cell d1) (hn : Cell n) (ha : Cell a) : lawFits d0 d1 n a = some true := by
  unfold lawFits lawFits_t
  simp only [Of_eq ha, Symm_eq h0 h1 hn, Floor_eq h0 h1 hn, cSymm_eq ha hn, Symm_eq (show Cell (Pd a).fst from W_cell _) (show Cell (Pd a).snd from W_cell _) hn, outOf_some, S_Of ha]
  have e : ∀ (u v : Int × Int × Int), u = (v.2.1, v.1, v.2.2) → lawFits_M1 u.fst u.snd.fst u.snd.snd v.fst v.snd.fst v.snd.snd = some (.inr ()) := by
    rintro u v rfl
    exact fits_M1 _ _ _
  rw [e _ _ (by
    by_cases g0 : n = 0
    · rw [if_pos g0, if_pos g0]
    · rw [if_neg g0, if_neg g0]
      by_cases g : n = -1 ∧ a = -9223372036854775808
      · rw [if_pos g, if_neg (fun h => (tdiv_cell_iff ha hn g0).1 h g)]
      · rw [if_neg g, if_pos ((tdiv_cell_iff ha hn g0).2 g)])]
  simp only [outOf_some, sumOf_inr]
  have m2 : ∀ x y, lawFits_M2 x y = some (x == 0 && y == 0) := fun x y => by
    unfold lawFits_M2 lawFits_M2_t
    by_cases hx : x = 0
    · simp [hx]
    · simp [beq_eq_false_iff_ne.2 hx]
  have m3 : ∀ p e q f, lawFits_M3 true p e q f = some (if e = 0 ∧ f = 0 then .inl (p == q || p == W (q + 1)) else .inr ()) := fun p e q f => by
    unfold lawFits_M3 lawFits_M3_t
    rw [m2, wi]
    by_cases h1 : e = 0
    · by_cases h2 : f = 0
      · by_cases h3 : p = q
        · simp [h1, h2, h3]
        · simp [h1, h2, beq_eq_false_iff_ne.2 h3]
      · simp [h1, h2, beq_eq_false_iff_ne.2 h2]
    · simp [h1, beq_eq_false_iff_ne.2 h1]
  rw [m3]
  by_cases g0 : n = 0
  · rw [if_pos g0, if_pos g0]; rfl
  · rw [if_neg g0, if_neg g0]
    have hs : S d0 d1 < 0 ↔ d1 < 0 := by unfold Cell at h0 h1; unfold S; omega
    obtain ⟨e1, e2⟩ := fdiv_of_tdiv (S := S d0 d1) (n := n) (hi := d1) g0 hs
    rw [e1]
    have hneg : (d1 < 0) ≠ (n < 0) → (S d0 d1).tdiv n ≤ 0 := fun g => by
      by_cases g1 : d1 < 0
      · have g2 : ¬ n < 0 := fun h => g (by simp [g1, h])
        have g3 := Int.tdiv_nonneg (a := -S d0 d1) (b := n) (by have := hs.2 g1; omega) (by omega)
        rw [Int.neg_tdiv] at g3; omega
      · have g2 : n < 0 := Classical.byContradiction fun h => g (by simp [g1, h])
        have g4 : ¬ S d0 d1 < 0 := fun h => g1 (hs.1 h)
        have g3 := Int.tdiv_nonneg (a := S d0 d1) (b := -n) (by omega) (by omega)
        rw [Int.tdiv_neg] at g3; omega
    generalize (S d0 d1).tdiv n = p at *
    by_cases g : (S d0 d1).tmod n ≠ 0 ∧ ((d1 < 0) ≠ (n < 0))
    · rw [if_pos g]
      by_cases c1 : Cell p
      · by_cases c2 : Cell (p - 1)
        · rw [if_pos c1, if_pos c2]
          simp
          exact .inr (W_of c1).symm
        · rw [if_pos c1, if_neg c2]
          have : p = -9223372036854775808 := by unfold Cell at *; omega
          subst this
          rfl
      · have c2 : p - 1 = 9223372036854775807 ∨ ¬ Cell (p - 1) := by unfold Cell at *; omega
        rcases c2 with c2 | c2
        · exfalso
          have := hneg g.2
          omega
        · rw [if_neg c1, if_neg c2]; rfl
    · rw [if_neg g]
      by_cases c1 : Cell p
      · rw [if_pos c1, if_pos c1]
        simp
      · rw [if_neg c1, if_neg c1]; rfl

theorem dblFits_plain : ∀ d : DenL [.pair (.int .i64) (.int .i64), .int .i64, .int .i64], FitsL reachBytes [.pair (.int .i64) (.int .i64), .int .i64, .int .i64] d →
    lawFits_sp (AV × Heap) (argsAV Try.prog Try.f9.params.toList [.pair (.int .i64) (.int .i64), .int .i64, .int .i64] d) [] (fun v H => some (v, H)) = some (.lit (.bool true), []) := by
  rintro ⟨⟨d0, d1⟩, n, a, _⟩ ⟨⟨h0, h1⟩, hn, ha, _⟩
  show outOf (lawFits d0 d1 n a) (fun v => some (AV.lit (.bool v), [])) = _
  rw [fits_val h0 h1 hn ha]
  rfl

theorem dblFits_run : ∀ d : DenL [.pair (.int .i64) (.int .i64), .int .i64, .int .i64], FitsL reachBytes [.pair (.int .i64) (.int .i64), .int .i64, .int .i64] d →
    ∃ sp, TX.Good Try.prog 9 sp ∧ ∃ H', sp (AV × Heap) (argsAV Try.prog Try.f9.params.toList [.pair (.int .i64) (.int .i64), .int .i64, .int .i64] d) [] (fun v H => some (v, H)) = some (.lit (.bool true), H') := by
  intro d hd
  exact ⟨lawFits_sp, lawFits_good, [], dblFits_plain d hd⟩

theorem dblFits_lifted (os : Os) (started : os.Started) (H : Type) (enc : TypeId × Value → H) :
    ReturnsInHanded {} Try.checked os 9 .any (Rows.dblFitsSpec.pre6 enc Try.prog Try.f9 [] false) (Rows.dblFitsSpec.post enc Try.prog Try.f9 false true false false) :=
  law_lifted (C := Try.checked) (fn := Try.f9) (code := bodyOf Try.f9) (tb := 4) (B := reachBytes) (by kernel_rfl) started (by kernel_rfl) Try.func9 (body_of rfl) (by kernel_rfl)
    (ChangeSpec.witness6 (enc := enc) (C := Try.checked) false ⟨#[], #[.agg #[.int .i64 0, .int .i64 0], .int .i64 0, .int .i64 0], []⟩ 8 (by kernel_rfl) (by kernel_rfl) (by kernel_rfl) (by kernel_rfl))
    (by kernel_rfl) (by kernel_rfl) (by kernel_rfl) (shs := [.pair (.int .i64) (.int .i64), .int .i64, .int .i64]) (by kernel_rfl) (by kernel_rfl) (by kernel_rfl) rfl
    (fun ds hd => match ds, hd with | [_, _, _], _ => rfl) (meas_said Try.prog H) dblFits_run

theorem dblFits_holds : Rows.DblFitsSaid :=
  OpenClaim.holds_of_wide 9 Try.f9 rfl rfl rfl rfl rfl rfl rfl ⟨rfl, rfl, rfl, rfl, rfl⟩ rfl rfl rfl rfl rfl (by kernel_rfl) Try.func9 (by kernel_rfl)
    (of_decide_eq_true (by kernel_rfl)) (by unfold Func.isWrapper; rw [if_neg (by decide +kernel)]; exact ⟨rfl, rfl⟩)
    (fun os started H enc _ => dblFits_lifted os started H enc)

#print axioms dblFits_holds
end Go.Proofs.Ytnopacpjimllhaa
