/- PureSums: for every input the law answers true and leaves its arguments as they were. -/
import Derived.Test.YtbcijnfednjohaaPuXV
import Derived.Test.YtbcijnfednjohaaPuPi
import Derived.Test.YtbcijnfednjohaaRows
import Derived.Test.YtbcijnfednjohaaTxS
namespace Go.Proofs.Ytbcijnfednjohaa
open Go Go.TX Go.Proofs Go.Proofs.Dbl
set_option maxRecDepth 100000
set_option maxHeartbeats 0
set_option linter.unusedVariables false
set_option linter.unusedSimpArgs false

theorem W_addR (x y : Int) : W (x + W y) = W (x + y) := by unfold W; omega
theorem W_subB (x y : Int) : W (W (x + y) - y) = W x := by unfold W; omega

theorem s_24 (a b : Int) : pure_Do 24 [a, b] = some ([b, a, b], 0) := at2 24 (by decide) (by decide) _ ((dk_24 (r := []) (by simp)).trans (congrArg some (fin_ok (by simp))))
theorem s_33 (r a b : Int) : pure_Do 33 [r, a, b] = some ([r, W (a + b)], 0) := at2 33 (by decide) (by decide) _ ((dk_33 (r := [r]) (by simp)).trans (congrArg some (fin_ok (by simp))))
theorem s_33' (a b : Int) : pure_Do 33 [a, b] = some ([W (a + b)], 0) := at2 33 (by decide) (by decide) _ ((dk_33 (r := []) (by simp)).trans (congrArg some (fin_ok (by simp))))
theorem s_20 (a b : Int) : pure_Do 20 [a, b] = some ([b, a], 0) := at2 20 (by decide) (by decide) _ ((dk_20 (r := []) (by simp)).trans (congrArg some (fin_ok (by simp))))
theorem s_34 (a b : Int) : pure_Do 34 [a, b] = some ([W (a - b)], 0) := at2 34 (by decide) (by decide) _ ((dk_34 (r := []) (by simp)).trans (congrArg some (fin_ok (by simp))))
theorem s_25 (a b : Int) : pure_Do 25 [a, b] = some ([a, b, a, b], 0) := at2 25 (by decide) (by decide) _ ((dk_25 (r := []) (by simp)).trans (congrArg some (fin_ok (by simp))))
theorem s_22 (a b c : Int) : pure_Do 22 [a, b, c] = some ([b, c, a], 0) := at2 22 (by decide) (by decide) _ ((dk_22 (r := []) (by simp)).trans (congrArg some (fin_ok (by simp))))
theorem s_35 (r a b : Int) : pure_Do 35 [r, a, b] = some ([r, W (a * b)], 0) := at2 35 (by decide) (by decide) _ ((dk_35 (r := [r]) (by simp)).trans (congrArg some (fin_ok (by simp))))
theorem s_38 {a b : Int} (ha : Cell a) (hb : Cell b) : pure_Do 38 [a, b] = some (fin [] [a, b] [(F a b).2.1, (F a b).1] (F a b).2.2) := at2 38 (by decide) (by decide) _ (dk_38 (r := []) (by simp) ha hb)
theorem s_38' {r a b : Int} (ha : Cell a) (hb : Cell b) : pure_Do 38 [r, a, b] = some (fin [r] [a, b] [(F a b).2.1, (F a b).1] (F a b).2.2) := at2 38 (by decide) (by decide) _ (dk_38 (r := [r]) (by simp) ha hb)
theorem s_64 {r a b : Int} (ha : Cell a) (hb : Cell b) : pure_Do 64 [r, a, b] = some ([r, (Pd (a * b)).1, (Pd (a * b)).2], 0) := at2 64 (by decide) (by decide) _ ((dk_64 (r := [r]) (by simp) ha hb).trans (congrArg some (fin_ok (by simp))))
theorem s_67 {a b c : Int} (ha : Cell a) (hb : Cell b) (hc : Cell c) : pure_Do 67 [a, b, c] = some (fin [] [a, b, c] [(Sy a b c).1, (Sy a b c).2.1] (Sy a b c).2.2) := at2 67 (by decide) (by decide) _ (dk_67 (r := []) (by simp) ha hb hc)

theorem sums_A1 {a b : Int} (ha : Cell a) : pure_All [24, 33, 20, 34] [a, b] = some ([a], 0) := by
  rw [All_eq _ (by simp), allF_ok (s_24 a b), allF_ok (s_33 b a b), allF_ok (s_20 b (W (a + b))), allF_ok (s_34 (W (a + b)) b), W_subB, W_of ha]; rfl
theorem sums_A2 (a b : Int) : pure_All [25, 12] [a, b] = some ([a, b, a, b], -21) := by
  rw [All_eq _ (by simp), allF_ok (s_25 a b), allF_no (do_12 _) (by decide)]

def Bad (a b : Int) : Prop := b = 0 ∨ (a = -9223372036854775808 ∧ b = -1)

theorem sums_A3 {a b : Int} (ha : Cell a) (hb : Cell b) (h : Bad a b) : ∃ v, pure_All [38] [a, b] = some (v, if b = 0 then -10 else -11) := by
  have hF : F a b = (0, 0, if b = 0 then -10 else -11) := by
    unfold F
    rcases h with h | ⟨h1, h2⟩
    · rw [if_pos h, if_pos h]
    · rw [if_neg (by omega), if_pos ⟨h2, h1⟩, if_neg (by omega)]
  have h0 : (if b = 0 then (-10 : Int) else -11) ≠ 0 := by split <;> decide
  have hs := s_38 ha hb
  rw [hF] at hs
  generalize (if b = 0 then (-10 : Int) else -11) = e at *
  refine ⟨[a, b], ?_⟩
  rw [All_eq _ (by simp)]
  refine allF_no ?_ h0
  rw [hs]
  unfold fin
  rw [if_pos h0]; rfl

theorem F_good {a b : Int} (h : ¬ Bad a b) : F a b = (a.fdiv b, a.fmod b, 0) := by
  unfold F
  rw [if_neg (fun g => h (.inl g)), if_neg (fun g => h (.inr ⟨g.2, g.1⟩))]

theorem sums_A4 {a b : Int} (ha : Cell a) (hb : Cell b) (h : ¬ Bad a b) : pure_All [24, 38, 22, 35, 33] [a, b] = some ([a], 0) := by
  have hs := s_38' (r := b) ha hb
  rw [F_good h, fin_ok (by simp)] at hs
  rw [All_eq _ (by simp), allF_ok (s_24 a b), allF_ok hs]
  show allF [22, 35, 33] [b, a.fmod b, a.fdiv b] = _
  rw [allF_ok (s_22 b (a.fmod b) (a.fdiv b)), allF_ok (s_35 (a.fmod b) (a.fdiv b) b), allF_ok (s_33' (a.fmod b) (W (a.fdiv b * b))), W_addR]
  have e : a.fmod b + a.fdiv b * b = a := by rw [Int.fmod_def, Int.mul_comm]; omega
  rw [e, W_of ha]; rfl

theorem sums_A5 {a b : Int} (ha : Cell a) (hb : Cell b) (h : b ≠ 0) : pure_All [24, 64, 22, 67] [a, b] = some ([0, a], 0) := by
  have hS : Sy (Pd (a * b)).1 (Pd (a * b)).2 b = (0, a, 0) := by
    unfold Sy
    rw [if_neg h, S_of (mul_range ha hb), Int.mul_tdiv_cancel a h, if_pos ha, Int.mul_tmod_left]
  have hs := s_67 (show Cell (Pd (a * b)).1 from W_cell _) (show Cell (Pd (a * b)).2 from W_cell _) hb
  rw [hS, fin_ok (by simp)] at hs
  rw [All_eq _ (by simp), allF_ok (s_24 a b), allF_ok (s_64 ha hb), allF_ok (s_22 b (Pd (a * b)).1 (Pd (a * b)).2), allF_ok hs]; rfl

theorem sums_M1 (a b : Int) : lawSumsP_M1 a [a] 0 [a, b, a, b] (-21) = some (.inr ()) := by
  unfold lawSumsP_M1 lawSumsP_M1_t
  rw [Same_refl _ (by simp)]; rfl

theorem sums_M2 (a b : Int) [Decidable (Bad a b)] : lawSumsP_M2 a b = some (decide (Bad a b)) := by
  unfold lawSumsP_M2 lawSumsP_M2_t
  by_cases h1 : b = 0
  · rw [show decide (Bad a b) = true from decide_eq_true (.inl h1)]; simp [h1]
  · by_cases h2 : a = -9223372036854775808
    · by_cases h3 : b = -1
      · rw [show decide (Bad a b) = true from decide_eq_true (.inr ⟨h2, h3⟩)]; simp [h2, h3]
      · rw [show decide (Bad a b) = false from decide_eq_false (fun h => by rcases h with h | h; exact h1 h; exact h3 h.2)]
        simp [beq_eq_false_iff_ne.2 h1, h2, beq_eq_false_iff_ne.2 h3]
    · rw [show decide (Bad a b) = false from decide_eq_false (fun h => by rcases h with h | h; exact h1 h; exact h2 h.1)]
      simp [beq_eq_false_iff_ne.2 h1, beq_eq_false_iff_ne.2 h2]

instance (a b : Int) : Decidable (Bad a b) := by unfold Bad; infer_instance

theorem sums_val {a b : Int} (ha : Cell a) (hb : Cell b) : lawSumsP a b = some true := by
  unfold lawSumsP lawSumsP_t
  rw [awake_eq, sums_A1 ha, sums_A2]
  simp only [outOf_some]
  rw [sums_M1]
  simp only [outOf_some, sumOf_inr]
  unfold lawSumsP_M3 lawSumsP_M3_t
  rw [sums_M2]
  simp only [outOf_some]
  by_cases h : Bad a b
  · obtain ⟨v, hv⟩ := sums_A3 ha hb h
    rw [decide_eq_true h, hv]
    simp only [cond_true, outOf_some]
    by_cases h0 : b = 0
    · rw [if_pos h0]; rfl
    · rw [if_neg h0, show (b != 0) = true from by simpa using h0]; rfl
  · have h0 : b ≠ 0 := fun g => h (.inl g)
    rw [decide_eq_false h, sums_A4 ha hb h, sums_A5 ha hb h0]
    simp only [cond_false, outOf_some, sumOf_inr, cond_true, beq_self_eq_true]
    rw [Same_refl _ (by simp), Same_refl _ (by simp)]
    rfl

theorem pureSums_plain : ∀ d : DenL [.int .i64, .int .i64], FitsL reachBytes [.int .i64, .int .i64] d →
    lawSumsP_sp (AV × Heap) (argsAV Try.prog Try.f6.params.toList [.int .i64, .int .i64] d) [] (fun v H => some (v, H)) = some (.lit (.bool true), []) := by
  rintro ⟨a, b, _⟩ ⟨ha, hb, _⟩
  show outOf (lawSumsP a b) (fun v => some (AV.lit (.bool v), [])) = _
  rw [sums_val ha hb]
  rfl

theorem pureSums_run : ∀ d : DenL [.int .i64, .int .i64], FitsL reachBytes [.int .i64, .int .i64] d →
    ∃ sp, TX.Good Try.prog 6 sp ∧ ∃ H', sp (AV × Heap) (argsAV Try.prog Try.f6.params.toList [.int .i64, .int .i64] d) [] (fun v H => some (v, H)) = some (.lit (.bool true), H') := by
  intro d hd
  exact ⟨lawSumsP_sp, lawSumsP_good, [], pureSums_plain d hd⟩

theorem pureSums_lifted (os : Os) (started : os.Started) (H : Type) (enc : TypeId × Value → H) :
    ReturnsInHanded {} Try.checked os 6 .any (Rows.pureSumsSpec.pre6 enc Try.prog Try.f6 [] false) (Rows.pureSumsSpec.post enc Try.prog Try.f6 false true false false) :=
  law_lifted (C := Try.checked) (fn := Try.f6) (code := bodyOf Try.f6) (tb := 4) (B := reachBytes) (by kernel_rfl) started (by kernel_rfl) Try.func6 (body_of rfl) (by kernel_rfl)
    (ChangeSpec.witness6 (enc := enc) (C := Try.checked) false ⟨#[], #[.int .i64 0, .int .i64 0], []⟩ 8 (by kernel_rfl) (by kernel_rfl) (by kernel_rfl) (by kernel_rfl))
    (by kernel_rfl) (by kernel_rfl) (by kernel_rfl) (shs := [.int .i64, .int .i64]) (by kernel_rfl) (by kernel_rfl) (by kernel_rfl) rfl
    (fun ds hd => match ds, hd with | [_, _], _ => rfl) (meas_said Try.prog H) pureSums_run

theorem pureSums_holds : Rows.PureSumsSaid :=
  OpenClaim.holds_of_wide 6 Try.f6 rfl rfl rfl rfl rfl rfl rfl ⟨rfl, rfl, rfl, rfl, rfl⟩ rfl rfl rfl rfl rfl (by kernel_rfl) Try.func6 (by kernel_rfl)
    (of_decide_eq_true (by kernel_rfl)) (by unfold Func.isWrapper; rw [if_neg (by decide +kernel)]; exact ⟨rfl, rfl⟩)
    (fun os started H enc _ => pureSums_lifted os started H enc)

#print axioms pureSums_holds
end Go.Proofs.Ytbcijnfednjohaa
