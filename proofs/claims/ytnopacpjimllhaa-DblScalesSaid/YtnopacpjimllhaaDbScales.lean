/- DblScales: for every input the law answers true and leaves its arguments as they were. -/
import Derived.Test.YtnopacpjimllhaaDbXS
import Derived.Test.YtnopacpjimllhaaDbPe
import Derived.Test.YtnopacpjimllhaaRows
import Derived.Test.YtnopacpjimllhaaTxS
namespace Go.Proofs.Ytnopacpjimllhaa
open Go Go.TX Go.Proofs Go.Proofs.Dbl
set_option maxRecDepth 100000
set_option maxHeartbeats 0
set_option linter.unusedVariables false

theorem Scale_eq {a b c : Int} (ha : Cell a) (hb : Cell b) (hc : Cell c) : dbl_Scale a b c = some (if c = 0 then (0, 0, -10) else if Cell ((a * b).fdiv c) then ((a * b).fmod c, (a * b).fdiv c, 0) else (0, 0, -11)) := by
  unfold dbl_Scale dbl_Scale_t
  rw [Mul_eq ha hb]
  simp only [outOf_some]
  rw [Floor_eq (show Cell (Pd _).fst from W_cell _) (show Cell (Pd _).snd from W_cell _) hc, S_of (mul_range ha hb)]
  rfl

theorem scales_M1 (x y f p s k : Int) : lawScales_M1 x y f x y f s p k p s k = some (.inr ()) := by
  unfold lawScales_M1 lawScales_M1_t
  simp

theorem fdiv_cell_iff {a c : Int} (ha : Cell a) (hc : Cell c) (h0 : c ≠ 0) : Cell (a.fdiv c) ↔ ¬ (c = -1 ∧ a = -9223372036854775808) := by
  constructor
  · rintro h ⟨rfl, rfl⟩
    unfold Cell at h
    rw [show Int.fdiv (-9223372036854775808) (-1) = 9223372036854775808 from by decide] at h
    omega
  · intro h
    have hq := tdiv_cell ha hc h
    obtain ⟨e1, e2⟩ := fdiv_of_tdiv (S := a) (n := c) (hi := a) h0 Iff.rfl
    rw [e1]
    split
    · rename_i g
      obtain ⟨g, g2⟩ := g
      have := Int.natAbs_tdiv a c
      have hb2 : c ≠ 1 := fun h => g (by rw [h, Int.tmod_one])
      have hb3 : c ≠ -1 := fun h => g (by rw [h, Int.tmod_neg, Int.tmod_one])
      have h6 : a.natAbs / c.natAbs ≤ a.natAbs / 2 := Nat.div_le_div_left (by omega) (by omega)
      have h7 : (a.tdiv c).natAbs = a.natAbs / c.natAbs := this
      unfold Cell at *
      omega
    · exact hq

theorem scales_val {a b c : Int} (ha : Cell a) (hb : Cell b) (hc : Cell c) : lawScales a b c = some true := by
  have h1 : Cell 1 := by unfold Cell; omega
  unfold lawScales lawScales_t
  simp only [Scale_eq ha hb hb, Scale_eq ha hb hc, Scale_eq ha h1 hc, Mul_eq ha hb, outOf_some, Int.mul_one]
  rw [Floor_eq (show Cell (Pd (a * b)).fst from W_cell _) (show Cell (Pd (a * b)).snd from W_cell _) hc, S_of (mul_range ha hb), cFloor_eq ha hc]
  simp only [outOf_some]
  generalize (if c = 0 then ((0 : Int), (0 : Int), (-10 : Int)) else if Cell ((a * b).fdiv c) then ((a * b).fmod c, (a * b).fdiv c, 0) else (0, 0, -11)) = t
  have e : ∀ (u v : Int × Int × Int), u = (v.2.1, v.1, v.2.2) → lawScales_M1 t.fst t.snd.fst t.snd.snd t.fst t.snd.fst t.snd.snd u.fst u.snd.fst u.snd.snd v.fst v.snd.fst v.snd.snd = some (.inr ()) := by
    rintro u v rfl
    exact scales_M1 _ _ _ _ _ _
  rw [e _ _ (by
    by_cases h0 : c = 0
    · rw [if_pos h0, if_pos h0]
    · rw [if_neg h0, if_neg h0]
      by_cases g : c = -1 ∧ a = -9223372036854775808
      · rw [if_pos g, if_neg (fun h => (fdiv_cell_iff ha hc h0).1 h g)]
      · rw [if_neg g, if_pos ((fdiv_cell_iff ha hc h0).2 g)])]
  simp only [outOf_some, sumOf_inr]
  by_cases h0 : b = 0
  · subst h0; simp
  · rw [beq_eq_false_iff_ne.2 h0, if_neg h0, Int.mul_fdiv_cancel a h0, if_pos ha, show (b != 0) = true from by simp [h0]]
    have : (a * b).fmod b = 0 := Int.mul_fmod_left a b
    rw [this]
    simp

theorem dblScales_plain : ∀ d : DenL [.int .i64, .int .i64, .int .i64], FitsL reachBytes [.int .i64, .int .i64, .int .i64] d →
    lawScales_sp (AV × Heap) (argsAV Try.prog Try.f12.params.toList [.int .i64, .int .i64, .int .i64] d) [] (fun v H => some (v, H)) = some (.lit (.bool true), []) := by
  rintro ⟨a, b, c, _⟩ ⟨ha, hb, hc, _⟩
  show outOf (lawScales a b c) (fun v => some (AV.lit (.bool v), [])) = _
  rw [scales_val ha hb hc]
  rfl

theorem dblScales_run : ∀ d : DenL [.int .i64, .int .i64, .int .i64], FitsL reachBytes [.int .i64, .int .i64, .int .i64] d →
    ∃ sp, TX.Good Try.prog 12 sp ∧ ∃ H', sp (AV × Heap) (argsAV Try.prog Try.f12.params.toList [.int .i64, .int .i64, .int .i64] d) [] (fun v H => some (v, H)) = some (.lit (.bool true), H') := by
  intro d hd
  exact ⟨lawScales_sp, lawScales_good, [], dblScales_plain d hd⟩

theorem dblScales_lifted (os : Os) (started : os.Started) (H : Type) (enc : TypeId × Value → H) :
    ReturnsInHanded {} Try.checked os 12 .any (Rows.dblScalesSpec.pre6 enc Try.prog Try.f12 [] false) (Rows.dblScalesSpec.post enc Try.prog Try.f12 false true false false) :=
  law_lifted (C := Try.checked) (fn := Try.f12) (code := bodyOf Try.f12) (tb := 4) (B := reachBytes) (by kernel_rfl) started (by kernel_rfl) Try.func12 (body_of rfl) (by kernel_rfl)
    (ChangeSpec.witness6 (enc := enc) (C := Try.checked) false ⟨#[], #[.int .i64 0, .int .i64 0, .int .i64 0], []⟩ 8 (by kernel_rfl) (by kernel_rfl) (by kernel_rfl) (by kernel_rfl))
    (by kernel_rfl) (by kernel_rfl) (by kernel_rfl) (shs := [.int .i64, .int .i64, .int .i64]) (by kernel_rfl) (by kernel_rfl) (by kernel_rfl) rfl
    (fun ds hd => match ds, hd with | [_, _, _], _ => rfl) (meas_said Try.prog H) dblScales_run

theorem dblScales_holds : Rows.DblScalesSaid :=
  OpenClaim.holds_of_wide 12 Try.f12 rfl rfl rfl rfl rfl rfl rfl ⟨rfl, rfl, rfl, rfl, rfl⟩ rfl rfl rfl rfl rfl (by kernel_rfl) Try.func12 (by kernel_rfl)
    (of_decide_eq_true (by kernel_rfl)) (by unfold Func.isWrapper; rw [if_neg (by decide +kernel)]; exact ⟨rfl, rfl⟩)
    (fun os started H enc _ => dblScales_lifted os started H enc)

#print axioms dblScales_holds
end Go.Proofs.Ytnopacpjimllhaa
