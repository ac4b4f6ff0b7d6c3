/- DblDivides: for every input the law answers true and leaves its arguments as they were. -/
import Derived.Test.YtnopacpjimllhaaDbXV
import Derived.Test.YtnopacpjimllhaaDbPu
import Derived.Test.YtnopacpjimllhaaRows
import Derived.Test.YtnopacpjimllhaaTxS
namespace Go.Proofs.Ytnopacpjimllhaa
open Go Go.TX Go.Proofs Go.Proofs.Dbl
set_option maxRecDepth 100000
set_option maxHeartbeats 0
set_option linter.unusedVariables false

theorem divides_M1 (x y f : Int) : lawDivides_M1 x y f x y f = some (.inr ()) := by unfold lawDivides_M1 lawDivides_M1_t; simp
theorem divides_M2 (x y f : Int) : lawDivides_M2 x y f x y f = some (.inr ()) := by unfold lawDivides_M2 lawDivides_M2_t; simp
theorem divides_M3 (x y f : Int) : lawDivides_M3 x y f x y f = some (.inr ()) := by unfold lawDivides_M3 lawDivides_M3_t; simp

theorem divides_val {lo hi n a b : Int} (h1 : Cell lo) (h2 : Cell hi) (hn : Cell n) (ha : Cell a) (hb : Cell b) : lawDivides lo hi n a b = some true := by
  unfold lawDivides lawDivides_t
  rw [awake2_eq, UMod_eq h1 h2 hn, rUMod h1 h2 hn, Symm_eq h1 h2 hn, rSymm h1 h2 hn, Floor_eq h1 h2 hn, rFloor h1 h2 hn, Scale_eq ha hb hn, rScale ha hb hn]
  simp only [outOf_some, divides_M1, divides_M2, divides_M3, sumOf_inr, beq_self_eq_true, cond_true]

theorem dblDivides_plain : ∀ d : DenL [.pair (.int .i64) (.int .i64), .int .i64, .int .i64, .int .i64], FitsL reachBytes [.pair (.int .i64) (.int .i64), .int .i64, .int .i64, .int .i64] d →
    lawDivides_sp (AV × Heap) (argsAV Try.prog Try.f11.params.toList [.pair (.int .i64) (.int .i64), .int .i64, .int .i64, .int .i64] d) [] (fun v H => some (v, H)) = some (.lit (.bool true), []) := by
  rintro ⟨⟨lo, hi⟩, n, a, b, _⟩ ⟨⟨h1, h2⟩, hn, ha, hb, _⟩
  show outOf (lawDivides lo hi n a b) (fun v => some (AV.lit (.bool v), [])) = _
  rw [divides_val h1 h2 hn ha hb]
  rfl

theorem dblDivides_run : ∀ d : DenL [.pair (.int .i64) (.int .i64), .int .i64, .int .i64, .int .i64], FitsL reachBytes [.pair (.int .i64) (.int .i64), .int .i64, .int .i64, .int .i64] d →
    ∃ sp, TX.Good Try.prog 11 sp ∧ ∃ H', sp (AV × Heap) (argsAV Try.prog Try.f11.params.toList [.pair (.int .i64) (.int .i64), .int .i64, .int .i64, .int .i64] d) [] (fun v H => some (v, H)) = some (.lit (.bool true), H') := by
  intro d hd
  exact ⟨lawDivides_sp, lawDivides_good, [], dblDivides_plain d hd⟩

theorem dblDivides_lifted (os : Os) (started : os.Started) (H : Type) (enc : TypeId × Value → H) :
    ReturnsInHanded {} Try.checked os 11 .any (Rows.dblDividesSpec.pre6 enc Try.prog Try.f11 [] false) (Rows.dblDividesSpec.post enc Try.prog Try.f11 false true false false) :=
  law_lifted (C := Try.checked) (fn := Try.f11) (code := bodyOf Try.f11) (tb := 4) (B := reachBytes) (by kernel_rfl) started (by kernel_rfl) Try.func11 (body_of rfl) (by kernel_rfl)
    (ChangeSpec.witness6 (enc := enc) (C := Try.checked) false ⟨#[], #[.agg #[.int .i64 0, .int .i64 0], .int .i64 0, .int .i64 0, .int .i64 0], []⟩ 8 (by kernel_rfl) (by kernel_rfl) (by kernel_rfl) (by kernel_rfl))
    (by kernel_rfl) (by kernel_rfl) (by kernel_rfl) (shs := [.pair (.int .i64) (.int .i64), .int .i64, .int .i64, .int .i64]) (by kernel_rfl) (by kernel_rfl) (by kernel_rfl) rfl
    (fun ds hd => match ds, hd with | [_, _, _, _], _ => rfl) (meas_said Try.prog H) dblDivides_run

theorem dblDivides_holds : Rows.DblDividesSaid :=
  OpenClaim.holds_of_wide 11 Try.f11 rfl rfl rfl rfl rfl rfl rfl ⟨rfl, rfl, rfl, rfl, rfl⟩ rfl rfl rfl rfl rfl (by kernel_rfl) Try.func11 (by kernel_rfl)
    (of_decide_eq_true (by kernel_rfl)) (by unfold Func.isWrapper; rw [if_neg (by decide +kernel)]; exact ⟨rfl, rfl⟩)
    (fun os started H enc _ => dblDivides_lifted os started H enc)

#print axioms dblDivides_holds
end Go.Proofs.Ytnopacpjimllhaa
