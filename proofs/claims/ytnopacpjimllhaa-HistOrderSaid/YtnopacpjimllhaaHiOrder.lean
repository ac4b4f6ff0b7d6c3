/- HistOrder: for every input the law answers true and leaves its arguments as they were. -/
import Derived.Test.YtnopacpjimllhaaHiXB
import Derived.Test.YtnopacpjimllhaaHiPc
import Derived.Test.YtnopacpjimllhaaRows
import Derived.Test.YtnopacpjimllhaaTxS
namespace Go.Proofs.Ytnopacpjimllhaa
open Go Go.TX Go.Proofs Go.Proofs.Dbl
set_option maxRecDepth 100000
set_option maxHeartbeats 0
set_option linter.unusedVariables false
set_option linter.unusedSimpArgs false

theorem histOrder_plain : ∀ d : DenL [.sl (.pair (.int .i64) (.pair (.int .i64) (.pair (.int .i64) (.int .i64)))), .int .i64], FitsL reachBytes [.sl (.pair (.int .i64) (.pair (.int .i64) (.pair (.int .i64) (.int .i64)))), .int .i64] d →
    lawOrder_sp (AV × Heap) (argsAV Try.prog Try.f3.params.toList [.sl (.pair (.int .i64) (.pair (.int .i64) (.pair (.int .i64) (.int .i64)))), .int .i64] d) [] (fun v H => some (v, H)) = some (.lit (.bool true), []) := by
  rintro ⟨h, a, _⟩ _
  show outOf (lawOrder h a) (fun v => some (AV.lit (.bool v), [])) = _
  rw [order_val]
  rfl

theorem histOrder_run : ∀ d : DenL [.sl (.pair (.int .i64) (.pair (.int .i64) (.pair (.int .i64) (.int .i64)))), .int .i64], FitsL reachBytes [.sl (.pair (.int .i64) (.pair (.int .i64) (.pair (.int .i64) (.int .i64)))), .int .i64] d →
    ∃ sp, TX.Good Try.prog 3 sp ∧ ∃ H', sp (AV × Heap) (argsAV Try.prog Try.f3.params.toList [.sl (.pair (.int .i64) (.pair (.int .i64) (.pair (.int .i64) (.int .i64)))), .int .i64] d) [] (fun v H => some (v, H)) = some (.lit (.bool true), H') := by
  intro d hd
  exact ⟨lawOrder_sp, lawOrder_good, [], histOrder_plain d hd⟩

theorem histOrder_lifted (os : Os) (started : os.Started) (H : Type) (enc : TypeId × Value → H) :
    ReturnsInHanded {} Try.checked os 3 .any (Rows.histOrderSpec.pre6 enc Try.prog Try.f3 [] false) (Rows.histOrderSpec.post enc Try.prog Try.f3 false true false false) :=
  law_lifted (C := Try.checked) (fn := Try.f3) (code := bodyOf Try.f3) (tb := 4) (B := reachBytes) (by kernel_rfl) started (by kernel_rfl) Try.func3 (body_of rfl) (by kernel_rfl)
    (ChangeSpec.witness6 (enc := enc) (C := Try.checked) false ⟨#[], #[.slice none 0 0, .int .i64 0], []⟩ 8 (by kernel_rfl) (by kernel_rfl) (by kernel_rfl) (by kernel_rfl))
    (by kernel_rfl) (by kernel_rfl) (by kernel_rfl) (shs := [.sl (.pair (.int .i64) (.pair (.int .i64) (.pair (.int .i64) (.int .i64)))), .int .i64]) (by kernel_rfl) (by kernel_rfl) (by kernel_rfl) rfl
    (fun ds hd => match ds, hd with | [_, _], _ => rfl) (meas_said Try.prog H) histOrder_run

theorem histOrder_holds : Rows.HistOrderSaid :=
  OpenClaim.holds_of_wide 3 Try.f3 rfl rfl rfl rfl rfl rfl rfl ⟨rfl, rfl, rfl, rfl, rfl⟩ rfl rfl rfl rfl rfl (by kernel_rfl) Try.func3 (by kernel_rfl)
    (of_decide_eq_true (by kernel_rfl)) (by unfold Func.isWrapper; rw [if_neg (by decide +kernel)]; exact ⟨rfl, rfl⟩)
    (fun os started H enc _ => histOrder_lifted os started H enc)

#print axioms histOrder_holds
end Go.Proofs.Ytnopacpjimllhaa
