/- HistApart: for every input the law answers true and leaves its arguments as they were. -/
import Derived.Test.YtnopacpjimllhaaHiXB
import Derived.Test.YtnopacpjimllhaaHiPd
import Derived.Test.YtnopacpjimllhaaRows
import Derived.Test.YtnopacpjimllhaaTxS
namespace Go.Proofs.Ytnopacpjimllhaa
open Go Go.TX Go.Proofs Go.Proofs.Dbl
set_option maxRecDepth 100000
set_option maxHeartbeats 0
set_option linter.unusedVariables false
set_option linter.unusedSimpArgs false

theorem histApart_plain : ∀ d : DenL [.sl (.pair (.int .i64) (.pair (.int .i64) (.pair (.int .i64) (.int .i64)))), .int .i64, .sl (.pair (.int .i64) (.pair (.int .i64) (.pair (.int .i64) (.int .i64)))), .int .i64], FitsL reachBytes [.sl (.pair (.int .i64) (.pair (.int .i64) (.pair (.int .i64) (.int .i64)))), .int .i64, .sl (.pair (.int .i64) (.pair (.int .i64) (.pair (.int .i64) (.int .i64)))), .int .i64] d →
    lawApart_sp (AV × Heap) (argsAV Try.prog Try.f6.params.toList [.sl (.pair (.int .i64) (.pair (.int .i64) (.pair (.int .i64) (.int .i64)))), .int .i64, .sl (.pair (.int .i64) (.pair (.int .i64) (.pair (.int .i64) (.int .i64)))), .int .i64] d) [] (fun v H => some (v, H)) = some (.lit (.bool true), []) := by
  rintro ⟨h, a, o, t, _⟩ _
  show outOf (lawApart h a o t) (fun v => some (AV.lit (.bool v), [])) = _
  rw [apart_val]
  rfl

theorem histApart_run : ∀ d : DenL [.sl (.pair (.int .i64) (.pair (.int .i64) (.pair (.int .i64) (.int .i64)))), .int .i64, .sl (.pair (.int .i64) (.pair (.int .i64) (.pair (.int .i64) (.int .i64)))), .int .i64], FitsL reachBytes [.sl (.pair (.int .i64) (.pair (.int .i64) (.pair (.int .i64) (.int .i64)))), .int .i64, .sl (.pair (.int .i64) (.pair (.int .i64) (.pair (.int .i64) (.int .i64)))), .int .i64] d →
    ∃ sp, TX.Good Try.prog 6 sp ∧ ∃ H', sp (AV × Heap) (argsAV Try.prog Try.f6.params.toList [.sl (.pair (.int .i64) (.pair (.int .i64) (.pair (.int .i64) (.int .i64)))), .int .i64, .sl (.pair (.int .i64) (.pair (.int .i64) (.pair (.int .i64) (.int .i64)))), .int .i64] d) [] (fun v H => some (v, H)) = some (.lit (.bool true), H') := by
  intro d hd
  exact ⟨lawApart_sp, lawApart_good, [], histApart_plain d hd⟩

theorem histApart_lifted (os : Os) (started : os.Started) (H : Type) (enc : TypeId × Value → H) :
    ReturnsInHanded {} Try.checked os 6 .any (Rows.histApartSpec.pre6 enc Try.prog Try.f6 [] false) (Rows.histApartSpec.post enc Try.prog Try.f6 false true false false) :=
  law_lifted (C := Try.checked) (fn := Try.f6) (code := bodyOf Try.f6) (tb := 4) (B := reachBytes) (by kernel_rfl) started (by kernel_rfl) Try.func6 (body_of rfl) (by kernel_rfl)
    (ChangeSpec.witness6 (enc := enc) (C := Try.checked) false ⟨#[], #[.slice none 0 0, .int .i64 0, .slice none 0 0, .int .i64 0], []⟩ 8 (by kernel_rfl) (by kernel_rfl) (by kernel_rfl) (by kernel_rfl))
    (by kernel_rfl) (by kernel_rfl) (by kernel_rfl) (shs := [.sl (.pair (.int .i64) (.pair (.int .i64) (.pair (.int .i64) (.int .i64)))), .int .i64, .sl (.pair (.int .i64) (.pair (.int .i64) (.pair (.int .i64) (.int .i64)))), .int .i64]) (by kernel_rfl) (by kernel_rfl) (by kernel_rfl) rfl
    (fun ds hd => match ds, hd with | [_, _, _, _], _ => rfl) (meas_said Try.prog H) histApart_run

theorem histApart_holds : Rows.HistApartSaid :=
  OpenClaim.holds_of_wide 6 Try.f6 rfl rfl rfl rfl rfl rfl rfl ⟨rfl, rfl, rfl, rfl, rfl⟩ rfl rfl rfl rfl rfl (by kernel_rfl) Try.func6 (by kernel_rfl)
    (of_decide_eq_true (by kernel_rfl)) (by unfold Func.isWrapper; rw [if_neg (by decide +kernel)]; exact ⟨rfl, rfl⟩)
    (fun os started H enc _ => histApart_lifted os started H enc)

#print axioms histApart_holds
end Go.Proofs.Ytnopacpjimllhaa
