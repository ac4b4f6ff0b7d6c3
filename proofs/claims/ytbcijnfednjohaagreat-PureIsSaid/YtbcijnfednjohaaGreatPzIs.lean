/- PureIs: for every input the law answers true and leaves its arguments as they were. -/
import Derived.Test.YtbcijnfednjohaaGreatPzXS
import Derived.Test.YtbcijnfednjohaaGreatPzR
import Derived.Test.YtbcijnfednjohaaGreatRows
import Derived.Test.YtbcijnfednjohaaGreatTxS
namespace Go.Proofs.YtbcijnfednjohaaGreat
open Go Go.TX Go.Proofs Go.Proofs.Dbl
set_option maxRecDepth 100000
set_option maxHeartbeats 0
set_option linter.unusedVariables false
set_option linter.unusedSimpArgs false
theorem is_val {o : Int} {l d : List Int} (hd : ∀ x ∈ d, Cell x) : lawPureIs o l d = some true := by
  unfold lawPureIs lawPureIs_t
  rw [awake_eq]
  simp only [outOf_some]
  unfold lawPureIs_M1 lawPureIs_M1_t
  by_cases h1 : (l.length : Int) > 40
  · rw [ct h1]; rfl
  · rw [cf h1]
    by_cases h2 : (d.length : Int) > 100
    · rw [ct h2]; rfl
    · rw [cf h2]
      simp only [outOf_some, sumOf_inr]
      have hc := AllC_of hd
      obtain ⟨d1, e1, a1, _, a3⟩ := Do_cells (o := o) hc (by omega)
      obtain ⟨d2, e2, b1, _, b3⟩ := allF_cells l d hc (by omega)
      rw [rDo_eq hc (by omega), rAll_eq (by omega) hc (by omega), All_eq d (by omega), a1, b1]
      simp only [outOf_some, cond_true, beq_self_eq_true]
      rw [Same_refl d1 (by omega), Same_refl d2 (by omega)]
      rfl
theorem pureIs_plain : ∀ d : DenL [.int .i64, .sl (.int .i64), .sl (.int .i64)], FitsL reachBytes [.int .i64, .sl (.int .i64), .sl (.int .i64)] d →
    lawPureIs_sp (AV × Heap) (argsAV Tryz.prog Tryz.f3.params.toList [.int .i64, .sl (.int .i64), .sl (.int .i64)] d) [] (fun v H => some (v, H)) = some (.lit (.bool true), []) := by
  rintro ⟨o, l, d, _⟩ ⟨_, _, ⟨hB, hd⟩, _⟩
  show outOf (lawPureIs o l d) (fun v => some (AV.lit (.bool v), [])) = _
  rw [is_val (fun x hx => hd x hx)]
  rfl
theorem pureIs_run : ∀ d : DenL [.int .i64, .sl (.int .i64), .sl (.int .i64)], FitsL reachBytes [.int .i64, .sl (.int .i64), .sl (.int .i64)] d →
    ∃ sp, TX.Good Tryz.prog 3 sp ∧ ∃ H', sp (AV × Heap) (argsAV Tryz.prog Tryz.f3.params.toList [.int .i64, .sl (.int .i64), .sl (.int .i64)] d) [] (fun v H => some (v, H)) = some (.lit (.bool true), H') := by
  intro d hd
  exact ⟨lawPureIs_sp, lawPureIs_good, [], pureIs_plain d hd⟩
theorem pureIs_lifted (os : Os) (started : os.Started) (H : Type) (enc : TypeId × Value → H) :
    ReturnsInHanded {} Tryz.checked os 3 .any (Rows.pureIsSpec.pre6 enc Tryz.prog Tryz.f3 [] false) (Rows.pureIsSpec.post enc Tryz.prog Tryz.f3 false true false false) :=
  law_lifted (C := Tryz.checked) (fn := Tryz.f3) (code := bodyOf Tryz.f3) (tb := 4) (B := reachBytes) (by kernel_rfl) started (by kernel_rfl) Tryz.func3 (body_of rfl) (by kernel_rfl)
    (ChangeSpec.witness6 (enc := enc) (C := Tryz.checked) false ⟨#[], #[.int .i64 0, .slice none 0 0, .slice none 0 0], []⟩ 8 (by kernel_rfl) (by kernel_rfl) (by kernel_rfl) (by kernel_rfl))
    (by kernel_rfl) (by kernel_rfl) (by kernel_rfl) (shs := [.int .i64, .sl (.int .i64), .sl (.int .i64)]) (by kernel_rfl) (by kernel_rfl) (by kernel_rfl) rfl
    (fun ds hd => match ds, hd with | [_, _, _], _ => rfl) (meas_said Tryz.prog H) pureIs_run
theorem pureIs_holds : Rows.PureIsSaid :=
  OpenClaim.holds_of_wide 3 Tryz.f3 rfl rfl rfl rfl rfl rfl rfl ⟨rfl, rfl, rfl, rfl, rfl⟩ rfl rfl rfl rfl rfl (by kernel_rfl) Tryz.func3 (by kernel_rfl)
    (of_decide_eq_true (by kernel_rfl)) (by unfold Func.isWrapper; rw [if_neg (by decide +kernel)]; exact ⟨rfl, rfl⟩)
    (fun os started H enc _ => pureIs_lifted os started H enc)
#print axioms pureIs_holds
end Go.Proofs.YtbcijnfednjohaaGreat
