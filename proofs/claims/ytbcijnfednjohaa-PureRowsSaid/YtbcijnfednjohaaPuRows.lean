/- PureRows: for every input the law answers true and leaves its arguments as they were. -/
import Derived.Test.YtbcijnfednjohaaPuXY
import Derived.Test.YtbcijnfednjohaaPuPm
import Derived.Test.YtbcijnfednjohaaRows
import Derived.Test.YtbcijnfednjohaaTxS
namespace Go.Proofs.Ytbcijnfednjohaa
open Go Go.TX Go.Proofs Go.Proofs.Dbl
set_option maxRecDepth 100000
set_option maxHeartbeats 0
set_option linter.unusedVariables false
set_option linter.unusedSimpArgs false

theorem rows_val {l m d : List Int} (hl : l.length ≤ 9000000000000000000) (hm : m.length ≤ 9000000000000000000) (hdl : d.length ≤ 9000000000000000000) (hd : AllC d) : lawRows l m d = some true := by
  unfold lawRows lawRows_t
  rw [awake_eq]
  simp only [outOf_some]
  unfold lawRows_M1 lawRows_M1_t
  by_cases h1 : (l.length : Int) > 40
  · rw [ct h1]; rfl
  · rw [cf h1]
    by_cases h2 : (m.length : Int) > 40
    · rw [ct h2]; rfl
    · rw [cf h2]
      by_cases h3 : (d.length : Int) > 64
      · rw [ct h3]; rfl
      · rw [cf h3]
        simp only [outOf_some, sumOf_inr]
        rw [ct (by omega), ct (by omega)]
        have e : List.take (l.length + m.length) (List.drop 0 (List.take l.length (List.drop 0 l) ++ m)) = l ++ m := by
          rw [List.drop_zero, List.drop_zero, List.take_length, List.take_of_length_le (by simp)]
        rw [e, All_eq _ (by omega), All_eq _ (by simp; omega), allF_append]
        obtain ⟨d1, e1, g1, g2, g3⟩ := allF_fine l d hd (by omega)
        rw [g1]
        simp only [outOf_some]
        by_cases he : e1 = 0
        · subst he
          obtain ⟨d2, e2, k1, k2, k3⟩ := allF_fine m d1 g2 g3
          rw [All_eq _ (by omega)]
          simp only [bne_self_eq_false, cond_false, k1, outOf_some, cond_true, beq_self_eq_true]
          rw [Same_refl _ (by omega)]
          rfl
        · have hb : (e1 != 0) = true := by simpa using he
          simp only [hb, cond_true, outOf_some, beq_self_eq_true]
          rw [Same_refl _ (by omega)]
          rfl

theorem pureRows_plain : ∀ d : DenL [.sl (.int .i64), .sl (.int .i64), .sl (.int .i64)], FitsL reachBytes [.sl (.int .i64), .sl (.int .i64), .sl (.int .i64)] d →
    lawRows_sp (AV × Heap) (argsAV Try.prog Try.f8.params.toList [.sl (.int .i64), .sl (.int .i64), .sl (.int .i64)] d) [] (fun v H => some (v, H)) = some (.lit (.bool true), []) := by
  rintro ⟨l, m, d, _⟩ ⟨⟨hB, hl⟩, ⟨hB2, hm⟩, ⟨hB3, hd⟩, _⟩
  show outOf (lawRows l m d) (fun v => some (AV.lit (.bool v), [])) = _
  rw [rows_val (Nat.le_trans hB (by decide)) (Nat.le_trans hB2 (by decide)) (Nat.le_trans hB3 (by decide)) (AllC_of fun x hx => hd x hx)]
  rfl

theorem pureRows_run : ∀ d : DenL [.sl (.int .i64), .sl (.int .i64), .sl (.int .i64)], FitsL reachBytes [.sl (.int .i64), .sl (.int .i64), .sl (.int .i64)] d →
    ∃ sp, TX.Good Try.prog 8 sp ∧ ∃ H', sp (AV × Heap) (argsAV Try.prog Try.f8.params.toList [.sl (.int .i64), .sl (.int .i64), .sl (.int .i64)] d) [] (fun v H => some (v, H)) = some (.lit (.bool true), H') := by
  intro d hd
  exact ⟨lawRows_sp, lawRows_good, [], pureRows_plain d hd⟩

theorem pureRows_lifted (os : Os) (started : os.Started) (H : Type) (enc : TypeId × Value → H) :
    ReturnsInHanded {} Try.checked os 8 .any (Rows.pureRowsSpec.pre6 enc Try.prog Try.f8 [] false) (Rows.pureRowsSpec.post enc Try.prog Try.f8 false true false false) :=
  law_lifted (C := Try.checked) (fn := Try.f8) (code := bodyOf Try.f8) (tb := 4) (B := reachBytes) (by kernel_rfl) started (by kernel_rfl) Try.func8 (body_of rfl) (by kernel_rfl)
    (ChangeSpec.witness6 (enc := enc) (C := Try.checked) false ⟨#[], #[.slice none 0 0, .slice none 0 0, .slice none 0 0], []⟩ 8 (by kernel_rfl) (by kernel_rfl) (by kernel_rfl) (by kernel_rfl))
    (by kernel_rfl) (by kernel_rfl) (by kernel_rfl) (shs := [.sl (.int .i64), .sl (.int .i64), .sl (.int .i64)]) (by kernel_rfl) (by kernel_rfl) (by kernel_rfl) rfl
    (fun ds hd => match ds, hd with | [_, _, _], _ => rfl) (meas_said Try.prog H) pureRows_run

theorem pureRows_holds : Rows.PureRowsSaid :=
  OpenClaim.holds_of_wide 8 Try.f8 rfl rfl rfl rfl rfl rfl rfl ⟨rfl, rfl, rfl, rfl, rfl⟩ rfl rfl rfl rfl rfl (by kernel_rfl) Try.func8 (by kernel_rfl)
    (of_decide_eq_true (by kernel_rfl)) (by unfold Func.isWrapper; rw [if_neg (by decide +kernel)]; exact ⟨rfl, rfl⟩)
    (fun os started H enc _ => pureRows_lifted os started H enc)

#print axioms pureRows_holds
end Go.Proofs.Ytbcijnfednjohaa
