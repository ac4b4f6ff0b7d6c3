/- PureFlags: for every input the law answers true and leaves its arguments as they were. -/
import Derived.Test.YtbcijnfednjohaaPuXX
import Derived.Test.YtbcijnfednjohaaPuPh
import Derived.Test.YtbcijnfednjohaaRows
import Derived.Test.YtbcijnfednjohaaTxS
namespace Go.Proofs.Ytbcijnfednjohaa
open Go Go.TX Go.Proofs Go.Proofs.Dbl
set_option maxRecDepth 100000
set_option maxHeartbeats 0
set_option linter.unusedVariables false

theorem at2 (k : Nat) (h1 : 18 ≤ k) (h2 : k ≤ 74) (d : List Int) {v : List Int × Int} (h : Do_tab k d = some v) : pure_Do (k : Int) d = some v := (Do_at h1 h2 d).trans h

def fl (b : Bool) : Int := if b then -1 else 0

theorem flags_val (a b : Int) : lawFlags a b = some true := by
  have d57 : pure_Do 57 [a, b] = some ([fl (decide (a < b))], 0) := at2 57 (by decide) (by decide) _ ((dk_57 (r := []) (by simp)).trans (congrArg some (fin_ok (by simp))))
  have d55 : pure_Do 55 [a, b] = some ([fl (a == b)], 0) := at2 55 (by decide) (by decide) _ ((dk_55 (r := []) (by simp)).trans (congrArg some (fin_ok (by simp))))
  have d58 : pure_Do 58 [a, b] = some ([fl (decide (a > b))], 0) := at2 58 (by decide) (by decide) _ ((dk_58 (r := []) (by simp)).trans (congrArg some (fin_ok (by simp))))
  have d56 : pure_Do 56 [a, b] = some ([fl (a != b)], 0) := at2 56 (by decide) (by decide) _ ((dk_56 (r := []) (by simp)).trans (congrArg some (fin_ok (by simp))))
  have d60 : pure_Do 60 [fl (a != b)] = some ([fl (fl (a != b) == 0)], 0) := at2 60 (by decide) (by decide) _ ((dk_60 (r := []) (by simp)).trans (congrArg some (fin_ok (by simp))))
  have dall : pure_All [56, 60] [a, b] = some ([fl (fl (a != b) == 0)], 0) := by
    rw [All_eq _ (by simp), allF_ok d56, allF_ok d60]; rfl
  unfold lawFlags lawFlags_t
  rw [awake_eq, d57, d55, d58, dall]
  simp only [outOf_some]
  unfold lawFlags_M1 lawFlags_M1_t
  simp only [List.length_singleton, bne_self_eq_false, cond_false, outOf_some, sumOf_inr, cond_true, List.getD_cons_zero, wi]
  rcases Int.lt_trichotomy a b with h | h | h
  · have h1 : ¬ a = b := by omega
    have h2 : ¬ a > b := by omega
    simp [fl, h, h1, h2, beq_eq_false_iff_ne.2 h1, bne]
    decide
  · subst h
    simp [fl]
    decide
  · have h1 : ¬ a = b := by omega
    have h2 : ¬ a < b := by omega
    simp [fl, h, h1, h2, beq_eq_false_iff_ne.2 h1, bne]
    decide

theorem pureFlags_plain : ∀ d : DenL [.int .i64, .int .i64], FitsL reachBytes [.int .i64, .int .i64] d →
    lawFlags_sp (AV × Heap) (argsAV Try.prog Try.f7.params.toList [.int .i64, .int .i64] d) [] (fun v H => some (v, H)) = some (.lit (.bool true), []) := by
  rintro ⟨a, b, _⟩ ⟨ha, hb, _⟩
  show outOf (lawFlags a b) (fun v => some (AV.lit (.bool v), [])) = _
  rw [flags_val a b]
  rfl

theorem pureFlags_run : ∀ d : DenL [.int .i64, .int .i64], FitsL reachBytes [.int .i64, .int .i64] d →
    ∃ sp, TX.Good Try.prog 7 sp ∧ ∃ H', sp (AV × Heap) (argsAV Try.prog Try.f7.params.toList [.int .i64, .int .i64] d) [] (fun v H => some (v, H)) = some (.lit (.bool true), H') := by
  intro d hd
  exact ⟨lawFlags_sp, lawFlags_good, [], pureFlags_plain d hd⟩

theorem pureFlags_lifted (os : Os) (started : os.Started) (H : Type) (enc : TypeId × Value → H) :
    ReturnsInHanded {} Try.checked os 7 .any (Rows.pureFlagsSpec.pre6 enc Try.prog Try.f7 [] false) (Rows.pureFlagsSpec.post enc Try.prog Try.f7 false true false false) :=
  law_lifted (C := Try.checked) (fn := Try.f7) (code := bodyOf Try.f7) (tb := 4) (B := reachBytes) (by kernel_rfl) started (by kernel_rfl) Try.func7 (body_of rfl) (by kernel_rfl)
    (ChangeSpec.witness6 (enc := enc) (C := Try.checked) false ⟨#[], #[.int .i64 0, .int .i64 0], []⟩ 8 (by kernel_rfl) (by kernel_rfl) (by kernel_rfl) (by kernel_rfl))
    (by kernel_rfl) (by kernel_rfl) (by kernel_rfl) (shs := [.int .i64, .int .i64]) (by kernel_rfl) (by kernel_rfl) (by kernel_rfl) rfl
    (fun ds hd => match ds, hd with | [_, _], _ => rfl) (meas_said Try.prog H) pureFlags_run

theorem pureFlags_holds : Rows.PureFlagsSaid :=
  OpenClaim.holds_of_wide 7 Try.f7 rfl rfl rfl rfl rfl rfl rfl ⟨rfl, rfl, rfl, rfl, rfl⟩ rfl rfl rfl rfl rfl (by kernel_rfl) Try.func7 (by kernel_rfl)
    (of_decide_eq_true (by kernel_rfl)) (by unfold Func.isWrapper; rw [if_neg (by decide +kernel)]; exact ⟨rfl, rfl⟩)
    (fun os started H enc _ => pureFlags_lifted os started H enc)

#print axioms pureFlags_holds
end Go.Proofs.Ytbcijnfednjohaa
