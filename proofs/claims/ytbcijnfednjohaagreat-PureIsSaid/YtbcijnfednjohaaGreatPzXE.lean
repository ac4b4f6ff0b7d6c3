import Derived.Test.YtbcijnfednjohaaGreatPzXD
namespace Go.Proofs.Dbl
open Go Go.TX Go.Proofs
set_option maxRecDepth 100000
set_option linter.unusedVariables false
set_option maxHeartbeats 0
def Do_hd : Hints := (Hints.nil 0).add [1, 1] noSp
theorem Do_hd_ok : Do_hd.OK Tryz.prog (bodyOf Tryz.f5) := Hints.nil_ok.add (show codeAt (bodyOf Tryz.f5) [1, 1] = some ((codeAt (bodyOf Tryz.f5) [1, 1]).getD .skip) from by kernel_rfl) noSp_ok
theorem Do_el_ev {α : Type} (o : Int) (d : List Int) (k : Kont α) : evFun Tryz.prog P7 Do_hd false Tryz.f5 (bodyOf Tryz.f5) 200 (mkS [.val (.int .i64), .val (.sl (.int .i64))] (o, d, ())) (mkH [] ()) (fun v H => k (weakF v) H) =
    outOf (op_Group o) fun g => cond (g != (1 : Int)) (k (.tup [.sl (.int .i64) d false, .lit (.int .i64 (-21))]) []) none := by kernel_rfl
theorem pure_Do_ev {α : Type} (o : Int) (d : List Int) (k : Kont α) (r : α) (h : outOf (pure_Do o d) (fun v => k (.tup [.sl (.int .i64) v.1 false, .lit (.int .i64 v.2)]) []) = some r) :
    ∃ (h : Hints) (fuel : Nat), h.OK Tryz.prog (bodyOf Tryz.f5) ∧ h.n0 = 0 ∧ evFun Tryz.prog P7 h false Tryz.f5 (bodyOf Tryz.f5) fuel (mkS [.val (.int .i64), .val (.sl (.int .i64))] (o, d, ())) (mkH [] ()) (fun v H => k (weakF v) H) = some r := by
  unfold pure_Do at h
  by_cases g : 18 ≤ o ∧ o ≤ 74
  · rw [if_pos g] at h
    obtain ⟨h1, f1, g1, g2, g3⟩ := Do_tab_ev d k o.toNat (by omega) (by omega)
    rw [Int.toNat_of_nonneg (by omega)] at g3
    exact ⟨h1, f1, g1, g2, g3.trans h⟩
  · rw [if_neg g] at h
    refine ⟨Do_hd, 200, Do_hd_ok, rfl, (Do_el_ev o d k).trans ?_⟩
    cases hg : op_Group o with
    | none => rw [hg] at h; cases h
    | some x =>
      rw [hg] at h
      show cond (x != (1 : Int)) (k (.tup [.sl (.int .i64) d false, .lit (.int .i64 (-21))]) []) none = some r
      change outOf (cond (x != (1 : Int)) (some (d, (-21 : Int))) none) (fun v => k (.tup [.sl (.int .i64) v.1 false, .lit (.int .i64 v.2)]) []) = some r at h
      cases hx : (x != (1 : Int))
      · rw [hx] at h; cases h
      · rw [hx] at h; exact h
theorem pure_Do_good : TX.Good Tryz.prog 5 pure_Do_sp := good_form_weak2 P7_ok mixed Tryz.func5 (body_of rfl) (by kernel_rfl) false fun α a m k r h => by
  obtain ⟨o, d, _⟩ := a
  exact pure_Do_ev o d k r h
end Go.Proofs.Dbl
