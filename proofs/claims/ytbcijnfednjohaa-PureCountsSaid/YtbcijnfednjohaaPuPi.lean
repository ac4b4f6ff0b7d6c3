/- Plain facts about single operations: more. -/
import Derived.Test.YtbcijnfednjohaaPuPh
namespace Go.Proofs.Dbl
open Go Go.TX Go.Proofs
set_option maxRecDepth 100000
set_option maxHeartbeats 0
set_option linter.unusedVariables false
set_option linter.unusedSimpArgs false

theorem at2 (k : Nat) (h1 : 18 ≤ k) (h2 : k ≤ 74) (d : List Int) {v : List Int × Int} (h : Do_tab k d = some v) : pure_Do (k : Int) d = some v := (Do_at h1 h2 d).trans h

theorem Neg_S {lo hi : Int} (h1 : Cell lo) (h2 : Cell hi) : dbl_Neg lo hi = some (Pd (-S lo hi)) := by
  have e := Pd_S h1 h2
  unfold Pd at e
  simp only [Prod.mk.injEq] at e
  have hn := Neg_eq (S lo hi)
  rw [e.1, e.2] at hn
  exact hn

theorem dk_70 {r : List Int} {a b : Int} (h : r.length + 2 ≤ 64) (ha : Cell a) (hb : Cell b) : Do_70 (r ++ [a, b]) = some (fin r [a, b] [(Pd (-S a b)).1, (Pd (-S a b)).2] 0) := by
  unfold Do_70 Do_70_t
  rw [cf (by simp; omega), cf (by simp; omega), popX2 h]
  simp only [outOf_some]
  rw [ct (by simp), ct (by simp)]
  rw [show dbl_Neg (List.getD [a, b] 0 0) (List.getD [a, b] 1 0) = some (Pd (-S a b)) from Neg_S ha hb]
  exact tail0 (by omega) (by simp)

end Go.Proofs.Dbl
