/- StepEnters: the closed facts of its row. -/
import Derived.Test.YtgchjlbhmfbgaaaGreatDoorRows
import Derived.JoinedOf
import Derived.KernelRfl
namespace Go.Proofs.YtgchjlbhmfbgaaaGreatDoor
open Go Go.Proofs
set_option maxRecDepth 100000
set_option maxHeartbeats 0
theorem stepEnters_facts:joinedFacts Tryz.pinned.checked.prog 8 Tryz.f8 Rows.stepEntersSpec Rows.stepEntersRow=true:=by
 unfold joinedFacts
 simp only[Bool.and_eq_true]
 and_intros
 all_goals (as_aux_lemma=>kernel_rfl)
end Go.Proofs.YtgchjlbhmfbgaaaGreatDoor
