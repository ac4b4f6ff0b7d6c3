/- slices.Clone: whether an empty slice is nil is told by the walk alone. -/
import Derived.Test.YtgchjlbhmfbgaaaGreatDoorTxZ
import Derived.Test.YtgchjlbhmfbgaaaGreatDoorTxAB
namespace Go.TX
set_option linter.unusedSectionVars false
variable [Globals]
open Go.RowKit
variable {P : Program}
/-- A copy: nothing is told of its room. -/
def clone_sp (s : Sh) : Spec := fun _ args H k =>
  match args, H with
  | [.sl s' l _], [] => if h : s' = s then cond (decide (l.length ≤ mostLen)) (k (.sl s (h ▸ l) false) []) none else none
  | _, _ => none
end Go.TX
