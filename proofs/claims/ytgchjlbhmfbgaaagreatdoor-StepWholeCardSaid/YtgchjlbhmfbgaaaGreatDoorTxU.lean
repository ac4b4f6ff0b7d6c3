/- Contracts of functions without a body that the program calls. -/
import Derived.Test.YtgchjlbhmfbgaaaGreatDoorTxT
namespace Go.TX
set_option linter.unusedSectionVars false
variable [Globals]
variable {P : Program}
def add64_sp : Spec := fun _ args H k =>
  match args with
  | [.lit (.int .u64 x), .lit (.int .u64 y), .lit (.int .u64 c)] =>
    cond (decide (0 ≤ x ∧ 0 ≤ y ∧ 0 ≤ c ∧ c ≤ 1)) (k (.tup [.lit (.int .u64 ((x + y + c) % 18446744073709551616)), .lit (.int .u64 ((x + y + c) / 18446744073709551616))]) H) none
  | _ => none
end Go.TX
