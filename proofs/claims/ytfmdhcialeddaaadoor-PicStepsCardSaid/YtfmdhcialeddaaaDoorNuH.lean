/- What the laws of pictures reach of Go's library. -/
import Derived.Test.YtfmdhcialeddaaaDoorNuXG
import Derived.Test.YtfmdhcialeddaaaDoorTxAA
namespace Go.Proofs.Dbl
open Go Go.TX Go.Proofs
set_option maxRecDepth 100000
theorem mkNoZeroG : TX.Good Tryd.prog 125 mkNoZero_sp := mkNoZero_good (t := 29) (e := 5) (ps := #[3]) Tryd.func125 (by kernel_rfl) (by kernel_rfl) (by kernel_rfl) (by kernel_rfl) (by kernel_rfl)
noncomputable def NH0 : Env := NrGE10.add 125 false mkNoZero_sp
theorem NH0_ok : NH0.OK Tryd.prog := (NrGE10_ok).add_ok mkNoZeroG
end Go.Proofs.Dbl
