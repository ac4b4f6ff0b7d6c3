import Derived.Test.YtfmdhcialeddaaaDoorNuXC
namespace Go.Proofs.Dbl
open Go Go.TX Go.Proofs
set_option maxRecDepth 100000
set_option linter.unusedVariables false
set_option maxHeartbeats 0
noncomputable def NrDE1 : Env := NrCE4
theorem NrDE1_ok : NrDE1.OK Tryd.prog := NrCE4_ok
noncomputable def NrDE2 : Env := NrDE1
theorem NrDE2_ok : NrDE2.OK Tryd.prog := NrDE1_ok
end Go.Proofs.Dbl
