import Derived.Test.YtfmdhcialeddaaaDoorNuXD
import Derived.Test.YtfmdhcialeddaaaDoorNuXE
namespace Go.Proofs.Dbl
open Go Go.TX Go.Proofs
set_option maxRecDepth 100000
set_option linter.unusedVariables false
set_option maxHeartbeats 0
noncomputable def NrF0 : Env := NrEE4
theorem NrF0_ok : NrF0.OK Tryd.prog := NrEE4_ok
noncomputable def NrFE1 : Env := NrF0
theorem NrFE1_ok : NrFE1.OK Tryd.prog := NrF0_ok
noncomputable def NrFE2 : Env := NrFE1
theorem NrFE2_ok : NrFE2.OK Tryd.prog := NrFE1_ok
end Go.Proofs.Dbl
