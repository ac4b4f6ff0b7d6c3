import Derived.Test.YtfmdhcialeddaaaDoorNuXF
namespace Go.Proofs.Dbl
open Go Go.TX Go.Proofs
set_option maxRecDepth 100000
set_option linter.unusedVariables false
set_option maxHeartbeats 0
noncomputable def NrGE1 : Env := NrFE1
theorem NrGE1_ok : NrGE1.OK Tryd.prog := NrFE1_ok
noncomputable def NrGE2 : Env := NrGE1
theorem NrGE2_ok : NrGE2.OK Tryd.prog := NrGE1_ok
noncomputable def NrGE3 : Env := NrGE2
theorem NrGE3_ok : NrGE3.OK Tryd.prog := NrGE2_ok
noncomputable def NrGE4 : Env := NrGE3
theorem NrGE4_ok : NrGE4.OK Tryd.prog := NrGE3_ok
noncomputable def NrGE5 : Env := NrGE4
theorem NrGE5_ok : NrGE5.OK Tryd.prog := NrGE4_ok
noncomputable def NrGE6 : Env := NrGE5
theorem NrGE6_ok : NrGE6.OK Tryd.prog := NrGE5_ok
noncomputable def NrGE7 : Env := NrGE6
theorem NrGE7_ok : NrGE7.OK Tryd.prog := NrGE6_ok
noncomputable def NrGE8 : Env := NrGE7
theorem NrGE8_ok : NrGE8.OK Tryd.prog := NrGE7_ok
noncomputable def NrGE9 : Env := NrGE8
theorem NrGE9_ok : NrGE9.OK Tryd.prog := NrGE8_ok
noncomputable def NrGE10 : Env := NrGE9
theorem NrGE10_ok : NrGE10.OK Tryd.prog := NrGE9_ok
noncomputable def NrGE11 : Env := NrGE10
theorem NrGE11_ok : NrGE11.OK Tryd.prog := NrGE10_ok
end Go.Proofs.Dbl
