/- StepEnters: the closed facts of its card. -/
import Derived.Test.YtgchjlbhmfbgaaaGreatDoorRows
import Derived.SevenTiedAt
import Derived.KernelRfl
namespace Go.Proofs.YtgchjlbhmfbgaaaGreatDoor
open Go Go.Proofs
set_option maxRecDepth 100000
set_option maxHeartbeats 0
theorem stepEnters_wf:Rows.stepEntersRow.wfByText (OpenSpec.ofChange Rows.stepEntersSpec)=true:=by kernel_rfl
theorem seat_main:Tryz.pinned.checked.prog.mainIs=some (true, "681d9e3b1efb516c3ec0406b4700730d9e0e9bcf88385fc0c2a9b5e20f84a264".toList):=by kernel_rfl
theorem seat_looks:false=Tryz.pinned.checked.prog.looks []:=by kernel_rfl
theorem stepEnters_named:Tryz.prog.funcNamed "tenterhook/tenterhooklaw14.StepEnters" =some 8:=by kernel_rfl
theorem stepEnters_goes:false=Rows.stepEntersRow.goesBy Tryz.pinned.checked.prog:=by kernel_rfl
end Go.Proofs.YtgchjlbhmfbgaaaGreatDoor
