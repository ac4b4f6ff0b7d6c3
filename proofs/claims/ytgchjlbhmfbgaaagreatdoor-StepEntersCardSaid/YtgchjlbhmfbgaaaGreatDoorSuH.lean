/- What the step reaches of Go's library. -/
import Derived.Test.YtgchjlbhmfbgaaaGreatDoorSuXJ
import Derived.Test.YtgchjlbhmfbgaaaGreatDoorSuShelf
import Derived.Test.YtgchjlbhmfbgaaaGreatDoorTxAA
namespace Go.Proofs.Dbl
open Go Go.TX Go.Proofs
set_option maxRecDepth 100000
theorem toUpperG:TX.Good Tryz.prog 246 toUpper_sp:=toUpper_good Tryz.func246 (body_of rfl) (by kernel_rfl) fun s w h1 h2=>Tryz.strings_ToUpper_ascii s w h1 h2
theorem fmt10G:TX.Good Tryz.prog 354 fmt10_sp:=fmt10_good Tryz.func354 (body_of rfl) (by kernel_rfl) fun blk off cap u d w h1 h2 h3 h4=>Tryz.internal_strconv_formatBase10 blk off cap u d w h1 h2 h3 h4
theorem len64G:TX.Good Tryz.prog 377 len64_sp:=len64_good Tryz.func377 (body_of rfl) (by kernel_rfl) fun x w h1 h2=>Tryz.bits_Len64 x w h1 h2
theorem mkNoZeroG:TX.Good Tryz.prog 344 mkNoZero_sp:=mkNoZero_good (t:=31) (e:=5) (ps:= #[3]) Tryz.func344 (by kernel_rfl) (by kernel_rfl) (by kernel_rfl) (by kernel_rfl) (by kernel_rfl)
noncomputable def SH0:Env:=SuE3.add 246 true toUpper_sp |>.add 354 false fmt10_sp |>.add 377 true len64_sp |>.add 344 false mkNoZero_sp
theorem SH0_ok:SH0.OK Tryz.prog:=(((SuE3_ok.add_ok toUpperG).add_ok fmt10G).add_ok len64G).add_ok mkNoZeroG
end Go.Proofs.Dbl
