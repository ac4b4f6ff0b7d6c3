import Derived.Test.YtfmdhcialeddaaaDoorTxZ
import Derived.Test.YtfmdhcialeddaaaDoorNuShelf
namespace Go.Proofs.Dbl
open Go Go.TX Go.Proofs
set_option maxRecDepth 100000
def tabTz : List Int := [0, 1, 56, 2, 57, 49, 28, 3, 61, 58, 42, 50, 38, 29, 17, 4, 62, 47, 59, 36, 45, 43, 51, 22, 53, 39, 33, 30, 24, 18, 12, 5, 63, 55, 48, 27, 60, 41, 37, 16, 46, 35, 44, 21, 52, 32, 23, 11, 54, 26, 40, 15, 34, 20, 31, 10, 25, 14, 19, 9, 13, 8, 7, 6]
def tabTen : List Int := [1, 10, 100, 1000, 10000, 100000, 1000000, 10000000, 100000000, 1000000000, 10000000000, 100000000000, 1000000000000, 10000000000000, 100000000000000, 1000000000000000, 10000000000000000, 100000000000000000, 1000000000000000000, 10000000000000000000]
instance globs : Globals := ⟨fun g => cond (Nat.beq g 8) (some ⟨.int .u8, tabTz⟩) (cond (Nat.beq g 3) (some ⟨.int .u64, tabTen⟩) none)⟩
theorem mixed : Tryd.prog.follows .mixedOrders = true := by kernel_rfl
theorem toUpperG : TX.Good Tryd.prog 47 toUpper_sp := toUpper_good Tryd.func47 (body_of rfl) (by kernel_rfl) fun s w h1 h2 => Tryd.strings_ToUpper_ascii s w h1 h2
theorem fmt10G : TX.Good Tryd.prog 112 fmt10_sp := fmt10_good Tryd.func112 (body_of rfl) (by kernel_rfl) fun blk off cap u d w h1 h2 h3 h4 => Tryd.internal_strconv_formatBase10 blk off cap u d w h1 h2 h3 h4
theorem add64G : TX.Good Tryd.prog 115 add64_sp := add64_good Tryd.func115 (by kernel_rfl) (by kernel_rfl) (by kernel_rfl) (by kernel_rfl)
theorem len64G : TX.Good Tryd.prog 130 len64_sp := len64_good Tryd.func130 (body_of rfl) (by kernel_rfl) fun x w h1 h2 => Tryd.bits_Len64 x w h1 h2
theorem joinG : TX.Good Tryd.prog 94 join_sp := join_good Tryd.func94 (body_of rfl) (by kernel_rfl) (fun a c sep w => Tryd.strings_Join_none a c sep w) fun bk o c xs sep w h1 h2 h3 h4 h5 => Tryd.strings_Join bk o c xs sep w h1 h2 h3 h4 h5
noncomputable def NE0 : Env := Env.nil.add 115 true add64_sp |>.add 47 true toUpper_sp |>.add 112 false fmt10_sp |>.add 130 true len64_sp |>.add 94 true join_sp
theorem NE0_ok : NE0.OK Tryd.prog := ((((Env.nil_ok.add_ok add64G).add_ok toUpperG).add_ok fmt10G).add_ok len64G).add_ok joinG
end Go.Proofs.Dbl
