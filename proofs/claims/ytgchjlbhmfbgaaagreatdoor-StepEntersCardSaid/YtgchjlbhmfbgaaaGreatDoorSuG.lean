import Derived.Test.YtgchjlbhmfbgaaaGreatDoorTxZ
import Derived.Test.YtgchjlbhmfbgaaaGreatDoorProg
namespace Go.Proofs.Dbl
open Go Go.TX Go.Proofs
set_option maxRecDepth 100000
def tabTz:List Int:=[0,1,56,2,57,49,28,3,61,58,42,50,38,29,17,4,62,47,59,36,45,43,51,22,53,39,33,30,24,18,12,5,63,55,48,27,60,41,37,16,46,35,44,21,52,32,23,11,54,26,40,15,34,20,31,10,25,14,19,9,13,8,7,6]
def tabTen:List Int:=[1,10,100,1000,10000,100000,1000000,10000000,100000000,1000000000,10000000000,100000000000,1000000000000,10000000000000,100000000000000,1000000000000000,10000000000000000,100000000000000000,1000000000000000000,10000000000000000000]
instance globs:Globals:=⟨fun g=>cond (Nat.beq g 8) (some ⟨.int .u8,tabTz⟩) (cond (Nat.beq g 4) (some ⟨.int .u64,tabTen⟩) none)⟩
theorem mixed:Tryz.prog.follows .mixedOrders=true:=by kernel_rfl
noncomputable def SE0:Env:=Env.nil
theorem SE0_ok:SE0.OK Tryz.prog:=Env.nil_ok
end Go.Proofs.Dbl
