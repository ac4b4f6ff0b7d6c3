/- slices.Clone and bytes.Clone of this program. -/
import Derived.Test.YtgchjlbhmfbgaaaGreatDoorSuG
import Derived.Test.YtgchjlbhmfbgaaaGreatDoorTxAD
import Derived.Tactics2
import Derived.RegionTactic
import Derived.Lib.LazyBuf
import Derived.Laws.Entries
import Derived.KernelRfl
namespace Go.Proofs.Dbl
open Go Go.TX Go.Proofs Go.RowKit
set_option maxRecDepth 100000
theorem clone53_0 (a:Option Addr)(c:Nat)(w:World):Calls Tryz.prog 53 #[.slice a 0 c] w fun e w'=> ∃a' c',e= .returned (.slice a' 0 c')∧Below w.heap.size w w':=by
 have mixed:=mixed
 have hu:Tryz.prog.underlying 26=some (.slice 3):=by kernel_rfl
 have q26: ∀(w:World) (a:Option Addr) (n c:Nat),(binOp .eql 26 (.slice a n c) (.slice none 0 0)).run Tryz.prog w= .ok (.bool a.isNone) w:=fun w a n c=>Go.run_eql_slice_nil w _ _ a n c hu
 have u26: ∀w,Sem.run Tryz.prog (underlying 26) w= .ok (TypeDesc.slice 3) w:=run_underlying hu
 cases a with
 |none=>
  go_enter Tryz.func53,(show Tryz.f53.ntmps=8 by kernel_rfl)
  go_wp2
  go_ret
  exact⟨_,_,rfl,Below.refl _ w⟩
 |some a=>
  go_enter Tryz.func53,(show Tryz.f53.ntmps=8 by kernel_rfl)
  go_wp2
  go_ret
  exact⟨_,_,rfl,(Below.refl _ w).alloc (Nat.le_refl _) _⟩
end Go.Proofs.Dbl
