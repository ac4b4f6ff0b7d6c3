/- slices.Clone and bytes.Clone of this program. -/
import Derived.Test.YtgchjlbhmfbgaaaGreatDoorSuG
import Derived.Test.YtgchjlbhmfbgaaaGreatDoorTxAD
import Derived.Tactics2
import Derived.RegionTactic
import Derived.Lib.LazyBuf
import Derived.Laws.Entries
import Derived.KernelRfl
namespace Go.Proofs.Dbl
open Go Go.TX Go.Proofs Go.RowKit
set_option maxRecDepth 100000
end Go.Proofs.Dbl
