/- Copies of events and of bytes: what is empty may be nil. -/
import Derived.Test.YtgchjlbhmfbgaaaGreatDoorSuCl
namespace Go.Proofs.Dbl
open Go Go.TX Go.Proofs Go.RowKit
set_option maxRecDepth 100000
end Go.Proofs.Dbl
