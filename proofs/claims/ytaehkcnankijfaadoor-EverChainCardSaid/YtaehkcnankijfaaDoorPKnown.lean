/- dom.Rules: the climb in a tree. ssa.checker.known: is what a value names written ahead of a place? -/
import Derived.Test.YtaehkcnankijfaaDoorPWrite
import Derived.BigRegion
import Derived.Deep.RegionHeld3
namespace Go.Proofs.YtaehkcnankijfaaDoor
open Go.RowKit

end Go.Proofs.YtaehkcnankijfaaDoor

namespace Go.Proofs.YtaehkcnankijfaaDoor
open Go.RowKit

end Go.Proofs.YtaehkcnankijfaaDoor
