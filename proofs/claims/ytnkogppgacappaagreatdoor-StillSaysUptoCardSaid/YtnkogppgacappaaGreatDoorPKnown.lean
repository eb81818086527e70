/- dom.Rules: the climb in a tree. ssa.checker.known: is what a value names written ahead of a place? -/
import Derived.Test.YtnkogppgacappaaGreatDoorPMrg1
import Derived.BigRegion
import Derived.Deep.RegionHeld3
namespace Go.Proofs.YtnkogppgacappaaGreatDoor
open Go.RowKit

end Go.Proofs.YtnkogppgacappaaGreatDoor

namespace Go.Proofs.YtnkogppgacappaaGreatDoor
open Go.RowKit

end Go.Proofs.YtnkogppgacappaaGreatDoor
