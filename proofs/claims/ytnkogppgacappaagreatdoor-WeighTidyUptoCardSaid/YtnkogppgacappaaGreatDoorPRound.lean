/- The words of the memory that never change, plainly. still.within; turnerysame.Bools; turneryref5.WordsOf; turneryref6.StillFirst. A region without a defer statement, inside a round: what serves outside a round serves in it. -/
import Derived.Test.YtnkogppgacappaaGreatDoorPBy
import Derived.Test.YtnkogppgacappaaGreatDoorPCloneR
import Derived.Test.YtnkogppgacappaaGreatDoorPSameU
import Derived.BigRegion
import Derived.Lib.QuietBelowIn
import Derived.Sort.BigQuietIn
import Derived.RangeFuncCalls
namespace Go.Proofs.YtnkogppgacappaaGreatDoor
open Go.RowKit

end Go.Proofs.YtnkogppgacappaaGreatDoor

namespace Go.Proofs.YtnkogppgacappaaGreatDoor
open Go.RowKit

end Go.Proofs.YtnkogppgacappaaGreatDoor

namespace Go.Proofs.YtnkogppgacappaaGreatDoor
open Go.RowKit Go.Sort

end Go.Proofs.YtnkogppgacappaaGreatDoor
