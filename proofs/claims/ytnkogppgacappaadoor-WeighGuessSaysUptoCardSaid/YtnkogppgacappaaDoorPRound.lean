/- The words of the memory that never change, plainly. still.within; turnerysame.Bools; turneryref5.WordsOf; turneryref6.StillFirst. A region without a defer statement, inside a round: what serves outside a round serves in it. -/
import Derived.Test.YtnkogppgacappaaDoorPBy1
import Derived.Test.YtnkogppgacappaaDoorPCopy
import Derived.Test.YtnkogppgacappaaDoorPSameU
import Derived.BigRegion
import Derived.Lib.QuietBelowIn
import Derived.Sort.BigQuietIn
import Derived.RangeFuncCalls
namespace Go.Proofs.YtnkogppgacappaaDoor
open Go.RowKit

end Go.Proofs.YtnkogppgacappaaDoor

namespace Go.Proofs.YtnkogppgacappaaDoor
open Go.RowKit

end Go.Proofs.YtnkogppgacappaaDoor

namespace Go.Proofs.YtnkogppgacappaaDoor
open Go.RowKit Go.Sort

end Go.Proofs.YtnkogppgacappaaDoor
