/- The tree of the blocks that rule others, plainly: what its rounds keep, and that they end. No program in sight. -/
import Derived.Test.YtnkogppgacappaaDoorPChk3
namespace Go.Proofs.YtnkogppgacappaaDoor
open Go.RowKit

end Go.Proofs.YtnkogppgacappaaDoor
