/- dom.Rules: the climb in a tree. ssa.checker.known: is what a value names written ahead of a place? -/
import Derived.Test.YtnkogppgacappaaDoorPMrg1
import Derived.BigRegion
import Derived.Deep.RegionHeld3
namespace Go.Proofs.YtnkogppgacappaaDoor
open Go.RowKit

end Go.Proofs.YtnkogppgacappaaDoor

namespace Go.Proofs.YtnkogppgacappaaDoor
open Go.RowKit

end Go.Proofs.YtnkogppgacappaaDoor
