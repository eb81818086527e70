/- A list of lists of numbers that comes as an argument. StillRest: the law's walk. -/
import Derived.Test.YtnkogppgacappaaDoorPSsa0
import Derived.Test.YtnkogppgacappaaDoorPRefA
import Derived.Test.YtnkogppgacappaaDoorPStillOk
import Derived.Test.YtnkogppgacappaaDoorPSameU
import Derived.BigRegion
import Derived.Deep.DeepCutAuto
import Derived.Deep.RegionHeld3
namespace Go.Proofs.YtnkogppgacappaaDoor
open Go.RowKit Go.ChangeShapes Go.WideShapes Go.ChangeAt Go.Deep

end Go.Proofs.YtnkogppgacappaaDoor

namespace Go.Proofs.YtnkogppgacappaaDoor
open Go.RowKit

end Go.Proofs.YtnkogppgacappaaDoor
