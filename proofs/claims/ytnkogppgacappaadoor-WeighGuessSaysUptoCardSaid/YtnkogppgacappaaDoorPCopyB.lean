/- calls.CopyBlock: a block of the call's own memory. -/
import Derived.Test.YtnkogppgacappaaDoorPClone
namespace Go.Proofs.YtnkogppgacappaaDoor
open Go.RowKit

end Go.Proofs.YtnkogppgacappaaDoor
