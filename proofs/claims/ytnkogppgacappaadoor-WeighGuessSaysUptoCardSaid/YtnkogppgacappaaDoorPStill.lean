/- still.still: which words never change. -/
import Derived.Test.YtnkogppgacappaaDoorPMarks
import Derived.Test.YtnkogppgacappaaDoorPRound
namespace Go.Proofs.YtnkogppgacappaaDoor
open Go.RowKit Go.Shelf Go.Sort

attribute [local go_sem] Oper.semAt_some

end Go.Proofs.YtnkogppgacappaaDoor
