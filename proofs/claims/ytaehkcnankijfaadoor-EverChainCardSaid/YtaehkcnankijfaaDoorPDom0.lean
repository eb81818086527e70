/- The tree of the blocks that rule others, plainly: what its rounds keep, and that they end. No program in sight. -/
import Derived.Test.YtaehkcnankijfaaDoorPChk3
namespace Go.Proofs.YtaehkcnankijfaaDoor
open Go.RowKit



end Go.Proofs.YtaehkcnankijfaaDoor
