/- The law WeighHot: its walk. -/
import Derived.Test.YtaehkcnankijfaaDoorPOnceW
namespace Go.Proofs.YtaehkcnankijfaaDoor
open Go.RowKit

end Go.Proofs.YtaehkcnankijfaaDoor
