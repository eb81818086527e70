/- Heaps, plainly: an array as a function; sifting down. The order of blocks, plainly. The order of blocks, plainly: each block once, the first one first, and each behind the best one. -/
import Derived.Test.YtaehkcnankijfaaDoorPEq
namespace Go.Proofs.YtaehkcnankijfaaDoor
open Go.RowKit

end Go.Proofs.YtaehkcnankijfaaDoor

namespace Go.Proofs.YtaehkcnankijfaaDoor
open Go.RowKit

end Go.Proofs.YtaehkcnankijfaaDoor

namespace Go.Proofs.YtaehkcnankijfaaDoor
open Go.RowKit

end Go.Proofs.YtaehkcnankijfaaDoor
