/- turnerysame.Vals, Ins, Block, Func, Globals, Units, None, where both read the same: true. turnerysame.Globals, Units, None, where both read the same: true. -/
import Derived.Test.YtaehkcnankijfaaDoorPRefA
import Derived.Test.YtaehkcnankijfaaDoorPWrite
import Derived.Deep.RegionHeld3
import Derived.Test.YtaehkcnankijfaaDoorPCopy
namespace Go.Proofs.YtaehkcnankijfaaDoor
open Go.RowKit

end Go.Proofs.YtaehkcnankijfaaDoor

namespace Go.Proofs.YtaehkcnankijfaaDoor
open Go.RowKit

end Go.Proofs.YtaehkcnankijfaaDoor
