/- The contract of weigh.lay. -/
import Derived.Test.YtaehkcnankijfaaDoorPOnce0
import Derived.Test.YtaehkcnankijfaaDoorPHeap4
import Derived.Test.YtaehkcnankijfaaDoorPAhd
import Derived.Deep.LoopGhost
namespace Go.Proofs.YtaehkcnankijfaaDoor
open Go.RowKit

theorem infoBool : (Tryd.prog.info? 4).map (fun i => (i.zero, i.size, i.bytes)) = some (some (.bool false), 1, 1) := by kernel_rfl

end Go.Proofs.YtaehkcnankijfaaDoor
