/- The contract of weigh.lay. -/
import Derived.Test.YtnkogppgacappaaGreatDoorPFour
import Derived.Test.YtnkogppgacappaaGreatDoorPHeap4
import Derived.Test.YtnkogppgacappaaGreatDoorPGAhd
import Derived.Deep.LoopGhost
namespace Go.Proofs.YtnkogppgacappaaGreatDoor
open Go.RowKit

theorem infoBool:(Tryz.prog.info? 4).map (fun i=>(i.zero,i.size,i.bytes))=some (some (.bool false),1,1):=by kernel_rfl

end Go.Proofs.YtnkogppgacappaaGreatDoor
