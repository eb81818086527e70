import Derived.Test.YtnkfdeiigplhoaaGreatDoorPRepI
import Derived.Test.YtnkfdeiigplhoaaGreatDoorPSortI
/- slices.Repeat of a list of one pair of numbers (ssa.written). ssa.checker.writes: all registers that a function writes. -/
namespace Go.Proofs.YtnkfdeiigplhoaaGreatDoor
section
open Go.RowKit Go.Lib
end
section
open Go.RowKit
end
end Go.Proofs.YtnkfdeiigplhoaaGreatDoor
