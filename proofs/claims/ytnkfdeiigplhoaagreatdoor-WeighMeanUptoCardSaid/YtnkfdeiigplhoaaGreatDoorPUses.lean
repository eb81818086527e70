import Derived.Test.YtnkfdeiigplhoaaGreatDoorPWrites
import Derived.Test.YtnkfdeiigplhoaaGreatDoorPValq
/- A loop over a function whose variable lies in a box of its own, made anew each round. ssa.checker.uses: is what is taken known? -/
namespace Go.Proofs.YtnkfdeiigplhoaaGreatDoor
section
open Go.RowKit
end
section
open Go.RowKit Go.Shelf Go.Sort
attribute [local go_sem] Oper.semAt_some
end
end Go.Proofs.YtnkfdeiigplhoaaGreatDoor
