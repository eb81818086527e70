import Derived.Test.YtnkfdeiigplhoaaGreatDoorPWrite
/- The contract of the reference turneryref6.WeighLay. -/
namespace Go.Proofs.YtnkfdeiigplhoaaGreatDoor
open Go.RowKit
end Go.Proofs.YtnkfdeiigplhoaaGreatDoor
