import Derived.Test.YtnkfdeiigplhoaaGreatDoorPStill0
import Derived.Test.YtnkfdeiigplhoaaGreatDoorPRefLay
import Derived.Deep.RegionHeld3
/- The law WeighLaySays: its walk. -/
namespace Go.Proofs.YtnkfdeiigplhoaaGreatDoor
open Go.RowKit
end Go.Proofs.YtnkfdeiigplhoaaGreatDoor
