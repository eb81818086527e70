import Derived.Test.YtpeejlpcikefcaaGreatDoorPCloneR
/- turneryref5.CloneBlock: a block of the call's own memory. turneryref5.Clone: a unit of the call's own memory. -/
namespace Go.Proofs.YtpeejlpcikefcaaGreatDoor
section
open Go.RowKit
end
section
open Go.RowKit
end
end Go.Proofs.YtpeejlpcikefcaaGreatDoor
