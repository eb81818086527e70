import Derived.Test.YtpeejlpcikefcaaGreatDoorPEq
/- Heaps, plainly: an array as a function; sifting down. The order of blocks, plainly. -/
namespace Go.Proofs.YtpeejlpcikefcaaGreatDoor
section
open Go.RowKit
end
section
open Go.RowKit
def asD(out:List Nat)(b:Nat):Bool:=out.contains b
theorem aoV(out:List Nat)(b x:Nat):asD (out++[b]) x=(asD out x||x == b):=by
 rw [Abe];simp [asD]
end
end Go.Proofs.YtpeejlpcikefcaaGreatDoor
