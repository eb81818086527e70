import Derived.Test.YtpeejlpcikefcaaGreatDoorPEq
/- Heaps, plainly: an array as a function; sifting down. The order of blocks, plainly. -/
namespace Go.Proofs.YtpeejlpcikefcaaGreatDoor
section
open Go.RowKit
end
section
open Go.RowKit
def ast(out:List Nat)(b:Nat):Bool:=out.contains b
theorem aoW(out:List Nat)(b x:Nat):ast (out++[b]) x=(ast out x||x == b):=by
 rw [Abe];simp [ast]
end
end Go.Proofs.YtpeejlpcikefcaaGreatDoor
