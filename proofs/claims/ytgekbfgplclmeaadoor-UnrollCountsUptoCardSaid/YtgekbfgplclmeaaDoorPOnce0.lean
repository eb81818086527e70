import Derived.Test.YtgekbfgplclmeaaDoorPEq
/- Heaps, plainly: an array as a function; sifting down. The order of blocks, plainly. The order of blocks, plainly: each block once, the first one first, and each behind the best one. -/
namespace Go.Proofs.YtgekbfgplclmeaaDoor
section
open Go.RowKit
end
section
open Go.RowKit
def ak3(out:List Nat)(b:Nat):Bool:=out.contains b
theorem aiS(out:List Nat)(b x:Nat):ak3 (out++[b]) x=(ak3 out x||x == b):=by
 rw [Aa1];simp [ak3]
end
section
open Go.RowKit
def atF(r:List Nat)(k:Nat)(x:Nat):Nat:=if ak3 (r.take k) x=true then r.idxOf x else 0
theorem aj6 {l:List Nat}{x:Nat}:ak3 l x=true↔x∈l:=by unfold ak3;exact List.contains_iff_mem
end
end Go.Proofs.YtgekbfgplclmeaaDoor
