/- Heaps, plainly: an array as a function; sifting down. The order of blocks, plainly. The order of blocks, plainly: each block once, the first one first, and each behind the best one. -/
import Derived.Test.YtnkogppgacappaaDoorPEq
namespace Go.Proofs.YtnkogppgacappaaDoor
open Go.RowKit

end Go.Proofs.YtnkogppgacappaaDoor

namespace Go.Proofs.YtnkogppgacappaaDoor
open Go.RowKit

def hadB (out : List Nat) (b : Nat) : Bool := out.contains b
theorem hadB_snoc (out : List Nat) (b x : Nat) : hadB (out ++ [b]) x = (hadB out x || x == b) := by
  rw [Bool.eq_iff_iff]
  simp [hadB]
end Go.Proofs.YtnkogppgacappaaDoor

namespace Go.Proofs.YtnkogppgacappaaDoor
open Go.RowKit

/-- Where a block stands in an order. -/
def atF (r : List Nat) (k : Nat) (x : Nat) : Nat := if hadB (r.take k) x = true then r.idxOf x else 0
theorem hadB_mem {l : List Nat} {x : Nat} : hadB l x = true ↔ x ∈ l := by unfold hadB; exact List.contains_iff_mem
end Go.Proofs.YtnkogppgacappaaDoor
