/- A function with its blocks in another order, plainly. turn's copy of a block: its merges, as far as their sources are laid anew. turn's great loop: the state between two blocks, and a block's storing. -/
import Derived.Test.YtaehkcnankijfaaDoorPOnce0
import Derived.Test.YtaehkcnankijfaaDoorPAhd
import Derived.Test.YtaehkcnankijfaaDoorPBack
import Derived.Test.YtaehkcnankijfaaDoorPRefA
namespace Go.Proofs.YtaehkcnankijfaaDoor
open Go.RowKit

end Go.Proofs.YtaehkcnankijfaaDoor

namespace Go.Proofs.YtaehkcnankijfaaDoor
open Go.RowKit


end Go.Proofs.YtaehkcnankijfaaDoor

namespace Go.Proofs.YtaehkcnankijfaaDoor
open Go.RowKit

theorem heap_set_row {w : World} {b i : Nat} {cur : Array Value} {T : TypeId} {f : Nat × Nat} (h : w.heap[b]? = some (.cells cur T f)) (u : Value) : (w.setCell ⟨b, i, none⟩ u).heap[b]? = some (.cells (cur.setIfInBounds i u) T f) := by
  simp [World.setCell, Array.getElem?_modify, h]
theorem cell_row {w : World} {b i : Nat} {cur : Array Value} {T : TypeId} {f : Nat × Nat} (h : w.heap[b]? = some (.cells cur T f)) : w.cell? ⟨b, i, none⟩ = cur[i]? := by
  simp [World.cell?, h]
end Go.Proofs.YtaehkcnankijfaaDoor
