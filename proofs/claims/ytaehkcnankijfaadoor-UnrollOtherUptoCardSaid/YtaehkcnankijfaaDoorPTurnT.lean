/- A function with its blocks in another order, plainly. turn's copy of a block: its merges, as far as their sources are laid anew. turn's great loop: the state between two blocks, and a block's storing. -/
import Derived.Test.YtaehkcnankijfaaDoorPOnce0
import Derived.Test.YtaehkcnankijfaaDoorPRefA
import Derived.Test.YtaehkcnankijfaaDoorPBack
import Derived.Test.YtaehkcnankijfaaDoorPCopy
namespace Go.Proofs.YtaehkcnankijfaaDoor
open Go.RowKit

def noBlock : DBlock := ⟨[], [], ⟨0, ⟨false, 0⟩, []⟩⟩
/-- Places, as far as they are set. -/
theorem atF_step' {r : List Nat} (hinj : ∀ i j (hi : i < r.length) (hj : j < r.length), r[i] = r[j] → i = j) {k : Nat} (hk : k < r.length) (x : Nat) : atF r (k + 1) x = if x = r[k] then k else atF r k x := by
  unfold atF
  rw [List.take_succ_eq_append_getElem hk, hadB_snoc]
  by_cases hx : x = r[k]
  · subst hx
    have hm : r[k] ∈ r := List.getElem_mem _
    have hl : r.idxOf r[k] < r.length := List.idxOf_lt_length_iff.2 hm
    have := hinj _ _ hl hk (List.getElem_idxOf hl)
    rw [if_pos (by simp), if_pos rfl, this]
  · rw [if_neg hx, show (x == r[k]) = false by simpa using hx, Bool.or_false]
end Go.Proofs.YtaehkcnankijfaaDoor

namespace Go.Proofs.YtaehkcnankijfaaDoor
open Go.RowKit


end Go.Proofs.YtaehkcnankijfaaDoor

namespace Go.Proofs.YtaehkcnankijfaaDoor
open Go.RowKit

theorem heap_set_row {w : World} {b i : Nat} {cur : Array Value} {T : TypeId} {f : Nat × Nat} (h : w.heap[b]? = some (.cells cur T f)) (u : Value) : (w.setCell ⟨b, i, none⟩ u).heap[b]? = some (.cells (cur.setIfInBounds i u) T f) := by
  simp [World.setCell, Array.getElem?_modify, h]
theorem cell_row {w : World} {b i : Nat} {cur : Array Value} {T : TypeId} {f : Nat × Nat} (h : w.heap[b]? = some (.cells cur T f)) : w.cell? ⟨b, i, none⟩ = cur[i]? := by
  simp [World.cell?, h]
end Go.Proofs.YtaehkcnankijfaaDoor
