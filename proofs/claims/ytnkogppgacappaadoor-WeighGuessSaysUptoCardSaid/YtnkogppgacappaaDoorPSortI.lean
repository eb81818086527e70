/- ever.tells in plain Lean. No program in sight. calls.graph in plain Lean: whom each function calls, sorted, each once. No program in sight. slices.Sort and slices.Compact of a row of numbers of the call's own. -/
import Derived.Test.YtnkogppgacappaaDoorPSsa0
import Derived.Test.YtnkogppgacappaaDoorPReach0
import Derived.Lib.SlicesCompact
import Derived.Test.YtnkogppgacappaaDoorPLays
import Derived.Test.YtnkogppgacappaaDoorPRowSt
import Derived.Sort.OwnSortedInts
namespace Go.Proofs.YtnkogppgacappaaDoor
open Go.RowKit

end Go.Proofs.YtnkogppgacappaaDoor

namespace Go.Proofs.YtnkogppgacappaaDoor

def sortI (l : List Int) : List Int := l.mergeSort fun x y => decide (x ≤ y)
theorem sortI_len (l : List Int) : (sortI l).length = l.length := by unfold sortI; exact List.length_mergeSort _
end Go.Proofs.YtnkogppgacappaaDoor

namespace Go.Proofs.YtnkogppgacappaaDoor
open Go.RowKit Go.Shelf Go.Sort

theorem sort_own {base : Nat} {w : World} {v : Value} {l : List Int} (h : OwnInts base w v l) (hl : l.length ≤ 1048576) :
    Calls Tryd.prog 33 #[v] w fun e w' => e = .returned (.tuple #[]) ∧ OwnInts base w' v (sortI l) ∧ w.grownBy w' v.ownBlock := by
  obtain ⟨h1, h2⟩ := h
  have hlen := sortI_len l
  have hi : ∀ x ∈ sortI l, I64 x := fun x hx => h2 x (by unfold sortI at hx; rwa [List.mem_mergeSort] at hx)
  rcases h1.2 with ⟨rfl, h0⟩ | ⟨g, cap, cur, rfl, hg, hh, hn, hm, hsz, ht⟩
  · have hl0 : l = [] := List.length_eq_zero_iff.1 h0
    subst hl0
    refine (Any.slices_Sort_int_none laysSort none 0 w).mono ?_
    rintro e w' ⟨rfl, rfl⟩
    exact ⟨rfl, ⟨by simpa [sortI] using World.ownsRow_nil _ base 3 1, fun x hx => hi x hx⟩, ⟨rfl, rfl, rfl, Nat.le_refl _, fun _ _ _ => rfl⟩⟩
  · have hglt : g < w.heap.size := (Array.getElem?_eq_some_iff.1 hh).1
    rw [Nat.mul_one] at ht
    refine (Any.slices_Sort_int laysSort g 0 cap l w (holds_of_blockI hh ht) hglt (by omega)).mono ?_
    rintro e w' ⟨rfl, n, os, rfl⟩
    refine ⟨rfl, ⟨?_, hi⟩, grownBy_sortedI _⟩
    have h3 := ownsRow_sortedI (n := n) (os := os) hlen hg hh hn hm hsz
    rw [← hlen] at h3 ⊢
    exact h3


end Go.Proofs.YtnkogppgacappaaDoor
