/- graph.Post: a visit of a block (the closure that calls itself within a loop over a function). -/
import Derived.Test.YtaehkcnankijfaaDoorPWar0
import Derived.Test.YtaehkcnankijfaaDoorPBack
import Derived.Test.YtaehkcnankijfaaDoorPMarks
import Derived.Test.YtaehkcnankijfaaDoorPStillR
import Derived.Test.YtaehkcnankijfaaDoorPStill
import Derived.Maps.OwnIn
namespace Go.Proofs.YtaehkcnankijfaaDoor
open Go.RowKit Go.Shelf

attribute [local go_sem] Oper.semAt_some

theorem own_ge {base : Nat} {w : World} {v : Value} {l : List Int} (h : OwnInts base w v l) {g : Nat} (hg : v.ownBlock = some g) : base ≤ g ∧ g < w.heap.size := by
  rcases h.1.2 with ⟨rfl, -⟩ | ⟨g', cap, cur, rfl, h1, h2, -⟩
  · cases hg
  · cases hg; exact ⟨h1, (Array.getElem?_eq_some_iff.1 h2).1⟩
end Go.Proofs.YtaehkcnankijfaaDoor
