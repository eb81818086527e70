/- slices.Reverse of a row of numbers of the call's own. graph.Post and graph.OrderOf. -/
import Derived.Test.YtaehkcnankijfaaDoorPTurnT
import Derived.Test.YtaehkcnankijfaaDoorPStillR
import Derived.BigRegion
import Derived.Test.YtaehkcnankijfaaDoorPPost
import Derived.Test.YtaehkcnankijfaaDoorPSsa0
namespace Go.Proofs.YtaehkcnankijfaaDoor
open Go.RowKit

end Go.Proofs.YtaehkcnankijfaaDoor

namespace Go.Proofs.YtaehkcnankijfaaDoor
open Go.RowKit

theorem OwnInts.low {base base' : Nat} {w : World} {v : Value} {l : List Int} (h : OwnInts base w v l) (hb : base' ≤ base) : OwnInts base' w v l := by
  refine ⟨⟨h.1.1, ?_⟩, h.2⟩
  rcases h.1.2 with h1 | ⟨g, cap, cur, e1, h2, h3⟩
  · exact .inl h1
  · exact .inr ⟨g, cap, cur, e1, Nat.le_trans hb h2, h3⟩

@[go_sem] theorem run_store_fn (P : Program) (w : World) (a : Addr) (m : Mode) (fn : Fn) (first captured : Array Value) : (store a (.func fn first captured) m).run P w = stored P w a (.func fn first captured) m := run_store P w a _ m rfl

end Go.Proofs.YtaehkcnankijfaaDoor
