/- turnerysame.Vals, Ins, Block, Func, Globals, Units, None, where both read the same: true. turnerysame.Globals, Units, None, where both read the same: true. -/
import Derived.Test.YtaehkcnankijfaaDoorPCopy
import Derived.Test.YtaehkcnankijfaaDoorPWrite
import Derived.Deep.RegionHeld3
namespace Go.Proofs.YtaehkcnankijfaaDoor
open Go.RowKit

theorem val_at {S : Nat → Prop} {w : World} {a : Option Addr} {n c : Nat} {l : List DVal} (h : SlAt S w 2 rVal (.slice a n c) l) {k : Nat} (hk : k < l.length) :
    ∃ b off, a = some ⟨b, off, none⟩ ∧ w.cell? ⟨b, off + k * 2, none⟩ = some (.bool l[k].reg) ∧ w.cell? ⟨b, off + k * 2 + 1, none⟩ = some (.int .i64 l[k].n) := by
  obtain ⟨b, off, cs, ha, -, ⟨rfl, -⟩, -, hcs⟩ := h.get hk
  obtain ⟨c0, c1⟩ := hcs.get2
  exact ⟨b, off, ha, c0, c1⟩

end Go.Proofs.YtaehkcnankijfaaDoor

namespace Go.Proofs.YtaehkcnankijfaaDoor
open Go.RowKit

end Go.Proofs.YtaehkcnankijfaaDoor
