/- calls.Copy: a unit of the call's own memory. -/
import Derived.Test.YtnkogppgacappaaDoorPCopyF
namespace Go.Proofs.YtnkogppgacappaaDoor
open Go.RowKit

theorem func_at {S : Nat → Prop} {w : World} {a : Option Addr} {n c : Nat} {l : List DFunc} (h : SlAt S w 4 rFunc (.slice a n c) l) {k : Nat} (hk : k < l.length) :
    ∃ b off xa xc, a = some ⟨b, off, none⟩ ∧ CellsAt w b (off + k * 4) [.string l[k].name, .int .i64 l[k].params, .int .i64 l[k].regs, .slice xa l[k].blocks.length xc] ∧ SlAt S w 6 rBlock (.slice xa l[k].blocks.length xc) l[k].blocks ∧ I64 l[k].params ∧ I64 l[k].regs := by
  obtain ⟨b, off, cs, ha, -, hr, -, hcs⟩ := h.get hk
  obtain ⟨xa, xc, rfl, h1, -, h2, h3⟩ := hr.opens
  exact ⟨b, off, xa, xc, ha, hcs, h1, h2, h3⟩

/-- The sizes of a function that are asked of it. -/
structure SmallF (f : DFunc) : Prop where
  blocks : f.blocks.length ≤ 1048576
  each : ∀ x ∈ f.blocks, SmallB x

end Go.Proofs.YtnkogppgacappaaDoor
