/- calls.CopyFunc: a function of the call's own memory. calls.Copy: a unit of the call's own memory. -/
import Derived.Test.YtaehkcnankijfaaDoorPBack
import Derived.Deep.RegionLaw
import Derived.Deep.RegionWith
namespace Go.Proofs.YtaehkcnankijfaaDoor
open Go.RowKit

/-- The sizes of a block that are asked of it. -/
structure SmallB (x : DBlock) : Prop where
  phis : x.phis.length ≤ 1048576
  list : x.list.length ≤ 1048576
  to : x.fin.to.length ≤ 1048576
  src : ∀ p ∈ x.phis, p.src.length ≤ 1048576
  args : ∀ i ∈ x.list, i.args.length ≤ 1048576

theorem block_at {S : Nat → Prop} {w : World} {a : Option Addr} {n c : Nat} {l : List DBlock} (h : SlAt S w 6 rBlock (.slice a n c) l) {k : Nat} (hk : k < l.length) :
    ∃ b off pa pc la lc ta tc, a = some ⟨b, off, none⟩ ∧ CellsAt w b (off + k * 6) [.slice pa l[k].phis.length pc, .slice la l[k].list.length lc, .int .i64 l[k].fin.kind, .bool l[k].fin.on.reg, .int .i64 l[k].fin.on.n, .slice ta l[k].fin.to.length tc] ∧
      SlAt S w 2 rPhi (.slice pa l[k].phis.length pc) l[k].phis ∧ SlAt S w 8 rIns (.slice la l[k].list.length lc) l[k].list ∧ SlAt S w 1 rInt (.slice ta l[k].fin.to.length tc) l[k].fin.to ∧ I64 l[k].fin.kind ∧ I64 l[k].fin.on.n := by
  obtain ⟨b, off, cs, ha, -, hr, -, hcs⟩ := h.get hk
  obtain ⟨pa, pc, la, lc, ta, tc, rfl, h1, h2, h3, -, -, -, h4, h5⟩ := hr.opens
  exact ⟨b, off, pa, pc, la, lc, ta, tc, ha, hcs, h1, h2, h3, h4, h5⟩

end Go.Proofs.YtaehkcnankijfaaDoor

namespace Go.Proofs.YtaehkcnankijfaaDoor
open Go.RowKit

theorem func_at {S : Nat → Prop} {w : World} {a : Option Addr} {n c : Nat} {l : List DFunc} (h : SlAt S w 4 rFunc (.slice a n c) l) {k : Nat} (hk : k < l.length) :
    ∃ b off xa xc, a = some ⟨b, off, none⟩ ∧ CellsAt w b (off + k * 4) [.string l[k].name, .int .i64 l[k].params, .int .i64 l[k].regs, .slice xa l[k].blocks.length xc] ∧ SlAt S w 6 rBlock (.slice xa l[k].blocks.length xc) l[k].blocks ∧ I64 l[k].params ∧ I64 l[k].regs := by
  obtain ⟨b, off, cs, ha, -, hr, -, hcs⟩ := h.get hk
  obtain ⟨xa, xc, rfl, h1, -, h2, h3⟩ := hr.opens
  exact ⟨b, off, xa, xc, ha, hcs, h1, h2, h3⟩

/-- The sizes of a function that are asked of it. -/
structure SmallF (f : DFunc) : Prop where
  blocks : f.blocks.length ≤ 1048576
  each : ∀ x ∈ f.blocks, SmallB x

end Go.Proofs.YtaehkcnankijfaaDoor
