/- calls.CopyFunc: a function of the call's own memory. turneryref6.unrollAhead: the blocks that lead to a block. -/
import Derived.Test.YtaehkcnankijfaaDoorPBack
import Derived.Deep.RegionLaw
import Derived.Deep.RegionWith
import Derived.Test.YtaehkcnankijfaaDoorPAhd
namespace Go.Proofs.YtaehkcnankijfaaDoor
open Go.RowKit

/-- The sizes of a block that are asked of it. -/
structure SmallB (x : DBlock) : Prop where
  phis : x.phis.length ≤ 1048576
  list : x.list.length ≤ 1048576
  to : x.fin.to.length ≤ 1048576
  src : ∀ p ∈ x.phis, p.src.length ≤ 1048576
  args : ∀ i ∈ x.list, i.args.length ≤ 1048576

theorem block_at {S : Nat → Prop} {w : World} {a : Option Addr} {n c : Nat} {l : List DBlock} (h : SlAt S w 6 rBlock (.slice a n c) l) {k : Nat} (hk : k < l.length) :
    ∃ b off pa pc la lc ta tc, a = some ⟨b, off, none⟩ ∧ CellsAt w b (off + k * 6) [.slice pa l[k].phis.length pc, .slice la l[k].list.length lc, .int .i64 l[k].fin.kind, .bool l[k].fin.on.reg, .int .i64 l[k].fin.on.n, .slice ta l[k].fin.to.length tc] ∧
      SlAt S w 2 rPhi (.slice pa l[k].phis.length pc) l[k].phis ∧ SlAt S w 8 rIns (.slice la l[k].list.length lc) l[k].list ∧ SlAt S w 1 rInt (.slice ta l[k].fin.to.length tc) l[k].fin.to ∧ I64 l[k].fin.kind ∧ I64 l[k].fin.on.n := by
  obtain ⟨b, off, cs, ha, -, hr, -, hcs⟩ := h.get hk
  obtain ⟨pa, pc, la, lc, ta, tc, rfl, h1, h2, h3, -, -, -, h4, h5⟩ := hr.opens
  exact ⟨b, off, pa, pc, la, lc, ta, tc, ha, hcs, h1, h2, h3, h4, h5⟩

end Go.Proofs.YtaehkcnankijfaaDoor

namespace Go.Proofs.YtaehkcnankijfaaDoor
open Go.RowKit

theorem hits_len9 (to : List Int) (t i : Nat) : (hits to t i).length ≤ to.length := by
  unfold hits
  rw [List.length_map]
  exact List.length_filter_le _ _
theorem predsOf_len (t : Nat) : ∀ (l : List DBlock) (s : Nat), (∀ x ∈ l, x.fin.to.length ≤ 2) → (predsOf l s t).length ≤ 2 * l.length
  | [], _, _ => by simp [predsOf]
  | b :: r, s, h => by
    have h1 := predsOf_len t r (s + 1) (fun x hx => h x (by simp [hx]))
    have h2 := hits_len9 b.fin.to t s
    have h3 := h b (by simp)
    simp only [predsOf, List.length_append, List.length_cons]
    omega

theorem int_at9 {S : Nat → Prop} {w : World} {a : Option Addr} {n c : Nat} {l : List Int} (h : SlAt S w 1 rInt (.slice a n c) l) {t : Nat} (ht : t < l.length) : ∃ b off, a = some ⟨b, off, none⟩ ∧ w.cell? ⟨b, off + t, none⟩ = some (.int .i64 l[t]) := by
  obtain ⟨b, off, cs, ha, -, ⟨rfl, -⟩, -, hcs⟩ := h.get ht
  have d := hcs.get1
  rw [Nat.mul_one] at d
  exact ⟨b, off, ha, d⟩

end Go.Proofs.YtaehkcnankijfaaDoor
