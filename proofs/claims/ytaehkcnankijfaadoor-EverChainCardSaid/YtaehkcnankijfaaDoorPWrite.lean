/- The contract of weigh.Lay. turnerysame.Fault, turnerysame.Ints, turneryref6.weighIn. ssa.checker.write: a register is written, for the first time or not. -/
import Derived.Test.YtaehkcnankijfaaDoorPLay
import Derived.Test.YtaehkcnankijfaaDoorPCheck
import Derived.RegionTactic
import Derived.BigRegion
import Derived.Deep.LoopGhost
namespace Go.Proofs.YtaehkcnankijfaaDoor
open Go.RowKit

/-- What a unit that code.Check lets through keeps. -/
theorem checkF_ok {u : DUnit} (h : (checkF u).1 = 0) : u.globals.length ≤ 10 ∧ u.funcs.length ≤ 10 ∧ (∀ k, globE u.globals k = 0) ∧ (∀ k, headsE u.globals u.funcs k = 0) ∧ (∀ k, bodiesE u.funcs k = 0) := by
  unfold checkF at h
  by_cases h1 : 10 < u.globals.length ∨ 10 < u.funcs.length
  · rw [if_pos h1] at h; simp at h
  rw [if_neg h1] at h
  by_cases h2 : posF (globE u.globals) u.globals.length < u.globals.length
  · rw [if_pos h2] at h; exact absurd h (posF_ne h2)
  rw [if_neg h2] at h
  by_cases h3 : posF (headsE u.globals u.funcs) u.funcs.length < u.funcs.length
  · rw [if_pos h3] at h; exact absurd h (posF_ne h3)
  rw [if_neg h3] at h
  by_cases h4 : posF (bodiesE u.funcs) u.funcs.length < u.funcs.length
  · rw [if_pos h4] at h; exact absurd h (posF_ne h4)
  refine ⟨by omega, by omega, fun k => ?_, fun k => ?_, fun k => ?_⟩
  · by_cases hk : k < u.globals.length
    · exact posF_inv h2 k hk
    · unfold globE; rw [List.getElem?_eq_none (by omega)]
  · by_cases hk : k < u.funcs.length
    · exact posF_inv h3 k hk
    · unfold headsE; rw [List.getElem?_eq_none (by omega)]
  · by_cases hk : k < u.funcs.length
    · exact posF_inv h4 k hk
    · unfold bodiesE; rw [List.getElem?_eq_none (by omega)]
end Go.Proofs.YtaehkcnankijfaaDoor

namespace Go.Proofs.YtaehkcnankijfaaDoor
open Go.RowKit

theorem int_at {S : Nat → Prop} {w : World} {a : Option Addr} {n c : Nat} {l : List Int} (h : SlAt S w 1 rInt (.slice a n c) l) {t : Nat} (ht : t < l.length) : ∃ b off, a = some ⟨b, off, none⟩ ∧ w.cell? ⟨b, off + t, none⟩ = some (.int .i64 l[t]) := by
  obtain ⟨b, off, cs, ha, -, ⟨rfl, -⟩, -, hcs⟩ := h.get ht
  have d := hcs.get1
  rw [Nat.mul_one] at d
  exact ⟨b, off, ha, d⟩

end Go.Proofs.YtaehkcnankijfaaDoor

namespace Go.Proofs.YtaehkcnankijfaaDoor
open Go.RowKit

end Go.Proofs.YtaehkcnankijfaaDoor
