/- The heap of blocks in memory; its five methods' contracts. The heap of blocks: Swap and Pop. container/heap over the heap of blocks. container/heap's Init and Pop over the heap of blocks. The contract of weigh.lay. The contract of weigh.Lay. turnerysame.Fault, turnerysame.Ints, turneryref6.weighIn. turnerysame.Vals, Ins, Block, Func, Globals, Units, None, where both read the same: true. turnerysame.Globals, Units, None, where both read the same: true. -/
import Derived.Test.YtnkogppgacappaaDoorPOnce0
import Derived.Test.YtnkogppgacappaaDoorPCheck0
import Derived.Deep.QuietTactic
import Derived.BigQuiet
import Derived.RegionTactic
import Derived.BigRegion
import Derived.Test.YtnkogppgacappaaDoorPGAhd
import Derived.Deep.LoopGhost
import Derived.Test.YtnkogppgacappaaDoorPCheck
import Derived.Test.YtnkogppgacappaaDoorPCopyF
import Derived.Deep.RegionHeld3
import Derived.Test.YtnkogppgacappaaDoorPCopy
namespace Go.Proofs.YtnkogppgacappaaDoor
open Go.RowKit


end Go.Proofs.YtnkogppgacappaaDoor

namespace Go.Proofs.YtnkogppgacappaaDoor
open Go.RowKit

end Go.Proofs.YtnkogppgacappaaDoor

namespace Go.Proofs.YtnkogppgacappaaDoor
open Go.RowKit

end Go.Proofs.YtnkogppgacappaaDoor

namespace Go.Proofs.YtnkogppgacappaaDoor
open Go.RowKit

end Go.Proofs.YtnkogppgacappaaDoor

namespace Go.Proofs.YtnkogppgacappaaDoor
open Go.RowKit

theorem infoBool : (Tryd.prog.info? 4).map (fun i => (i.zero, i.size, i.bytes)) = some (some (.bool false), 1, 1) := by kernel_rfl

end Go.Proofs.YtnkogppgacappaaDoor

namespace Go.Proofs.YtnkogppgacappaaDoor
open Go.RowKit

/-- What a unit that code.Check lets through keeps. -/
theorem checkF_ok {u : DUnit} (h : (checkF u).1 = 0) : u.globals.length ≤ 10 ∧ u.funcs.length ≤ 10 ∧ (∀ k, globE u.globals k = 0) ∧ (∀ k, headsE u.globals u.funcs k = 0) ∧ (∀ k, bodiesE u.funcs k = 0) := by
  unfold checkF at h
  by_cases h1 : 10 < u.globals.length ∨ 10 < u.funcs.length
  · rw [if_pos h1] at h; simp at h
  rw [if_neg h1] at h
  by_cases h2 : posF (globE u.globals) u.globals.length < u.globals.length
  · rw [if_pos h2] at h; exact absurd h (posF_ne h2)
  rw [if_neg h2] at h
  by_cases h3 : posF (headsE u.globals u.funcs) u.funcs.length < u.funcs.length
  · rw [if_pos h3] at h; exact absurd h (posF_ne h3)
  rw [if_neg h3] at h
  by_cases h4 : posF (bodiesE u.funcs) u.funcs.length < u.funcs.length
  · rw [if_pos h4] at h; exact absurd h (posF_ne h4)
  refine ⟨by omega, by omega, fun k => ?_, fun k => ?_, fun k => ?_⟩
  · by_cases hk : k < u.globals.length
    · exact posF_inv h2 k hk
    · unfold globE; rw [List.getElem?_eq_none (by omega)]
  · by_cases hk : k < u.funcs.length
    · exact posF_inv h3 k hk
    · unfold headsE; rw [List.getElem?_eq_none (by omega)]
  · by_cases hk : k < u.funcs.length
    · exact posF_inv h4 k hk
    · unfold bodiesE; rw [List.getElem?_eq_none (by omega)]
end Go.Proofs.YtnkogppgacappaaDoor

namespace Go.Proofs.YtnkogppgacappaaDoor
open Go.RowKit



theorem int_at {S : Nat → Prop} {w : World} {a : Option Addr} {n c : Nat} {l : List Int} (h : SlAt S w 1 rInt (.slice a n c) l) {t : Nat} (ht : t < l.length) : ∃ b off, a = some ⟨b, off, none⟩ ∧ w.cell? ⟨b, off + t, none⟩ = some (.int .i64 l[t]) := by
  obtain ⟨b, off, cs, ha, -, ⟨rfl, -⟩, -, hcs⟩ := h.get ht
  have d := hcs.get1
  rw [Nat.mul_one] at d
  exact ⟨b, off, ha, d⟩

set_option maxRecDepth 100000 in
set_option maxHeartbeats 1000000 in
theorem ints_any {S S' : Nat → Prop} (a : Option Addr) (c : Nat) (l : List Int) (a' : Option Addr) (c' : Nat) (l' : List Int) (w : World) (h : SlAt S w 1 rInt (.slice a l.length c) l) (h' : SlAt S' w 1 rInt (.slice a' l'.length c') l') (hn : l.length ≤ 1048576) (hn' : l'.length ≤ 1048576) :
    Calls Tryd.prog 7 #[.slice a l.length c, .slice a' l'.length c'] w fun e w' => e = .returned (.bool (decide (l = l'))) ∧ Below w.heap.size w w' := by
  have H := hid h
  have H' := hid h'
  clear h h'
  go_enter Tryd.func7, Tryd.ntmps7
  by_cases hl : l.length = l'.length
  · go_wp2_with fail
    go_loopw [5] (fun i wr => ∃ (k q : Nat), k ≤ l.length ∧ i = .int .i64 k ∧ l.take k = l'.take k ∧ w.drewN q = wr) (fun i _ => l.length - (intOf i).toNat)
    case atStart => exact ⟨0, 0, Nat.zero_le _, rfl, rfl, rfl⟩
    case round =>
      obtain ⟨k, q, hk, rfl, htk, rfl⟩ := hrel
      have Htk := hid htk
      clear htk
      by_cases hkl : k < l.length
      · have hkl' : k < l'.length := by omega
        obtain ⟨b, off, rfl, c0⟩ := int_at H.out hkl
        obtain ⟨b', off', rfl, d0⟩ := int_at H'.out hkl'
        have hb1 : b < w.heap.size := cell_lt c0
        have hb2 : b' < w.heap.size := cell_lt d0
        by_cases he : l[k] = l'[k]
        · go_wp2_with fail
          go_quiet (fail)
          go_wp2_with fail
          go_roundw
          case rel => exact ⟨k + 1, _, by omega, by go_num, by rw [List.take_succ_eq_append_getElem hkl, List.take_succ_eq_append_getElem hkl', Htk.out, he], rfl⟩
          case measure => simp [intOf]; omega
        · go_wp2_with fail
          go_quiet (fail)
          go_wp2_with fail
          have hr : decide (l = l') = false := decide_eq_false (fun e => he (by subst e; rfl))
          rw [hr]
          go_ret
          exact ⟨rfl, by (repeat (first | exact Below.refl _ _ | refine Below.alloc ?_ (by first | omega | (simp <;> omega)) _ | refine Below.setCell ?_ (by first | omega | (simp <;> omega)) _ | refine below_drewN ?_ _ | refine Below.drew ?_))⟩
      · obtain rfl : k = l.length := by omega
        go_wp2_with fail
        have hr : decide (l = l') = true := decide_eq_true (by have h := Htk.out; rw [List.take_length, hl, List.take_length] at h; exact h)
        rw [hr]
        go_ret
        exact ⟨rfl, by (repeat (first | exact Below.refl _ _ | refine Below.alloc ?_ (by first | omega | (simp <;> omega)) _ | refine Below.setCell ?_ (by first | omega | (simp <;> omega)) _ | refine below_drewN ?_ _ | refine Below.drew ?_))⟩
  · go_wp2_with fail
    have hr : decide (l = l') = false := decide_eq_false (fun e => hl (by rw [e]))
    rw [hr]
    go_ret
    exact ⟨rfl, Below.refl _ _⟩

end Go.Proofs.YtnkogppgacappaaDoor

namespace Go.Proofs.YtnkogppgacappaaDoor
open Go.RowKit

end Go.Proofs.YtnkogppgacappaaDoor

namespace Go.Proofs.YtnkogppgacappaaDoor
open Go.RowKit

end Go.Proofs.YtnkogppgacappaaDoor
