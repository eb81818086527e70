/- The contract of weigh.Lay. turnerysame.Fault, turnerysame.Ints, turneryref6.weighIn. ssa.checker.write: a register is written, for the first time or not. -/
import Derived.Test.YtaehkcnankijfaaDoorPLay
import Derived.Test.YtaehkcnankijfaaDoorPCheck
import Derived.RegionTactic
import Derived.BigRegion
import Derived.Deep.LoopGhost
namespace Go.Proofs.YtaehkcnankijfaaDoor
open Go.RowKit

/-- What a unit that code.Check lets through keeps. -/
theorem checkF_ok {u : DUnit} (h : (checkF u).1 = 0) : u.globals.length ≤ 10 ∧ u.funcs.length ≤ 10 ∧ (∀ k, globE u.globals k = 0) ∧ (∀ k, headsE u.globals u.funcs k = 0) ∧ (∀ k, bodiesE u.funcs k = 0) := by
  unfold checkF at h
  by_cases h1 : 10 < u.globals.length ∨ 10 < u.funcs.length
  · rw [if_pos h1] at h; simp at h
  rw [if_neg h1] at h
  by_cases h2 : posF (globE u.globals) u.globals.length < u.globals.length
  · rw [if_pos h2] at h; exact absurd h (posF_ne h2)
  rw [if_neg h2] at h
  by_cases h3 : posF (headsE u.globals u.funcs) u.funcs.length < u.funcs.length
  · rw [if_pos h3] at h; exact absurd h (posF_ne h3)
  rw [if_neg h3] at h
  by_cases h4 : posF (bodiesE u.funcs) u.funcs.length < u.funcs.length
  · rw [if_pos h4] at h; exact absurd h (posF_ne h4)
  refine ⟨by omega, by omega, fun k => ?_, fun k => ?_, fun k => ?_⟩
  · by_cases hk : k < u.globals.length
    · exact posF_inv h2 k hk
    · unfold globE; rw [List.getElem?_eq_none (by omega)]
  · by_cases hk : k < u.funcs.length
    · exact posF_inv h3 k hk
    · unfold headsE; rw [List.getElem?_eq_none (by omega)]
  · by_cases hk : k < u.funcs.length
    · exact posF_inv h4 k hk
    · unfold bodiesE; rw [List.getElem?_eq_none (by omega)]
theorem checkF_func {u : DUnit} (h : (checkF u).1 = 0) {k : Nat} {f : DFunc} (hf : u.funcs[k]? = some f) :
    1 ≤ f.blocks.length ∧ f.blocks.length ≤ 40 ∧ (∀ (i : Nat) (x : DBlock), f.blocks[i]? = some x → endE f.blocks.length f.regs x.fin = 0) := by
  obtain ⟨-, -, -, h2, h3⟩ := checkF_ok h
  have g2 := h2 k
  have g3 := h3 k
  unfold headsE at g2
  unfold bodiesE at g3
  rw [hf] at g2 g3
  obtain ⟨-, -, -, -, -, -, e1, e2, -⟩ := headE_ok g2
  refine ⟨e1, e2, fun i x hx => ?_⟩
  dsimp only at g3
  unfold bodyE at g3
  by_cases h4 : firstF (endsE f.regs f.blocks) f.blocks.length = 0
  · have h5 := firstF_inv h4 i (List.getElem?_eq_some_iff.1 hx).1
    unfold endsE at h5
    rw [hx] at h5
    exact h5
  · rw [if_pos h4] at g3; exact absurd g3 h4

theorem stays_set {S : Nat → Prop} {w : World} {p : Addr} (v : Value) (h : ∀ b, S b → b ≠ p.block) : Stays S w (w.setCell p v) := fun b o x hb hc => by
  rw [World.cell?_of_block (w := w) (a := ⟨b, o, none⟩) (Below.heap_setCell _ _ _ _ (h b hb))]; exact hc

end Go.Proofs.YtaehkcnankijfaaDoor

namespace Go.Proofs.YtaehkcnankijfaaDoor
open Go.RowKit

set_option maxHeartbeats 400000 in
theorem sfault_any (c a : Int) (w : World) :
    Calls Tryd.prog 17 #[.int .i64 c, .int .i64 a] w fun e w' => e = .returned (.agg #[.int .i64 c, .int .i64 a]) ∧ Below w.heap.size w w' := by
  go_enter Tryd.func17, Tryd.ntmps17
  go_wp2
  refine bodyPost_ret (v := _) ?_ rfl ⟨rfl, ?_⟩
  · simp [results, Tryd.results17, go_sem]
  · (repeat (first | exact Below.refl _ _ | refine Below.alloc ?_ (by first | omega | (simp <;> omega)) _ | refine Below.setCell ?_ (by first | omega | (simp <;> omega)) _ | refine below_drewN ?_ _ | refine Below.drew ?_))

theorem int_at {S : Nat → Prop} {w : World} {a : Option Addr} {n c : Nat} {l : List Int} (h : SlAt S w 1 rInt (.slice a n c) l) {t : Nat} (ht : t < l.length) : ∃ b off, a = some ⟨b, off, none⟩ ∧ w.cell? ⟨b, off + t, none⟩ = some (.int .i64 l[t]) := by
  obtain ⟨b, off, cs, ha, -, ⟨rfl, -⟩, -, hcs⟩ := h.get ht
  have d := hcs.get1
  rw [Nat.mul_one] at d
  exact ⟨b, off, ha, d⟩

end Go.Proofs.YtaehkcnankijfaaDoor

namespace Go.Proofs.YtaehkcnankijfaaDoor
open Go.RowKit

set_option maxRecDepth 100000 in
set_option maxHeartbeats 2000000 in
theorem write_any (CB RB n cap r : Nat) (b a x y : Int) (w : World) (hc : w.cell? ⟨CB, 5, none⟩ = some (.slice (some ⟨RB, 0, none⟩) n cap)) (c0 : w.cell? ⟨RB, r * 2, none⟩ = some (.int .i64 x)) (c1 : w.cell? ⟨RB, r * 2 + 1, none⟩ = some (.int .i64 y))
    (f0 : w.frozen? ⟨RB, r * 2, none⟩ = false) (f1 : w.frozen? ⟨RB, r * 2 + 1, none⟩ = false) (hr : r < n) (_hn : n ≤ 1048576) :
    Calls Tryd.prog 141 #[.pointer (some ⟨CB, 0, none⟩), .int .i64 (r : Int), .int .i64 b, .int .i64 a] w fun e w' =>
      e = .returned (.bool (!decide (0 ≤ x))) ∧ w' = if 0 ≤ x then w else (w.setCell ⟨RB, r * 2, none⟩ (.int .i64 b)).setCell ⟨RB, r * 2 + 1, none⟩ (.int .i64 a) := by
  by_cases hx : 0 ≤ x
  · have q : decide (0 ≤ x) = true := decide_eq_true hx
    have Hv : Hid ((!decide (0 ≤ x)) = false) := by show _ = _; rw [q]; rfl
    rw [Hv.out, if_pos hx]
    go_enter Tryd.func141, Tryd.ntmps141
    go_wp2_with fail
    go_ret
    exact ⟨rfl, rfl⟩
  · have q : decide (0 ≤ x) = false := decide_eq_false hx
    have Hv : Hid ((!decide (0 ≤ x)) = true) := by show _ = _; rw [q]; rfl
    rw [Hv.out, if_neg hx]
    go_enter Tryd.func141, Tryd.ntmps141
    go_wp2_with fail
    go_ret
    exact ⟨rfl, rfl⟩

end Go.Proofs.YtaehkcnankijfaaDoor
