/- dom.Rules: the climb in a tree. ssa.checker.known: is what a value names written ahead of a place? -/
import Derived.Test.YtaehkcnankijfaaDoorPWrite
import Derived.BigRegion
import Derived.Deep.RegionHeld3
namespace Go.Proofs.YtaehkcnankijfaaDoor
open Go.RowKit

/-- One climbs from b on till one is at a, or above all. -/
def rulesF (up : List Int) (a : Int) : Nat → Int → Bool
  | 0, b => decide (a = b)
  | f + 1, b => if b < 0 ∨ b = a then decide (a = b) else rulesF up a f (up.getD b.toNat 0)

/-- A tree over n places: a rank falls on the way up. -/
structure TreeUp (up : List Int) (m : Nat → Nat) : Prop where
  step : ∀ k, k < up.length → up.getD k 0 = -1 ∨ ∃ j : Nat, up.getD k 0 = (j : Int) ∧ j < up.length ∧ m j < m k

def climbM (m : Nat → Nat) (x : Int) : Nat := if x < 0 then 0 else m x.toNat + 1
theorem climbM_nat (m : Nat → Nat) (k : Nat) : climbM m (k : Int) = m k + 1 := by unfold climbM; rw [if_neg (by omega), Int.toNat_natCast]
theorem climbM_neg (m : Nat → Nat) : climbM m (-1) = 0 := rfl

set_option maxRecDepth 100000 in
set_option maxHeartbeats 2000000 in
theorem rules_any {S : Nat → Prop} (va : Option Addr) (vc n : Nat) (up : List Int) (m : Nat → Nat) (a b : Int) (w : World) (h : SlAt S w 1 rInt (.slice va n vc) up) (hn : up.length = n) (_hn2 : n ≤ 1048576) (hm : TreeUp up m) (hb : b < (n : Int)) :
    Calls Tryd.prog 156 #[.slice va n vc, .int .i64 a, .int .i64 b] w fun e w' => e = .returned (.bool (rulesF up a (m b.toNat + 1) b)) ∧ w' = w := by
  have H := hid h
  have Hn := hid hn
  have Hm := hid hm
  clear h hn hm
  go_enter Tryd.func156, Tryd.ntmps156
  go_wp2_with fail
  go_loop [2] (fun s => ∃ (f : Nat) (x : Int), s = .int .i64 x ∧ x < (n : Int) ∧ (0 ≤ x → m x.toNat < f) ∧ rulesF up a f x = rulesF up a (m b.toNat + 1) b) (fun s => climbM m (intOf s))
  case atStart => exact ⟨_, b, rfl, hb, fun _ => by omega, rfl⟩
  case round =>
    obtain ⟨f, x, rfl, hx, hf, hr⟩ := hrel
    have Hr := hid hr
    clear hr
    by_cases hx0 : x < 0
    · have q1 : decide (0 ≤ x) = false := decide_eq_false (by omega)
      have Hv : Hid (rulesF up a (m b.toNat + 1) b = decide (a = x)) := by
        show _ = _
        rw [← Hr.out]
        cases f with
        | zero => rfl
        | succ f => unfold rulesF; rw [if_pos (.inl hx0)]
      clear hf
      go_wp2_with fail
      go_ret
      refine ⟨?_, rfl⟩
      rw [Hv.out]
      show Ending.returned (.bool (decide (a ≤ x) && decide (x ≤ a))) = _
      congr 2
      rw [Bool.eq_iff_iff]; simp; omega
    · have q1 : decide (0 ≤ x) = true := decide_eq_true (by omega)
      by_cases hxa : x = a
      · have q2 : (decide (x < a) || decide (a < x)) = false := ne_no hxa
        have Hv : Hid (rulesF up a (m b.toNat + 1) b = true) := by
          show _ = _
          rw [← Hr.out]
          cases f with
          | zero => unfold rulesF; exact decide_eq_true hxa.symm
          | succ f => unfold rulesF; rw [if_pos (.inr hxa)]; exact decide_eq_true hxa.symm
        clear hf
        subst hxa
        go_wp2_with fail
        go_ret
        exact ⟨by rw [Hv.out]; rfl, rfl⟩
      · have q2 : (decide (x < a) || decide (a < x)) = true := ne_yes hxa
        obtain ⟨k, rfl⟩ := Int.eq_ofNat_of_zero_le (by omega : 0 ≤ x)
        have hk : k < up.length := by rw [Hn.out]; omega
        obtain ⟨bb, off, rfl, c0⟩ := int_at H.out hk
        obtain ⟨y, hy⟩ : ∃ y, up[k] = y := ⟨_, rfl⟩
        have hgd : up.getD k 0 = y := by rw [List.getD_eq_getElem?_getD, List.getElem?_eq_getElem hk, ← hy]; rfl
        rw [hy] at c0
        have hst := Hm.out.step k hk
        rw [hgd] at hst
        have hfk : m k < f := hf (by omega)
        obtain ⟨f', rfl⟩ : ∃ f', f = f' + 1 := ⟨f - 1, by omega⟩
        have Hv : Hid (rulesF up a f' y = rulesF up a (m b.toNat + 1) b) := by
          show _ = _
          rw [← Hr.out, show rulesF up a (f' + 1) (k : Int) = rulesF up a f' (up.getD (k : Int).toNat 0) by rw [rulesF, if_neg (by omega)], Int.toNat_natCast, hgd]
        have Hst := hid hst
        have hkn : (k : Int) < (n : Int) := hx
        have hk0 : (0 : Int) ≤ (k : Int) := by omega
        have Hfk := hid hfk
        clear hst hf hgd hy hfk hxa hx0
        go_wp2_with fail
        go_round
        case rel =>
          refine ⟨f', y, rfl, ?_, fun h => ?_, Hv.out⟩
          · rcases Hst.out with h | ⟨j, h, h2, -⟩
            · omega
            · have := Hn.out; omega
          · have := Hfk.out
            rcases Hst.out with h1 | ⟨j, rfl, h2, h3⟩
            · omega
            · rw [Int.toNat_natCast]; omega
        case measure =>
          rcases Hst.out with rfl | ⟨j, rfl, h2, h3⟩
          · show climbM m (-1) < climbM m (k : Int)
            rw [climbM_neg, climbM_nat]; omega
          · show climbM m (j : Int) < climbM m (k : Int)
            rw [climbM_nat, climbM_nat]; omega

end Go.Proofs.YtaehkcnankijfaaDoor

namespace Go.Proofs.YtaehkcnankijfaaDoor
open Go.RowKit

/-- x, y: where the register is written. -/
def knownF (up : List Int) (m : Nat → Nat) (reg : Bool) (x y blk at_ : Int) : Bool := if reg = false then true else if x < 0 then false else if x = blk then decide (y < at_) else rulesF up x (m blk.toNat + 1) blk

set_option maxRecDepth 100000 in
set_option maxHeartbeats 2000000 in
theorem known_reg {S : Nat → Prop} (CB RB n cap r : Nat) (blk a x y : Int) (ua : Option Addr) (uc un : Nat) (up : List Int) (m : Nat → Nat) (w : World) (hc : w.cell? ⟨CB, 5, none⟩ = some (.slice (some ⟨RB, 0, none⟩) n cap)) (hu : w.cell? ⟨CB, 4, none⟩ = some (.slice ua un uc)) (hU : SlAt S w 1 rInt (.slice ua un uc) up)
    (hun : up.length = un) (hun2 : un ≤ 1048576) (hm : TreeUp up m) (hblk : blk < (un : Int)) (c0 : w.cell? ⟨RB, r * 2, none⟩ = some (.int .i64 x)) (c1 : w.cell? ⟨RB, r * 2 + 1, none⟩ = some (.int .i64 y)) (hr : r < n) (_hn : n ≤ 1048576) :
    Calls Tryd.prog 142 #[.pointer (some ⟨CB, 0, none⟩), .agg #[.bool true, .int .i64 (r : Int)], .int .i64 blk, .int .i64 a] w fun e w' => e = .returned (.bool (knownF up m true x y blk a)) ∧ Below w.heap.size w w' := by
  have HU := hid hU
  have Hun := hid hun
  have Hm := hid hm
  have z0 : RB < w.heap.size := cell_lt c0
  have z1 : CB < w.heap.size := cell_lt hc
  clear hU hun hm
  go_enter Tryd.func142, Tryd.ntmps142
  go_wp2_with fail
  obtain ⟨W, hW⟩ : ∃ W, W = w.alloc (.cells #[.bool true, .int .i64 (r : Int)] 41) := ⟨_, rfl⟩
  rw [← hW]
  have hbW : Below w.heap.size w W := by rw [hW]; (repeat (first | exact Below.refl _ _ | refine Below.alloc ?_ (by first | omega | (simp <;> omega)) _ | refine Below.setCell ?_ (by first | omega | (simp <;> omega)) _ | refine below_drewN ?_ _ | refine Below.drew ?_))
  have hWs : W.heap.size = w.heap.size + 1 := by rw [hW]; simp
  have d0 := cell_later' hc hbW
  have d1 := cell_later' hu hbW
  have d2 := cell_later' c0 hbW
  have d3 := cell_later' c1 hbW
  have d4 : W.cell? ⟨w.heap.size, 1, none⟩ = some (.int .i64 (r : Int)) := by rw [hW]; simp
  have z2 : RB < W.heap.size := by omega
  have z3 : CB < W.heap.size := by omega
  have z4 : w.heap.size < W.heap.size := by omega
  have HbW := hid hbW
  clear hW hbW hc hu c0 c1 hWs
  go_big_region
  obtain ⟨W2, hW2⟩ : ∃ W2, W2 = (W.alloc (.cells #[.int .i64 x, .int .i64 y] 157)).drew := ⟨_, rfl⟩
  rw [← hW2]
  have hb2 : Below W.heap.size W W2 := by rw [hW2]; (repeat (first | exact Below.refl _ _ | refine Below.alloc ?_ (by first | omega | (simp <;> omega)) _ | refine Below.setCell ?_ (by first | omega | (simp <;> omega)) _ | refine below_drewN ?_ _ | refine Below.drew ?_))
  have e0 : W2.cell? ⟨W.heap.size, 0, none⟩ = some (.int .i64 x) := by rw [hW2]; simp
  have e1 : W2.cell? ⟨W.heap.size, 1, none⟩ = some (.int .i64 y) := by rw [hW2]; simp
  have e2 := cell_later' d1 hb2
  have HU2 := hid (HU.out.later rInt_mono (HbW.out.trans (hb2.mono HbW.out.size)))
  have Hw2 : Hid (Below w.heap.size w W2) := HbW.out.trans (hb2.mono HbW.out.size)
  have z5 : CB < W2.heap.size := cell_lt e2
  have z6 : W.heap.size < W2.heap.size := cell_lt e0
  clear hW2 hb2 d0 d1 d2 d3 d4
  by_cases hx : x < 0
  · have q : decide (x < 0) = true := decide_eq_true hx
    have Hv : Hid (knownF up m true x y blk a = false) := by show _ = _; unfold knownF; rw [if_neg (by simp), if_pos hx]
    go_wp2_with fail
    go_ret
    exact ⟨by rw [Hv.out]; rfl, by have h := Hw2.out; (repeat (first | exact Below.refl _ _ | exact (h).mono (by first | omega | (simp <;> omega) | (have hh := (h).size; (try simp at hh); omega) | (have hh := (h).size; (try simp at hh); (try simp); omega)) | refine Below.trans ?_ ((h).mono (by first | omega | (simp <;> omega) | (have hh := (h).size; (try simp at hh); omega) | (have hh := (h).size; (try simp at hh); (try simp); omega))) | refine Below.alloc ?_ (by first | omega | (simp <;> omega) | (have hh := (h).size; (try simp at hh); omega) | (have hh := (h).size; (try simp at hh); (try simp); omega)) _ | refine Below.setCell ?_ (by first | omega | (simp <;> omega) | (have hh := (h).size; (try simp at hh); omega) | (have hh := (h).size; (try simp at hh); (try simp); omega)) _ | refine below_drewN ?_ _ | refine Below.drew ?_))⟩
  · have q : decide (x < 0) = false := decide_eq_false hx
    by_cases hxb : x = blk
    · have q1 : (decide (x ≤ blk) && decide (blk ≤ x)) = true := by simp; omega
      have Hv : Hid (knownF up m true x y blk a = decide (y < a)) := by show _ = _; unfold knownF; rw [if_neg (by simp), if_neg hx, if_pos hxb]
      clear hxb
      go_wp2_with fail
      go_ret
      exact ⟨by rw [Hv.out]; rfl, by have h := Hw2.out; (repeat (first | exact Below.refl _ _ | exact (h).mono (by first | omega | (simp <;> omega) | (have hh := (h).size; (try simp at hh); omega) | (have hh := (h).size; (try simp at hh); (try simp); omega)) | refine Below.trans ?_ ((h).mono (by first | omega | (simp <;> omega) | (have hh := (h).size; (try simp at hh); omega) | (have hh := (h).size; (try simp at hh); (try simp); omega))) | refine Below.alloc ?_ (by first | omega | (simp <;> omega) | (have hh := (h).size; (try simp at hh); omega) | (have hh := (h).size; (try simp at hh); (try simp); omega)) _ | refine Below.setCell ?_ (by first | omega | (simp <;> omega) | (have hh := (h).size; (try simp at hh); omega) | (have hh := (h).size; (try simp at hh); (try simp); omega)) _ | refine below_drewN ?_ _ | refine Below.drew ?_))⟩
    · have q1 : (decide (x ≤ blk) && decide (blk ≤ x)) = false := by rw [Bool.eq_false_iff]; simp; omega
      have Hv : Hid (knownF up m true x y blk a = rulesF up x (m blk.toNat + 1) blk) := by show _ = _; unfold knownF; rw [if_neg (by simp), if_neg hx, if_neg hxb]
      clear hxb
      go_wp2_with fail
      go_quiet ((go_at_call 156; exact Calls.quiet_of_same (rules_any ua uc un up m x blk _ (HU2.out.later rInt_mono (below_drewN (Below.refl _ _) _)) Hun.out hun2 Hm.out hblk)))
      go_wp2_with fail
      go_ret
      exact ⟨by rw [Hv.out]; rfl, by have h := Hw2.out; (repeat (first | exact Below.refl _ _ | exact (h).mono (by first | omega | (simp <;> omega) | (have hh := (h).size; (try simp at hh); omega) | (have hh := (h).size; (try simp at hh); (try simp); omega)) | refine Below.trans ?_ ((h).mono (by first | omega | (simp <;> omega) | (have hh := (h).size; (try simp at hh); omega) | (have hh := (h).size; (try simp at hh); (try simp); omega))) | refine Below.alloc ?_ (by first | omega | (simp <;> omega) | (have hh := (h).size; (try simp at hh); omega) | (have hh := (h).size; (try simp at hh); (try simp); omega)) _ | refine Below.setCell ?_ (by first | omega | (simp <;> omega) | (have hh := (h).size; (try simp at hh); omega) | (have hh := (h).size; (try simp at hh); (try simp); omega)) _ | refine below_drewN ?_ _ | refine Below.drew ?_))⟩

set_option maxHeartbeats 1000000 in
theorem known_num (cv : Value) (k blk a : Int) (w : World) :
    Calls Tryd.prog 142 #[cv, .agg #[.bool false, .int .i64 k], .int .i64 blk, .int .i64 a] w fun e w' => e = .returned (.bool true) ∧ Below w.heap.size w w' := by
  go_enter Tryd.func142, Tryd.ntmps142
  go_wp2_with fail
  go_ret
  exact ⟨rfl, by (repeat (first | exact Below.refl _ _ | refine Below.alloc ?_ (by first | omega | (simp <;> omega)) _ | refine Below.setCell ?_ (by first | omega | (simp <;> omega)) _ | refine below_drewN ?_ _ | refine Below.drew ?_))⟩

end Go.Proofs.YtaehkcnankijfaaDoor
