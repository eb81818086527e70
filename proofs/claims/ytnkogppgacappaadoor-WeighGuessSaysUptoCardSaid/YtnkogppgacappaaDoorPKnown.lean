/- dom.Rules: the climb in a tree. ssa.checker.known: is what a value names written ahead of a place? -/
import Derived.Test.YtnkogppgacappaaDoorPSameU
import Derived.BigRegion
import Derived.Deep.RegionHeld3
namespace Go.Proofs.YtnkogppgacappaaDoor
open Go.RowKit

/-- One climbs from b on till one is at a, or above all. -/
def rulesF (up : List Int) (a : Int) : Nat → Int → Bool
  | 0, b => decide (a = b)
  | f + 1, b => if b < 0 ∨ b = a then decide (a = b) else rulesF up a f (up.getD b.toNat 0)

/-- A tree over n places: a rank falls on the way up. -/
structure TreeUp (up : List Int) (m : Nat → Nat) : Prop where
  step : ∀ k, k < up.length → up.getD k 0 = -1 ∨ ∃ j : Nat, up.getD k 0 = (j : Int) ∧ j < up.length ∧ m j < m k

def climbM (m : Nat → Nat) (x : Int) : Nat := if x < 0 then 0 else m x.toNat + 1
theorem climbM_nat (m : Nat → Nat) (k : Nat) : climbM m (k : Int) = m k + 1 := by unfold climbM; rw [if_neg (by omega), Int.toNat_natCast]
theorem climbM_neg (m : Nat → Nat) : climbM m (-1) = 0 := rfl

set_option maxRecDepth 100000 in
set_option maxHeartbeats 2000000 in
theorem rules_any {S : Nat → Prop} (va : Option Addr) (vc n : Nat) (up : List Int) (m : Nat → Nat) (a b : Int) (w : World) (h : SlAt S w 1 rInt (.slice va n vc) up) (hn : up.length = n) (_hn2 : n ≤ 1048576) (hm : TreeUp up m) (hb : b < (n : Int)) :
    Calls Tryd.prog 31 #[.slice va n vc, .int .i64 a, .int .i64 b] w fun e w' => e = .returned (.bool (rulesF up a (m b.toNat + 1) b)) ∧ w' = w := by
  have H := hid h
  have Hn := hid hn
  have Hm := hid hm
  clear h hn hm
  go_enter Tryd.func31, Tryd.ntmps31
  go_wp2_with fail
  go_loop [2] (fun s => ∃ (f : Nat) (x : Int), s = .int .i64 x ∧ x < (n : Int) ∧ (0 ≤ x → m x.toNat < f) ∧ rulesF up a f x = rulesF up a (m b.toNat + 1) b) (fun s => climbM m (intOf s))
  case atStart => exact ⟨_, b, rfl, hb, fun _ => by omega, rfl⟩
  case round =>
    obtain ⟨f, x, rfl, hx, hf, hr⟩ := hrel
    have Hr := hid hr
    clear hr
    by_cases hx0 : x < 0
    · have q1 : decide (0 ≤ x) = false := decide_eq_false (by omega)
      have Hv : Hid (rulesF up a (m b.toNat + 1) b = decide (a = x)) := by
        show _ = _
        rw [← Hr.out]
        cases f with
        | zero => rfl
        | succ f => unfold rulesF; rw [if_pos (.inl hx0)]
      clear hf
      go_wp2_with fail
      go_ret
      refine ⟨?_, rfl⟩
      rw [Hv.out]
      show Ending.returned (.bool (decide (a ≤ x) && decide (x ≤ a))) = _
      congr 2
      rw [Bool.eq_iff_iff]; simp; omega
    · have q1 : decide (0 ≤ x) = true := decide_eq_true (by omega)
      by_cases hxa : x = a
      · have q2 : (decide (x < a) || decide (a < x)) = false := ne_no hxa
        have Hv : Hid (rulesF up a (m b.toNat + 1) b = true) := by
          show _ = _
          rw [← Hr.out]
          cases f with
          | zero => unfold rulesF; exact decide_eq_true hxa.symm
          | succ f => unfold rulesF; rw [if_pos (.inr hxa)]; exact decide_eq_true hxa.symm
        clear hf
        subst hxa
        go_wp2_with fail
        go_ret
        exact ⟨by rw [Hv.out]; rfl, rfl⟩
      · have q2 : (decide (x < a) || decide (a < x)) = true := ne_yes hxa
        obtain ⟨k, rfl⟩ := Int.eq_ofNat_of_zero_le (by omega : 0 ≤ x)
        have hk : k < up.length := by rw [Hn.out]; omega
        obtain ⟨bb, off, rfl, c0⟩ := int_at H.out hk
        obtain ⟨y, hy⟩ : ∃ y, up[k] = y := ⟨_, rfl⟩
        have hgd : up.getD k 0 = y := by rw [List.getD_eq_getElem?_getD, List.getElem?_eq_getElem hk, ← hy]; rfl
        rw [hy] at c0
        have hst := Hm.out.step k hk
        rw [hgd] at hst
        have hfk : m k < f := hf (by omega)
        obtain ⟨f', rfl⟩ : ∃ f', f = f' + 1 := ⟨f - 1, by omega⟩
        have Hv : Hid (rulesF up a f' y = rulesF up a (m b.toNat + 1) b) := by
          show _ = _
          rw [← Hr.out, show rulesF up a (f' + 1) (k : Int) = rulesF up a f' (up.getD (k : Int).toNat 0) by rw [rulesF, if_neg (by omega)], Int.toNat_natCast, hgd]
        have Hst := hid hst
        have hkn : (k : Int) < (n : Int) := hx
        have hk0 : (0 : Int) ≤ (k : Int) := by omega
        have Hfk := hid hfk
        clear hst hf hgd hy hfk hxa hx0
        go_wp2_with fail
        go_round
        case rel =>
          refine ⟨f', y, rfl, ?_, fun h => ?_, Hv.out⟩
          · rcases Hst.out with h | ⟨j, h, h2, -⟩
            · omega
            · have := Hn.out; omega
          · have := Hfk.out
            rcases Hst.out with h1 | ⟨j, rfl, h2, h3⟩
            · omega
            · rw [Int.toNat_natCast]; omega
        case measure =>
          rcases Hst.out with rfl | ⟨j, rfl, h2, h3⟩
          · show climbM m (-1) < climbM m (k : Int)
            rw [climbM_neg, climbM_nat]; omega
          · show climbM m (j : Int) < climbM m (k : Int)
            rw [climbM_nat, climbM_nat]; omega

end Go.Proofs.YtnkogppgacappaaDoor

namespace Go.Proofs.YtnkogppgacappaaDoor
open Go.RowKit

end Go.Proofs.YtnkogppgacappaaDoor
