/- The heap of blocks: Swap and Pop. -/
import Derived.Test.YtaehkcnankijfaaDoorHeap1
import Derived.RegionTactic
import Derived.BigRegion
namespace Go.Proofs.YtaehkcnankijfaaDoor
open Go.RowKit

set_option maxHeartbeats 1000000 in
theorem hswap_raw (L G cap m : Nat) (_cv : Value) (w : World) (i j x y : Nat) (hij : i ≠ j) (hi : i < m) (hj : j < m) (_hm : m ≤ cap) (_hc : cap ≤ 9223372036854775807) (hne : L ≠ G)
    (c0 : w.cell? ⟨L, 0, none⟩ = some (.slice (some ⟨G, 0, none⟩) m cap)) (g1 : w.cell? ⟨G, i, none⟩ = some (.int .i64 x)) (g2 : w.cell? ⟨G, j, none⟩ = some (.int .i64 y)) (f1 : w.frozen? ⟨G, i, none⟩ = false) (f2 : w.frozen? ⟨G, j, none⟩ = false) :
    Calls Tryd.prog 208 #[.pointer (some ⟨L, 0, none⟩), .int .i64 i, .int .i64 j] w fun e w' => e = .returned (.tuple #[]) ∧ w'.Alike ((w.setCell ⟨G, i, none⟩ (.int .i64 y)).setCell ⟨G, j, none⟩ (.int .i64 x)) ∧ w'.tape = w.tape := by
  go_enter Tryd.func208, Tryd.ntmps208
  go_wp2_with fail
  go_big_region
  all_goals (go_end0; exact ⟨rfl, ⟨rfl, rfl, rfl⟩, rfl⟩)

set_option maxHeartbeats 1000000 in
theorem hswap_same (L G cap m : Nat) (_cv : Value) (w : World) (i x : Nat) (hi : i < m) (_hm : m ≤ cap) (_hc : cap ≤ 9223372036854775807) (_hne : L ≠ G)
    (c0 : w.cell? ⟨L, 0, none⟩ = some (.slice (some ⟨G, 0, none⟩) m cap)) (g1 : w.cell? ⟨G, i, none⟩ = some (.int .i64 x)) (f1 : w.frozen? ⟨G, i, none⟩ = false) :
    Calls Tryd.prog 208 #[.pointer (some ⟨L, 0, none⟩), .int .i64 i, .int .i64 i] w fun e w' => e = .returned (.tuple #[]) ∧ w'.Alike ((w.setCell ⟨G, i, none⟩ (.int .i64 x)).setCell ⟨G, i, none⟩ (.int .i64 x)) ∧ w'.tape = w.tape := by
  go_enter Tryd.func208, Tryd.ntmps208
  go_wp2_with fail
  go_big_region
  all_goals (go_end0; exact ⟨rfl, ⟨rfl, rfl, rfl⟩, rfl⟩)

theorem HS.congr {w : World} {L G cap m : Nat} {a a' : Nat → Nat} {cv : Value} (h : HS w L G cap m a cv) (he : ∀ k, k < m → a k = a' k) : HS w L G cap m a' cv := by
  obtain ⟨h1, ⟨cur, h2, h3, h4⟩, h5, h6, h7⟩ := h
  exact ⟨h1, ⟨cur, h2, h3, fun k hk => by rw [← he k hk]; exact h4 k hk⟩, h5, h6, h7⟩
theorem HS.alike {w w' : World} {L G cap m : Nat} {a : Nat → Nat} {cv : Value} (h : HS w L G cap m a cv) (he : w'.Alike w) : HS w' L G cap m a cv := by
  obtain ⟨h1, h2, h5, h6, h7⟩ := h
  exact ⟨by rw [he.1]; exact h1, by rw [he.1]; exact h2, h5, h6, h7⟩

theorem hswap_any {L G cap m : Nat} {a : Nat → Nat} {cv : Value} (w : World) (i j : Nat) (h : HS w L G cap m a cv) (hi : i < m) (hj : j < m) :
    Calls Tryd.prog 208 #[.pointer (some ⟨L, 0, none⟩), .int .i64 i, .int .i64 j] w fun e w' => e = .returned (.tuple #[]) ∧ HS w' L G cap m (swp a i j) cv ∧ Two L G w w' := by
  have fin : ∀ w', w'.Alike ((w.setCell ⟨G, i, none⟩ (.int .i64 (a j))).setCell ⟨G, j, none⟩ (.int .i64 (a i))) → w'.tape = w.tape → HS w' L G cap m (swp a i j) cv ∧ Two L G w w' := fun w' ha ht => by
    refine ⟨(((h.set hi (a j)).set hj (a i)).congr (fun k hk => ?_)).alike ha, ?_⟩
    · unfold swp
      by_cases h1 : k = j
      · by_cases h2 : k = i
        · rw [if_pos h1, if_pos h2, ← h1, ← h2]
        · rw [if_pos h1, if_neg h2, if_pos h1]
      · rw [if_neg h1]
        by_cases h2 : k = i
        · rw [if_pos h2, if_pos h2]
        · rw [if_neg h2, if_neg h2, if_neg h1]
    · have t := ((Two.refl L G w).set (p := ⟨G, i, none⟩) (.inr rfl) (.int .i64 (a j))).set (p := ⟨G, j, none⟩) (.inr rfl) (.int .i64 (a i))
      exact ⟨ha.2.1.trans t.os, ht, ha.2.2.trans t.output, by rw [ha.1]; exact t.size, fun k h1 h2 => by rw [ha.1]; exact t.block k h1 h2⟩
  by_cases hij : i = j
  · subst hij
    exact (hswap_same L G cap m cv w i (a i) hi h.le h.big h.ne h.c0 (h.g hi) (h.gf i)).mono fun e w' ⟨h1, h2, h3⟩ => ⟨h1, fin w' h2 h3⟩
  · exact (hswap_raw L G cap m cv w i j (a i) (a j) hij hi hj h.le h.big h.ne h.c0 (h.g hi) (h.g hj) (h.gf i) (h.gf j)).mono fun e w' ⟨h1, h2, h3⟩ => ⟨h1, fin w' h2 h3⟩

set_option maxHeartbeats 1000000 in
theorem hpopm_any {L G cap m : Nat} {a : Nat → Nat} {cv : Value} (w : World) (h : HS w L G cap m a cv) (hm : 0 < m) :
    Calls Tryd.prog 207 #[.pointer (some ⟨L, 0, none⟩)] w fun e w' => e = .returned (.iface 3 (.int .i64 (a (m - 1)))) ∧ HS w' L G cap (m - 1) a cv ∧ Two L G w w' := by
  obtain ⟨n, rfl⟩ : ∃ n, m = n + 1 := ⟨m - 1, by omega⟩
  rw [Nat.add_sub_cancel]
  have c0 := h.c0
  have g1 := h.g (k := n) (by omega)
  have f0 := h.f0 0
  have hl := h.le
  have hb := h.big
  have Hh := hid h
  clear h
  go_enter Tryd.func207, Tryd.ntmps207
  go_wp2_with fail
  go_ret
  exact ⟨rfl, Hh.out.cut (by omega), (Two.refl L G w).set (p := ⟨L, 0, none⟩) (.inl rfl) _⟩

end Go.Proofs.YtaehkcnankijfaaDoor
