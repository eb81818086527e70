/- The heap of blocks in memory; its five methods' contracts. -/
import Derived.Test.YtaehkcnankijfaaDoorHeap0
import Derived.Test.YtaehkcnankijfaaDoorCheck0
import Derived.Deep.QuietTactic
import Derived.BigQuiet
namespace Go.Proofs.YtaehkcnankijfaaDoor
open Go.RowKit

/-- Block L is the struct: the list's slice over block G, and the counts; the list holds a 0, .., a (m - 1). -/
structure HS (w : World) (L G cap m : Nat) (a : Nat → Nat) (cv : Value) : Prop where
  row : w.heap[L]? = some (.cells #[.slice (some ⟨G, 0, none⟩) m cap, cv] 128 (0, 0))
  arr : ∃ cur : Array Value, w.heap[G]? = some (.cells cur 3 (0, 0)) ∧ cur.size = cap ∧ ∀ k, k < m → cur[k]? = some (.int .i64 (a k))
  le : m ≤ cap
  big : cap ≤ 9223372036854775807
  ne : L ≠ G

section
variable {w : World} {L G cap m : Nat} {a : Nat → Nat} {cv : Value}
theorem HS.c0 (h : HS w L G cap m a cv) : w.cell? ⟨L, 0, none⟩ = some (.slice (some ⟨G, 0, none⟩) m cap) := by simp [World.cell?, h.row]
theorem HS.c1 (h : HS w L G cap m a cv) : w.cell? ⟨L, 1, none⟩ = some cv := by simp [World.cell?, h.row]
theorem HS.f0 (h : HS w L G cap m a cv) (k : Nat) : w.frozen? ⟨L, k, none⟩ = false := by simp [World.frozen?, h.row]
theorem HS.g (h : HS w L G cap m a cv) {k : Nat} (hk : k < m) : w.cell? ⟨G, k, none⟩ = some (.int .i64 (a k)) := by
  obtain ⟨cur, h1, _, h2⟩ := h.arr
  simp [World.cell?, h1, h2 k hk]
theorem HS.gf (h : HS w L G cap m a cv) (k : Nat) : w.frozen? ⟨G, k, none⟩ = false := by
  obtain ⟨cur, h1, _, h2⟩ := h.arr
  simp [World.frozen?, h1]
theorem HS.ltL (h : HS w L G cap m a cv) : L < w.heap.size := cell_lt h.c0
theorem HS.ltG (h : HS w L G cap m a cv) : G < w.heap.size := by
  obtain ⟨cur, h1, _, _⟩ := h.arr
  rcases Nat.lt_or_ge G w.heap.size with h3 | h3
  · exact h3
  · rw [Array.getElem?_eq_none h3] at h1; cases h1
theorem HS.drewN (h : HS w L G cap m a cv) (q : Nat) : HS (w.drewN q) L G cap m a cv := ⟨h.row, h.arr, h.le, h.big, h.ne⟩
/-- A store into the list. -/
theorem HS.set (h : HS w L G cap m a cv) {i : Nat} (hi : i < m) (x : Nat) : HS (w.setCell ⟨G, i, none⟩ (.int .i64 x)) L G cap m (fun k => if k = i then x else a k) cv := by
  obtain ⟨h1, ⟨cur, h2, h3, h4⟩, h5, h6, h7⟩ := h
  refine ⟨?_, ⟨cur.setIfInBounds i (.int .i64 x), ?_, by simpa using h3, fun k hk => ?_⟩, h5, h6, h7⟩
  · rw [Below.heap_setCell _ _ _ _ h7]; exact h1
  · simp [World.setCell, Array.getElem?_modify, h2]
  · rw [Array.getElem?_setIfInBounds]
    by_cases hki : k = i
    · subst hki; simp; omega
    · rw [if_neg (fun e => hki e.symm), if_neg hki]; exact h4 k hk
/-- The list cut to a lesser length. -/
theorem HS.cut (h : HS w L G cap m a cv) {m' : Nat} (hm : m' ≤ m) : HS (w.setCell ⟨L, 0, none⟩ (.slice (some ⟨G, 0, none⟩) m' cap)) L G cap m' a cv := by
  obtain ⟨h1, ⟨cur, h2, h3, h4⟩, h5, h6, h7⟩ := h
  refine ⟨?_, ⟨cur, ?_, h3, fun k hk => h4 k (by omega)⟩, by omega, h6, h7⟩
  · simp [World.setCell, Array.getElem?_modify, h1]
  · rw [Below.heap_setCell _ _ _ _ (fun e => h7 e.symm)]; exact h2
end

/-- Blocks L and G alone have turned. -/
structure Two (L G : Nat) (w w' : World) : Prop where
  os : w'.os = w.os
  tape : w'.tape = w.tape
  output : w'.output = w.output
  size : w'.heap.size = w.heap.size
  block : ∀ k, k ≠ L → k ≠ G → w'.heap[k]? = w.heap[k]?
theorem Two.refl (L G : Nat) (w : World) : Two L G w w := ⟨rfl, rfl, rfl, rfl, fun _ _ _ => rfl⟩
theorem Two.trans {L G : Nat} {a b c : World} (h : Two L G a b) (k : Two L G b c) : Two L G a c :=
  ⟨k.os.trans h.os, k.tape.trans h.tape, k.output.trans h.output, k.size.trans h.size, fun i h1 h2 => (k.block i h1 h2).trans (h.block i h1 h2)⟩
theorem Two.drewN {L G : Nat} {a w : World} (h : Two L G a w) (q : Nat) : Two L G a (w.drewN q) := ⟨h.os, h.tape, h.output, h.size, h.block⟩
theorem Two.drew {L G : Nat} {a w : World} (h : Two L G a w) : Two L G a w.drew := ⟨h.os, h.tape, h.output, h.size, h.block⟩
theorem Two.set {L G : Nat} {a w : World} (h : Two L G a w) {p : Addr} (hp : p.block = L ∨ p.block = G) (v : Value) : Two L G a (w.setCell p v) :=
  ⟨h.os, h.tape, h.output, by simp [World.setCell]; exact h.size, fun k h1 h2 => by rw [Below.heap_setCell _ _ _ _ (by rcases hp with hp | hp <;> rw [hp] <;> assumption)]; exact h.block k h1 h2⟩
theorem Two.below {L G B : Nat} {w w' : World} (h : Two L G w w') (hL : B ≤ L) (hG : B ≤ G) : Below B w w' :=
  ⟨h.os, h.tape, h.output, Nat.le_of_eq h.size.symm, fun k hk => h.block k (by omega) (by omega)⟩
theorem Two.stays {L G : Nat} {w w' : World} (h : Two L G w w') : Stays (fun b => b ≠ L ∧ b ≠ G) w w' := fun b o v hb hc => by
  rw [World.cell?_of_block (w := w) (h.block b hb.1 hb.2)]; exact hc

set_option maxHeartbeats 400000 in
theorem hlen_any {L G cap m : Nat} {a : Nat → Nat} {cv : Value} (w : World) (h : HS w L G cap m a cv) :
    Calls Tryd.prog 72 #[.pointer (some ⟨L, 0, none⟩)] w fun e w' => e = .returned (.int .i64 m) ∧ w = w' := by
  have c0 := h.c0
  have hl := h.le
  have hb := h.big
  clear h
  go_enter Tryd.func72, Tryd.ntmps72
  go_wp2
  go_ret
  exact ⟨rfl, rfl⟩

/-- The counts lie in memory that the heap does not touch. -/
def cntOf (C : List Int) (b : Nat) : Int := C.getD b 0
set_option maxHeartbeats 1000000 in
theorem hless_any {S : Nat → Prop} {L G cap m : Nat} {a : Nat → Nat} {ca : Option Addr} {cc : Nat} {C : List Int} (w : World) (i j : Nat) (h : HS w L G cap m a (.slice ca C.length cc)) (hC : SlAt S w 1 rInt (.slice ca C.length cc) C)
    (hi : i < m) (hj : j < m) (hai : a i < C.length) (haj : a j < C.length) :
    Calls Tryd.prog 206 #[.pointer (some ⟨L, 0, none⟩), .int .i64 i, .int .i64 j] w fun e w' => e = .returned (.bool (lessB (cntOf C) (a i) (a j))) ∧ ∃ q, w' = w.drewN q := by
  have c0 := h.c0
  have c1 := h.c1
  have g1 := h.g hi
  have g2 := h.g hj
  have hl := h.le
  have hb := h.big
  obtain ⟨b, off, cs, rfl, -, ⟨rfl, -⟩, -, hcs⟩ := hC.get hai
  have d1 := hcs.get1
  obtain ⟨b', off', cs', hab, -, ⟨rfl, -⟩, -, hcs'⟩ := hC.get haj
  cases hab
  have d2 := hcs'.get1
  rw [Nat.mul_one] at d1 d2
  obtain ⟨_, _, hcv, hcl⟩ := hC.val
  cases hcv
  have e1 : cntOf C (a i) = C[a i] := by unfold cntOf; rw [List.getD_eq_getElem?_getD, List.getElem?_eq_getElem hai]; rfl
  have e2 : cntOf C (a j) = C[a j] := by unfold cntOf; rw [List.getD_eq_getElem?_getD, List.getElem?_eq_getElem haj]; rfl
  have E1 := hid e1
  have E2 := hid e2
  clear h hC hcs hcs' e1 e2
  generalize C[a i] = x at *
  generalize C[a j] = y at *
  generalize a i = u at *
  generalize a j = v at *
  have hcase : y < x ∨ (x = y ∧ u < v) ∨ (x = y ∧ ¬ u < v) ∨ x < y := by omega
  rcases hcase with hc | ⟨hc, huv⟩ | ⟨hc, huv⟩ | hc
  all_goals
    first
      | (have Hr := hid (show lessB (cntOf C) u v = true by simp only [lessB, E1.out, E2.out, Bool.or_eq_true, Bool.and_eq_true, decide_eq_true_eq]; omega))
      | (have Hr := hid (show lessB (cntOf C) u v = false by simp only [lessB, E1.out, E2.out, Bool.or_eq_false_iff, Bool.and_eq_false_iff, decide_eq_false_iff_not]; omega))
    first
      | subst hc
      | (have q1 := eq_no (a := x) (b := y) (by omega); have q2 : decide (y < x) = true := decide_eq_true hc)
      | (have q1 := eq_no (a := x) (b := y) (by omega); have q2 : decide (y < x) = false := decide_eq_false (by omega))
    go_enter Tryd.func206, Tryd.ntmps206
    go_wp2_with fail
    go_quiet (fail)
    go_wp2_with fail
    go_quiet (fail)
    go_wp2_with fail
    go_ret
    exact ⟨ret_bool Hr.out.symm, _, World.drewN_drewN _ _ _⟩

end Go.Proofs.YtaehkcnankijfaaDoor
