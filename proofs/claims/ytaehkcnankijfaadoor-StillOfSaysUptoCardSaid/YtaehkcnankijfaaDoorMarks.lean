/- Plain loops around loops over a function: the marks that these leave among a frame's deferred calls. A row of Booleans that is written one by one. -/
import Derived.Test.YtaehkcnankijfaaDoorStillR
import Derived.Test.YtaehkcnankijfaaDoorEach
import Derived.Test.YtaehkcnankijfaaDoorRepeat
namespace Go.Proofs.YtaehkcnankijfaaDoor
open Go.RowKit Go.Shelf

/-- The marks of loops that are over: blocks from B on, below C. -/
structure Marks (B C : Nat) (ds : List Deferred) (W : World) : Prop where
  at_ : ∀ d ∈ ds, ∃ D, d = { target := .collected D, args := #[] } ∧ B ≤ D ∧ D < C ∧ W.heap[D]? = some (.deferred (some []))
  apart : ds.Pairwise (fun d e => d ≠ e)
theorem Marks.nil (B C : Nat) (W : World) : Marks B C [] W := ⟨fun d h => (by cases h), List.Pairwise.nil⟩
theorem Marks.keep {B C C' : Nat} {ds : List Deferred} {W W' : World} (h : Marks B C ds W) (hC : C ≤ C') (hk : ∀ b, B ≤ b → b < C → W.heap[b]? = some (.deferred (some [])) → W'.heap[b]? = some (.deferred (some []))) : Marks B C' ds W' :=
  ⟨fun d hd => by
    obtain ⟨D, e, h1, h2, h3⟩ := h.at_ d hd
    exact ⟨D, e, h1, by omega, hk D h1 h2 h3⟩, h.apart⟩
theorem Marks.cons {B C C' D : Nat} {ds : List Deferred} {W : World} (h : Marks B C ds W) (hD : C ≤ D) (hB : B ≤ D) (hC : D < C') (hd : W.heap[D]? = some (.deferred (some []))) : Marks B C' ({ target := .collected D, args := #[] } :: ds) W := by
  refine ⟨fun d hm => ?_, List.Pairwise.cons (fun e he => ?_) h.apart⟩
  · rcases List.mem_cons.1 hm with rfl | hm
    · exact ⟨D, rfl, hB, hC, hd⟩
    · obtain ⟨D', e, h1, h2, h3⟩ := h.at_ d hm
      exact ⟨D', e, h1, by omega, h3⟩
  · obtain ⟨D', rfl, h1, h2, h3⟩ := h.at_ e he
    intro hx
    injection hx with hx
    injection hx with hx
    omega

/-- What is kept when marks are shut: old memory, and all cells. -/
def Shut (B : Nat) (W W' : World) : Prop := Below B W W' ∧ ∀ (b : Nat) c t f, W.heap[b]? = some (.cells c t f) → W'.heap[b]? = some (.cells c t f)
theorem Shut.refl (B : Nat) (W : World) : Shut B W W := ⟨Below.refl _ _, fun _ _ _ _ h => h⟩
theorem Shut.trans {B : Nat} {W1 W2 W3 : World} (h : Shut B W1 W2) (k : Shut B W2 W3) : Shut B W1 W3 := ⟨h.1.trans k.1, fun b c t f hc => k.2 b c t f (h.2 b c t f hc)⟩

theorem leaves_marks {F : Fence} {n : Nat} {P : Program} {fn : Func} {tmps : Array Value} {R : Ending → World → Prop} {B C : Nat} : ∀ (ds : List Deferred) (W : World), B ≤ W.heap.size → Marks B C ds W →
    (∀ W', Shut B W W' → ∃ v, (results fn tmps).run P W' = .ok v W' ∧ R (.returned v) W') → LeavesInM F n P fn tmps R ds .returning W := by
  intro ds
  induction ds with
  | nil => exact fun W _ _ h => h W (Shut.refl B W)
  | cons d ds ih =>
    intro W hBW hM h
    obtain ⟨D, rfl, h1, h2, h3⟩ := hM.at_ _ (List.mem_cons_self ..)
    have hlt : D < W.heap.size := (Array.getElem?_eq_some_iff.1 h3).1
    have hsh : Shut B W (W.putObj D (.deferred none)) := by
      refine ⟨(Below.refl B W).grown (grownBy_putObj' W D _) hBW (fun k e => by cases e; exact h1), fun b c t f hb => ?_⟩
      rw [World.putObj_heap_other (fun e => by rw [e, h3] at hb; cases hb)]
      exact hb
    refine ⟨by simp, .inl ⟨D, _, rfl, run_takeDeferred h3, ih _ (by simpa using hBW) ⟨fun e he => ?_, (List.pairwise_cons.1 hM.apart).2⟩ (fun W' hW => h W' (hsh.trans hW))⟩⟩
    obtain ⟨D', rfl, k1, k2, k3⟩ := hM.at_ e (List.mem_cons_of_mem _ he)
    have hne := (List.pairwise_cons.1 hM.apart).1 _ he
    have hDD : D' ≠ D := fun e => hne (by rw [e])
    exact ⟨D', rfl, k1, k2, (World.putObj_heap_other hDD).trans k3⟩

/-- A row of Booleans, seen as a list. -/
theorem bools_sl {W : World} {g : Nat} {row : List Bool} (h : W.heap[g]? = some (.cells (row.map Value.bool).toArray 4 (0, 0))) (S : Nat → Prop) (hS : S g) (hn : row.length ≤ 1048576) : SlAt S W 1 rBool (.slice (some ⟨g, 0, none⟩) row.length row.length) row := by
  refine ⟨_, row.length, rfl, Nat.le_refl _, by omega, fun _ => ⟨g, 0, rfl, hS, fun i x hx => ?_⟩⟩
  refine ⟨[.bool x], rfl, rfl, fun j u hj => ?_⟩
  match j, hj with
  | 0, hj =>
    cases hj
    rw [Nat.zero_add, Nat.mul_one, Nat.add_zero, cell_row h, List.getElem?_toArray, List.getElem?_map, hx]; rfl
  | j + 1, hj => simp at hj

/-- Between two rounds: nothing but the row is turned of what lay when the loop began. -/
structure SSt (w W1 W : World) (OB : Nat) (row : List Bool) : Prop where
  below : Below w.heap.size w W
  size : W1.heap.size ≤ W.heap.size
  keep : ∀ b, b < W1.heap.size → b ≠ OB → W.heap[b]? = W1.heap[b]?
  row : W.heap[OB]? = some (.cells (row.map Value.bool).toArray 4 (0, 0))
section
variable {w W1 W W' : World} {OB : Nat} {l : List Bool}
theorem SSt.cell (h : SSt w W1 W OB l) {b o : Nat} {v : Value} (hc : W1.cell? ⟨b, o, none⟩ = some v) (hb : b ≠ OB) : W.cell? ⟨b, o, none⟩ = some v := by
  rw [World.cell?_of_block (w := W1) (a := ⟨b, o, none⟩) (h.keep b (cell_lt hc) hb)]; exact hc
theorem SSt.frozen (h : SSt w W1 W OB l) {b o : Nat} (hb1 : b < W1.heap.size) (hb : b ≠ OB) : W.frozen? ⟨b, o, none⟩ = W1.frozen? ⟨b, o, none⟩ :=
  World.frozen?_of_block (w := W1) (a := ⟨b, o, none⟩) (h.keep b hb1 hb)
theorem SSt.grown (h : SSt w W1 W OB l) {row : Option Nat} (hg : W.grownBy W' row) (hO : OB < W1.heap.size) (hw : w.heap.size ≤ W1.heap.size) (hr : ∀ r, row = some r → W1.heap.size ≤ r) : SSt w W1 W' OB l := by
  have hs := h.size
  refine ⟨h.below.grown hg (Nat.le_trans hw hs) (fun k e => Nat.le_trans hw (hr k e)), Nat.le_trans hs hg.size, fun b h1 h2 => ?_, ?_⟩
  · rw [hg.block b (by omega) (fun e => by have := hr b e.symm; omega), h.keep b h1 h2]
  · rw [hg.block OB (by omega) (fun e => by have := hr OB e.symm; omega)]; exact h.row
theorem SSt.later (h : SSt w W1 W OB l) (hb : Below W.heap.size W W') (hO : OB < W1.heap.size) : SSt w W1 W' OB l := by
  have hs := h.size
  refine ⟨h.below.trans (hb.mono h.below.size), Nat.le_trans hs hb.size, fun b h1 h2 => ?_, ?_⟩
  · rw [hb.block b (by omega), h.keep b h1 h2]
  · rw [hb.block OB (by omega)]; exact h.row
theorem SSt.set (h : SSt w W1 W OB l) (hO : w.heap.size ≤ OB) {q : Nat} (_hq : q < l.length) (x : Bool) : SSt w W1 (W.setCell ⟨OB, q, none⟩ (.bool x)) OB (l.set q x) := by
  refine ⟨h.below.setCell (p := ⟨OB, q, none⟩) hO _, by simpa [World.setCell] using h.size, fun b h1 h2 => ?_, ?_⟩
  · rw [Below.heap_setCell _ _ _ _ (by dsimp only; exact h2), h.keep b h1 h2]
  · rw [heap_set_row h.row, List.map_set]
    congr 2
    simp
end

end Go.Proofs.YtaehkcnankijfaaDoor
