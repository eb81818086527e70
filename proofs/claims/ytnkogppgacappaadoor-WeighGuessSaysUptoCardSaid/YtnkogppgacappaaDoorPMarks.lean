/- turneryref6.StillOf: word by word. Plain loops around loops over a function: the marks that these leave among a frame's deferred calls. A row of Booleans that is written one by one. -/
import Derived.Test.YtnkogppgacappaaDoorPRowSt
import Derived.Test.YtnkogppgacappaaDoorPBack
import Derived.Test.YtnkogppgacappaaDoorPRepI
namespace Go.Proofs.YtnkogppgacappaaDoor
open Go.RowKit

end Go.Proofs.YtnkogppgacappaaDoor

namespace Go.Proofs.YtnkogppgacappaaDoor
open Go.RowKit Go.Shelf

/-- The marks of loops that are over: blocks from B on, below C. -/
structure Marks (B C : Nat) (ds : List Deferred) (W : World) : Prop where
  at_ : ∀ d ∈ ds, ∃ D, d = { target := .collected D, args := #[] } ∧ B ≤ D ∧ D < C ∧ W.heap[D]? = some (.deferred (some []))
  apart : ds.Pairwise (fun d e => d ≠ e)
theorem Marks.nil (B C : Nat) (W : World) : Marks B C [] W := ⟨fun d h => (by cases h), List.Pairwise.nil⟩
theorem Marks.cons {B C C' D : Nat} {ds : List Deferred} {W : World} (h : Marks B C ds W) (hD : C ≤ D) (hB : B ≤ D) (hC : D < C') (hd : W.heap[D]? = some (.deferred (some []))) : Marks B C' ({ target := .collected D, args := #[] } :: ds) W := by
  refine ⟨fun d hm => ?_, List.Pairwise.cons (fun e he => ?_) h.apart⟩
  · rcases List.mem_cons.1 hm with rfl | hm
    · exact ⟨D, rfl, hB, hC, hd⟩
    · obtain ⟨D', e, h1, h2, h3⟩ := h.at_ d hm
      exact ⟨D', e, h1, by omega, h3⟩
  · obtain ⟨D', rfl, h1, h2, h3⟩ := h.at_ e he
    intro hx
    injection hx with hx
    injection hx with hx
    omega

/-- What is kept when marks are shut: old memory, and all cells. -/
def Shut (B : Nat) (W W' : World) : Prop := Below B W W' ∧ ∀ (b : Nat) c t f, W.heap[b]? = some (.cells c t f) → W'.heap[b]? = some (.cells c t f)
theorem Shut.refl (B : Nat) (W : World) : Shut B W W := ⟨Below.refl _ _, fun _ _ _ _ h => h⟩
theorem Shut.trans {B : Nat} {W1 W2 W3 : World} (h : Shut B W1 W2) (k : Shut B W2 W3) : Shut B W1 W3 := ⟨h.1.trans k.1, fun b c t f hc => k.2 b c t f (h.2 b c t f hc)⟩

theorem leaves_marks {F : Fence} {n : Nat} {P : Program} {fn : Func} {tmps : Array Value} {R : Ending → World → Prop} {B C : Nat} : ∀ (ds : List Deferred) (W : World), B ≤ W.heap.size → Marks B C ds W →
    (∀ W', Shut B W W' → ∃ v, (results fn tmps).run P W' = .ok v W' ∧ R (.returned v) W') → LeavesInM F n P fn tmps R ds .returning W := by
  intro ds
  induction ds with
  | nil => exact fun W _ _ h => h W (Shut.refl B W)
  | cons d ds ih =>
    intro W hBW hM h
    obtain ⟨D, rfl, h1, h2, h3⟩ := hM.at_ _ (List.mem_cons_self ..)
    have hlt : D < W.heap.size := (Array.getElem?_eq_some_iff.1 h3).1
    have hsh : Shut B W (W.putObj D (.deferred none)) := by
      refine ⟨(Below.refl B W).grown (grownBy_putObj' W D _) hBW (fun k e => by cases e; exact h1), fun b c t f hb => ?_⟩
      rw [World.putObj_heap_other (fun e => by rw [e, h3] at hb; cases hb)]
      exact hb
    refine ⟨by simp, .inl ⟨D, _, rfl, run_takeDeferred h3, ih _ (by simpa using hBW) ⟨fun e he => ?_, (List.pairwise_cons.1 hM.apart).2⟩ (fun W' hW => h W' (hsh.trans hW))⟩⟩
    obtain ⟨D', rfl, k1, k2, k3⟩ := hM.at_ e (List.mem_cons_of_mem _ he)
    have hne := (List.pairwise_cons.1 hM.apart).1 _ he
    have hDD : D' ≠ D := fun e => hne (by rw [e])
    exact ⟨D', rfl, k1, k2, (World.putObj_heap_other hDD).trans k3⟩


end Go.Proofs.YtnkogppgacappaaDoor
