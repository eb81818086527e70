/- append of a make: a row of the call's own, grown by zeros. No function of the program in sight. still.words: the words of the memory, as they are at first. turneryref6.StillOf: word by word. -/
import Derived.Test.YtaehkcnankijfaaDoorPClone
import Derived.Test.YtaehkcnankijfaaDoorPRound
namespace Go.Proofs.YtaehkcnankijfaaDoor
open Go.RowKit


end Go.Proofs.YtaehkcnankijfaaDoor

namespace Go.Proofs.YtaehkcnankijfaaDoor
open Go.RowKit

/-- A row of numbers of the call's own. -/
def OwnInts (base : Nat) (w : World) (v : Value) (l : List Int) : Prop := w.ownsRow base 3 1 v l.length (l.map fun x => .int .i64 x) ∧ ∀ x ∈ l, I64 x
theorem OwnInts.nil (base : Nat) (w : World) : OwnInts base w (.slice none 0 0) [] := ⟨World.ownsRow_nil w base _ 1, fun x h => by simp at h⟩
theorem OwnInts.shape {base : Nat} {w : World} {v : Value} {l : List Int} (h : OwnInts base w v l) : ∃ a c, v = .slice a l.length c := by
  rcases h.1.2 with ⟨rfl, h2⟩ | ⟨g, cap, cur, rfl, -⟩
  · exact ⟨none, 0, by rw [h2]⟩
  · exact ⟨_, _, rfl⟩
theorem OwnInts.sl {base : Nat} {w : World} {v : Value} {l : List Int} (h : OwnInts base w v l) : SlAt (iv base w.heap.size) w 1 rInt v l := by
  obtain ⟨h1, h2⟩ := h
  have hc := fun g hg => h1.cells (g := g) hg
  rcases id h1.2 with ⟨rfl, hl⟩ | ⟨g, cap, cur, rfl, hg, hgg, hn, hm, -⟩
  · have hl0 : l = [] := List.length_eq_zero_iff.1 hl
    subst hl0
    exact ⟨none, 0, rfl, Nat.le_refl _, by decide, fun h => absurd rfl h⟩
  · unfold maxLen at hm
    refine ⟨_, cap, rfl, hn, by omega, fun hne => ⟨g, 0, rfl, ⟨hg, (Array.getElem?_eq_some_iff.1 hgg).1⟩, fun i x hx => ?_⟩⟩
    obtain ⟨hi, rfl⟩ := List.getElem?_eq_some_iff.1 hx
    have hb := h2 _ (List.getElem_mem hi)
    refine ⟨_, ⟨rfl, hb.1, hb.2⟩, rfl, fun j u hj => ?_⟩
    match j, hj with
    | 0, hj =>
      cases hj
      have hcell := hc g rfl i (.int .i64 l[i]) (by rw [List.getElem?_map, List.getElem?_eq_getElem hi]; rfl)
      rw [show (⟨g, 0, none⟩ : Addr).add i = ⟨g, i, none⟩ by unfold Addr.add; split <;> simp_all] at hcell
      rw [Nat.zero_add, Nat.mul_one, Nat.add_zero]; exact hcell
    | j + 1, hj => simp at hj
end Go.Proofs.YtaehkcnankijfaaDoor

namespace Go.Proofs.YtaehkcnankijfaaDoor
open Go.RowKit

end Go.Proofs.YtaehkcnankijfaaDoor
