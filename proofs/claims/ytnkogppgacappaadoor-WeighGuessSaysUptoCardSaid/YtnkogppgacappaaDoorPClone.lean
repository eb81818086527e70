/- Slices of structs that the call makes itself: what they hold, and how they grow. No function of the program in sight. slices.Clone of []int and of []api.Val: the copy is the call's own. -/
import Derived.Test.YtnkogppgacappaaDoorPEq
import Derived.Maps.AppendAt
import Derived.Laws.AppendOwn
import Derived.RegionTactic
import Derived.Test.YtnkogppgacappaaDoorProg
import Derived.Test.YtnkogppgacappaaDoorPChk2
import Derived.Lib.SliceRun
namespace Go.Proofs.YtnkogppgacappaaDoor
open Go.RowKit

/-- The block numbers from a on, below b. -/
def iv (a b : Nat) : Nat → Prop := fun x => a ≤ x ∧ x < b
/-- Where the contents of a row of the call's own may lie: from base on, not in the row itself. -/
def ownS (base : Nat) (w : World) (v : Value) : Nat → Prop := fun b => base ≤ b ∧ b < w.heap.size ∧ v.ownBlock ≠ some b

/-- The slice value v, of the call's own, holds the list l; what its elements lead to lies outside the row. -/
def Own {α : Type} (base : Nat) (w : World) (e : TypeId) (sz : Nat) (r : Rp α) (v : Value) (l : List α) : Prop :=
  ∃ xss : List (List Value), w.ownsRow base e sz v l.length xss.flatten ∧ xss.length = l.length ∧ (∀ (i : Nat) cs, xss[i]? = some cs → cs.length = sz) ∧
    ∀ (i : Nat) cs x, xss[i]? = some cs → l[i]? = some x → r (ownS base w v) w cs x

theorem flat_at {sz : Nat} : ∀ (xss : List (List Value)), (∀ (i : Nat) cs, xss[i]? = some cs → cs.length = sz) → ∀ (i j : Nat) cs, xss[i]? = some cs → j < sz → xss.flatten[i * sz + j]? = cs[j]?
  | [], _, i, _, cs, h, _ => by simp at h
  | ys :: xss, hl, 0, j, cs, h, hj => by
    have e : ys = cs := by simpa using h
    subst e
    have h0 := hl 0 ys rfl
    rw [List.flatten_cons, Nat.zero_mul, Nat.zero_add, List.getElem?_append_left (by omega)]
  | ys :: xss, hl, i + 1, j, cs, h, hj => by
    have h0 := hl 0 ys rfl
    rw [List.flatten_cons, List.getElem?_append_right (by rw [h0, Nat.add_mul]; omega), h0]
    rw [show (i + 1) * sz + j - sz = i * sz + j by rw [Nat.add_mul]; omega]
    exact flat_at xss (fun k cs' hk => hl (k + 1) cs' (by simpa using hk)) i j cs (by simpa using h) hj
section
variable {α : Type} {base : Nat} {w w' : World} {e : TypeId} {sz : Nat} {r : Rp α} {v v' : Value} {l : List α}

theorem Own.nil (base : Nat) (w : World) (e : TypeId) (sz : Nat) (r : Rp α) : Own base w e sz r (.slice none 0 0) [] :=
  ⟨[], World.ownsRow_nil w base e sz, rfl, fun i cs h => by simp at h, fun i cs x h => by simp at h⟩
theorem Own.lt (h : Own base w e sz r v l) : ∀ g, v.ownBlock = some g → base ≤ g ∧ g < w.heap.size := by
  obtain ⟨xss, h1, -⟩ := h
  exact h1.lt
theorem grown_below {B : Nat} (hb : Below w.heap.size w w') (row : Option Nat) (_h : B ≤ w.heap.size) : w.grownBy w' row := ⟨hb.os, hb.tape, hb.output, hb.size, fun k hk _ => hb.block k hk⟩
/-- Nothing old is turned: the row is as it was. -/
theorem Own.later (hr : r.Mono) (h : Own base w e sz r v l) (hb : Below w.heap.size w w') : Own base w' e sz r v l := by
  obtain ⟨xss, h1, h2, h3, h4⟩ := h
  refine ⟨xss, h1.kept (grown_below (B := 0) hb none (Nat.zero_le _)) ?_, h2, h3, fun i cs x hi hx => ?_⟩
  · cases v.ownBlock <;> simp
  · exact hr.out _ _ _ _ _ _ (fun b hb' => ⟨hb'.1, Nat.lt_of_lt_of_le hb'.2.1 hb.size, hb'.2.2⟩) (Stays.below' hb) (h4 i cs x hi hx)
theorem Own.drewN (h : Own base w e sz r v l) (hr : r.Mono) (q : Nat) : Own base (w.drewN q) e sz r v l := h.later hr (below_drewN (Below.refl _ _) q)
/-- The row seen as a list in memory. -/
theorem Own.toSl (hr : r.Mono) (_h0 : 0 < sz) (h : Own base w e sz r v l) : SlAt (iv base w.heap.size) w sz r v l := by
  obtain ⟨xss, h1, h2, h3, h4⟩ := h
  rcases id h1.2 with ⟨rfl, hl⟩ | ⟨g, cap, cur, rfl, hg, hgg, hn, hm, hc, ht⟩
  · have hl0 : l = [] := List.length_eq_zero_iff.1 hl
    subst hl0
    exact ⟨none, 0, rfl, Nat.le_refl _, by decide, fun h => absurd rfl h⟩
  · unfold maxLen at hm
    refine ⟨_, cap, rfl, hn, by omega, fun hne => ⟨g, 0, rfl, ⟨hg, (Array.getElem?_eq_some_iff.1 hgg).1⟩, fun i x hx => ?_⟩⟩
    have hi : i < xss.length := by rw [h2]; exact (List.getElem?_eq_some_iff.1 hx).1
    have hcs := List.getElem?_eq_getElem hi
    refine ⟨xss[i], hr.out _ _ _ _ _ _ (fun b hb => ⟨hb.1, hb.2.1⟩) (Stays.refl _ _) (h4 i _ x hcs hx), h3 i _ hcs, fun j u hj => ?_⟩
    have hjs : j < sz := by rw [← h3 i _ hcs]; exact (List.getElem?_eq_some_iff.1 hj).1
    have hf := flat_at xss h3 i j _ hcs hjs
    rw [hj] at hf
    have hcell := h1.cells (g := g) rfl (i * sz + j) u hf
    rw [show (⟨g, 0, none⟩ : Addr).add (i * sz + j) = ⟨g, i * sz + j, none⟩ by unfold Addr.add; split <;> simp_all] at hcell
    rw [Nat.zero_add]; exact hcell
/-- One element more. -/
theorem Own.snoc (hr : r.Mono) (_h : Own base w e sz r v l) {xss : List (List Value)} (_h1 : w.ownsRow base e sz v l.length xss.flatten) (h2 : xss.length = l.length) (h3 : ∀ (i : Nat) cs, xss[i]? = some cs → cs.length = sz)
    (h4 : ∀ (i : Nat) cs x, xss[i]? = some cs → l[i]? = some x → r (ownS base w v) w cs x) {cs : List Value} {y : α} (hl : cs.length = sz) (hy : r (ownS base w v) w cs y)
    (hown' : w'.ownsRow base e sz v' (l.length + 1) (xss.flatten ++ cs)) (hgrow : w.grownBy w' v.ownBlock) (hat : v'.ownBlock = v.ownBlock ∨ v'.ownBlock = some w.heap.size) : Own base w' e sz r v' (l ++ [y]) := by
  have hst : Stays (ownS base w v) w w' := fun b o u hb hc => by
    rw [World.cell?_of_block (w := w) (a := ⟨b, o, none⟩) (hgrow.block b hb.2.1 (fun e => hb.2.2 e.symm))]; exact hc
  have hS : ∀ b, ownS base w v b → ownS base w' v' b := fun b hb => ⟨hb.1, Nat.lt_of_lt_of_le hb.2.1 hgrow.size, fun e => by
    rcases hat with h | h
    · exact hb.2.2 (by rw [← h]; exact e)
    · rw [h] at e; have := hb.2.1; cases e; omega⟩
  refine ⟨xss ++ [cs], ?_, by simp [h2], fun i cs' hi => ?_, fun i cs' x hi hx => ?_⟩
  · rw [List.flatten_append, List.length_append]; simpa using hown'
  · rcases Nat.lt_or_ge i xss.length with h' | h'
    · rw [List.getElem?_append_left h'] at hi; exact h3 i cs' hi
    · rw [List.getElem?_append_right h'] at hi
      have := List.mem_of_getElem? hi
      rw [List.mem_singleton] at this
      rw [this]; exact hl
  · rcases Nat.lt_or_ge i xss.length with h' | h'
    · rw [List.getElem?_append_left h'] at hi
      rw [List.getElem?_append_left (by omega)] at hx
      exact hr.out _ _ _ _ _ _ hS hst (h4 i cs' x hi hx)
    · rw [List.getElem?_append_right h'] at hi
      rw [List.getElem?_append_right (by omega)] at hx
      have e1 := List.mem_of_getElem? hi
      have e2 := List.mem_of_getElem? hx
      rw [List.mem_singleton] at e1 e2
      rw [e1, e2]
      exact hr.out _ _ _ _ _ _ hS hst hy
end


/-- Between two rounds of a loop that gathers a list: what it has gathered is its own, and what lay when it began is as it was. -/
structure Build {α : Type} (W0 wr : World) (e : TypeId) (sz : Nat) (r : Rp α) (v : Value) (l : List α) : Prop where
  own : Own W0.heap.size wr e sz r v l
  old : Below W0.heap.size W0 wr
theorem Build.start {α : Type} (W0 : World) (e : TypeId) (sz : Nat) (r : Rp α) : Build W0 W0 e sz r (.slice none 0 0) [] := ⟨Own.nil _ _ _ _ _, Below.refl _ _⟩
theorem stays_at {S : Nat → Prop} {w w' : World} (h : ∀ b, S b → b < w.heap.size → w'.heap[b]? = w.heap[b]?) : Stays S w w' := fun b o v hb hc => by
  rw [World.cell?_of_block (w := w) (a := ⟨b, o, none⟩) (h b hb (cell_lt hc))]; exact hc

theorem new_cells (w : World) (cs : List Value) (T : TypeId) {n : Nat} (hn : n = w.heap.size) : ∀ (j : Nat) u, cs[j]? = some u → (w.alloc (.cells cs.toArray T)).cell? ((⟨n, 0, none⟩ : Addr).add j) = some u := by
  intro j u hj
  subst hn
  rw [show (⟨w.heap.size, 0, none⟩ : Addr).add j = ⟨w.heap.size, j, none⟩ by unfold Addr.add; split <;> simp_all, World.cell?_alloc_new]
  simpa using hj

theorem cell_set {w : World} {b i : Nat} {x : Value} (h : w.cell? ⟨b, i, none⟩ = some x) (u : Value) (j : Nat) : (w.setCell ⟨b, i, none⟩ u).cell? ⟨b, j, none⟩ = if j = i then some u else w.cell? ⟨b, j, none⟩ := by
  simp only [World.cell?] at h
  cases hh : w.heap[b]? with
  | none => rw [hh] at h; cases h
  | some o =>
    rw [hh] at h
    cases o with
    | cells c t f =>
      have hi : i < c.size := by
        rcases Nat.lt_or_ge i c.size with h1 | h1
        · exact h1
        · simp [Array.getElem?_eq_none h1] at h
      simp only [World.cell?, World.setCell, Array.getElem?_modify, hh]
      by_cases hji : j = i
      · subst hji; simp [hi]
      · simp [hji, Ne.symm hji]
    | _ => cases h
theorem cell_set_ne (w : World) {b b' i : Nat} (hb : b' ≠ b) (u : Value) (j : Nat) : (w.setCell ⟨b, i, none⟩ u).cell? ⟨b', j, none⟩ = w.cell? ⟨b', j, none⟩ :=
  World.cell?_of_block (w := w) (a := ⟨b', j, none⟩) (Below.heap_setCell _ _ _ _ hb)

theorem set_some {w : World} {b n i : Nat} {u : Value} (h : ∀ k, k < n → ∃ x, w.cell? ⟨b, k, none⟩ = some x) (hi : i < n) : ∀ k, k < n → ∃ x, (w.setCell ⟨b, i, none⟩ u).cell? ⟨b, k, none⟩ = some x := by
  intro k hk
  obtain ⟨x, hx⟩ := h i hi
  rw [cell_set hx]
  by_cases hki : k = i
  · rw [if_pos hki]; exact ⟨_, rfl⟩
  · rw [if_neg hki]; exact h k hk
theorem set2 {w : World} {b : Nat} {o0 o1 u0 u1 : Value} (h : CellsAt w b 0 [o0, o1]) : CellsAt ((w.setCell ⟨b, 0, none⟩ u0).setCell ⟨b, 1, none⟩ u1) b 0 [u0, u1] := by
  have g0 : ∀ k, k < 2 → ∃ x, w.cell? ⟨b, k, none⟩ = some x := fun k hk => ⟨_, by have h1 := h k ([o0, o1][k]'(by simpa using hk)) (List.getElem?_eq_getElem _); rw [Nat.zero_add] at h1; exact h1⟩
  have g1 := set_some (i := 0) (u := u0) g0 (by decide)
  have g2 := set_some (i := 1) (u := u1) g1 (by decide)
  obtain ⟨x0, e0⟩ := g0 0 (by decide)
  obtain ⟨x1, e1⟩ := g1 1 (by decide)
  intro j v hj
  rw [Nat.zero_add]
  match j, hj with
  | 0, hj => cases hj; rw [cell_set e1, if_neg (by decide), cell_set e0, if_pos rfl]
  | 1, hj => cases hj; rw [cell_set e1, if_pos rfl]
  | k + 2, hj => simp at hj
theorem set4 {w : World} {b : Nat} {o0 o1 o2 o3 u0 u1 u2 u3 : Value} (h : CellsAt w b 0 [o0, o1, o2, o3]) : CellsAt ((((w.setCell ⟨b, 0, none⟩ u0).setCell ⟨b, 1, none⟩ u1).setCell ⟨b, 2, none⟩ u2).setCell ⟨b, 3, none⟩ u3) b 0 [u0, u1, u2, u3] := by
  have g0 : ∀ k, k < 4 → ∃ x, w.cell? ⟨b, k, none⟩ = some x := fun k hk => ⟨_, by have h1 := h k ([o0, o1, o2, o3][k]'(by simpa using hk)) (List.getElem?_eq_getElem _); rw [Nat.zero_add] at h1; exact h1⟩
  have g1 := set_some (i := 0) (u := u0) g0 (by decide)
  have g2 := set_some (i := 1) (u := u1) g1 (by decide)
  have g3 := set_some (i := 2) (u := u2) g2 (by decide)
  have g4 := set_some (i := 3) (u := u3) g3 (by decide)
  obtain ⟨x0, e0⟩ := g0 0 (by decide)
  obtain ⟨x1, e1⟩ := g1 1 (by decide)
  obtain ⟨x2, e2⟩ := g2 2 (by decide)
  obtain ⟨x3, e3⟩ := g3 3 (by decide)
  intro j v hj
  rw [Nat.zero_add]
  match j, hj with
  | 0, hj => cases hj; rw [cell_set e3, if_neg (by decide), cell_set e2, if_neg (by decide), cell_set e1, if_neg (by decide), cell_set e0, if_pos rfl]
  | 1, hj => cases hj; rw [cell_set e3, if_neg (by decide), cell_set e2, if_neg (by decide), cell_set e1, if_pos rfl]
  | 2, hj => cases hj; rw [cell_set e3, if_neg (by decide), cell_set e2, if_pos rfl]
  | 3, hj => cases hj; rw [cell_set e3, if_pos rfl]
  | k + 4, hj => simp at hj
end Go.Proofs.YtnkogppgacappaaDoor

namespace Go.Proofs.YtnkogppgacappaaDoor
open Go.RowKit

theorem infoInt' : (Tryd.prog.info? 3).map (fun i => (i.zero, i.size, i.bytes)) = some (some (.int .i64 0), 1, 8) := by kernel_rfl
end Go.Proofs.YtnkogppgacappaaDoor
