/- Slices of structs that the call makes itself: what they hold, and how they grow. No function of the program in sight. slices.Clone of []int and of []api.Val: the copy is the call's own. -/
import Derived.Test.YtaehkcnankijfaaDoorPEq
import Derived.Maps.AppendAt
import Derived.Laws.AppendOwn
import Derived.RegionTactic
import Derived.Test.YtaehkcnankijfaaDoorProg
import Derived.Test.YtaehkcnankijfaaDoorPChk3
import Derived.Lib.SliceRun
namespace Go.Proofs.YtaehkcnankijfaaDoor
open Go.RowKit

/-- The block numbers from a on, below b. -/
def iv (a b : Nat) : Nat → Prop := fun x => a ≤ x ∧ x < b
/-- Where the contents of a row of the call's own may lie: from base on, not in the row itself. -/
def ownS (base : Nat) (w : World) (v : Value) : Nat → Prop := fun b => base ≤ b ∧ b < w.heap.size ∧ v.ownBlock ≠ some b

/-- The slice value v, of the call's own, holds the list l; what its elements lead to lies outside the row. -/
def Own {α : Type} (base : Nat) (w : World) (e : TypeId) (sz : Nat) (r : Rp α) (v : Value) (l : List α) : Prop :=
  ∃ xss : List (List Value), w.ownsRow base e sz v l.length xss.flatten ∧ xss.length = l.length ∧ (∀ (i : Nat) cs, xss[i]? = some cs → cs.length = sz) ∧
    ∀ (i : Nat) cs x, xss[i]? = some cs → l[i]? = some x → r (ownS base w v) w cs x

theorem flat_at {sz : Nat} : ∀ (xss : List (List Value)), (∀ (i : Nat) cs, xss[i]? = some cs → cs.length = sz) → ∀ (i j : Nat) cs, xss[i]? = some cs → j < sz → xss.flatten[i * sz + j]? = cs[j]?
  | [], _, i, _, cs, h, _ => by simp at h
  | ys :: xss, hl, 0, j, cs, h, hj => by
    have e : ys = cs := by simpa using h
    subst e
    have h0 := hl 0 ys rfl
    rw [List.flatten_cons, Nat.zero_mul, Nat.zero_add, List.getElem?_append_left (by omega)]
  | ys :: xss, hl, i + 1, j, cs, h, hj => by
    have h0 := hl 0 ys rfl
    rw [List.flatten_cons, List.getElem?_append_right (by rw [h0, Nat.add_mul]; omega), h0]
    rw [show (i + 1) * sz + j - sz = i * sz + j by rw [Nat.add_mul]; omega]
    exact flat_at xss (fun k cs' hk => hl (k + 1) cs' (by simpa using hk)) i j cs (by simpa using h) hj
section
variable {α : Type} {base : Nat} {w w' : World} {e : TypeId} {sz : Nat} {r : Rp α} {v v' : Value} {l : List α}

theorem Own.nil (base : Nat) (w : World) (e : TypeId) (sz : Nat) (r : Rp α) : Own base w e sz r (.slice none 0 0) [] :=
  ⟨[], World.ownsRow_nil w base e sz, rfl, fun i cs h => by simp at h, fun i cs x h => by simp at h⟩
theorem Own.lt (h : Own base w e sz r v l) : ∀ g, v.ownBlock = some g → base ≤ g ∧ g < w.heap.size := by
  obtain ⟨xss, h1, -⟩ := h
  exact h1.lt
theorem Own.shape (h : Own base w e sz r v l) : ∃ a c, v = .slice a l.length c := by
  obtain ⟨xss, h1, -⟩ := h
  rcases h1.2 with ⟨rfl, h2⟩ | ⟨g, cap, cur, rfl, -⟩
  · exact ⟨none, 0, by rw [h2]⟩
  · exact ⟨_, _, rfl⟩
theorem grown_below {B : Nat} (hb : Below w.heap.size w w') (row : Option Nat) (_h : B ≤ w.heap.size) : w.grownBy w' row := ⟨hb.os, hb.tape, hb.output, hb.size, fun k hk _ => hb.block k hk⟩
/-- Nothing old is turned: the row is as it was. -/
theorem Own.later (hr : r.Mono) (h : Own base w e sz r v l) (hb : Below w.heap.size w w') : Own base w' e sz r v l := by
  obtain ⟨xss, h1, h2, h3, h4⟩ := h
  refine ⟨xss, h1.kept (grown_below (B := 0) hb none (Nat.zero_le _)) ?_, h2, h3, fun i cs x hi hx => ?_⟩
  · cases v.ownBlock <;> simp
  · exact hr.out _ _ _ _ _ _ (fun b hb' => ⟨hb'.1, Nat.lt_of_lt_of_le hb'.2.1 hb.size, hb'.2.2⟩) (Stays.below' hb) (h4 i cs x hi hx)
/-- The row seen as a list in memory. -/
theorem Own.toSl (hr : r.Mono) (_h0 : 0 < sz) (h : Own base w e sz r v l) : SlAt (iv base w.heap.size) w sz r v l := by
  obtain ⟨xss, h1, h2, h3, h4⟩ := h
  rcases id h1.2 with ⟨rfl, hl⟩ | ⟨g, cap, cur, rfl, hg, hgg, hn, hm, hc, ht⟩
  · have hl0 : l = [] := List.length_eq_zero_iff.1 hl
    subst hl0
    exact ⟨none, 0, rfl, Nat.le_refl _, by decide, fun h => absurd rfl h⟩
  · unfold maxLen at hm
    refine ⟨_, cap, rfl, hn, by omega, fun hne => ⟨g, 0, rfl, ⟨hg, (Array.getElem?_eq_some_iff.1 hgg).1⟩, fun i x hx => ?_⟩⟩
    have hi : i < xss.length := by rw [h2]; exact (List.getElem?_eq_some_iff.1 hx).1
    have hcs := List.getElem?_eq_getElem hi
    refine ⟨xss[i], hr.out _ _ _ _ _ _ (fun b hb => ⟨hb.1, hb.2.1⟩) (Stays.refl _ _) (h4 i _ x hcs hx), h3 i _ hcs, fun j u hj => ?_⟩
    have hjs : j < sz := by rw [← h3 i _ hcs]; exact (List.getElem?_eq_some_iff.1 hj).1
    have hf := flat_at xss h3 i j _ hcs hjs
    rw [hj] at hf
    have hcell := h1.cells (g := g) rfl (i * sz + j) u hf
    rw [show (⟨g, 0, none⟩ : Addr).add (i * sz + j) = ⟨g, i * sz + j, none⟩ by unfold Addr.add; split <;> simp_all] at hcell
    rw [Nat.zero_add]; exact hcell
/-- One element more. -/
theorem Own.snoc (hr : r.Mono) (_h : Own base w e sz r v l) {xss : List (List Value)} (_h1 : w.ownsRow base e sz v l.length xss.flatten) (h2 : xss.length = l.length) (h3 : ∀ (i : Nat) cs, xss[i]? = some cs → cs.length = sz)
    (h4 : ∀ (i : Nat) cs x, xss[i]? = some cs → l[i]? = some x → r (ownS base w v) w cs x) {cs : List Value} {y : α} (hl : cs.length = sz) (hy : r (ownS base w v) w cs y)
    (hown' : w'.ownsRow base e sz v' (l.length + 1) (xss.flatten ++ cs)) (hgrow : w.grownBy w' v.ownBlock) (hat : v'.ownBlock = v.ownBlock ∨ v'.ownBlock = some w.heap.size) : Own base w' e sz r v' (l ++ [y]) := by
  have hst : Stays (ownS base w v) w w' := fun b o u hb hc => by
    rw [World.cell?_of_block (w := w) (a := ⟨b, o, none⟩) (hgrow.block b hb.2.1 (fun e => hb.2.2 e.symm))]; exact hc
  have hS : ∀ b, ownS base w v b → ownS base w' v' b := fun b hb => ⟨hb.1, Nat.lt_of_lt_of_le hb.2.1 hgrow.size, fun e => by
    rcases hat with h | h
    · exact hb.2.2 (by rw [← h]; exact e)
    · rw [h] at e; have := hb.2.1; cases e; omega⟩
  refine ⟨xss ++ [cs], ?_, by simp [h2], fun i cs' hi => ?_, fun i cs' x hi hx => ?_⟩
  · rw [List.flatten_append, List.length_append]; simpa using hown'
  · rcases Nat.lt_or_ge i xss.length with h' | h'
    · rw [List.getElem?_append_left h'] at hi; exact h3 i cs' hi
    · rw [List.getElem?_append_right h'] at hi
      have := List.mem_of_getElem? hi
      rw [List.mem_singleton] at this
      rw [this]; exact hl
  · rcases Nat.lt_or_ge i xss.length with h' | h'
    · rw [List.getElem?_append_left h'] at hi
      rw [List.getElem?_append_left (by omega)] at hx
      exact hr.out _ _ _ _ _ _ hS hst (h4 i cs' x hi hx)
    · rw [List.getElem?_append_right h'] at hi
      rw [List.getElem?_append_right (by omega)] at hx
      have e1 := List.mem_of_getElem? hi
      have e2 := List.mem_of_getElem? hx
      rw [List.mem_singleton] at e1 e2
      rw [e1, e2]
      exact hr.out _ _ _ _ _ _ hS hst hy
end


/-- Between two rounds of a loop that gathers a list: what it has gathered is its own, and what lay when it began is as it was. -/
structure Build {α : Type} (W0 wr : World) (e : TypeId) (sz : Nat) (r : Rp α) (v : Value) (l : List α) : Prop where
  own : Own W0.heap.size wr e sz r v l
  old : Below W0.heap.size W0 wr
theorem Build.start {α : Type} (W0 : World) (e : TypeId) (sz : Nat) (r : Rp α) : Build W0 W0 e sz r (.slice none 0 0) [] := ⟨Own.nil _ _ _ _ _, Below.refl _ _⟩
theorem stays_at {S : Nat → Prop} {w w' : World} (h : ∀ b, S b → b < w.heap.size → w'.heap[b]? = w.heap[b]?) : Stays S w w' := fun b o v hb hc => by
  rw [World.cell?_of_block (w := w) (a := ⟨b, o, none⟩) (h b hb (cell_lt hc))]; exact hc

theorem new_cells (w : World) (cs : List Value) (T : TypeId) {n : Nat} (hn : n = w.heap.size) : ∀ (j : Nat) u, cs[j]? = some u → (w.alloc (.cells cs.toArray T)).cell? ((⟨n, 0, none⟩ : Addr).add j) = some u := by
  intro j u hj
  subst hn
  rw [show (⟨w.heap.size, 0, none⟩ : Addr).add j = ⟨w.heap.size, j, none⟩ by unfold Addr.add; split <;> simp_all, World.cell?_alloc_new]
  simpa using hj

theorem cell_set {w : World} {b i : Nat} {x : Value} (h : w.cell? ⟨b, i, none⟩ = some x) (u : Value) (j : Nat) : (w.setCell ⟨b, i, none⟩ u).cell? ⟨b, j, none⟩ = if j = i then some u else w.cell? ⟨b, j, none⟩ := by
  simp only [World.cell?] at h
  cases hh : w.heap[b]? with
  | none => rw [hh] at h; cases h
  | some o =>
    rw [hh] at h
    cases o with
    | cells c t f =>
      have hi : i < c.size := by
        rcases Nat.lt_or_ge i c.size with h1 | h1
        · exact h1
        · simp [Array.getElem?_eq_none h1] at h
      simp only [World.cell?, World.setCell, Array.getElem?_modify, hh]
      by_cases hji : j = i
      · subst hji; simp [hi]
      · simp [hji, Ne.symm hji]
    | _ => cases h
theorem cell_set_ne (w : World) {b b' i : Nat} (hb : b' ≠ b) (u : Value) (j : Nat) : (w.setCell ⟨b, i, none⟩ u).cell? ⟨b', j, none⟩ = w.cell? ⟨b', j, none⟩ :=
  World.cell?_of_block (w := w) (a := ⟨b', j, none⟩) (Below.heap_setCell _ _ _ _ hb)

/-- append of one element onto such a row, for the walk. -/
theorem wpList_append_Own {α : Type} {P : Program} {w : World} {ops : Array Oper} {rest : List Oper} {o : Oper} {a : Act} {Q : Exit → Act → World → Prop} (hgd : o.guard = none) (s x : Operand) (t : TypeId)
    (ho : o.op = .call { callee := .builtin .append, args := #[s, x], argTypes := #[t, t] })
    (base : Nat) (e : TypeId) (i : TypeInfo) (z : Value) (size bytes : Nat) (ht : P.underlying t = some (.slice e)) (hi : P.info? e = some i) (hz : i.zero = some z)
    (hsize : i.size = size) (hby : i.bytes = bytes) (hzs : z.cells.size = size) (hsz : 0 < size)
    {r : Rp α} (hr : r.Mono) (v : Value) (l : List α) (hs : a.eval s = v) (hown : Own base w e size r v l)
    (ad : Addr) (c : Nat) (cs : List Value) (y : α) (hx : a.eval x = .slice (some ad) 1 c) (hl : cs.length = size) (hnews : ∀ (j : Nat) u, cs[j]? = some u → w.cell? (ad.add j) = some u) (h1 : ∀ u ∈ cs, u.oneCell' = true) (hy : r (ownS base w v) w cs y)
    (hn : l.length + 1 ≤ 2097152) (hbytes : bytes ≤ 4096) (hbase : base ≤ w.heap.size)
    (h : ∀ v' w', Own base w' e size r v' (l ++ [y]) → w.grownBy w' v.ownBlock → (∃ g cap, v' = .slice (some ⟨g, 0, none⟩) (l.length + 1) cap) → wpList P ops Q rest (a.put o.dst v') w') :
    wpList P ops Q (o :: rest) a w := by
  have hown0 := hown
  obtain ⟨xss, p1, p2, p3, p4⟩ := hown
  have hb : (l.length + 1) * bytes ≤ 140737488355328 := by
    have := Nat.mul_le_mul hn hbytes
    omega
  refine wpList_append_own_at w hgd s x t ho base e i z size bytes ht hi hz hsize hby hzs hsz v l.length xss.flatten hs p1 ad 1 c cs hx (by rw [hl]; omega) hnews h1 (by unfold maxLen; omega) hb hbase ?_
  intro v' w' hown' hgrow hnil hat
  refine h v' w' (hown0.snoc hr p1 p2 p3 p4 hl hy hown' hgrow hat) hgrow ?_
  rcases hown'.2 with ⟨e, e2⟩ | ⟨g, cap, cur, e, -⟩
  · omega
  · exact ⟨g, cap, e⟩

end Go.Proofs.YtaehkcnankijfaaDoor

namespace Go.Proofs.YtaehkcnankijfaaDoor
open Go.RowKit

theorem SlAt.none {α : Type} {S : Nat → Prop} {w : World} {sz : Nat} {r : Rp α} {n c : Nat} {l : List α} (h : SlAt S w sz r (.slice Option.none n c) l) : l = [] := by
  obtain ⟨ao, c', hv, -, -, h⟩ := h
  cases hv
  by_cases hl : l = []
  · exact hl
  · obtain ⟨b, off, ha, -⟩ := h hl
    cases ha
theorem infoInt' : (Tryd.prog.info? 3).map (fun i => (i.zero, i.size, i.bytes)) = some (some (.int .i64 0), 1, 8) := by kernel_rfl
end Go.Proofs.YtaehkcnankijfaaDoor
