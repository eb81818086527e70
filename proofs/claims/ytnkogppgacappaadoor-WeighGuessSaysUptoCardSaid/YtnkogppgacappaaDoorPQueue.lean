/- A function with its blocks in another order, plainly. turn's copy of a block: its merges, as far as their sources are laid anew. turn's great loop: the state between two blocks, and a block's storing. A queue of numbers: a row that is read from its head on (sliced on) and grows at its end; a family of rows of which one is turned. No function of the program in sight. -/
import Derived.Test.YtnkogppgacappaaDoorPOnce0
import Derived.Test.YtnkogppgacappaaDoorPRefA
import Derived.Test.YtnkogppgacappaaDoorPCopyB
import Derived.Test.YtnkogppgacappaaDoorPCopyF
import Derived.ArgAppend
namespace Go.Proofs.YtnkogppgacappaaDoor
open Go.RowKit

/-- Places, as far as they are set. -/
theorem atF_step' {r : List Nat} (hinj : ∀ i j (hi : i < r.length) (hj : j < r.length), r[i] = r[j] → i = j) {k : Nat} (hk : k < r.length) (x : Nat) : atF r (k + 1) x = if x = r[k] then k else atF r k x := by
  unfold atF
  rw [List.take_succ_eq_append_getElem hk, hadB_snoc]
  by_cases hx : x = r[k]
  · subst hx
    have hm : r[k] ∈ r := List.getElem_mem _
    have hl : r.idxOf r[k] < r.length := List.idxOf_lt_length_iff.2 hm
    have := hinj _ _ hl hk (List.getElem_idxOf hl)
    rw [if_pos (by simp), if_pos rfl, this]
  · rw [if_neg hx, show (x == r[k]) = false by simpa using hx, Bool.or_false]
end Go.Proofs.YtnkogppgacappaaDoor

namespace Go.Proofs.YtnkogppgacappaaDoor
open Go.RowKit


end Go.Proofs.YtnkogppgacappaaDoor

namespace Go.Proofs.YtnkogppgacappaaDoor
open Go.RowKit

theorem heap_set_row {w : World} {b i : Nat} {cur : Array Value} {T : TypeId} {f : Nat × Nat} (h : w.heap[b]? = some (.cells cur T f)) (u : Value) : (w.setCell ⟨b, i, none⟩ u).heap[b]? = some (.cells (cur.setIfInBounds i u) T f) := by
  simp [World.setCell, Array.getElem?_modify, h]
theorem cell_row {w : World} {b i : Nat} {cur : Array Value} {T : TypeId} {f : Nat × Nat} (h : w.heap[b]? = some (.cells cur T f)) : w.cell? ⟨b, i, none⟩ = cur[i]? := by
  simp [World.cell?, h]
end Go.Proofs.YtnkogppgacappaaDoor

namespace Go.Proofs.YtnkogppgacappaaDoor
open Go.RowKit

/-- The slice value v, with whatever offset, holds the list l in a block of the call's own. -/
def QRow (base : Nat) (W : World) (v : Value) (l : List Int) : Prop :=
  ∃ g off cap cur, v = .slice (some ⟨g, off, none⟩) l.length cap ∧ base ≤ g ∧ W.heap[g]? = some (.cells cur 3 (0, 0)) ∧ l.length ≤ cap ∧ cap ≤ maxLen ∧ off + cap ≤ cur.size ∧ ∀ (i : Nat) x, l[i]? = some x → cur[off + i]? = some (.int .i64 x)
section
variable {base : Nat} {w W W' : World} {v : Value} {l : List Int}
theorem QRow.of_own (h : W.ownsRow base 3 1 v l.length (l.map (Value.int .i64))) (h0 : l ≠ []) : QRow base W v l := by
  rcases h.2 with ⟨-, h1⟩ | ⟨g, cap, cur, rfl, hg, hh, hn, hm, hs, ht⟩
  · exact absurd (List.eq_nil_of_length_eq_zero h1) h0
  · refine ⟨g, 0, cap, cur, rfl, hg, hh, hn, hm, by omega, fun i x hx => ?_⟩
    have h3 : (l.map (Value.int .i64))[i]? = some (.int .i64 x) := by rw [List.getElem?_map, hx]; rfl
    rw [← ht, Nat.mul_one, List.getElem?_take] at h3
    have hi : i < l.length := (List.getElem?_eq_some_iff.1 hx).1
    rw [if_pos hi] at h3
    simpa using h3
theorem QRow.opens (h : QRow base W v l) : ∃ g off cap, v = .slice (some ⟨g, off, none⟩) l.length cap ∧ base ≤ g ∧ g < W.heap.size ∧ l.length ≤ cap ∧ cap ≤ 9223372036854775807 := by
  obtain ⟨g, off, cap, cur, h1, h2, h3, h4, h5, -⟩ := h
  unfold maxLen at h5
  exact ⟨g, off, cap, h1, h2, (Array.getElem?_eq_some_iff.1 h3).1, h4, by omega⟩
theorem QRow.head {g off n cap : Nat} {x : Int} (h : QRow base W (.slice (some ⟨g, off, none⟩) n cap) (x :: l)) : W.cell? ⟨g, off, none⟩ = some (.int .i64 x) := by
  obtain ⟨g', off', cap', cur, e, -, hh, -, -, -, he⟩ := h
  cases e
  have := he 0 x rfl
  simp [World.cell?, hh]
  simpa using this
theorem QRow.tail {g off n cap : Nat} {x : Int} (h : QRow base W (.slice (some ⟨g, off, none⟩) n cap) (x :: l)) : QRow base W (.slice (some ⟨g, off + 1, none⟩) (n - 1) (cap - 1)) l := by
  obtain ⟨g', off', cap', cur, e, h2, hh, h4, h5, h6, he⟩ := h
  cases e
  rw [List.length_cons] at h4
  refine ⟨g, off + 1, cap - 1, cur, by simp, h2, hh, by omega, by omega, by omega, fun i y hy => ?_⟩
  have := he (i + 1) y (by simpa using hy)
  rw [show off + 1 + i = off + (i + 1) by omega]
  exact this
theorem QRow.tail0 {g off n cap : Nat} {x : Int} (h : QRow base W (.slice (some ⟨g, off, none⟩) n cap) (x :: l)) (hc : cap = 1) : QRow base W (.slice (some ⟨g, off, none⟩) (n - 1) 0) l := by
  obtain ⟨g', off', cap', cur, e, h2, hh, h4, h5, h6, he⟩ := h
  cases e
  rw [List.length_cons] at h4
  have hl : l = [] := List.eq_nil_of_length_eq_zero (by omega)
  subst hl
  exact ⟨g, off, 0, cur, rfl, h2, hh, Nat.le_refl _, Nat.zero_le _, by omega, fun i y hy => by simp at hy⟩
theorem QRow.kept (h : QRow base W v l) (hk : ∀ g, v.ownBlock = some g → W'.heap[g]? = W.heap[g]?) : QRow base W' v l := by
  obtain ⟨g, off, cap, cur, rfl, h2, hh, h3⟩ := h
  exact ⟨g, off, cap, cur, rfl, h2, (hk g rfl).trans hh, h3⟩
theorem QRow.lt (h : QRow base W v l) : ∀ g, v.ownBlock = some g → base ≤ g ∧ g < W.heap.size := by
  obtain ⟨g, off, cap, cur, rfl, h2, hh, -⟩ := h
  intro g' e
  cases e
  exact ⟨h2, (Array.getElem?_eq_some_iff.1 hh).1⟩
end

/-- append of one number onto a queue, for the walk. -/
theorem wpList_append_Q {P : Program} {w : World} {ops : Array Oper} {rest : List Oper} {o : Oper} {a : Act} {Q : Exit → Act → World → Prop} (hgd : o.guard = none) (s x : Operand) (t : TypeId)
    (ho : o.op = .call { callee := .builtin .append, args := #[s, x], argTypes := #[t, t] })
    (i : TypeInfo) (ht : P.underlying t = some (.slice 3)) (hi : P.info? 3 = some i) (hz : i.zero = some (.int .i64 0)) (hsize : i.size = 1) (hby : i.bytes = 8)
    (base : Nat) (hbase : base ≤ w.heap.size) (v : Value) (l : List Int) (hs : a.eval s = v) (hq : QRow base w v l) (ad : Addr) (c : Nat) (y : Int) (hx : a.eval x = .slice (some ad) 1 c) (hc : w.cell? (ad.add 0) = some (.int .i64 y)) (hn : l.length + 1 ≤ 17592186044416)
    (h : ∀ v' w', QRow base w' v' (l ++ [y]) → w.grownBy w' v.ownBlock → (∀ k, v'.ownBlock = some k → v.ownBlock = some k ∨ w.heap.size ≤ k) → wpList P ops Q rest (a.put o.dst v') w') :
    wpList P ops Q (o :: rest) a w := by
  obtain ⟨g, off, cap, cur, rfl, hg, hh, h4, h5, h6, he⟩ := hq
  refine wpList_append_arg w hgd s x t ho 3 i (.int .i64 0) 1 8 ht hi hz hsize hby rfl (by decide) g off l.length cap (l.map (Value.int .i64)) hs (by simp) (fun j u hj => ?_) ad 1 c [.int .i64 y] hx rfl (fun j u hj => ?_) (fun u hu => ?_) (fun _ j hj => ?_) (by unfold maxLen; omega) (by omega) (fun hr => ?_) (fun hr v' w' hown hgrow => ?_)
  · rw [List.getElem?_map] at hj
    cases hx2 : l[j]? with
    | none => rw [hx2] at hj; cases hj
    | some z =>
      rw [hx2] at hj
      cases hj
      rw [cell_row hh]
      exact he j z hx2
  · have hj0 : j = 0 := by
      have := (List.getElem?_eq_some_iff.1 hj).1
      simpa using this
    subst hj0
    cases hj
    exact hc
  · rw [List.mem_singleton] at hu; subst hu; rfl
  · have hj0 : j = 0 := by simpa using hj
    subst hj0
    refine ⟨?_, by simp [World.frozen?, hh]⟩
    rw [cell_row hh]
    simp
    omega
  · have hw : w.setCells g (off + l.length * 1) [.int .i64 y] = w.setCell ⟨g, off + l.length, none⟩ (.int .i64 y) := by rw [Nat.mul_one]; rfl
    rw [hw]
    refine h _ _ ⟨g, off, cap, cur.setIfInBounds (off + l.length) (.int .i64 y), by simp, hg, heap_set_row hh _, by simp; omega, h5, by simpa using h6, fun j z hj => ?_⟩ ⟨rfl, rfl, rfl, by simp [World.setCell], fun k hk hne => Below.heap_setCell _ _ _ _ (fun e => hne (by rw [e]; rfl))⟩ (fun k hk => .inl hk)
    rw [Array.getElem?_setIfInBounds]
    rcases Nat.lt_trichotomy j l.length with hlt | heq | hgt
    · rw [if_neg (by omega)]
      rw [List.getElem?_append_left hlt] at hj
      exact he j z hj
    · subst heq
      rw [if_pos rfl, if_pos (by omega)]
      rw [List.getElem?_append_right (Nat.le_refl _), Nat.sub_self] at hj
      simpa using hj
    · rw [List.getElem?_eq_none (by simp; omega)] at hj
      cases hj
  · have hown2 : w'.ownsRow w.heap.size 3 1 v' (l ++ [y]).length ((l ++ [y]).map (Value.int .i64)) := by
      rw [List.length_append, List.length_singleton, List.map_append]; exact hown
    obtain ⟨g', off', cap', cur', e1, e2, e3⟩ := QRow.of_own hown2 (by simp)
    subst e1
    refine h _ w' ⟨g', off', cap', cur', rfl, Nat.le_trans hbase e2, e3⟩ ⟨hgrow.os, hgrow.tape, hgrow.output, hgrow.size, fun k hk _ => hgrow.block k hk (by simp)⟩ (fun k hk => by cases hk; exact .inr e2)

/-- Row t of a family is turned; all else is kept. -/
theorem Fam.put {w w' : World} {base : Nat} {e : TypeId} {n : Nat} {V : Nat → Value} {R : Nat → List Value} (h : Fam w base e n V R) {t : Nat} (ht : t < n) {v' : Value} {xs : List Value}
    (ho : w'.ownsRow base e 1 v' xs.length xs) (hg : w.grownBy w' (V t).ownBlock) (hb : ∀ k, v'.ownBlock = some k → (V t).ownBlock = some k ∨ w.heap.size ≤ k) :
    Fam w' base e n (fun u => if u = t then v' else V u) (fun u => if u = t then xs else R u) := by
  have hlt : ∀ u k, u < n → (V u).ownBlock = some k → k < w.heap.size := fun u k hu hk => ((h.own u hu).lt k hk).2
  refine ⟨fun u hu => ?_, fun u1 u2 k h1 h2 hne hk => ?_⟩
  · by_cases hut : u = t
    · subst hut; simp only [if_true]; exact ho
    · simp only [if_neg hut]
      refine (h.own u hu).kept hg ?_
      cases hu' : (V u).ownBlock with
      | none => exact .inl rfl
      | some k => exact .inr (fun e => h.apart u t k hu ht hut hu' e.symm)
  · by_cases e1 : u1 = t
    · have e2 : u2 ≠ t := fun e => hne (e1.trans e.symm)
      simp only [if_pos e1] at hk
      simp only [if_neg e2]
      intro h2'
      rcases hb k hk with hb | hb
      · exact h.apart t u2 k ht h2 (fun e => e2 e.symm) hb h2'
      · have := hlt u2 _ h2 h2'; omega
    · simp only [if_neg e1] at hk
      by_cases e2 : u2 = t
      · simp only [if_pos e2]
        intro h2'
        rcases hb k h2' with hb | hb
        · exact h.apart u1 t k h1 ht e1 hk hb
        · have := hlt u1 _ h1 hk; omega
      · simp only [if_neg e2]; exact h.apart u1 u2 k h1 h2 hne hk
/-- What is turned lies in none of the rows. -/
theorem Fam.off {w w' : World} {base : Nat} {e : TypeId} {n : Nat} {V : Nat → Value} {R : Nat → List Value} (h : Fam w base e n V R) {row : Option Nat} (hg : w.grownBy w' row) (hr : ∀ t, t < n → ∀ k, (V t).ownBlock = some k → row ≠ some k) : Fam w' base e n V R :=
  ⟨fun t ht => (h.own t ht).kept hg (by
    cases e : (V t).ownBlock with
    | none => exact .inl rfl
    | some k => exact .inr (fun e2 => hr t ht k e e2.symm)), h.apart⟩

end Go.Proofs.YtnkogppgacappaaDoor
