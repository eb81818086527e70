/- Whence one comes: plain lists; and a family of rows that the call itself owns. -/
import Derived.Test.YtaehkcnankijfaaDoorChk8
import Derived.Maps.AppendAt
import Derived.Deep.OwnRows
namespace Go.Proofs.YtaehkcnankijfaaDoor
open Go.RowKit

def hits (to : List Int) (t : Nat) (i : Nat) : List Int := (to.filter fun x : Int => decide (x = (t : Int))).map fun _ => (i : Int)
/-- The blocks of l, numbered from s on, that lead to t. -/
def predsOf : List DBlock → Nat → Nat → List Int
  | [], _, _ => []
  | b :: r, s, t => hits b.fin.to t s ++ predsOf r (s + 1) t
def aheadF (l : List DBlock) : List (List Int) := (List.range l.length).map fun t => predsOf l 0 t
theorem predsOf_append (l r : List DBlock) (s t : Nat) : predsOf (l ++ r) s t = predsOf l s t ++ predsOf r (s + l.length) t := by
  induction l generalizing s with
  | nil => simp [predsOf]
  | cons b l ih => simp only [List.cons_append, predsOf, ih, List.append_assoc, List.length_cons]; rw [show s + 1 + l.length = s + (l.length + 1) by omega]
theorem predsOf_take (l : List DBlock) (k t : Nat) (h : k < l.length) : predsOf (l.take (k + 1)) 0 t = predsOf (l.take k) 0 t ++ hits l[k].fin.to t k := by
  rw [List.take_succ_eq_append_getElem h, predsOf_append]
  simp [predsOf, List.length_take, Nat.min_eq_left (Nat.le_of_lt h)]
theorem hits_take (to : List Int) (j t i : Nat) (h : j < to.length) : hits (to.take (j + 1)) t i = hits (to.take j) t i ++ if to[j] = (t : Int) then [(i : Int)] else [] := by
  unfold hits
  rw [List.take_succ_eq_append_getElem h, List.filter_append, List.map_append]
  congr 1
  by_cases hc : to[j] = (t : Int) <;> simp [hc]
theorem hits_len (to : List Int) (t i : Nat) : (hits to t i).length ≤ to.length := by
  unfold hits; rw [List.length_map]; exact List.length_filter_le _ _

theorem predsOf_le (l : List DBlock) (m : Nat) (h : ∀ (i : Nat) (x : DBlock), l[i]? = some x → x.fin.to.length ≤ m) (k s t : Nat) : (predsOf (l.take k) s t).length ≤ m * l.length := by
  induction l generalizing k s with
  | nil => simp [predsOf]
  | cons b l ih =>
    cases k with
    | zero => simp [predsOf]
    | succ k =>
      have h1 := ih (fun i x hx => h (i + 1) x hx) k (s + 1)
      have h2 := hits_len b.fin.to t s
      have h3 := h 0 b rfl
      simp only [List.take_succ_cons, predsOf, List.length_append, List.length_cons, Nat.mul_add, Nat.mul_one]
      omega
theorem hits_mem {to : List Int} {t i : Nat} {x : Int} (h : x ∈ hits to t i) : x = i := by
  unfold hits at h
  obtain ⟨_, _, h⟩ := List.mem_map.1 h
  exact h.symm
theorem predsOf_mem {l : List DBlock} {s t : Nat} {x : Int} (h : x ∈ predsOf l s t) : 0 ≤ x ∧ x < s + l.length := by
  induction l generalizing s with
  | nil => simp [predsOf] at h
  | cons b l ih =>
    simp only [predsOf, List.mem_append] at h
    rcases h with h | h
    · have := hits_mem h; simp only [List.length_cons]; omega
    · have := ih h; simp only [List.length_cons]; omega

/-- Each row of the family is the call's own; no two lie in one block. -/
structure Fam (w : World) (base : Nat) (e : TypeId) (n : Nat) (V : Nat → Value) (R : Nat → List Value) : Prop where
  own : ∀ t, t < n → w.ownsRow base e 1 (V t) (R t).length (R t)
  apart : ∀ t u k, t < n → u < n → t ≠ u → (V t).ownBlock = some k → (V u).ownBlock ≠ some k

theorem Fam.grown {w w' : World} {base : Nat} {e : TypeId} {n : Nat} {V : Nat → Value} {R : Nat → List Value} (h : Fam w base e n V R) (hg : w.grownBy w' none) : Fam w' base e n V R :=
  ⟨fun t ht => (h.own t ht).kept hg (by cases (V t).ownBlock <;> simp), h.apart⟩
theorem Fam.alloc {w : World} {base : Nat} {e : TypeId} {n : Nat} {V : Nat → Value} {R : Nat → List Value} (h : Fam w base e n V R) (o : Obj) : Fam (w.alloc o) base e n V R :=
  h.grown (World.grownBy_alloc _ _ _)
theorem Fam.setBelow {w : World} {base : Nat} {e : TypeId} {n : Nat} {V : Nat → Value} {R : Nat → List Value} (h : Fam w base e n V R) {a : Addr} (ha : a.block < base) (u : Value) : Fam (w.setCell a u) base e n V R :=
  ⟨fun t ht => ownsRow_setCell_below (h.own t ht) ha u, h.apart⟩
/-- Row t has grown by one append. -/
theorem Fam.push {w w' : World} {base : Nat} {e : TypeId} {n : Nat} {V : Nat → Value} {R : Nat → List Value} (h : Fam w base e n V R) {t : Nat} (ht : t < n) {v' : Value} {x : Value}
    (ho : w'.ownsRow base e 1 v' ((R t).length + 1) (R t ++ [x])) (hg : w.grownBy w' (V t).ownBlock) (hb : v'.ownBlock = (V t).ownBlock ∨ v'.ownBlock = some w.heap.size) :
    Fam w' base e n (fun u => if u = t then v' else V u) (fun u => if u = t then R t ++ [x] else R u) := by
  have hlt : ∀ u k, u < n → (V u).ownBlock = some k → k < w.heap.size := fun u k hu hk => ((h.own u hu).lt k hk).2
  refine ⟨fun u hu => ?_, fun u1 u2 k h1 h2 hne hk => ?_⟩
  · by_cases hut : u = t
    · subst hut; simp only [if_true]; rw [List.length_append]; exact ho
    · simp only [if_neg hut]
      refine (h.own u hu).kept hg ?_
      cases hu' : (V u).ownBlock with
      | none => exact .inl rfl
      | some k => exact .inr (fun e => h.apart u t k hu ht hut hu' e.symm)
  · by_cases e1 : u1 = t
    · have e2 : u2 ≠ t := fun e => hne (e1.trans e.symm)
      simp only [if_pos e1] at hk
      simp only [if_neg e2]
      intro h2'
      rcases hb with hb | hb
      · rw [hb] at hk; exact h.apart t u2 k ht h2 (fun e => e2 e.symm) hk h2'
      · rw [hb] at hk; cases hk; have := hlt u2 _ h2 h2'; omega
    · simp only [if_neg e1] at hk
      by_cases e2 : u2 = t
      · simp only [if_pos e2]
        rcases hb with hb | hb
        · rw [hb]; exact h.apart u1 t k h1 ht e1 hk
        · rw [hb]; intro e; cases e; have := hlt u1 _ h1 hk; omega
      · simp only [if_neg e2]; exact h.apart u1 u2 k h1 h2 hne hk

/-- An owned row of numbers, read. -/
theorem own_ints {w : World} {base : Nat} {e : TypeId} {v : Value} {l : List Int} (h : w.ownsRow base e 1 v l.length (l.map (Value.int .i64))) (hl : ∀ x ∈ l, I64 x) : SlAt (fun b => base ≤ b) w 1 rInt v l := by
  obtain ⟨h1, h2⟩ := h
  rcases h2 with ⟨rfl, h2⟩ | ⟨g, cap, cur, rfl, hg, hh, hn, hm, hs, ht⟩
  · have : l = [] := List.eq_nil_of_length_eq_zero h2
    subst this
    exact ⟨none, 0, rfl, Nat.le_refl _, by omega, fun h => absurd rfl h⟩
  · refine ⟨_, cap, rfl, hn, by unfold maxLen at hm; exact hm, fun _ => ⟨g, 0, rfl, hg, fun i x hx => ⟨[.int .i64 x], ⟨rfl, hl x (List.mem_of_getElem? hx)⟩, rfl, ?_⟩⟩⟩
    refine .cons ?_ (.nil _ _ _)
    have h3 : (l.map (Value.int .i64))[i]? = some (.int .i64 x) := by rw [List.getElem?_map, hx]; rfl
    rw [← ht, Nat.mul_one, List.getElem?_take] at h3
    have hi : i < l.length := (List.getElem?_eq_some_iff.1 hx).1
    rw [if_pos hi] at h3
    simp only [World.cell?, hh, Nat.zero_add, Nat.mul_one]
    simpa using h3

theorem own_shape {w : World} {base : Nat} {e : TypeId} {size n : Nat} {v : Value} {xs : List Value} (h : w.ownsRow base e size v (n + 1) xs) : ∃ g cap, v = .slice (some ⟨g, 0, none⟩) (n + 1) cap ∧ base ≤ g ∧ g < w.heap.size := by
  obtain ⟨h1, h2⟩ := h
  rcases h2 with ⟨-, h2⟩ | ⟨g, cap, cur, rfl, hg, hh, -⟩
  · omega
  · refine ⟨g, cap, rfl, hg, ?_⟩
    rcases Nat.lt_or_ge g w.heap.size with h3 | h3
    · exact h3
    · rw [Array.getElem?_eq_none h3] at hh; cases hh

/-- A table of rows under way: block O has n slices, each a row of its own that holds R t. -/
def Tab (w wr : World) (O : Nat) (T e : TypeId) (n : Nat) (R : Nat → List Int) : Prop :=
  w.heap.size ≤ O ∧ O < wr.heap.size ∧ Below w.heap.size w wr ∧ ∃ V, wr.rowIs O T n V ∧ Fam wr (O + 1) e n V (fun t => (R t).map (Value.int .i64))
theorem Tab.alloc {w wr : World} {O : Nat} {T e : TypeId} {n : Nat} {R : Nat → List Int} (h : Tab w wr O T e n R) (o : Obj) : Tab w (wr.alloc o) O T e n R := by
  obtain ⟨h1, h2, h3, V, h4, h5⟩ := h
  exact ⟨h1, by simp; omega, h3.alloc (by omega) _, V, h4.alloc _, h5.alloc _⟩
theorem Tab.congr {w wr : World} {O : Nat} {T e : TypeId} {n : Nat} {R R' : Nat → List Int} (h : Tab w wr O T e n R) (hr : ∀ t, t < n → R t = R' t) : Tab w wr O T e n R' := by
  obtain ⟨h1, h2, h3, V, h4, h5⟩ := h
  exact ⟨h1, h2, h3, V, h4, ⟨fun t ht => by rw [← hr t ht]; exact h5.own t ht, h5.apart⟩⟩
/-- One number is appended to row t, and the row stored back. -/
theorem Tab.push {w wr w1 : World} {O : Nat} {T e : TypeId} {n : Nat} {R : Nat → List Int} {V : Nat → Value} (h1 : w.heap.size ≤ O) (h2 : O < wr.heap.size) (h3 : Below w.heap.size w wr)
    (h4 : wr.rowIs O T n V) (h5 : Fam wr (O + 1) e n V (fun t => (R t).map (Value.int .i64))) {t : Nat} (ht : t < n) {v' : Value} {x : Int} (o : Obj)
    (ho : w1.ownsRow (O + 1) e 1 v' (((R t).map (Value.int .i64)).length + 1) ((R t).map (Value.int .i64) ++ [.int .i64 x])) (hg : (wr.alloc o).grownBy w1 (V t).ownBlock)
    (hb : v'.ownBlock = (V t).ownBlock ∨ v'.ownBlock = some (wr.alloc o).heap.size) :
    w1.cell? ⟨O, t, none⟩ = some (V t) ∧ w1.frozen? ⟨O, t, none⟩ = false ∧ Tab w (w1.setCell ⟨O, t, none⟩ v') O T e n (fun u => if u = t then R t ++ [x] else R u) := by
  have hne : some O ≠ (V t).ownBlock := fun e => by have := ((h5.own t ht).lt O e.symm).1; omega
  have hblk : w1.heap[O]? = (wr.alloc o).heap[O]? := hg.block O (by simp; omega) hne
  have hrow : w1.rowIs O T n V := (h4.alloc o).of_block hblk
  have hsz := hg.size
  simp at hsz
  refine ⟨hrow.cell ht, hrow.frozen t, h1, by simp [World.setCell]; omega, ?_, _, hrow.set t v', ?_⟩
  · refine Below.setCell ((h3.alloc (by omega) o).grown hg (by simp; omega) (fun k hk => by have := ((h5.own t ht).lt k hk).1; omega)) ?_ _
    exact h1
  · have hf := (h5.alloc o).push ht ho hg hb
    have hf2 := hf.setBelow (a := ⟨O, t, none⟩) (Nat.lt_succ_self O) v'
    refine ⟨fun u hu => ?_, hf2.apart⟩
    have := hf2.own u hu
    by_cases hut : u = t
    · subst hut; simpa using this
    · simpa [hut] using this
/-- The table done. -/
theorem Tab.done {w wr : World} {O : Nat} {T e : TypeId} {n : Nat} {R : Nat → List Int} (h : Tab w wr O T e n R) (hn : n ≤ 1048576) (hR : ∀ t, t < n → ∀ x ∈ R t, I64 x) :
    SlAt (fun b => w.heap.size ≤ b) wr 1 rRow (.slice (some ⟨O, 0, none⟩) n n) ((List.range n).map R) := by
  obtain ⟨h1, h2, h3, V, h4, h5⟩ := h
  refine ⟨_, n, by simp, by simp, by omega, fun _ => ⟨O, 0, rfl, h1, fun i x hx => ?_⟩⟩
  have hi : i < n := by have := (List.getElem?_eq_some_iff.1 hx).1; simpa using this
  have hx' : x = R i := by rw [List.getElem?_map, List.getElem?_range hi] at hx; simpa using hx.symm
  subst hx'
  refine ⟨[V i], ⟨V i, rfl, ?_⟩, rfl, .cons (by simpa using h4.cell hi) (.nil _ _ _)⟩
  have h6 := h5.own i hi
  rw [List.length_map] at h6
  exact (own_ints h6 (hR i hi)).mono rInt_mono (fun b hb => by omega) (Stays.refl _ _)

end Go.Proofs.YtaehkcnankijfaaDoor
