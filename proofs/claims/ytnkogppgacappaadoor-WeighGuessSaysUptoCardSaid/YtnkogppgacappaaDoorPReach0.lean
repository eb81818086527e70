/- graph.Post, in plain Lean: blocks as a search in depth leaves them. calls.Order in plain Lean: who reaches whom, rings, and the order; a next one is always to be had. No program in sight. calls.reach in plain Lean: a search in depth finds all that one reaches. No program in sight. -/
import Derived.Test.YtnkogppgacappaaDoorPRefA
namespace Go.Proofs.YtnkogppgacappaaDoor

def tosOf (bs : List DBlock) (b : Nat) : List Int := match bs[b]? with | some x => x.fin.to | none => []
/-- A visit of block b; the state: which are seen; which are left. -/
def visitF (bs : List DBlock) : Nat → Nat → List Bool × List Int → List Bool × List Int
  | 0, _, s => s
  | f + 1, b, s =>
    let s1 := (tosOf bs b).reverse.foldl (fun s t => if s.1.getD t.toNat true = true then s else visitF bs f t.toNat s) (s.1.set b true, s.2)
    (s1.1, s1.2 ++ [(b : Int)])
def walkF (bs : List DBlock) (f : Nat) (l : List Int) (s : List Bool × List Int) : List Bool × List Int := l.foldl (fun s t => if s.1.getD t.toNat true = true then s else visitF bs f t.toNat s) s
theorem visitF_succ (bs : List DBlock) (f b : Nat) (s : List Bool × List Int) : visitF bs (f + 1) b s = ((walkF bs f (tosOf bs b).reverse (s.1.set b true, s.2)).1, (walkF bs f (tosOf bs b).reverse (s.1.set b true, s.2)).2 ++ [(b : Int)]) := rfl
theorem walkF_snoc (bs : List DBlock) (f : Nat) (l : List Int) (t : Int) (s : List Bool × List Int) : walkF bs f (l ++ [t]) s = if (walkF bs f l s).1.getD t.toNat true = true then walkF bs f l s else visitF bs f t.toNat (walkF bs f l s) := by
  unfold walkF; rw [List.foldl_append]; rfl
theorem walkF_cons (bs : List DBlock) (f : Nat) (l : List Int) (t : Int) (s : List Bool × List Int) : walkF bs f (t :: l) s = walkF bs f l (if s.1.getD t.toNat true = true then s else visitF bs f t.toNat s) := rfl

/-- How many are not seen yet. -/
theorem unseen_set : ∀ (l : List Bool) (b : Nat), l[b]? = some false → (l.set b true).count false + 1 = l.count false := by
  intro l
  induction l with
  | nil => intro b h; simp at h
  | cons a l ih =>
    intro b h
    cases b with
    | zero =>
      rw [List.getElem?_cons_zero] at h
      cases h
      simp
    | succ b =>
      rw [List.getElem?_cons_succ] at h
      have := ih b h
      rw [List.set_cons_succ, List.count_cons, List.count_cons]
      omega

/-- What a visit does: as many places; what was seen stays so; what is added to the left ones is new, and each of it but the last one has one behind it that leads to it. -/
structure Visd (bs : List DBlock) (s s' : List Bool × List Int) (A : List Int) : Prop where
  len : s'.1.length = s.1.length
  left : s'.2 = s.2 ++ A
  seen : ∀ i, s'.1.getD i true = true ↔ s.1.getD i true = true ∨ (i : Int) ∈ A
  fresh : ∀ x ∈ A, 0 ≤ x ∧ x < (s.1.length : Int) ∧ s.1.getD x.toNat true = false
  nodup : A.Nodup
theorem Visd.refl (bs : List DBlock) (s : List Bool × List Int) : Visd bs s s [] :=
  ⟨rfl, (List.append_nil _).symm, fun i => ⟨.inl, fun h => h.elim id (fun h => (by cases h))⟩, fun x h => (by cases h), List.nodup_nil⟩
theorem Visd.trans {bs : List DBlock} {s s' s'' : List Bool × List Int} {A B : List Int} (h : Visd bs s s' A) (k : Visd bs s' s'' B) : Visd bs s s'' (A ++ B) := by
  refine ⟨k.len.trans h.len, by rw [k.left, h.left, List.append_assoc], fun i => ?_, fun x hx => ?_, ?_⟩
  · rw [k.seen, h.seen, List.mem_append]
    constructor
    · rintro ((h | h) | h)
      · exact .inl h
      · exact .inr (.inl h)
      · exact .inr (.inr h)
    · rintro (h | h | h)
      · exact .inl (.inl h)
      · exact .inl (.inr h)
      · exact .inr h
  · rcases List.mem_append.1 hx with hx | hx
    · exact h.fresh x hx
    · obtain ⟨h1, h2, h3⟩ := k.fresh x hx
      refine ⟨h1, by rw [h.len] at h2; exact h2, ?_⟩
      cases hs : s.1.getD x.toNat true with
      | false => rfl
      | true => rw [(h.seen x.toNat).2 (.inl hs)] at h3; cases h3
  · refine List.nodup_append.2 ⟨h.nodup, k.nodup, fun x hx y hy e => ?_⟩
    subst e
    obtain ⟨h1, h2, h3⟩ := k.fresh x hy
    have := (h.seen x.toNat).2 (.inr (by rw [Int.toNat_of_nonneg h1]; exact hx))
    rw [this] at h3; cases h3

theorem unseen_le : ∀ (l l' : List Bool), l'.length = l.length → (∀ i, l.getD i true = true → l'.getD i true = true) → l'.count false ≤ l.count false := by
  intro l
  induction l with
  | nil =>
    intro l' hl _
    obtain rfl := List.length_eq_zero_iff.1 hl
    exact Nat.le_refl _
  | cons a l ih =>
    intro l' hl h
    cases l' with
    | nil => simp at hl
    | cons a' l' =>
      have h1 := ih l' (by simpa using hl) (fun i hi => h (i + 1) hi)
      have h2 := h 0
      rw [List.count_cons, List.count_cons]
      cases a <;> cases a' <;> simp at h2 ⊢ <;> omega

/-- Each has one behind it that leads to it, or is of l. -/
def LedBy (bs : List DBlock) (A l : List Int) : Prop := ∀ j (h : j < A.length), (∃ k, ∃ h' : k < A.length, j < k ∧ A[j] ∈ tosOf bs (A[k]).toNat) ∨ A[j] ∈ l
theorem LedBy.mono {bs : List DBlock} {A l l' : List Int} (h : LedBy bs A l) (hl : ∀ x ∈ l, x ∈ l') : LedBy bs A l' := fun j hj => (h j hj).imp id (hl _)
theorem LedBy.append {bs : List DBlock} {A B l : List Int} (h : LedBy bs A l) (k : LedBy bs B l) : LedBy bs (A ++ B) l := by
  intro j hj
  by_cases hA : j < A.length
  · rw [List.getElem_append_left hA]
    rcases h j hA with ⟨i, hi, h1, h2⟩ | h
    · exact .inl ⟨i, by rw [List.length_append]; omega, h1, by rw [List.getElem_append_left hi]; exact h2⟩
    · exact .inr h
  · have hj' : j - A.length < B.length := by rw [List.length_append] at hj; omega
    rw [List.getElem_append_right (by omega)]
    rcases k (j - A.length) hj' with ⟨i, hi, h1, h2⟩ | h
    · refine .inl ⟨i + A.length, by rw [List.length_append]; omega, by omega, ?_⟩
      rw [List.getElem_append_right (by omega)]
      simpa using h2
    · exact .inr h
theorem LedBy.close {bs : List DBlock} {A : List Int} {b : Nat} (h : LedBy bs A (tosOf bs b)) : LedBy bs (A ++ [(b : Int)]) [(b : Int)] := by
  intro j hj
  by_cases hA : j < A.length
  · left
    rw [List.getElem_append_left hA]
    rcases h j hA with ⟨i, hi, h1, h2⟩ | h
    · exact ⟨i, by rw [List.length_append]; omega, h1, by rw [List.getElem_append_left hi]; exact h2⟩
    · exact ⟨A.length, by simp, hA, by simpa using h⟩
  · right
    rw [List.getElem_append_right (by omega)]
    simp

theorem walk_visd (bs : List DBlock) (f : Nat) (hv : ∀ (b : Nat) (s : List Bool × List Int), s.1[b]? = some false → s.1.count false ≤ f → ∃ A, Visd bs s (visitF bs f b s) A ∧ LedBy bs A [(b : Int)]) :
    ∀ (l : List Int) (s : List Bool × List Int), (∀ t ∈ l, 0 ≤ t) → s.1.count false ≤ f → ∃ A, Visd bs s (walkF bs f l s) A ∧ LedBy bs A l := by
  intro l
  induction l with
  | nil => exact fun s _ _ => ⟨[], Visd.refl bs s, fun j h => (by cases h)⟩
  | cons t l ih =>
    intro s ht hc
    rw [walkF_cons]
    by_cases hs : s.1.getD t.toNat true = true
    · rw [if_pos hs]
      obtain ⟨A, h1, h2⟩ := ih s (fun x hx => ht x (List.mem_cons_of_mem _ hx)) hc
      exact ⟨A, h1, h2.mono (fun x hx => List.mem_cons_of_mem _ hx)⟩
    · rw [if_neg hs]
      have hs' : s.1[t.toNat]? = some false := by
        rw [List.getD_eq_getElem?_getD] at hs
        cases h : s.1[t.toNat]? with
        | none => rw [h] at hs; exact absurd rfl hs
        | some x => rw [h] at hs; cases x with
          | true => exact absurd rfl hs
          | false => rfl
      obtain ⟨A, h1, h2⟩ := hv t.toNat s hs' hc
      have hc' : (visitF bs f t.toNat s).1.count false ≤ f := Nat.le_trans (unseen_le _ _ h1.len (fun i hi => (h1.seen i).2 (.inl hi))) hc
      obtain ⟨B, h3, h4⟩ := ih _ (fun x hx => ht x (List.mem_cons_of_mem _ hx)) hc'
      refine ⟨A ++ B, h1.trans h3, LedBy.append (h2.mono (fun x hx => ?_)) (h4.mono (fun x hx => List.mem_cons_of_mem _ hx))⟩
      rw [List.mem_singleton] at hx
      rw [hx, Int.toNat_of_nonneg (ht t (List.mem_cons_self ..))]
      exact List.mem_cons_self ..

theorem visit_visd (bs : List DBlock) (hto : ∀ b, ∀ t ∈ tosOf bs b, 0 ≤ t) : ∀ (f b : Nat) (s : List Bool × List Int), s.1[b]? = some false → s.1.count false ≤ f → ∃ A, Visd bs s (visitF bs f b s) A ∧ LedBy bs A [(b : Int)] := by
  intro f
  induction f with
  | zero =>
    intro b s hb hc
    have := unseen_set s.1 b hb
    omega
  | succ f ih =>
    intro b s hb hc
    have hb1 := (List.getElem?_eq_some_iff.1 hb).1
    have hu := unseen_set s.1 b hb
    obtain ⟨A, h1, h2⟩ := walk_visd bs f ih (tosOf bs b).reverse (s.1.set b true, s.2) (fun t ht => hto b t (List.mem_reverse.1 ht)) (by dsimp only; omega)
    rw [visitF_succ]
    have hset : ∀ i, (s.1.set b true).getD i true = true ↔ s.1.getD i true = true ∨ i = b := fun i => by
      rw [List.getD_eq_getElem?_getD, List.getD_eq_getElem?_getD, List.getElem?_set]
      by_cases hib : b = i
      · subst hib; simp [hb1]
      · rw [if_neg hib]
        exact ⟨.inl, fun h => h.elim id (fun h => absurd h.symm hib)⟩
    refine ⟨A ++ [(b : Int)], ⟨?_, ?_, fun i => ?_, fun x hx => ?_, ?_⟩, (h2.mono (fun x hx => List.mem_reverse.1 hx)).close⟩
    · have := h1.len
      simpa using this
    · have := h1.left
      dsimp only at this ⊢
      rw [this, List.append_assoc]
    · have h := h1.seen i
      dsimp only at h ⊢
      rw [h, hset, List.mem_append, List.mem_singleton]
      constructor
      · rintro ((h | h) | h)
        · exact .inl h
        · exact .inr (.inr (by rw [h]))
        · exact .inr (.inl h)
      · rintro (h | h | h)
        · exact .inl (.inl h)
        · exact .inr h
        · exact .inl (.inr (by omega))
    · rcases List.mem_append.1 hx with hx | hx
      · obtain ⟨k1, k2, k3⟩ := h1.fresh x hx
        dsimp only at k2 k3
        rw [List.length_set] at k2
        refine ⟨k1, k2, ?_⟩
        cases hs : s.1.getD x.toNat true with
        | false => rfl
        | true => rw [(hset x.toNat).2 (.inl hs)] at k3; cases k3
      · rw [List.mem_singleton] at hx
        subst hx
        refine ⟨by omega, by omega, ?_⟩
        rw [Int.toNat_natCast, List.getD_eq_getElem?_getD, hb]; rfl
    · refine List.nodup_append.2 ⟨h1.nodup, by simp, fun x hx y hy e => ?_⟩
      rw [List.mem_singleton] at hy
      subst e
      subst hy
      obtain ⟨k1, k2, k3⟩ := h1.fresh _ hx
      dsimp only at k3
      rw [Int.toNat_natCast, (hset b).2 (.inr rfl)] at k3
      cases k3

theorem getD_false {l : List Bool} {i : Nat} (h : ¬ l.getD i true = true) : l[i]? = some false := by
  rw [List.getD_eq_getElem?_getD] at h
  cases e : l[i]? with
  | none => rw [e] at h; exact absurd rfl h
  | some x => rw [e] at h; cases x with
    | true => exact absurd rfl h
    | false => rfl
/-- What is left and what is unseen are no more than before. -/
theorem walk_sum (bs : List DBlock) (f : Nat) (hv : ∀ (b : Nat) (s : List Bool × List Int), s.1[b]? = some false → s.1.count false ≤ f → (visitF bs f b s).2.length + (visitF bs f b s).1.count false ≤ s.2.length + s.1.count false ∧ (visitF bs f b s).1.count false ≤ s.1.count false ∧ (visitF bs f b s).1.length = s.1.length) :
    ∀ (l : List Int) (s : List Bool × List Int), s.1.count false ≤ f → (walkF bs f l s).2.length + (walkF bs f l s).1.count false ≤ s.2.length + s.1.count false ∧ (walkF bs f l s).1.count false ≤ s.1.count false ∧ (walkF bs f l s).1.length = s.1.length := by
  intro l
  induction l with
  | nil => exact fun s _ => ⟨Nat.le_refl _, Nat.le_refl _, rfl⟩
  | cons t l ih =>
    intro s hc
    rw [walkF_cons]
    by_cases hs : s.1.getD t.toNat true = true
    · rw [if_pos hs]; exact ih s hc
    · rw [if_neg hs]
      obtain ⟨h1, h2, h3⟩ := hv t.toNat s (getD_false hs) hc
      obtain ⟨k1, k2, k3⟩ := ih _ (Nat.le_trans h2 hc)
      exact ⟨Nat.le_trans k1 h1, Nat.le_trans k2 h2, k3.trans h3⟩
theorem visit_sum (bs : List DBlock) : ∀ (f b : Nat) (s : List Bool × List Int), s.1[b]? = some false → s.1.count false ≤ f →
    (visitF bs f b s).2.length + (visitF bs f b s).1.count false ≤ s.2.length + s.1.count false ∧ (visitF bs f b s).1.count false ≤ s.1.count false ∧ (visitF bs f b s).1.length = s.1.length := by
  intro f
  induction f with
  | zero =>
    intro b s hb hc
    have := unseen_set s.1 b hb
    omega
  | succ f ih =>
    intro b s hb hc
    have hu := unseen_set s.1 b hb
    obtain ⟨h1, h2, h3⟩ := walk_sum bs f ih (tosOf bs b).reverse (s.1.set b true, s.2) (by dsimp only; omega)
    rw [visitF_succ]
    dsimp only at h1 h2 h3 ⊢
    rw [List.length_append, List.length_singleton]
    rw [List.length_set] at h3
    exact ⟨by omega, by omega, h3⟩

/-- The blocks as they are left. -/
def postF (bs : List DBlock) : List Int := (visitF bs bs.length 0 (List.replicate bs.length false, [])).2

end Go.Proofs.YtnkogppgacappaaDoor

namespace Go.Proofs.YtnkogppgacappaaDoor

end Go.Proofs.YtnkogppgacappaaDoor

namespace Go.Proofs.YtnkogppgacappaaDoor

end Go.Proofs.YtnkogppgacappaaDoor
