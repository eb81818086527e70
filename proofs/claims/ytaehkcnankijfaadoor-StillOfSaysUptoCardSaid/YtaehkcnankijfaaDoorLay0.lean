/- The order of blocks, plainly. -/
import Derived.Test.YtaehkcnankijfaaDoorHeap0
namespace Go.Proofs.YtaehkcnankijfaaDoor
open Go.RowKit

theorem list_rev {α : Type} {p : List α → Prop} (h0 : p []) (h1 : ∀ l t, p l → p (l ++ [t])) : ∀ l, p l := by
  intro l
  rw [← List.reverse_reverse l]
  induction l.reverse with
  | nil => exact h0
  | cons a l ih => rw [List.reverse_cons]; exact h1 _ _ ih
def optInt : Option Nat → Int | none => -1 | some b => b
def pickStep (c : Nat → Int) (had : Nat → Bool) (best : Option Nat) (t : Nat) : Option Nat :=
  match best with
  | none => if had t = true then none else some t
  | some b => if had t = false ∧ c b < c t then some t else some b
/-- The first with the greatest count among those of the list that are not had. -/
def pick (c : Nat → Int) (had : Nat → Bool) (l : List Nat) : Option Nat := l.foldl (pickStep c had) none
def hadB (out : List Nat) (b : Nat) : Bool := out.contains b
def targets (bs : List DBlock) (b : Nat) : List Nat := match bs[b]? with | some x => x.fin.to.map Int.toNat | none => []
def layNext (bs : List DBlock) (c : Nat → Int) (out : List Nat) : Option Nat :=
  match pick c (hadB out) (targets bs (out.getLastD 0)) with
  | some b => some b
  | none => pick c (hadB out) (List.range bs.length)
def layRun (bs : List DBlock) (c : Nat → Int) : Nat → List Nat → List Nat
  | 0, out => out
  | f + 1, out => match layNext bs c out with | none => out | some b => layRun bs c f (out ++ [b])
def layF (bs : List DBlock) (c : Nat → Int) : List Nat := layRun bs c bs.length [0]

theorem pick_snoc (c : Nat → Int) (had : Nat → Bool) (l : List Nat) (t : Nat) : pick c had (l ++ [t]) = pickStep c had (pick c had l) t := by simp [pick]
theorem pick_take (c : Nat → Int) (had : Nat → Bool) (l : List Nat) (k : Nat) (h : k < l.length) : pick c had (l.take (k + 1)) = pickStep c had (pick c had (l.take k)) l[k] := by
  rw [List.take_succ_eq_append_getElem h, pick_snoc]
/-- What is picked is of the list, and not had. -/
theorem pick_mem (c : Nat → Int) (had : Nat → Bool) (l : List Nat) : ∀ b, pick c had l = some b → b ∈ l ∧ had b = false := by
  refine list_rev (p := fun l => ∀ b, pick c had l = some b → b ∈ l ∧ had b = false) ?_ ?_ l
  · intro b h; simp [pick] at h
  · intro l t ih b h
    rw [pick_snoc] at h
    cases hp : pick c had l with
    | none =>
      rw [hp] at h
      simp only [pickStep] at h
      split at h
      · cases h
      · cases h; rename_i hh; exact ⟨by simp, by simpa using hh⟩
    | some d =>
      rw [hp] at h
      simp only [pickStep] at h
      split at h
      · cases h; rename_i hh; exact ⟨by simp, hh.1⟩
      · cases h; have := ih _ hp; exact ⟨by simp [this.1], this.2⟩
theorem pick_none (c : Nat → Int) (had : Nat → Bool) (l : List Nat) : pick c had l = none ↔ ∀ b ∈ l, had b = true := by
  refine list_rev (p := fun l => pick c had l = none ↔ ∀ b ∈ l, had b = true) ?_ ?_ l
  · simp [pick]
  · intro l t ih
    rw [pick_snoc]
    cases hp : pick c had l with
    | none =>
      have := ih.1 hp
      simp only [pickStep]
      constructor
      · intro h b hb
        rcases List.mem_append.1 hb with h' | h'
        · exact this b h'
        · rw [List.mem_singleton] at h'; subst h'
          by_cases ht : had b = true
          · exact ht
          · rw [if_neg ht] at h; cases h
      · intro h; rw [if_pos (h t (by simp))]
    | some d =>
      have hm := pick_mem c had l d hp
      simp only [pickStep]
      constructor
      · intro h; split at h <;> cases h
      · intro h; have := h d (by simp [hm.1]); rw [hm.2] at this; cases this
/-- Over all numbers below n: the one that goes ahead of all that are not had. -/
theorem pick_range (c : Nat → Int) (had : Nat → Bool) (n x : Nat) (hx : x < n) (hh : had x = false) (hmin : ∀ y, y < n → had y = false → lessB c y x = false) : pick c had (List.range n) = some x := by
  have key : ∀ j, j ≤ n → ∀ b, pick c had (List.range j) = some b → b < j ∧ had b = false ∧ ∀ y, y < j → had y = false → lessB c y b = false := by
    intro j
    induction j with
    | zero => intro _ b h; simp [pick] at h
    | succ j ih =>
      intro hj b h
      rw [List.range_succ, pick_snoc] at h
      cases hp : pick c had (List.range j) with
      | none =>
        have hall := (pick_none c had (List.range j)).1 hp
        rw [hp] at h
        simp only [pickStep] at h
        split at h
        · cases h
        · cases h
          rename_i ht
          refine ⟨by omega, by simpa using ht, fun y hy hyh => ?_⟩
          by_cases hyj : y = j
          · subst hyj; exact lessB_irrefl _ _
          · have := hall y (by simp; omega); rw [hyh] at this; cases this
      | some d =>
        obtain ⟨h1, h2, h3⟩ := ih (by omega) d hp
        rw [hp] at h
        simp only [pickStep] at h
        split at h
        · cases h
          rename_i ht
          refine ⟨by omega, ht.1, fun y hy hyh => ?_⟩
          by_cases hyj : y = j
          · subst hyj; exact lessB_irrefl _ _
          · have := h3 y (by omega) hyh
            simp only [lessB, Bool.or_eq_false_iff, Bool.and_eq_false_iff, decide_eq_false_iff_not] at *
            omega
        · cases h
          rename_i ht
          refine ⟨by omega, h2, fun y hy hyh => ?_⟩
          by_cases hyj : y = j
          · subst hyj
            have : ¬ c b < c y := fun e => ht ⟨hyh, e⟩
            simp only [lessB, Bool.or_eq_false_iff, Bool.and_eq_false_iff, decide_eq_false_iff_not]
            omega
          · exact h3 y (by omega) hyh
  cases hp : pick c had (List.range n) with
  | none => have := (pick_none c had _).1 hp x (by simpa using hx); rw [hh] at this; cases this
  | some b =>
    obtain ⟨h1, h2, h3⟩ := key n (Nat.le_refl _) b hp
    rw [lessB_tri (hmin b h1 h2) (h3 x hx hh)]

/-- How many below n have p. -/
def cnt (p : Nat → Bool) : Nat → Nat
  | 0 => 0
  | n + 1 => cnt p n + if p n = true then 1 else 0
theorem cnt_le {p q : Nat → Bool} {n : Nat} (h : ∀ x, x < n → q x = true → p x = true) : cnt q n ≤ cnt p n := by
  induction n with
  | zero => exact Nat.le_refl _
  | succ n ih =>
    have := ih (fun x hx => h x (by omega))
    simp only [cnt]
    by_cases hq : q n = true
    · rw [if_pos hq, if_pos (h n (by omega) hq)]; omega
    · rw [if_neg hq]; split <;> omega
theorem cnt_lt {p q : Nat → Bool} {n b : Nat} (h : ∀ x, x < n → q x = true → p x = true) (hb : b < n) (hp : p b = true) (hq : q b = false) : cnt q n < cnt p n := by
  induction n with
  | zero => omega
  | succ n ih =>
    simp only [cnt]
    rcases Nat.lt_succ_iff_lt_or_eq.1 hb with h1 | h1
    · have := ih (fun x hx => h x (by omega)) h1
      by_cases hqn : q n = true
      · rw [if_pos hqn, if_pos (h n (by omega) hqn)]; omega
      · rw [if_neg hqn]; split <;> omega
    · subst h1
      have := cnt_le (p := p) (q := q) (n := b) (fun x hx => h x (by omega))
      rw [if_neg (by rw [hq]; simp), if_pos hp]; omega
theorem cnt_bound (p : Nat → Bool) (n : Nat) : cnt p n ≤ n := by
  induction n with
  | zero => exact Nat.le_refl _
  | succ n ih => simp only [cnt]; split <;> omega
def left (out : List Nat) (n : Nat) : Nat := cnt (fun b => !hadB out b) n
theorem hadB_snoc (out : List Nat) (b x : Nat) : hadB (out ++ [b]) x = (hadB out x || x == b) := by
  rw [Bool.eq_iff_iff]
  simp [hadB]
theorem left_lt {out : List Nat} {n b : Nat} (hb : b < n) (hh : hadB out b = false) : left (out ++ [b]) n < left out n :=
  cnt_lt (fun x _ h => by simp only [hadB_snoc, Bool.not_eq_true', Bool.or_eq_false_iff] at h ⊢; exact h.1) hb (by simp [hh]) (by simp [hadB_snoc])
theorem layRun_none {bs : List DBlock} {c : Nat → Int} {f : Nat} {out : List Nat} (h : layNext bs c out = none) : layRun bs c f out = out := by
  cases f with
  | zero => rfl
  | succ f => rw [layRun, h]
theorem layRun_some {bs : List DBlock} {c : Nat → Int} {f : Nat} {out : List Nat} {b : Nat} (h : layNext bs c out = some b) : layRun bs c (f + 1) out = layRun bs c f (out ++ [b]) := by
  rw [layRun, h]

/-- What is known of the heap between the picks. -/
structure LayInv (c : Nat → Int) (n m : Nat) (a : Nat → Nat) (had : Nat → Bool) : Prop where
  heap : HeapFrom c a m 0
  inj : ∀ i j, i < m → j < m → a i = a j → i = j
  lt : ∀ k, k < m → a k < n
  all : ∀ b, b < n → had b = false → ∃ k, k < m ∧ a k = b
theorem LayInv.pop {c : Nat → Int} {n m : Nat} {a : Nat → Nat} {had : Nat → Bool} (h : LayInv c n m a had) (hm : 0 < m) :
    (had (a 0) = true → LayInv c n (m - 1) (popF c m a) had) ∧
    (had (a 0) = false → pick c had (List.range n) = some (a 0) ∧ LayInv c n (m - 1) (popF c m a) (fun b => had b || b == a 0)) := by
  have hal := popF_alike c a hm
  have hlast := popF_last c a hm
  have hinj := hal.inj h.inj
  have himg : ∀ b, (∃ k, k < m ∧ a k = b) → b ≠ a 0 → ∃ k, k < m - 1 ∧ popF c m a k = b := by
    intro b hb hne
    obtain ⟨k, hk, he⟩ := (hal.img b).1 hb
    refine ⟨k, ?_, he⟩
    rcases Nat.lt_or_ge k (m - 1) with h1 | h1
    · exact h1
    · have : k = m - 1 := by omega
      subst this
      exact absurd (he.symm.trans hlast) hne
  have hlt : ∀ k, k < m - 1 → popF c m a k < n := fun k hk => by
    obtain ⟨k', hk', he⟩ := (hal.img _).2 ⟨k, by omega, rfl⟩
    rw [← he]; exact h.lt k' hk'
  refine ⟨fun hh => ⟨popF_heap h.heap, fun i j hi hj => hinj i j (by omega) (by omega), hlt, fun b hb hbh => himg b (h.all b hb hbh) (fun e => by rw [e, hh] at hbh; cases hbh)⟩, fun hh => ⟨?_, ?_⟩⟩
  · refine pick_range c had n (a 0) (h.lt 0 hm) hh (fun y hy hyh => ?_)
    obtain ⟨k, hk, he⟩ := h.all y hy hyh
    rw [← he]
    exact heap_head h.heap k hk
  · refine ⟨popF_heap h.heap, fun i j hi hj => hinj i j (by omega) (by omega), hlt, fun b hb hbh => ?_⟩
    simp only [Bool.or_eq_false_iff, beq_eq_false_iff_ne] at hbh
    exact himg b (h.all b hb hbh.1) hbh.2

end Go.Proofs.YtaehkcnankijfaaDoor
