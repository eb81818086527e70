/- Heaps, plainly: an array as a function; sifting down. -/
import Derived.Test.YtaehkcnankijfaaDoorLib
namespace Go.Proofs.YtaehkcnankijfaaDoor
open Go.RowKit

/-- x goes ahead of y: its count is greater; of two of one count the lesser number. -/
def lessB (c : Nat → Int) (x y : Nat) : Bool := decide (c y < c x) || (decide (c x = c y) && decide (x < y))
theorem lessB_irrefl (c : Nat → Int) (x : Nat) : lessB c x x = false := by simp [lessB]
theorem lessB_le_trans {c : Nat → Int} {x y z : Nat} (h1 : lessB c y x = false) (h2 : lessB c z y = false) : lessB c z x = false := by
  simp only [lessB, Bool.or_eq_false_iff, Bool.and_eq_false_iff, decide_eq_false_iff_not] at *
  omega
theorem lessB_asymm {c : Nat → Int} {x y : Nat} (h : lessB c x y = true) : lessB c y x = false := by
  simp only [lessB, Bool.or_eq_true, Bool.and_eq_true, decide_eq_true_eq, Bool.or_eq_false_iff, Bool.and_eq_false_iff, decide_eq_false_iff_not] at *
  omega
theorem lessB_tri {c : Nat → Int} {x y : Nat} (h1 : lessB c x y = false) (h2 : lessB c y x = false) : x = y := by
  simp only [lessB, Bool.or_eq_false_iff, Bool.and_eq_false_iff, decide_eq_false_iff_not] at *
  omega

def swp (a : Nat → Nat) (i j : Nat) : Nat → Nat := fun k => if k = i then a j else if k = j then a i else a k

/-- The child that goes first. -/
def kid (c : Nat → Int) (a : Nat → Nat) (n i : Nat) : Nat := if 2 * i + 2 < n ∧ lessB c (a (2 * i + 2)) (a (2 * i + 1)) = true then 2 * i + 2 else 2 * i + 1
/-- Sifting down from i among the first n. -/
def downF (c : Nat → Int) (n : Nat) : Nat → (Nat → Nat) → Nat → (Nat → Nat)
  | 0, a, _ => a
  | fuel + 1, a, i =>
    if n ≤ 2 * i + 1 then a
    else if lessB c (a (kid c a n i)) (a i) = true then downF c n fuel (swp a i (kid c a n i)) (kid c a n i)
    else a

/-- Where sifting down comes to be: the same set of the first m, no two alike. -/
structure Alike (m : Nat) (a b : Nat → Nat) : Prop where
  img : ∀ x, (∃ k, k < m ∧ a k = x) ↔ (∃ k, k < m ∧ b k = x)
  inj : (∀ i j, i < m → j < m → a i = a j → i = j) → (∀ i j, i < m → j < m → b i = b j → i = j)
  out : ∀ k, m ≤ k → b k = a k
theorem Alike.refl (m : Nat) (a : Nat → Nat) : Alike m a a := ⟨fun _ => Iff.rfl, id, fun _ _ => rfl⟩
theorem Alike.trans {m : Nat} {a b d : Nat → Nat} (h : Alike m a b) (k : Alike m b d) : Alike m a d :=
  ⟨fun x => (h.img x).trans (k.img x), fun hi => k.inj (h.inj hi), fun i hi => (k.out i hi).trans (h.out i hi)⟩
theorem Alike.swp {m : Nat} (a : Nat → Nat) {i j : Nat} (hi : i < m) (hj : j < m) : Alike m a (swp a i j) := by
  refine ⟨fun x => ⟨?_, ?_⟩, fun h u v hu hv e => ?_, fun k hk => ?_⟩
  · rintro ⟨k, hk, rfl⟩
    by_cases h1 : k = i
    · subst h1
      by_cases h2 : j = k
      · subst h2; exact ⟨j, hj, by simp [Go.Proofs.YtaehkcnankijfaaDoor.swp]⟩
      · exact ⟨j, hj, by simp [Go.Proofs.YtaehkcnankijfaaDoor.swp, h2]⟩
    · by_cases h2 : k = j
      · subst h2; exact ⟨i, hi, by simp [Go.Proofs.YtaehkcnankijfaaDoor.swp]⟩
      · exact ⟨k, hk, by simp [Go.Proofs.YtaehkcnankijfaaDoor.swp, h1, h2]⟩
  · rintro ⟨k, hk, rfl⟩
    unfold Go.Proofs.YtaehkcnankijfaaDoor.swp
    split
    · exact ⟨j, hj, rfl⟩
    · split
      · exact ⟨i, hi, rfl⟩
      · exact ⟨k, hk, rfl⟩
  · have hs : ∀ k, Go.Proofs.YtaehkcnankijfaaDoor.swp a i j k = a (if k = i then j else if k = j then i else k) := fun k => by
      unfold Go.Proofs.YtaehkcnankijfaaDoor.swp
      by_cases h1 : k = i
      · rw [if_pos h1, if_pos h1]
      · rw [if_neg h1, if_neg h1]
        by_cases h2 : k = j
        · rw [if_pos h2, if_pos h2]
        · rw [if_neg h2, if_neg h2]
    rw [hs, hs] at e
    have := h _ _ (by split <;> (try split) <;> omega) (by split <;> (try split) <;> omega) e
    by_cases h1 : u = i <;> by_cases h2 : u = j <;> by_cases h3 : v = i <;> by_cases h4 : v = j <;> simp only [h1, h2, h3, h4, if_true, if_false] at this <;> first | omega | (simp at this; omega) | (split at this <;> omega)
  · unfold Go.Proofs.YtaehkcnankijfaaDoor.swp
    rw [if_neg (by omega), if_neg (by omega)]

theorem kid_lt {c : Nat → Int} {a : Nat → Nat} {n i : Nat} (h : 2 * i + 1 < n) : kid c a n i < n ∧ i < kid c a n i := by
  unfold kid; split <;> omega
theorem downF_alike (c : Nat → Int) (n m : Nat) (hm : n ≤ m) : ∀ (fuel : Nat) (a : Nat → Nat) (i : Nat), Alike m a (downF c n fuel a i) := by
  intro fuel
  induction fuel with
  | zero => exact fun a i => Alike.refl _ _
  | succ fuel ih =>
    intro a i
    unfold downF
    split
    · exact Alike.refl _ _
    · split
      · have := kid_lt (c := c) (a := a) (n := n) (i := i) (by omega)
        exact (Alike.swp a (by omega) (by omega)).trans (ih _ _)
      · exact Alike.refl _ _
/-- Sifting among the first n leaves the others. -/
theorem downF_out (c : Nat → Int) (n : Nat) (fuel : Nat) (a : Nat → Nat) (i k : Nat) (hk : n ≤ k) : downF c n fuel a i k = a k :=
  (downF_alike c n n (Nat.le_refl _) fuel a i).out k hk

/-- Every child whose parent is from i on does not go ahead of it. -/
def HeapFrom (c : Nat → Int) (a : Nat → Nat) (n i : Nat) : Prop := ∀ k, 0 < k → k < n → i ≤ (k - 1) / 2 → lessB c (a k) (a ((k - 1) / 2)) = false
theorem downF_heap (c : Nat → Int) (n i0 : Nat) : ∀ (fuel : Nat) (a : Nat → Nat) (i : Nat), n ≤ i + fuel → i0 ≤ i →
    (∀ k, 0 < k → k < n → i0 ≤ (k - 1) / 2 → (k - 1) / 2 ≠ i → lessB c (a k) (a ((k - 1) / 2)) = false) →
    (∀ k, 0 < i → i0 ≤ (i - 1) / 2 → k < n → (k - 1) / 2 = i → 0 < k → lessB c (a k) (a ((i - 1) / 2)) = false) →
    HeapFrom c (downF c n fuel a i) n i0 := by
  intro fuel
  induction fuel with
  | zero =>
    intro a i hn hi h1 _ k hk0 hkn hki
    by_cases he : (k - 1) / 2 = i
    · omega
    · exact h1 k hk0 hkn hki he
  | succ fuel ih =>
    intro a i hn hi h1 h2
    unfold downF
    split
    · intro k hk0 hkn hki
      by_cases he : (k - 1) / 2 = i
      · omega
      · exact h1 k hk0 hkn hki he
    · rename_i hlt
      have hj := kid_lt (c := c) (a := a) (n := n) (i := i) (by omega)
      obtain ⟨j, hjd⟩ : ∃ j, j = kid c a n i := ⟨_, rfl⟩
      have hjp : (j - 1) / 2 = i ∧ 0 < j := by rw [hjd]; unfold kid; split <;> omega
      have hsib : ∀ k, k < n → 0 < k → (k - 1) / 2 = i → lessB c (a k) (a j) = false := by
        intro k hk hk0 hkp
        have hk' : k = 2 * i + 1 ∨ k = 2 * i + 2 := by omega
        rw [hjd]
        unfold kid
        split
        · rename_i hc
          rcases hk' with rfl | rfl
          · exact lessB_asymm hc.2
          · exact lessB_irrefl _ _
        · rename_i hc
          rcases hk' with rfl | rfl
          · exact lessB_irrefl _ _
          · cases hl : lessB c (a (2 * i + 2)) (a (2 * i + 1)) with
            | true => exact absurd ⟨hk, hl⟩ hc
            | false => rfl
      rw [← hjd] at hj ⊢
      split
      · rename_i hl
        refine ih _ j (by omega) (by omega) ?_ ?_
        · intro k hk0 hkn hki hkj
          unfold swp
          by_cases hki2 : k = i
          · rw [if_pos hki2, if_neg (by omega), if_neg (by omega)]
            subst hki2
            exact h2 j (by omega) hki (by omega) hjp.1 hjp.2
          · rw [if_neg hki2]
            by_cases hkj2 : k = j
            · rw [if_pos hkj2, if_pos (by omega)]
              exact lessB_asymm hl
            · rw [if_neg hkj2]
              by_cases hp : (k - 1) / 2 = i
              · rw [if_pos hp]; exact hsib k hkn hk0 hp
              · rw [if_neg hp, if_neg hkj]; exact h1 k hk0 hkn hki hp
        · intro k hj0 hji hkn hkp hk0
          unfold swp
          rw [if_neg (by omega), if_neg (by omega), if_pos (by omega)]
          have := h1 k hk0 hkn (by omega) (by omega)
          rw [hkp] at this
          exact this
      · rename_i hl
        intro k hk0 hkn hki
        by_cases he : (k - 1) / 2 = i
        · rw [he]
          have hl' : lessB c (a j) (a i) = false := by simpa using hl
          exact lessB_le_trans hl' (hsib k hkn hk0 he)
        · exact h1 k hk0 hkn hki he

/-- The head of a heap goes ahead of all. -/
theorem heap_head {c : Nat → Int} {a : Nat → Nat} {n : Nat} (h : HeapFrom c a n 0) : ∀ k, k < n → lessB c (a k) (a 0) = false := by
  intro k
  induction k using Nat.strongRecOn with
  | _ k ih =>
    intro hk
    by_cases h0 : k = 0
    · subst h0; exact lessB_irrefl _ _
    · exact lessB_le_trans (ih ((k - 1) / 2) (by omega) (by omega)) (h k (by omega) hk (by omega))

/-- All of heap.Init: from n / 2 - 1 down to 0. -/
def initF (c : Nat → Int) (n : Nat) : Nat → (Nat → Nat) → (Nat → Nat)
  | 0, a => a
  | i + 1, a => initF c n i (downF c n n a i)
theorem initF_alike (c : Nat → Int) (n : Nat) : ∀ (i : Nat) (a : Nat → Nat), Alike n a (initF c n i a) := by
  intro i
  induction i with
  | zero => exact fun a => Alike.refl _ _
  | succ i ih => exact fun a => (downF_alike c n n (Nat.le_refl _) n a i).trans (ih _)
theorem initF_heap (c : Nat → Int) (n : Nat) : ∀ (i : Nat) (a : Nat → Nat), HeapFrom c a n i → HeapFrom c (initF c n i a) n 0 := by
  intro i
  induction i with
  | zero => exact fun a h => h
  | succ i ih =>
    intro a h
    refine ih _ (downF_heap c n i n a i (by omega) (Nat.le_refl _) ?_ ?_)
    · intro k hk0 hkn hki hne; exact h k hk0 hkn (by omega)
    · intro k hi0 hki; omega
theorem heapFrom_half (c : Nat → Int) (a : Nat → Nat) (n : Nat) : HeapFrom c a n (n / 2) := by
  intro k hk0 hkn hki; omega

/-- heap.Pop: the head is taken; what is left, among the first n - 1. -/
def popF (c : Nat → Int) (n : Nat) (a : Nat → Nat) : Nat → Nat := downF c (n - 1) (n - 1) (swp a 0 (n - 1)) 0
theorem popF_heap {c : Nat → Int} {n : Nat} {a : Nat → Nat} (h : HeapFrom c a n 0) : HeapFrom c (popF c n a) (n - 1) 0 := by
  refine downF_heap c (n - 1) 0 (n - 1) _ 0 (by omega) (Nat.le_refl _) ?_ ?_
  · intro k hk0 hkn _ hne
    unfold swp
    rw [if_neg (by omega), if_neg (by omega), if_neg (by omega), if_neg (by omega)]
    exact h k hk0 (by omega) (by omega)
  · intro k h0; omega
theorem popF_last (c : Nat → Int) {n : Nat} (a : Nat → Nat) (_hn : 0 < n) : popF c n a (n - 1) = a 0 := by
  unfold popF
  rw [downF_out _ _ _ _ _ _ (Nat.le_refl _)]
  unfold swp
  by_cases h : n - 1 = 0
  · simp [h]
  · rw [if_neg h, if_pos rfl]
theorem popF_alike (c : Nat → Int) {n : Nat} (a : Nat → Nat) (hn : 0 < n) : Alike n a (popF c n a) :=
  (Alike.swp a hn (by omega)).trans (downF_alike c (n - 1) n (by omega) (n - 1) _ 0)

end Go.Proofs.YtaehkcnankijfaaDoor
