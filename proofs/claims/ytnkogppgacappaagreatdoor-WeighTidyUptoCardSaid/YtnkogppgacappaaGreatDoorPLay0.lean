/- Heaps, plainly: an array as a function; sifting down. The order of blocks, plainly. -/
import Derived.Test.YtnkogppgacappaaGreatDoorPEq
namespace Go.Proofs.YtnkogppgacappaaGreatDoor
open Go.RowKit

def lessB (c : Nat → Int) (x y : Nat) : Bool := decide (c y < c x) || (decide (c x = c y) && decide (x < y))
theorem lessB_irrefl (c : Nat → Int) (x : Nat) : lessB c x x = false := by simp [lessB]
theorem lessB_le_trans {c : Nat → Int} {x y z : Nat} (h1 : lessB c y x = false) (h2 : lessB c z y = false) : lessB c z x = false := by
 simp only [lessB, Bool.or_eq_false_iff, Bool.and_eq_false_iff, decide_eq_false_iff_not] at *
 omega
theorem lessB_asymm {c : Nat → Int} {x y : Nat} (h : lessB c x y = true) : lessB c y x = false := by
 simp only [lessB, Bool.or_eq_true, Bool.and_eq_true, decide_eq_true_eq, Bool.or_eq_false_iff, Bool.and_eq_false_iff, decide_eq_false_iff_not] at *
 omega
theorem lessB_tri {c : Nat → Int} {x y : Nat} (h1 : lessB c x y = false) (h2 : lessB c y x = false) : x = y := by
 simp only [lessB, Bool.or_eq_false_iff, Bool.and_eq_false_iff, decide_eq_false_iff_not] at *
 omega

def swp (a : Nat → Nat) (i j : Nat) : Nat → Nat := fun k => if k = i then a j else if k = j then a i else a k

def kid (c : Nat → Int) (a : Nat → Nat) (n i : Nat) : Nat := if 2 * i + 2 < n ∧ lessB c (a (2 * i + 2)) (a (2 * i + 1)) = true then 2 * i + 2 else 2 * i + 1
def downF (c : Nat → Int) (n : Nat) : Nat → (Nat → Nat) → Nat → (Nat → Nat)
 | 0, a, _ => a
 | fuel + 1, a, i =>
   if n ≤ 2 * i + 1 then a
   else if lessB c (a (kid c a n i)) (a i) = true then downF c n fuel (swp a i (kid c a n i)) (kid c a n i)
   else a

structure Alike (m : Nat) (a b : Nat → Nat) : Prop where
 img : ∀ x, (∃ k, k < m ∧ a k = x) ↔ (∃ k, k < m ∧ b k = x)
 inj : (∀ i j, i < m → j < m → a i = a j → i = j) → (∀ i j, i < m → j < m → b i = b j → i = j)
 out : ∀ k, m ≤ k → b k = a k
theorem Alike.refl (m : Nat) (a : Nat → Nat) : Alike m a a := ⟨fun _ => Iff.rfl, id, fun _ _ => rfl⟩
theorem Alike.trans {m : Nat} {a b d : Nat → Nat} (h : Alike m a b) (k : Alike m b d) : Alike m a d :=
 ⟨fun x => (h.img x).trans (k.img x), fun hi => k.inj (h.inj hi), fun i hi => (k.out i hi).trans (h.out i hi)⟩
theorem Alike.swp {m : Nat} (a : Nat → Nat) {i j : Nat} (hi : i < m) (hj : j < m) : Alike m a (swp a i j) := by
 refine ⟨fun x => ⟨?_, ?_⟩, fun h u v hu hv e => ?_, fun k hk => ?_⟩
 · rintro ⟨k, hk, rfl⟩
   by_cases h1 : k = i
   · subst h1
     by_cases h2 : j = k
     · subst h2; exact ⟨j, hj, by simp [Go.Proofs.YtnkogppgacappaaGreatDoor.swp]⟩
     · exact ⟨j, hj, by simp [Go.Proofs.YtnkogppgacappaaGreatDoor.swp, h2]⟩
   · by_cases h2 : k = j
     · subst h2; exact ⟨i, hi, by simp [Go.Proofs.YtnkogppgacappaaGreatDoor.swp]⟩
     · exact ⟨k, hk, by simp [Go.Proofs.YtnkogppgacappaaGreatDoor.swp, h1, h2]⟩
 · rintro ⟨k, hk, rfl⟩
   unfold Go.Proofs.YtnkogppgacappaaGreatDoor.swp
   split
   · exact ⟨j, hj, rfl⟩
   · split
     · exact ⟨i, hi, rfl⟩
     · exact ⟨k, hk, rfl⟩
 · have hs : ∀ k, Go.Proofs.YtnkogppgacappaaGreatDoor.swp a i j k = a (if k = i then j else if k = j then i else k) := fun k => by
    unfold Go.Proofs.YtnkogppgacappaaGreatDoor.swp
    by_cases h1 : k = i
    · rw [if_pos h1, if_pos h1]
    · rw [if_neg h1, if_neg h1]
      by_cases h2 : k = j
      · rw [if_pos h2, if_pos h2]
      · rw [if_neg h2, if_neg h2]
   rw [hs, hs] at e
   have := h _ _ (by split <;> (try split) <;> omega) (by split <;> (try split) <;> omega) e
   by_cases h1 : u = i <;> by_cases h2 : u = j <;> by_cases h3 : v = i <;> by_cases h4 : v = j <;> simp only [h1, h2, h3, h4, if_true, if_false] at this <;> first | omega | (simp at this; omega) | (split at this <;> omega)
 · unfold Go.Proofs.YtnkogppgacappaaGreatDoor.swp
   rw [if_neg (by omega), if_neg (by omega)]

theorem kid_lt {c : Nat → Int} {a : Nat → Nat} {n i : Nat} (h : 2 * i + 1 < n) : kid c a n i < n ∧ i < kid c a n i := by
 unfold kid; split <;> omega
theorem downF_alike (c : Nat → Int) (n m : Nat) (hm : n ≤ m) : ∀ (fuel : Nat) (a : Nat → Nat) (i : Nat), Alike m a (downF c n fuel a i) := by
 intro fuel
 induction fuel with
 | zero => exact fun a i => Alike.refl _ _
 | succ fuel ih =>
   intro a i
   unfold downF
   split
   · exact Alike.refl _ _
   · split
     · have := kid_lt (c := c) (a := a) (n := n) (i := i) (by omega)
       exact (Alike.swp a (by omega) (by omega)).trans (ih _ _)
     · exact Alike.refl _ _
theorem downF_out (c : Nat → Int) (n : Nat) (fuel : Nat) (a : Nat → Nat) (i k : Nat) (hk : n ≤ k) : downF c n fuel a i k = a k :=
 (downF_alike c n n (Nat.le_refl _) fuel a i).out k hk

def HeapFrom (c : Nat → Int) (a : Nat → Nat) (n i : Nat) : Prop := ∀ k, 0 < k → k < n → i ≤ (k - 1) / 2 → lessB c (a k) (a ((k - 1) / 2)) = false
theorem downF_heap (c : Nat → Int) (n i0 : Nat) : ∀ (fuel : Nat) (a : Nat → Nat) (i : Nat), n ≤ i + fuel → i0 ≤ i →
 (∀ k, 0 < k → k < n → i0 ≤ (k - 1) / 2 → (k - 1) / 2 ≠ i → lessB c (a k) (a ((k - 1) / 2)) = false) →
 (∀ k, 0 < i → i0 ≤ (i - 1) / 2 → k < n → (k - 1) / 2 = i → 0 < k → lessB c (a k) (a ((i - 1) / 2)) = false) →
 HeapFrom c (downF c n fuel a i) n i0 := by
 intro fuel
 induction fuel with
 | zero =>
   intro a i hn hi h1 _ k hk0 hkn hki
   by_cases he : (k - 1) / 2 = i
   · omega
   · exact h1 k hk0 hkn hki he
 | succ fuel ih =>
   intro a i hn hi h1 h2
   unfold downF
   split
   · intro k hk0 hkn hki
     by_cases he : (k - 1) / 2 = i
     · omega
     · exact h1 k hk0 hkn hki he
   · rename_i hlt
     have hj := kid_lt (c := c) (a := a) (n := n) (i := i) (by omega)
     obtain ⟨j, hjd⟩ : ∃ j, j = kid c a n i := ⟨_, rfl⟩
     have hjp : (j - 1) / 2 = i ∧ 0 < j := by rw [hjd]; unfold kid; split <;> omega
     have hsib : ∀ k, k < n → 0 < k → (k - 1) / 2 = i → lessB c (a k) (a j) = false := by
      intro k hk hk0 hkp
      have hk' : k = 2 * i + 1 ∨ k = 2 * i + 2 := by omega
      rw [hjd]
      unfold kid
      split
      · rename_i hc
        rcases hk' with rfl | rfl
        · exact lessB_asymm hc.2
        · exact lessB_irrefl _ _
      · rename_i hc
        rcases hk' with rfl | rfl
        · exact lessB_irrefl _ _
        · cases hl : lessB c (a (2 * i + 2)) (a (2 * i + 1)) with
          | true => exact absurd ⟨hk, hl⟩ hc
          | false => rfl
     rw [← hjd] at hj ⊢
     split
     · rename_i hl
       refine ih _ j (by omega) (by omega) ?_ ?_
       · intro k hk0 hkn hki hkj
         unfold swp
         by_cases hki2 : k = i
         · rw [if_pos hki2, if_neg (by omega), if_neg (by omega)]
           subst hki2
           exact h2 j (by omega) hki (by omega) hjp.1 hjp.2
         · rw [if_neg hki2]
           by_cases hkj2 : k = j
           · rw [if_pos hkj2, if_pos (by omega)]
             exact lessB_asymm hl
           · rw [if_neg hkj2]
             by_cases hp : (k - 1) / 2 = i
             · rw [if_pos hp]; exact hsib k hkn hk0 hp
             · rw [if_neg hp, if_neg hkj]; exact h1 k hk0 hkn hki hp
       · intro k hj0 hji hkn hkp hk0
         unfold swp
         rw [if_neg (by omega), if_neg (by omega), if_pos (by omega)]
         have := h1 k hk0 hkn (by omega) (by omega)
         rw [hkp] at this
         exact this
     · rename_i hl
       intro k hk0 hkn hki
       by_cases he : (k - 1) / 2 = i
       · rw [he]
         have hl' : lessB c (a j) (a i) = false := by simpa using hl
         exact lessB_le_trans hl' (hsib k hkn hk0 he)
       · exact h1 k hk0 hkn hki he

theorem heap_head {c : Nat → Int} {a : Nat → Nat} {n : Nat} (h : HeapFrom c a n 0) : ∀ k, k < n → lessB c (a k) (a 0) = false := by
 intro k
 induction k using Nat.strongRecOn with
 | _ k ih =>
   intro hk
   by_cases h0 : k = 0
   · subst h0; exact lessB_irrefl _ _
   · exact lessB_le_trans (ih ((k - 1) / 2) (by omega) (by omega)) (h k (by omega) hk (by omega))

def initF (c : Nat → Int) (n : Nat) : Nat → (Nat → Nat) → (Nat → Nat)
 | 0, a => a
 | i + 1, a => initF c n i (downF c n n a i)
theorem initF_alike (c : Nat → Int) (n : Nat) : ∀ (i : Nat) (a : Nat → Nat), Alike n a (initF c n i a) := by
 intro i
 induction i with
 | zero => exact fun a => Alike.refl _ _
 | succ i ih => exact fun a => (downF_alike c n n (Nat.le_refl _) n a i).trans (ih _)
theorem initF_heap (c : Nat → Int) (n : Nat) : ∀ (i : Nat) (a : Nat → Nat), HeapFrom c a n i → HeapFrom c (initF c n i a) n 0 := by
 intro i
 induction i with
 | zero => exact fun a h => h
 | succ i ih =>
   intro a h
   refine ih _ (downF_heap c n i n a i (by omega) (Nat.le_refl _) ?_ ?_)
   · intro k hk0 hkn hki hne; exact h k hk0 hkn (by omega)
   · intro k hi0 hki; omega
theorem heapFrom_half (c : Nat → Int) (a : Nat → Nat) (n : Nat) : HeapFrom c a n (n / 2) := by
 intro k hk0 hkn hki; omega

def popF (c : Nat → Int) (n : Nat) (a : Nat → Nat) : Nat → Nat := downF c (n - 1) (n - 1) (swp a 0 (n - 1)) 0
theorem popF_heap {c : Nat → Int} {n : Nat} {a : Nat → Nat} (h : HeapFrom c a n 0) : HeapFrom c (popF c n a) (n - 1) 0 := by
 refine downF_heap c (n - 1) 0 (n - 1) _ 0 (by omega) (Nat.le_refl _) ?_ ?_
 · intro k hk0 hkn _ hne
   unfold swp
   rw [if_neg (by omega), if_neg (by omega), if_neg (by omega), if_neg (by omega)]
   exact h k hk0 (by omega) (by omega)
 · intro k h0; omega
theorem popF_last (c : Nat → Int) {n : Nat} (a : Nat → Nat) (_hn : 0 < n) : popF c n a (n - 1) = a 0 := by
 unfold popF
 rw [downF_out _ _ _ _ _ _ (Nat.le_refl _)]
 unfold swp
 by_cases h : n - 1 = 0
 · simp [h]
 · rw [if_neg h, if_pos rfl]
theorem popF_alike (c : Nat → Int) {n : Nat} (a : Nat → Nat) (hn : 0 < n) : Alike n a (popF c n a) :=
 (Alike.swp a hn (by omega)).trans (downF_alike c (n - 1) n (by omega) (n - 1) _ 0)

end Go.Proofs.YtnkogppgacappaaGreatDoor

namespace Go.Proofs.YtnkogppgacappaaGreatDoor
open Go.RowKit

theorem list_rev {α : Type} {p : List α → Prop} (h0 : p []) (h1 : ∀ l t, p l → p (l ++ [t])) : ∀ l, p l := by
 intro l
 rw [← List.reverse_reverse l]
 induction l.reverse with
 | nil => exact h0
 | cons a l ih => rw [List.reverse_cons]; exact h1 _ _ ih
def optInt : Option Nat → Int | none => -1 | some b => b
def pickStep (c : Nat → Int) (had : Nat → Bool) (best : Option Nat) (t : Nat) : Option Nat :=
 match best with
 | none => if had t = true then none else some t
 | some b => if had t = false ∧ c b < c t then some t else some b
def pick (c : Nat → Int) (had : Nat → Bool) (l : List Nat) : Option Nat := l.foldl (pickStep c had) none
def hadB (out : List Nat) (b : Nat) : Bool := out.contains b
def targets (bs : List DBlock) (b : Nat) : List Nat := match bs[b]? with | some x => x.fin.to.map Int.toNat | none => []
def layNext (bs : List DBlock) (c : Nat → Int) (out : List Nat) : Option Nat :=
 match pick c (hadB out) (targets bs (out.getLastD 0)) with
 | some b => some b
 | none => pick c (hadB out) (List.range bs.length)
def layRun (bs : List DBlock) (c : Nat → Int) : Nat → List Nat → List Nat
 | 0, out => out
 | f + 1, out => match layNext bs c out with | none => out | some b => layRun bs c f (out ++ [b])
def layF (bs : List DBlock) (c : Nat → Int) : List Nat := layRun bs c bs.length [0]

theorem pick_snoc (c : Nat → Int) (had : Nat → Bool) (l : List Nat) (t : Nat) : pick c had (l ++ [t]) = pickStep c had (pick c had l) t := by simp [pick]
theorem pick_take (c : Nat → Int) (had : Nat → Bool) (l : List Nat) (k : Nat) (h : k < l.length) : pick c had (l.take (k + 1)) = pickStep c had (pick c had (l.take k)) l[k] := by
 rw [List.take_succ_eq_append_getElem h, pick_snoc]
theorem pick_mem (c : Nat → Int) (had : Nat → Bool) (l : List Nat) : ∀ b, pick c had l = some b → b ∈ l ∧ had b = false := by
 refine list_rev (p := fun l => ∀ b, pick c had l = some b → b ∈ l ∧ had b = false) ?_ ?_ l
 · intro b h; simp [pick] at h
 · intro l t ih b h
   rw [pick_snoc] at h
   cases hp : pick c had l with
   | none =>
     rw [hp] at h
     simp only [pickStep] at h
     split at h
     · cases h
     · cases h; rename_i hh; exact ⟨by simp, by simpa using hh⟩
   | some d =>
     rw [hp] at h
     simp only [pickStep] at h
     split at h
     · cases h; rename_i hh; exact ⟨by simp, hh.1⟩
     · cases h; have := ih _ hp; exact ⟨by simp [this.1], this.2⟩
theorem pick_none (c : Nat → Int) (had : Nat → Bool) (l : List Nat) : pick c had l = none ↔ ∀ b ∈ l, had b = true := by
 refine list_rev (p := fun l => pick c had l = none ↔ ∀ b ∈ l, had b = true) ?_ ?_ l
 · simp [pick]
 · intro l t ih
   rw [pick_snoc]
   cases hp : pick c had l with
   | none =>
     have := ih.1 hp
     simp only [pickStep]
     constructor
     · intro h b hb
       rcases List.mem_append.1 hb with h' | h'
       · exact this b h'
       · rw [List.mem_singleton] at h'; subst h'
         by_cases ht : had b = true
         · exact ht
         · rw [if_neg ht] at h; cases h
     · intro h; rw [if_pos (h t (by simp))]
   | some d =>
     have hm := pick_mem c had l d hp
     simp only [pickStep]
     constructor
     · intro h; split at h <;> cases h
     · intro h; have := h d (by simp [hm.1]); rw [hm.2] at this; cases this
theorem pick_range (c : Nat → Int) (had : Nat → Bool) (n x : Nat) (hx : x < n) (hh : had x = false) (hmin : ∀ y, y < n → had y = false → lessB c y x = false) : pick c had (List.range n) = some x := by
 have key : ∀ j, j ≤ n → ∀ b, pick c had (List.range j) = some b → b < j ∧ had b = false ∧ ∀ y, y < j → had y = false → lessB c y b = false := by
  intro j
  induction j with
  | zero => intro _ b h; simp [pick] at h
  | succ j ih =>
    intro hj b h
    rw [List.range_succ, pick_snoc] at h
    cases hp : pick c had (List.range j) with
    | none =>
      have hall := (pick_none c had (List.range j)).1 hp
      rw [hp] at h
      simp only [pickStep] at h
      split at h
      · cases h
      · cases h
        rename_i ht
        refine ⟨by omega, by simpa using ht, fun y hy hyh => ?_⟩
        by_cases hyj : y = j
        · subst hyj; exact lessB_irrefl _ _
        · have := hall y (by simp; omega); rw [hyh] at this; cases this
    | some d =>
      obtain ⟨h1, h2, h3⟩ := ih (by omega) d hp
      rw [hp] at h
      simp only [pickStep] at h
      split at h
      · cases h
        rename_i ht
        refine ⟨by omega, ht.1, fun y hy hyh => ?_⟩
        by_cases hyj : y = j
        · subst hyj; exact lessB_irrefl _ _
        · have := h3 y (by omega) hyh
          simp only [lessB, Bool.or_eq_false_iff, Bool.and_eq_false_iff, decide_eq_false_iff_not] at *
          omega
      · cases h
        rename_i ht
        refine ⟨by omega, h2, fun y hy hyh => ?_⟩
        by_cases hyj : y = j
        · subst hyj
          have : ¬ c b < c y := fun e => ht ⟨hyh, e⟩
          simp only [lessB, Bool.or_eq_false_iff, Bool.and_eq_false_iff, decide_eq_false_iff_not]
          omega
        · exact h3 y (by omega) hyh
 cases hp : pick c had (List.range n) with
 | none => have := (pick_none c had _).1 hp x (by simpa using hx); rw [hh] at this; cases this
 | some b =>
   obtain ⟨h1, h2, h3⟩ := key n (Nat.le_refl _) b hp
   rw [lessB_tri (hmin b h1 h2) (h3 x hx hh)]

def cnt (p : Nat → Bool) : Nat → Nat
 | 0 => 0
 | n + 1 => cnt p n + if p n = true then 1 else 0
theorem cnt_le {p q : Nat → Bool} {n : Nat} (h : ∀ x, x < n → q x = true → p x = true) : cnt q n ≤ cnt p n := by
 induction n with
 | zero => exact Nat.le_refl _
 | succ n ih =>
   have := ih (fun x hx => h x (by omega))
   simp only [cnt]
   by_cases hq : q n = true
   · rw [if_pos hq, if_pos (h n (by omega) hq)]; omega
   · rw [if_neg hq]; split <;> omega
theorem cnt_lt {p q : Nat → Bool} {n b : Nat} (h : ∀ x, x < n → q x = true → p x = true) (hb : b < n) (hp : p b = true) (hq : q b = false) : cnt q n < cnt p n := by
 induction n with
 | zero => omega
 | succ n ih =>
   simp only [cnt]
   rcases Nat.lt_succ_iff_lt_or_eq.1 hb with h1 | h1
   · have := ih (fun x hx => h x (by omega)) h1
     by_cases hqn : q n = true
     · rw [if_pos hqn, if_pos (h n (by omega) hqn)]; omega
     · rw [if_neg hqn]; split <;> omega
   · subst h1
     have := cnt_le (p := p) (q := q) (n := b) (fun x hx => h x (by omega))
     rw [if_neg (by rw [hq]; simp), if_pos hp]; omega
theorem cnt_bound (p : Nat → Bool) (n : Nat) : cnt p n ≤ n := by
 induction n with
 | zero => exact Nat.le_refl _
 | succ n ih => simp only [cnt]; split <;> omega
def left (out : List Nat) (n : Nat) : Nat := cnt (fun b => !hadB out b) n
theorem hadB_snoc (out : List Nat) (b x : Nat) : hadB (out ++ [b]) x = (hadB out x || x == b) := by
 rw [Bool.eq_iff_iff]
 simp [hadB]
theorem left_lt {out : List Nat} {n b : Nat} (hb : b < n) (hh : hadB out b = false) : left (out ++ [b]) n < left out n :=
 cnt_lt (fun x _ h => by simp only [hadB_snoc, Bool.not_eq_true', Bool.or_eq_false_iff] at h ⊢; exact h.1) hb (by simp [hh]) (by simp [hadB_snoc])
theorem layRun_none {bs : List DBlock} {c : Nat → Int} {f : Nat} {out : List Nat} (h : layNext bs c out = none) : layRun bs c f out = out := by
 cases f with
 | zero => rfl
 | succ f => rw [layRun, h]
theorem layRun_some {bs : List DBlock} {c : Nat → Int} {f : Nat} {out : List Nat} {b : Nat} (h : layNext bs c out = some b) : layRun bs c (f + 1) out = layRun bs c f (out ++ [b]) := by
 rw [layRun, h]

structure LayInv (c : Nat → Int) (n m : Nat) (a : Nat → Nat) (had : Nat → Bool) : Prop where
 heap : HeapFrom c a m 0
 inj : ∀ i j, i < m → j < m → a i = a j → i = j
 lt : ∀ k, k < m → a k < n
 all : ∀ b, b < n → had b = false → ∃ k, k < m ∧ a k = b
theorem LayInv.pop {c : Nat → Int} {n m : Nat} {a : Nat → Nat} {had : Nat → Bool} (h : LayInv c n m a had) (hm : 0 < m) :
 (had (a 0) = true → LayInv c n (m - 1) (popF c m a) had) ∧
 (had (a 0) = false → pick c had (List.range n) = some (a 0) ∧ LayInv c n (m - 1) (popF c m a) (fun b => had b || b == a 0)) := by
 have hal := popF_alike c a hm
 have hlast := popF_last c a hm
 have hinj := hal.inj h.inj
 have himg : ∀ b, (∃ k, k < m ∧ a k = b) → b ≠ a 0 → ∃ k, k < m - 1 ∧ popF c m a k = b := by
  intro b hb hne
  obtain ⟨k, hk, he⟩ := (hal.img b).1 hb
  refine ⟨k, ?_, he⟩
  rcases Nat.lt_or_ge k (m - 1) with h1 | h1
  · exact h1
  · have : k = m - 1 := by omega
    subst this
    exact absurd (he.symm.trans hlast) hne
 have hlt : ∀ k, k < m - 1 → popF c m a k < n := fun k hk => by
  obtain ⟨k', hk', he⟩ := (hal.img _).2 ⟨k, by omega, rfl⟩
  rw [← he]; exact h.lt k' hk'
 refine ⟨fun hh => ⟨popF_heap h.heap, fun i j hi hj => hinj i j (by omega) (by omega), hlt, fun b hb hbh => himg b (h.all b hb hbh) (fun e => by rw [e, hh] at hbh; cases hbh)⟩, fun hh => ⟨?_, ?_⟩⟩
 · refine pick_range c had n (a 0) (h.lt 0 hm) hh (fun y hy hyh => ?_)
   obtain ⟨k, hk, he⟩ := h.all y hy hyh
   rw [← he]
   exact heap_head h.heap k hk
 · refine ⟨popF_heap h.heap, fun i j hi hj => hinj i j (by omega) (by omega), hlt, fun b hb hbh => ?_⟩
   simp only [Bool.or_eq_false_iff, beq_eq_false_iff_ne] at hbh
   exact himg b (h.all b hb hbh.1) hbh.2

end Go.Proofs.YtnkogppgacappaaGreatDoor
