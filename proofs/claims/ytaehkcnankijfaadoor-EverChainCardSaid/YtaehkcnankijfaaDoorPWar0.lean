/- graph.Post, in plain Lean: blocks as a search in depth leaves them. calls.Order in plain Lean: who reaches whom, rings, and the order; a next one is always to be had. No program in sight. The document's table of who reaches whom, in plain Lean: with one more in between at a time, in place. No program in sight. -/
import Derived.Test.YtaehkcnankijfaaDoorPAhd
namespace Go.Proofs.YtaehkcnankijfaaDoor

/-- How many are not seen yet. -/
theorem unseen_set : ∀ (l : List Bool) (b : Nat), l[b]? = some false → (l.set b true).count false + 1 = l.count false := by
  intro l
  induction l with
  | nil => intro b h; simp at h
  | cons a l ih =>
    intro b h
    cases b with
    | zero =>
      rw [List.getElem?_cons_zero] at h
      cases h
      simp
    | succ b =>
      rw [List.getElem?_cons_succ] at h
      have := ih b h
      rw [List.set_cons_succ, List.count_cons, List.count_cons]
      omega

theorem unseen_le : ∀ (l l' : List Bool), l'.length = l.length → (∀ i, l.getD i true = true → l'.getD i true = true) → l'.count false ≤ l.count false := by
  intro l
  induction l with
  | nil =>
    intro l' hl _
    obtain rfl := List.length_eq_zero_iff.1 hl
    exact Nat.le_refl _
  | cons a l ih =>
    intro l' hl h
    cases l' with
    | nil => simp at hl
    | cons a' l' =>
      have h1 := ih l' (by simpa using hl) (fun i hi => h (i + 1) hi)
      have h2 := h 0
      rw [List.count_cons, List.count_cons]
      cases a <;> cases a' <;> simp at h2 ⊢ <;> omega

end Go.Proofs.YtaehkcnankijfaaDoor

namespace Go.Proofs.YtaehkcnankijfaaDoor

/-- One reaches another one. -/
inductive Reach (a : Nat → Nat → Bool) : Nat → Nat → Prop
  | refl (k : Nat) : Reach a k k
  | step {k y x : Nat} : a k y = true → Reach a y x → Reach a k x
/-- The same, by way of those below m alone. -/
inductive Via (a : Nat → Nat → Bool) (m : Nat) : Nat → Nat → Prop
  | refl (k : Nat) : Via a m k k
  | one {k x : Nat} : a k x = true → Via a m k x
  | step {k y x : Nat} : a k y = true → y < m → Via a m y x → Via a m k x
section
variable {a : Nat → Nat → Bool}
theorem Reach.trans {k y x : Nat} (h : Reach a k y) (g : Reach a y x) : Reach a k x := by
  induction h with
  | refl _ => exact g
  | step h _ ih => exact .step h (ih g)
theorem Via.reach {m k x : Nat} (h : Via a m k x) : Reach a k x := by
  induction h with
  | refl _ => exact .refl _
  | one h => exact .step h (.refl _)
  | step h _ _ ih => exact .step h ih
theorem Via.split {m k x : Nat} (h : Via a (m + 1) k x) : Via a m k x ∨ (Via a m k m ∧ Via a m m x) := by
  induction h with
  | refl _ => exact .inl (.refl _)
  | one h => exact .inl (.one h)
  | step h hy _ ih =>
    rename_i k y x _
    by_cases e : y = m
    · subst e
      rcases ih with ih | ⟨_, ih⟩
      · exact .inr ⟨.one h, ih⟩
      · exact .inr ⟨.one h, ih⟩
    · rcases ih with ih | ⟨i1, i2⟩
      · exact .inl (.step h (by omega) ih)
      · exact .inr ⟨.step h (by omega) i1, i2⟩
theorem Via.more {m m' k x : Nat} (h : Via a m k x) (hm : m ≤ m') : Via a m' k x := by
  induction h with
  | refl _ => exact .refl _
  | one h => exact .one h
  | step h hy _ ih => exact .step h (by omega) ih
theorem Via.trans {m k y x : Nat} (h : Via a m k y) (hy : y < m) (g : Via a m y x) : Via a m k x := by
  induction h with
  | refl _ => exact g
  | one h => exact .step h hy g
  | step h hz _ ih => exact .step h hz (ih hy g)
theorem Reach.via {n k x : Nat} (hn : ∀ k x, a k x = true → x < n) (h : Reach a k x) : Via a n k x := by
  induction h with
  | refl _ => exact .refl _
  | step h _ ih => exact .step h (hn _ _ h) ih
end
/-- Who reaches whom, reckoned: with one more in between at a time. -/
def viaF (a : Nat → Nat → Bool) : Nat → Nat → Nat → Bool
  | 0, k, x => decide (k = x) || a k x
  | m + 1, k, x => viaF a m k x || (viaF a m k m && viaF a m m x)
theorem viaF_iff (a : Nat → Nat → Bool) : ∀ (m k x : Nat), viaF a m k x = true ↔ Via a m k x
  | 0, k, x => by
    rw [viaF, Bool.or_eq_true, decide_eq_true_eq]
    constructor
    · rintro (rfl | h)
      · exact .refl _
      · exact .one h
    · intro h
      cases h with
      | refl _ => exact .inl rfl
      | one h => exact .inr h
      | step _ hy _ => omega
  | m + 1, k, x => by
    rw [viaF, Bool.or_eq_true, Bool.and_eq_true, viaF_iff a m, viaF_iff a m, viaF_iff a m]
    constructor
    · rintro (h | ⟨h, g⟩)
      · exact h.more (Nat.le_succ _)
      · exact (h.more (Nat.le_succ _)).trans (Nat.lt_succ_self _) (g.more (Nat.le_succ _))
    · exact Via.split
theorem viaF_reach {a : Nat → Nat → Bool} {n : Nat} (hn : ∀ k x, a k x = true → x < n) {k x : Nat} : viaF a n k x = true ↔ Reach a k x := by
  rw [viaF_iff]; exact ⟨Via.reach, Reach.via hn⟩

/-- The least one of a ring. -/
def ringF (R : Nat → Nat → Bool) (n k : Nat) : Nat := ((List.range n).find? fun x => R k x && R x k).getD 0
theorem ring_eq {a : Nat → Nat → Bool} {R : Nat → Nat → Bool} {n : Nat} (hR : ∀ k x, R k x = true ↔ Reach a k x) {k x : Nat} (h : R k x = true) (g : R x k = true) : ringF R n k = ringF R n x := by
  have e : (fun z => R k z && R z k) = fun z => R x z && R z x := by
    funext z
    rw [Bool.eq_iff_iff, Bool.and_eq_true, Bool.and_eq_true, hR, hR, hR, hR]
    rw [hR] at h g
    exact ⟨fun ⟨p, q⟩ => ⟨g.trans p, q.trans h⟩, fun ⟨p, q⟩ => ⟨h.trans p, q.trans g⟩⟩
  unfold ringF
  rw [e]
/-- The first one found from below. -/
theorem find_range {p : Nat → Bool} {n x : Nat} (hx : x < n) (h : p x = true) (h2 : ∀ j, j < x → p j = false) : (List.range n).find? p = some x := by
  rw [List.find?_range_eq_some]
  exact ⟨h, List.mem_range.2 hx, fun j hj => by simp [h2 j hj]⟩
theorem ring_at {R : Nat → Nat → Bool} {n k x : Nat} (hx : x < n) (h : (R k x && R x k) = true) (h2 : ∀ j, j < x → (R k j && R j k) = false) : ringF R n k = x := by
  unfold ringF
  rw [find_range hx h h2]; rfl

/-- May it go next? -/
def readyF (a : Nat → Nat → Bool) (r : Nat → Nat) (n : Nat) (t : List Bool) (k : Nat) : Bool := !(t.getD k true) && (List.range n).all fun x => !(a k x && !(t.getD x true) && decide (r x ≠ r k))
def pickF (a : Nat → Nat → Bool) (r : Nat → Nat) (n : Nat) (t : List Bool) : Option Nat := (List.range n).find? (readyF a r n t)
def ordSt (a : Nat → Nat → Bool) (r : Nat → Nat) (n : Nat) : Nat → List Bool × List Int
  | 0 => (List.replicate n false, [])
  | j + 1 => match pickF a r n (ordSt a r n j).1 with
    | some k => ((ordSt a r n j).1.set k true, (ordSt a r n j).2 ++ [(k : Int)])
    | none => ordSt a r n j
def ordF (a : Nat → Nat → Bool) (r : Nat → Nat) (n : Nat) : List Int := (ordSt a r n n).2

theorem ready_iff {a : Nat → Nat → Bool} {r : Nat → Nat} {n : Nat} {t : List Bool} {k : Nat} : readyF a r n t k = true ↔ t.getD k true = false ∧ ∀ x, x < n → a k x = true → t.getD x true = false → r x = r k := by
  unfold readyF
  rw [Bool.and_eq_true, Bool.not_eq_true', List.all_eq_true]
  refine and_congr Iff.rfl ⟨fun h x hx h1 h2 => ?_, fun h x hx => ?_⟩
  · have := h x (List.mem_range.2 hx)
    rw [h1, h2] at this
    simpa using this
  · have := h x (List.mem_range.1 hx)
    cases h1 : a k x with
    | false => rfl
    | true =>
      cases h2 : t.getD x true with
      | true => rfl
      | false => simpa using this h1 h2
theorem count_lt {p q : Nat → Bool} {k : Nat} (h : ∀ z, p z = true → q z = true) (h1 : q k = true) (h2 : p k = false) : ∀ (n : Nat), (List.range n).countP p ≤ (List.range n).countP q ∧ (k < n → (List.range n).countP p < (List.range n).countP q)
  | 0 => ⟨Nat.le_refl _, fun h => by omega⟩
  | n + 1 => by
    obtain ⟨i1, i2⟩ := count_lt h h1 h2 n
    rw [List.range_succ, List.countP_append, List.countP_append, List.countP_singleton, List.countP_singleton]
    refine ⟨?_, fun hk => ?_⟩
    · cases hp : p n with
      | false => cases q n <;> simp <;> omega
      | true => rw [h n hp]; simp; omega
    · by_cases e : k = n
      · subst e
        rw [h1, h2]
        simp
        omega
      · have := i2 (by omega)
        cases hp : p n with
        | false => cases q n <;> simp <;> omega
        | true => rw [h n hp]; simp; omega
/-- As long as one is left, one may go next. -/
theorem pick_some {a : Nat → Nat → Bool} {R : Nat → Nat → Bool} {n : Nat} (hR : ∀ k x, R k x = true ↔ Reach a k x) {t : List Bool} : ∀ (c k : Nat), k < n → t.getD k true = false → (List.range n).countP (R k) ≤ c → ∃ j, pickF a (ringF R n) n t = some j
  | 0, k, hk, hf, hc => by
    have h := (count_lt (p := fun _ => false) (q := R k) (k := k) (fun z h => by cases h) ((hR k k).2 (.refl _)) rfl n).2 hk
    omega
  | c + 1, k, hk, hf, hc => by
    by_cases hr : readyF a (ringF R n) n t k = true
    · cases hp : pickF a (ringF R n) n t with
      | some j => exact ⟨j, rfl⟩
      | none =>
        unfold pickF at hp
        have := List.find?_eq_none.1 hp k (List.mem_range.2 hk)
        exact absurd hr this
    · have h1 : ∃ x, x < n ∧ a k x = true ∧ t.getD x true = false ∧ ringF R n x ≠ ringF R n k := Classical.byContradiction fun h => hr (ready_iff.2 ⟨hf, fun x hx h1 h2 => Classical.byContradiction fun h3 => h ⟨x, hx, h1, h2, h3⟩⟩)
      obtain ⟨x, hx, h1, h2, h3⟩ := h1
      have hkx : R k x = true := (hR k x).2 (.step h1 (.refl _))
      have hxk : R x k = false := by
        cases hh : R x k with
        | false => rfl
        | true => exact absurd (ring_eq (n := n) hR hh hkx) h3
      have := (count_lt (p := R x) (q := R k) (k := k) (fun z h => (hR k z).2 (((hR k x).1 hkx).trans ((hR x z).1 h))) ((hR k k).2 (.refl _)) hxk n).2 hk
      exact pick_some hR c x hx h2 (by omega)
/-- What holds of the order so far. -/
structure OrdOk (n j : Nat) (s : List Bool × List Int) : Prop where
  len : s.1.length = n
  many : s.2.length = j
  left : s.1.count false = n - j
  told : ∀ k, k < n → (s.1.getD k true = true ↔ (k : Int) ∈ s.2)
  range : ∀ x ∈ s.2, 0 ≤ x ∧ x < (n : Int)
  nodup : s.2.Nodup
theorem count_false_pos : ∀ {t : List Bool}, 0 < t.count false → ∃ k, k < t.length ∧ t.getD k true = false
  | [], h => by simp at h
  | b :: t, h => by
    cases b with
    | false => exact ⟨0, by simp, rfl⟩
    | true =>
      rw [List.count_cons] at h
      obtain ⟨k, h1, h2⟩ := count_false_pos (t := t) (by simpa using h)
      exact ⟨k + 1, by simpa using h1, by simpa using h2⟩
theorem pick_ready {a : Nat → Nat → Bool} {r : Nat → Nat} {n : Nat} {t : List Bool} {k : Nat} (h : pickF a r n t = some k) : k < n ∧ readyF a r n t k = true := by
  unfold pickF at h
  exact ⟨List.mem_range.1 (List.mem_of_find?_eq_some h), List.find?_some h⟩
theorem ord_ok {a : Nat → Nat → Bool} {R : Nat → Nat → Bool} {n : Nat} (hR : ∀ k x, R k x = true ↔ Reach a k x) : ∀ j, j ≤ n → OrdOk n j (ordSt a (ringF R n) n j)
  | 0, _ => by
    refine ⟨by simp [ordSt], rfl, by simp [ordSt], fun k hk => ?_, fun x h => (by cases h), List.nodup_nil⟩
    simp [ordSt, List.getD_eq_getElem?_getD, hk]
  | j + 1, hj => by
    have ih := ord_ok hR (n := n) j (by omega)
    obtain ⟨k, hk, hf⟩ := count_false_pos (t := (ordSt a (ringF R n) n j).1) (by rw [ih.left]; omega)
    obtain ⟨p, hp⟩ := pick_some hR (t := (ordSt a (ringF R n) n j).1) _ k (by rw [ih.len] at hk; exact hk) hf (Nat.le_refl _)
    obtain ⟨hpn, hpr⟩ := pick_ready hp
    have hpf := (ready_iff.1 hpr).1
    have hpl : p < (ordSt a (ringF R n) n j).1.length := by rw [ih.len]; exact hpn
    have hpe : (ordSt a (ringF R n) n j).1[p]? = some false := by
      rw [List.getD_eq_getElem?_getD, List.getElem?_eq_getElem hpl] at hpf
      rw [List.getElem?_eq_getElem hpl]
      exact congrArg some hpf
    have hpm : (p : Int) ∉ (ordSt a (ringF R n) n j).2 := fun h => by rw [(ih.told p hpn).2 h] at hpf; cases hpf
    rw [ordSt, hp]
    refine ⟨by simp [ih.len], by simp [ih.many], ?_, fun k hk => ?_, fun x hx => ?_, ?_⟩
    · have := unseen_set _ p hpe
      have := ih.left
      dsimp only
      omega
    · dsimp only
      rw [List.getD_eq_getElem?_getD, List.getElem?_set, List.mem_append, List.mem_singleton]
      by_cases e : p = k
      · subst e
        simp [hpl]
      · rw [if_neg e, ← List.getD_eq_getElem?_getD, ih.told k hk]
        constructor
        · exact .inl
        · rintro (h | h)
          · exact h
          · omega
    · rcases List.mem_append.1 hx with h | h
      · exact ih.range x h
      · rw [List.mem_singleton] at h; omega
    · refine List.nodup_append.2 ⟨ih.nodup, by simp, fun x hx y hy e => ?_⟩
      rw [List.mem_singleton] at hy
      subst hy
      subst e
      exact hpm hx
theorem ord_pick {a : Nat → Nat → Bool} {R : Nat → Nat → Bool} {n : Nat} (hR : ∀ k x, R k x = true ↔ Reach a k x) {j : Nat} (hj : j < n) : ∃ k, pickF a (ringF R n) n (ordSt a (ringF R n) n j).1 = some k ∧ k < n ∧ ordSt a (ringF R n) n (j + 1) = ((ordSt a (ringF R n) n j).1.set k true, (ordSt a (ringF R n) n j).2 ++ [(k : Int)]) := by
  have ih := ord_ok hR (n := n) j (by omega)
  obtain ⟨k, hk, hf⟩ := count_false_pos (t := (ordSt a (ringF R n) n j).1) (by rw [ih.left]; omega)
  obtain ⟨p, hp⟩ := pick_some hR (t := (ordSt a (ringF R n) n j).1) _ k (by rw [ih.len] at hk; exact hk) hf (Nat.le_refl _)
  exact ⟨p, hp, (pick_ready hp).1, by rw [ordSt, hp]⟩

end Go.Proofs.YtaehkcnankijfaaDoor

namespace Go.Proofs.YtaehkcnankijfaaDoor

/-- The table under way: m stand in between; the rows below k are done for one more, and of row k those below x. -/
structure WarIn (a : Nat → Nat → Bool) (n m k x : Nat) (T : Nat → Nat → Bool) : Prop where
  sound : ∀ p q, p < n → q < n → T p q = true → Reach a p q
  full : ∀ p q, p < n → q < n → Via a m p q → T p q = true
  done : ∀ p q, p < n → q < n → (p < k ∨ p = k ∧ q < x) → Via a m p m → Via a m m q → T p q = true
def setT (T : Nat → Nat → Bool) (k x : Nat) : Nat → Nat → Bool := fun p q => if p = k ∧ q = x then true else T p q
theorem WarIn.start {a : Nat → Nat → Bool} {n : Nat} {T : Nat → Nat → Bool} (hT : ∀ p q, p < n → q < n → T p q = (decide (p = q) || a p q)) : WarIn a n 0 0 0 T := by
  refine ⟨fun p q hp hq h => ?_, fun p q hp hq h => ?_, fun p q hp hq h _ _ => by omega⟩
  · rw [hT p q hp hq] at h
    exact ((viaF_iff a 0 p q).1 h).reach
  · rw [hT p q hp hq]
    exact (viaF_iff a 0 p q).2 h
theorem WarIn.step {a : Nat → Nat → Bool} {n m k x : Nat} {T : Nat → Nat → Bool} (h : WarIn a n m k x T) (hm : m < n) (hk : k < n) (hx : x < n) : WarIn a n m k (x + 1) (if (T k m && T m x) = true then setT T k x else T) := by
  by_cases hc : (T k m && T m x) = true
  · rw [if_pos hc]
    rw [Bool.and_eq_true] at hc
    refine ⟨fun p q hp hq hh => ?_, fun p q hp hq hh => ?_, fun p q hp hq hpq h1 h2 => ?_⟩
    · unfold setT at hh
      by_cases e : p = k ∧ q = x
      · obtain ⟨rfl, rfl⟩ := e
        exact (h.sound _ _ hp hm hc.1).trans (h.sound _ _ hm hq hc.2)
      · rw [if_neg e] at hh; exact h.sound p q hp hq hh
    · unfold setT
      split
      · rfl
      · exact h.full p q hp hq hh
    · unfold setT
      by_cases e : p = k ∧ q = x
      · rw [if_pos e]
      · rw [if_neg e]
        exact h.done p q hp hq (by omega) h1 h2
  · rw [if_neg hc]
    refine ⟨h.sound, h.full, fun p q hp hq hpq h1 h2 => ?_⟩
    by_cases e : p = k ∧ q = x
    · obtain ⟨rfl, rfl⟩ := e
      exact absurd (by rw [h.full p m hp hm h1, h.full m q hm hq h2]; rfl) hc
    · exact h.done p q hp hq (by omega) h1 h2
theorem WarIn.row {a : Nat → Nat → Bool} {n m k : Nat} {T : Nat → Nat → Bool} (h : WarIn a n m k n T) : WarIn a n m (k + 1) 0 T :=
  ⟨h.sound, h.full, fun p q hp hq hpq h1 h2 => h.done p q hp hq (by omega) h1 h2⟩
theorem WarIn.more {a : Nat → Nat → Bool} {n m : Nat} {T : Nat → Nat → Bool} (h : WarIn a n m n 0 T) : WarIn a n (m + 1) 0 0 T :=
  ⟨h.sound, fun p q hp hq hv => hv.split.elim (h.full p q hp hq) (fun ⟨h1, h2⟩ => h.done p q hp hq (.inl hp) h1 h2), fun p q hp hq h _ _ => by omega⟩
theorem WarIn.whole {a : Nat → Nat → Bool} {n : Nat} {T : Nat → Nat → Bool} (h : WarIn a n n 0 0 T) (ha : ∀ k x, a k x = true → x < n) {p q : Nat} (hp : p < n) (hq : q < n) : T p q = viaF a n p q := by
  rw [Bool.eq_iff_iff, viaF_reach ha]
  exact ⟨h.sound p q hp hq, fun hr => h.full p q hp hq (hr.via ha)⟩

end Go.Proofs.YtaehkcnankijfaaDoor
