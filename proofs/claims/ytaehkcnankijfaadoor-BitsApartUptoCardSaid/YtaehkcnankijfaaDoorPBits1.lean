/- Known bits, in plain Lean: what instructions make of them, and that it is monotone. No program in sight. Tables of known bits, in plain Lean: whatever order one goes in, the rounds end at the same table. No program in sight. -/
import Derived.Test.YtaehkcnankijfaaDoorPVals
namespace Go.Proofs.YtaehkcnankijfaaDoor

/-- Which bits are surely 0, and which surely 1. -/
structure Kn where
  off : BitVec 64
  on : BitVec 64
  deriving DecidableEq
namespace Kn
def top : Kn := ⟨BitVec.allOnes 64, BitVec.allOnes 64⟩
def none : Kn := ⟨0#64, 0#64⟩
def num (n : BitVec 64) : Kn := ⟨~~~n, n⟩
def meet (a b : Kn) : Kn := ⟨a.off &&& b.off, a.on &&& b.on⟩
/-- Some bit is both. -/
def both (a : Kn) : Bool := decide (a.off &&& a.on ≠ 0#64)
def Le (a b : Kn) : Prop := ∀ i, i < 64 → (a.off.getLsbD i = true → b.off.getLsbD i = true) ∧ (a.on.getLsbD i = true → b.on.getLsbD i = true)
/-- No bit is both. -/
def Apart (a : Kn) : Prop := ∀ i, i < 64 → a.off.getLsbD i = true → a.on.getLsbD i = true → False
def Fit (a : Kn) : Prop := a = top ∨ a.Apart

theorem ext_bits {a b : Kn} (h : ∀ i, i < 64 → a.off.getLsbD i = b.off.getLsbD i ∧ a.on.getLsbD i = b.on.getLsbD i) : a = b := by
  obtain ⟨a1, a2⟩ := a
  obtain ⟨b1, b2⟩ := b
  have e1 : a1 = b1 := BitVec.eq_of_getLsbD_eq fun i hi => (h i hi).1
  have e2 : a2 = b2 := BitVec.eq_of_getLsbD_eq fun i hi => (h i hi).2
  rw [e1, e2]
theorem Le.refl (a : Kn) : a.Le a := fun _ _ => ⟨id, id⟩
theorem Le.trans {a b c : Kn} (h : a.Le b) (k : b.Le c) : a.Le c := fun i hi => ⟨fun x => (k i hi).1 ((h i hi).1 x), fun x => (k i hi).2 ((h i hi).2 x)⟩
theorem Le.antisymm {a b : Kn} (h : a.Le b) (k : b.Le a) : a = b := ext_bits fun i hi => ⟨Bool.eq_iff_iff.2 ⟨(h i hi).1, (k i hi).1⟩, Bool.eq_iff_iff.2 ⟨(h i hi).2, (k i hi).2⟩⟩
theorem le_top (a : Kn) : a.Le top := fun i hi => by
  unfold top
  simp only [BitVec.getLsbD_allOnes, hi, decide_true]
  exact ⟨fun _ => trivial, fun _ => trivial⟩
theorem none_le (a : Kn) : none.Le a := fun i _ => by
  unfold none
  simp only [BitVec.getLsbD_zero]
  exact ⟨fun h => (by cases h), fun h => (by cases h)⟩
theorem meet_le_left (a b : Kn) : (a.meet b).Le a := fun i _ => by
  unfold meet
  simp only [BitVec.getLsbD_and, Bool.and_eq_true]
  exact ⟨fun h => h.1, fun h => h.1⟩
theorem meet_le_right (a b : Kn) : (a.meet b).Le b := fun i _ => by
  unfold meet
  simp only [BitVec.getLsbD_and, Bool.and_eq_true]
  exact ⟨fun h => h.2, fun h => h.2⟩
theorem le_meet {a b c : Kn} (h : c.Le a) (k : c.Le b) : c.Le (a.meet b) := fun i hi => by
  unfold meet
  simp only [BitVec.getLsbD_and, Bool.and_eq_true]
  exact ⟨fun x => ⟨(h i hi).1 x, (k i hi).1 x⟩, fun x => ⟨(h i hi).2 x, (k i hi).2 x⟩⟩
theorem meet_comm (a b : Kn) : a.meet b = b.meet a := by unfold meet; rw [BitVec.and_comm, BitVec.and_comm a.on]
theorem meet_top (a : Kn) : a.meet top = a := (meet_le_left _ _).antisymm (le_meet (Le.refl _) (le_top _))
theorem top_meet (a : Kn) : top.meet a = a := by rw [meet_comm, meet_top]
theorem Apart.of_le {a b : Kn} (h : a.Le b) (k : b.Apart) : a.Apart := fun i hi x y => k i hi ((h i hi).1 x) ((h i hi).2 y)
theorem Fit.meet {a b : Kn} (h : a.Fit) (k : b.Fit) : (a.meet b).Fit := by
  rcases h with rfl | h
  · rw [top_meet]; exact k
  · exact .inr (h.of_le (meet_le_left _ _))
theorem both_apart {a : Kn} : a.both = false ↔ a.Apart := by
  unfold both
  rw [decide_eq_false_iff_not, Classical.not_not]
  constructor
  · intro h i hi x y
    have e : (a.off &&& a.on).getLsbD i = true := by rw [BitVec.getLsbD_and, x, y]; rfl
    rw [h, BitVec.getLsbD_zero] at e
    cases e
  · intro h
    refine BitVec.eq_of_getLsbD_eq fun i hi => ?_
    rw [BitVec.getLsbD_zero, BitVec.getLsbD_and]
    cases x : a.off.getLsbD i with
    | false => rfl
    | true =>
      cases y : a.on.getLsbD i with
      | false => rfl
      | true => exact (h i hi x y).elim
theorem both_top : top.both = true := by decide
theorem Fit.both {a : Kn} (h : a.Fit) : a.both = true ↔ a = top := by
  constructor
  · intro hb
    rcases h with h | h
    · exact h
    · rw [both_apart.2 h] at hb; cases hb
  · rintro rfl; exact both_top
theorem both_le {a b : Kn} (h : a.Le b) (hb : b.both = false) : a.both = false := both_apart.2 ((both_apart.1 hb).of_le h)
theorem num_apart (n : BitVec 64) : (num n).Apart := fun i hi x y => by
  unfold num at x y
  rw [BitVec.getLsbD_not] at x
  dsimp only at y
  rw [y] at x
  simp at x
theorem none_apart : none.Apart := fun i _ x _ => by unfold none at x; rw [BitVec.getLsbD_zero] at x; cases x
end Kn

/-- How many zeros there are ahead of the first one, from the lowest bit on. -/
def tzTo (x : BitVec 64) : Nat → Nat
  | 0 => 0
  | n + 1 => if tzTo x n = n ∧ x.getLsbD n = false then n + 1 else tzTo x n
def tzF (x : BitVec 64) : Nat := tzTo x 64
theorem tzTo_spec (x : BitVec 64) : ∀ n, tzTo x n ≤ n ∧ (∀ i, i < tzTo x n → x.getLsbD i = false) ∧ (tzTo x n < n → x.getLsbD (tzTo x n) = true)
  | 0 => ⟨Nat.le_refl _, fun i h => (by unfold tzTo at h; omega), fun h => (by unfold tzTo at h; omega)⟩
  | n + 1 => by
    obtain ⟨h1, h2, h3⟩ := tzTo_spec x n
    rw [tzTo]
    by_cases hc : tzTo x n = n ∧ x.getLsbD n = false
    · rw [if_pos hc]
      refine ⟨Nat.le_refl _, fun i hi => ?_, fun h => by omega⟩
      by_cases hin : i = n
      · rw [hin]; exact hc.2
      · exact h2 i (by omega)
    · rw [if_neg hc]
      refine ⟨by omega, h2, fun _ => ?_⟩
      by_cases he : tzTo x n = n
      · rw [he]
        cases hx : x.getLsbD n with
        | true => rfl
        | false => exact absurd ⟨he, hx⟩ hc
      · exact h3 (by omega)
theorem tzF_spec (x : BitVec 64) : tzF x ≤ 64 ∧ (∀ i, i < tzF x → x.getLsbD i = false) ∧ (tzF x < 64 → x.getLsbD (tzF x) = true) := by
  have h := tzTo_spec x 64
  unfold tzF
  exact h
/-- The lowest m bits. -/
def maskF (m : Nat) : BitVec 64 := BitVec.ofNat 64 (2 ^ m - 1)
theorem maskF_at (m i : Nat) (hi : i < 64) : (maskF m).getLsbD i = decide (i < m) := by
  unfold maskF
  rw [BitVec.getLsbD_ofNat, Nat.testBit_two_pow_sub_one]
  simp [hi]
/-- Of how many lowest bits it is known what they are. -/
def knownTo (a : Kn) : Nat := tzF (~~~(a.off ||| a.on))
theorem knownTo_le (a : Kn) : knownTo a ≤ 64 := (tzF_spec _).1
theorem knownTo_at {a : Kn} {i : Nat} (h : i < knownTo a) : a.off.getLsbD i = true ∨ a.on.getLsbD i = true := by
  have h1 := (tzF_spec (~~~(a.off ||| a.on))).2.1 i h
  have h2 := knownTo_le a
  rw [BitVec.getLsbD_not, BitVec.getLsbD_or] at h1
  simp only [show i < 64 by omega, decide_true, Bool.true_and, Bool.not_eq_false', Bool.or_eq_true] at h1
  exact h1
theorem knownTo_end {a : Kn} (h : knownTo a < 64) : a.off.getLsbD (knownTo a) = false ∧ a.on.getLsbD (knownTo a) = false := by
  unfold knownTo at h ⊢
  have h1 := (tzF_spec (~~~(a.off ||| a.on))).2.2 h
  generalize tzF (~~~(a.off ||| a.on)) = m at h h1 ⊢
  rw [BitVec.getLsbD_not, BitVec.getLsbD_or] at h1
  simpa [h] using h1
theorem knownTo_mono {a b : Kn} (h : a.Le b) : knownTo a ≤ knownTo b := by
  rcases Nat.lt_or_ge (knownTo b) (knownTo a) with hlt | hge
  · have h1 := knownTo_le a
    have h2 := knownTo_end (a := b) (by omega)
    have h3 := h (knownTo b) (by omega)
    rcases knownTo_at hlt with h4 | h4
    · rw [h3.1 h4] at h2; cases h2.1
    · rw [h3.2 h4] at h2; cases h2.2
  · exact hge

/-- The same lowest bits. -/
def Same (m : Nat) (x y : BitVec 64) : Prop := ∀ i, i < m → x.getLsbD i = y.getLsbD i
theorem same_mod {m : Nat} (_hm : m ≤ 64) {x y : BitVec 64} : Same m x y ↔ x.toNat % 2 ^ m = y.toNat % 2 ^ m := by
  constructor
  · intro h
    refine Nat.eq_of_testBit_eq fun i => ?_
    rw [Nat.testBit_mod_two_pow, Nat.testBit_mod_two_pow]
    by_cases hi : i < m
    · have := h i hi
      unfold BitVec.getLsbD at this
      rw [this]
    · simp [hi]
  · intro h i hi
    have := congrArg (fun n => Nat.testBit n i) h
    simp only [Nat.testBit_mod_two_pow, hi, decide_true, Bool.true_and] at this
    exact this
theorem Same.add {m : Nat} (hm : m ≤ 64) {x y x' y' : BitVec 64} (h : Same m x x') (k : Same m y y') : Same m (x + y) (x' + y') := by
  rw [same_mod hm] at *
  have hd : 2 ^ m ∣ 2 ^ 64 := Nat.pow_dvd_pow 2 hm
  rw [BitVec.toNat_add, BitVec.toNat_add, Nat.mod_mod_of_dvd _ hd, Nat.mod_mod_of_dvd _ hd, Nat.add_mod, h, k, ← Nat.add_mod]
theorem Same.mul {m : Nat} (hm : m ≤ 64) {x y x' y' : BitVec 64} (h : Same m x x') (k : Same m y y') : Same m (x * y) (x' * y') := by
  rw [same_mod hm] at *
  have hd : 2 ^ m ∣ 2 ^ 64 := Nat.pow_dvd_pow 2 hm
  rw [BitVec.toNat_mul, BitVec.toNat_mul, Nat.mod_mod_of_dvd _ hd, Nat.mod_mod_of_dvd _ hd, Nat.mul_mod, h, k, ← Nat.mul_mod]
theorem Same.not {m : Nat} (_hm : m ≤ 64) {x x' : BitVec 64} (h : Same m x x') : Same m (~~~x) (~~~x') := fun i hi => by
  rw [BitVec.getLsbD_not, BitVec.getLsbD_not, h i hi]
theorem Same.neg {m : Nat} (hm : m ≤ 64) {x x' : BitVec 64} (h : Same m x x') : Same m (-x) (-x') := by
  rw [BitVec.neg_eq_not_add, BitVec.neg_eq_not_add]
  exact (h.not hm).add hm (fun _ _ => rfl)
theorem Same.sub {m : Nat} (hm : m ≤ 64) {x y x' y' : BitVec 64} (h : Same m x x') (k : Same m y y') : Same m (x - y) (x' - y') := by
  rw [BitVec.sub_eq_add_neg, BitVec.sub_eq_add_neg]
  exact h.add hm (k.neg hm)
/-- What is known of the lowest bits is the same below and above. -/
theorem known_same {a b : Kn} (h : a.Le b) (hb : b.Apart) : Same (knownTo a) a.on b.on := fun i hi => by
  have hi64 : i < 64 := by have := knownTo_le a; omega
  have h1 := h i hi64
  rcases knownTo_at hi with h2 | h2
  · have h3 := h1.1 h2
    cases ha : a.on.getLsbD i with
    | true => exact (hb i hi64 h3 (h1.2 ha)).elim
    | false =>
      cases hbi : b.on.getLsbD i with
      | false => rfl
      | true => exact (hb i hi64 h3 hbi).elim
  · rw [h2, h1.2 h2]

/-- Just the lowest m bits of a number. -/
def lowF (n : BitVec 64) (m : Nat) : Kn := ⟨~~~n &&& maskF m, n &&& maskF m⟩
theorem lowF_apart (n : BitVec 64) (m : Nat) : (lowF n m).Apart := fun i hi x y => by
  unfold lowF at x y
  simp only [BitVec.getLsbD_and, BitVec.getLsbD_not, Bool.and_eq_true, Bool.not_eq_true', decide_eq_true_eq] at x y
  rw [y.1] at x
  exact absurd x.1.2 (by simp)
theorem lowF_le {n n' : BitVec 64} {m m' : Nat} (hm : m ≤ m') (h : Same m n n') : (lowF n m).Le (lowF n' m') := fun i hi => by
  unfold lowF
  simp only [BitVec.getLsbD_and, BitVec.getLsbD_not, maskF_at _ _ hi, Bool.and_eq_true, Bool.not_eq_true', decide_eq_true_eq]
  refine ⟨fun hx => ?_, fun hx => ?_⟩
  · rw [← h i hx.2]; exact ⟨hx.1, by omega⟩
  · rw [← h i hx.2]; exact ⟨hx.1, by omega⟩

def loneB (op : Int) : Bool := decide (op = 1 ∨ op = 16 ∨ op = 17)
def sureB (b : Kn) : Bool := decide (b.off = ~~~b.on)
def shN (b : Kn) : Nat := b.on.toNat % 64
/-- What an instruction makes of what is known. -/
def makeIn (op : Int) (a b : Kn) : Kn :=
  if op = 1 then a
  else if op = 17 then ⟨a.on, a.off⟩
  else if op = 7 then ⟨a.off ||| b.off, a.on &&& b.on⟩
  else if op = 8 then ⟨a.off &&& b.off, a.on ||| b.on⟩
  else if op = 9 then ⟨(a.off &&& b.off) ||| (a.on &&& b.on), (a.off &&& b.on) ||| (a.on &&& b.off)⟩
  else if op = 2 then lowF (a.on + b.on) (min (knownTo a) (knownTo b))
  else if op = 3 then lowF (a.on - b.on) (min (knownTo a) (knownTo b))
  else if op = 4 then lowF (a.on * b.on) (min (knownTo a) (knownTo b))
  else if op = 16 then lowF (-a.on) (knownTo a)
  else if op = 10 then if sureB b = true then ⟨(a.off <<< shN b) ||| maskF (shN b), a.on <<< shN b⟩ else Kn.none
  else if op = 11 then if sureB b = true then ⟨a.off.sshiftRight (shN b), a.on.sshiftRight (shN b)⟩ else Kn.none
  else if 12 ≤ op ∧ op ≤ 15 then ⟨~~~1#64, 0#64⟩
  else Kn.none
def makesF (op : Int) (a b : Kn) : Kn :=
  if 17 < op then Kn.none
  else if (a.both || (!loneB op && b.both)) = true then Kn.top
  else makeIn op a b

theorem not_le {a b : Kn} (h : a.Le b) : Kn.Le ⟨a.on, a.off⟩ ⟨b.on, b.off⟩ := fun i hi => ⟨(h i hi).2, (h i hi).1⟩
theorem sure_at {b : Kn} (h : sureB b = true) {i : Nat} (hi : i < 64) : b.off.getLsbD i = !b.on.getLsbD i := by
  have e : b.off = ~~~b.on := by simpa [sureB] using h
  rw [e, BitVec.getLsbD_not]; simp [hi]
theorem sure_up {a b : Kn} (h : a.Le b) (hb : b.Apart) (hs : sureB a = true) : b = a := by
  refine Kn.ext_bits fun i hi => ?_
  have h1 := sure_at hs hi
  have h2 := h i hi
  cases ha : a.on.getLsbD i with
  | true =>
    rw [ha] at h1
    have h3 := h2.2 ha
    refine ⟨?_, h3⟩
    rw [h1]
    cases hbo : b.off.getLsbD i with
    | false => rfl
    | true => exact (hb i hi hbo h3).elim
  | false =>
    rw [ha] at h1
    have h3 := h2.1 h1
    refine ⟨by rw [h3, h1]; rfl, ?_⟩
    cases hbo : b.on.getLsbD i with
    | false => rfl
    | true => exact (hb i hi h3 hbo).elim

theorem shl_le {a b : Kn} (h : a.Le b) (n : Nat) : Kn.Le ⟨(a.off <<< n) ||| maskF n, a.on <<< n⟩ ⟨(b.off <<< n) ||| maskF n, b.on <<< n⟩ := fun i hi => by
  simp only [BitVec.getLsbD_or, BitVec.getLsbD_shiftLeft, Bool.or_eq_true, Bool.and_eq_true]
  refine ⟨fun hx => ?_, fun hx => ⟨hx.1, (h (i - n) (by omega)).2 hx.2⟩⟩
  rcases hx with hx | hx
  · exact .inl ⟨hx.1, (h (i - n) (by omega)).1 hx.2⟩
  · exact .inr hx
theorem shl_apart {a : Kn} (h : a.Apart) (n : Nat) : Kn.Apart ⟨(a.off <<< n) ||| maskF n, a.on <<< n⟩ := fun i hi x y => by
  simp only [BitVec.getLsbD_or, BitVec.getLsbD_shiftLeft, Bool.or_eq_true, Bool.and_eq_true, maskF_at _ _ hi, decide_eq_true_eq, Bool.not_eq_true', decide_eq_false_iff_not] at x y
  rcases x with x | x
  · exact h (i - n) (by omega) x.2 y.2
  · exact absurd x y.1.2
theorem sshr_at (x : BitVec 64) (n i : Nat) (hi : i < 64) : (x.sshiftRight n).getLsbD i = x.getLsbD (min (n + i) 63) := by
  rw [BitVec.getLsbD_sshiftRight]
  by_cases h : n + i < 64
  · rw [if_pos h, show min (n + i) 63 = n + i by omega]; simp [hi]
  · rw [if_neg h, show min (n + i) 63 = 63 by omega, BitVec.msb_eq_getLsbD_last]; simp [hi]
theorem shr_le {a b : Kn} (h : a.Le b) (n : Nat) : Kn.Le ⟨a.off.sshiftRight n, a.on.sshiftRight n⟩ ⟨b.off.sshiftRight n, b.on.sshiftRight n⟩ := fun i hi => by
  simp only [sshr_at _ _ _ hi]
  exact h (min (n + i) 63) (by omega)
theorem shr_apart {a : Kn} (h : a.Apart) (n : Nat) : Kn.Apart ⟨a.off.sshiftRight n, a.on.sshiftRight n⟩ := fun i hi x y => by
  simp only [sshr_at _ _ _ hi] at x y
  exact h (min (n + i) 63) (by omega) x y
theorem makeIn_le {op : Int} {a b a' b' : Kn} (ha : a'.Apart) (hb : loneB op = false → b'.Apart) (h1 : a.Le a') (h2 : b.Le b') : (makeIn op a b).Le (makeIn op a' b') := by
  unfold makeIn
  by_cases q1 : op = 1
  · rw [if_pos q1, if_pos q1]; exact h1
  rw [if_neg q1, if_neg q1]
  by_cases q2 : op = 17
  · rw [if_pos q2, if_pos q2]; exact not_le h1
  rw [if_neg q2, if_neg q2]
  by_cases q3 : op = 7
  · rw [if_pos q3, if_pos q3]
    intro i hi
    have u := h1 i hi
    have v := h2 i hi
    simp only [BitVec.getLsbD_or, BitVec.getLsbD_and, Bool.or_eq_true, Bool.and_eq_true]
    exact ⟨fun h => h.imp u.1 v.1, fun h => ⟨u.2 h.1, v.2 h.2⟩⟩
  rw [if_neg q3, if_neg q3]
  by_cases q4 : op = 8
  · rw [if_pos q4, if_pos q4]
    intro i hi
    have u := h1 i hi
    have v := h2 i hi
    simp only [BitVec.getLsbD_or, BitVec.getLsbD_and, Bool.or_eq_true, Bool.and_eq_true]
    exact ⟨fun h => ⟨u.1 h.1, v.1 h.2⟩, fun h => h.imp u.2 v.2⟩
  rw [if_neg q4, if_neg q4]
  by_cases q5 : op = 9
  · rw [if_pos q5, if_pos q5]
    intro i hi
    have u := h1 i hi
    have v := h2 i hi
    simp only [BitVec.getLsbD_or, BitVec.getLsbD_and, Bool.or_eq_true, Bool.and_eq_true]
    exact ⟨fun h => h.imp (fun h => ⟨u.1 h.1, v.1 h.2⟩) (fun h => ⟨u.2 h.1, v.2 h.2⟩), fun h => h.imp (fun h => ⟨u.1 h.1, v.2 h.2⟩) (fun h => ⟨u.2 h.1, v.1 h.2⟩)⟩
  rw [if_neg q5, if_neg q5]
  have hk1 := knownTo_mono h1
  have hk2 := knownTo_mono h2
  have hm1 := knownTo_le a
  have hlow : ∀ (f : BitVec 64 → BitVec 64 → BitVec 64), (∀ m, m ≤ 64 → ∀ x y x' y', Same m x x' → Same m y y' → Same m (f x y) (f x' y')) → loneB op = false → (lowF (f a.on b.on) (min (knownTo a) (knownTo b))).Le (lowF (f a'.on b'.on) (min (knownTo a') (knownTo b'))) := fun f hf hl =>
    lowF_le (by omega) (hf _ (by omega) _ _ _ _ (fun i hi => known_same h1 ha i (by omega)) (fun i hi => known_same h2 (hb hl) i (by omega)))
  by_cases q6 : op = 2
  · rw [if_pos q6, if_pos q6]; exact hlow (· + ·) (fun m hm _ _ _ _ u v => u.add hm v) (by rw [q6]; decide)
  rw [if_neg q6, if_neg q6]
  by_cases q7 : op = 3
  · rw [if_pos q7, if_pos q7]; exact hlow (· - ·) (fun m hm _ _ _ _ u v => u.sub hm v) (by rw [q7]; decide)
  rw [if_neg q7, if_neg q7]
  by_cases q8 : op = 4
  · rw [if_pos q8, if_pos q8]; exact hlow (· * ·) (fun m hm _ _ _ _ u v => u.mul hm v) (by rw [q8]; decide)
  rw [if_neg q8, if_neg q8]
  by_cases q9 : op = 16
  · rw [if_pos q9, if_pos q9]; exact lowF_le hk1 ((known_same h1 ha).neg hm1)
  rw [if_neg q9, if_neg q9]
  by_cases q10 : op = 10
  · rw [if_pos q10, if_pos q10]
    by_cases hs : sureB b = true
    · have e := sure_up h2 (hb (by rw [q10]; decide)) hs
      rw [e, if_pos hs, if_pos hs]
      exact shl_le h1 _
    · rw [if_neg hs]; exact Kn.none_le _
  rw [if_neg q10, if_neg q10]
  by_cases q11 : op = 11
  · rw [if_pos q11, if_pos q11]
    by_cases hs : sureB b = true
    · have e := sure_up h2 (hb (by rw [q11]; decide)) hs
      rw [e, if_pos hs, if_pos hs]
      exact shr_le h1 _
    · rw [if_neg hs]; exact Kn.none_le _
  rw [if_neg q11, if_neg q11]
  by_cases q12 : 12 ≤ op ∧ op ≤ 15
  · rw [if_pos q12]; exact Kn.Le.refl _
  rw [if_neg q12]
  exact Kn.Le.refl _
theorem makes_mono {op : Int} {a b a' b' : Kn} (h1 : a.Le a') (h2 : b.Le b') : (makesF op a b).Le (makesF op a' b') := by
  unfold makesF
  by_cases q : 17 < op
  · rw [if_pos q, if_pos q]; exact Kn.Le.refl _
  rw [if_neg q, if_neg q]
  by_cases c : (a'.both || (!loneB op && b'.both)) = true
  · rw [if_pos c]; exact Kn.le_top _
  · rw [if_neg c]
    have c1 : a'.both = false ∧ (loneB op = false → b'.both = false) := by
      simp only [Bool.or_eq_true, Bool.and_eq_true, not_or, not_and, Bool.not_eq_true] at c
      exact ⟨c.1, fun h => c.2 (by rw [h]; rfl)⟩
    have c2 : ¬ (a.both || (!loneB op && b.both)) = true := by
      simp only [Bool.or_eq_true, Bool.and_eq_true, not_or, not_and, Bool.not_eq_true]
      refine ⟨Kn.both_le h1 c1.1, fun h => Kn.both_le h2 (c1.2 ?_)⟩
      cases hl : loneB op with
      | false => rfl
      | true => rw [hl] at h; cases h
    rw [if_neg c2]
    exact makeIn_le (Kn.both_apart.1 c1.1) (fun h => Kn.both_apart.1 (c1.2 h)) h1 h2
theorem makeIn_fit {op : Int} {a b : Kn} (c : ¬ (a.both || (!loneB op && b.both)) = true) : (makeIn op a b).Apart := by
  simp only [Bool.or_eq_true, Bool.and_eq_true, not_or, not_and, Bool.not_eq_true] at c
  have ha := Kn.both_apart.1 c.1
  have hb : loneB op = false → b.Apart := fun h => Kn.both_apart.1 (c.2 (by rw [h]; rfl))
  unfold makeIn
  by_cases q1 : op = 1
  · rw [if_pos q1]; exact ha
  rw [if_neg q1]
  by_cases q2 : op = 17
  · rw [if_pos q2]; exact fun i hi x y => ha i hi y x
  rw [if_neg q2]
  by_cases q3 : op = 7
  · rw [if_pos q3]
    have hb := hb (by rw [q3]; decide)
    intro i hi x y
    simp only [BitVec.getLsbD_or, BitVec.getLsbD_and, Bool.or_eq_true, Bool.and_eq_true] at x y
    rcases x with x | x
    · exact ha i hi x y.1
    · exact hb i hi x y.2
  rw [if_neg q3]
  by_cases q4 : op = 8
  · rw [if_pos q4]
    have hb := hb (by rw [q4]; decide)
    intro i hi x y
    simp only [BitVec.getLsbD_or, BitVec.getLsbD_and, Bool.or_eq_true, Bool.and_eq_true] at x y
    rcases y with y | y
    · exact ha i hi x.1 y
    · exact hb i hi x.2 y
  rw [if_neg q4]
  by_cases q5 : op = 9
  · rw [if_pos q5]
    have hb := hb (by rw [q5]; decide)
    intro i hi x y
    simp only [BitVec.getLsbD_or, BitVec.getLsbD_and, Bool.or_eq_true, Bool.and_eq_true] at x y
    rcases x with x | x <;> rcases y with y | y
    · exact hb i hi x.2 y.2
    · exact ha i hi x.1 y.1
    · exact ha i hi y.1 x.1
    · exact hb i hi y.2 x.2
  rw [if_neg q5]
  by_cases q6 : op = 2
  · rw [if_pos q6]; exact lowF_apart _ _
  rw [if_neg q6]
  by_cases q7 : op = 3
  · rw [if_pos q7]; exact lowF_apart _ _
  rw [if_neg q7]
  by_cases q8 : op = 4
  · rw [if_pos q8]; exact lowF_apart _ _
  rw [if_neg q8]
  by_cases q9 : op = 16
  · rw [if_pos q9]; exact lowF_apart _ _
  rw [if_neg q9]
  by_cases q10 : op = 10
  · rw [if_pos q10]
    by_cases hs : sureB b = true
    · rw [if_pos hs]; exact shl_apart ha _
    · rw [if_neg hs]; exact Kn.none_apart
  rw [if_neg q10]
  by_cases q11 : op = 11
  · rw [if_pos q11]
    by_cases hs : sureB b = true
    · rw [if_pos hs]; exact shr_apart ha _
    · rw [if_neg hs]; exact Kn.none_apart
  rw [if_neg q11]
  by_cases q12 : 12 ≤ op ∧ op ≤ 15
  · rw [if_pos q12]
    intro i hi _ y
    rw [BitVec.getLsbD_zero] at y
    cases y
  rw [if_neg q12]
  exact Kn.none_apart
theorem makes_fit {op : Int} {a b : Kn} : (makesF op a b).Fit := by
  unfold makesF
  by_cases q : 17 < op
  · rw [if_pos q]; exact .inr Kn.none_apart
  rw [if_neg q]
  by_cases c : (a.both || (!loneB op && b.both)) = true
  · rw [if_pos c]; exact .inl rfl
  · rw [if_neg c]; exact .inr (makeIn_fit c)

end Go.Proofs.YtaehkcnankijfaaDoor

namespace Go.Proofs.YtaehkcnankijfaaDoor

/- Rounds over a list of updates: each meets one place with what it makes of the table. -/
abbrev Tb := List Kn
structure Upd where
  d : Nat
  g : Tb → Kn
def tbAt (s : Tb) (d : Nat) : Kn := s.getD d Kn.top
def putF (s : Tb) (d : Nat) (k : Kn) : Tb := s.set d (k.meet (tbAt s d))
def LeT (s t : Tb) : Prop := s.length = t.length ∧ ∀ d, (tbAt s d).Le (tbAt t d)
def FitT (s : Tb) : Prop := ∀ d, (tbAt s d).Fit
theorem LeT.refl (s : Tb) : LeT s s := ⟨rfl, fun _ => Kn.Le.refl _⟩
theorem LeT.trans {s t u : Tb} (h : LeT s t) (k : LeT t u) : LeT s u := ⟨h.1.trans k.1, fun d => (h.2 d).trans (k.2 d)⟩
theorem tb_ext {s t : Tb} (hl : s.length = t.length) (h : ∀ d, tbAt s d = tbAt t d) : s = t := by
  refine List.ext_getElem hl fun d h1 h2 => ?_
  have := h d
  unfold tbAt at this
  rw [List.getD_eq_getElem?_getD, List.getD_eq_getElem?_getD, List.getElem?_eq_getElem h1, List.getElem?_eq_getElem h2] at this
  exact this
theorem LeT.antisymm {s t : Tb} (h : LeT s t) (k : LeT t s) : s = t := tb_ext h.1 fun d => (h.2 d).antisymm (k.2 d)
theorem tbAt_set {s : Tb} {d e : Nat} {k : Kn} (hd : d < s.length) : tbAt (s.set d k) e = if e = d then k else tbAt s e := by
  unfold tbAt
  rw [List.getD_eq_getElem?_getD, List.getD_eq_getElem?_getD, List.getElem?_set]
  by_cases h : d = e
  · subst h; simp [hd]
  · rw [if_neg h, if_neg (Ne.symm h)]
theorem putF_len (s : Tb) (d : Nat) (k : Kn) : (putF s d k).length = s.length := by unfold putF; simp
theorem tbAt_put {s : Tb} {d : Nat} {k : Kn} (hd : d < s.length) (e : Nat) : tbAt (putF s d k) e = if e = d then k.meet (tbAt s d) else tbAt s e := tbAt_set hd
theorem put_le {s : Tb} {d : Nat} {k : Kn} (hd : d < s.length) : LeT (putF s d k) s := by
  refine ⟨putF_len _ _ _, fun e => ?_⟩
  rw [tbAt_put hd]
  by_cases h : e = d
  · rw [if_pos h, h]; exact Kn.meet_le_right _ _
  · rw [if_neg h]; exact Kn.Le.refl _
theorem put_fit {s : Tb} {d : Nat} {k : Kn} (hd : d < s.length) (hs : FitT s) (hk : k.Fit) : FitT (putF s d k) := fun e => by
  rw [tbAt_put hd]
  by_cases h : e = d
  · rw [if_pos h]; exact hk.meet (hs d)
  · rw [if_neg h]; exact hs e
theorem put_ge {F s : Tb} {d : Nat} {k : Kn} (hd : d < s.length) (h : LeT F s) (hk : (tbAt F d).Le k) : LeT F (putF s d k) := by
  refine ⟨by rw [putF_len]; exact h.1, fun e => ?_⟩
  rw [tbAt_put hd]
  by_cases he : e = d
  · rw [if_pos he, he]; exact Kn.le_meet hk (h.2 d)
  · rw [if_neg he]; exact h.2 e
/-- How many bits there are. -/
def bitsIn (x : BitVec 64) : Nat := (List.range 64).countP fun i => x.getLsbD i
def wtK (a : Kn) : Nat := bitsIn a.off + bitsIn a.on
def wtT (s : Tb) : Nat := (s.map wtK).sum
theorem countP_mono' {l : List Nat} {p q : Nat → Bool} (h : ∀ i ∈ l, p i = true → q i = true) : l.countP p ≤ l.countP q := by
  induction l with
  | nil => exact Nat.le_refl _
  | cons a l ih =>
    have h1 := ih (fun i hi => h i (List.mem_cons_of_mem _ hi))
    have h2 := h a (List.mem_cons_self ..)
    rw [List.countP_cons, List.countP_cons]
    cases hp : p a with
    | false => simp; split <;> omega
    | true => rw [h2 hp]; simp; exact h1
theorem countP_lt' {l : List Nat} {p q : Nat → Bool} (h : ∀ i ∈ l, p i = true → q i = true) {j : Nat} (hj : j ∈ l) (h1 : p j = false) (h2 : q j = true) : l.countP p < l.countP q := by
  induction l with
  | nil => cases hj
  | cons a l ih =>
    have h3 := countP_mono' (fun i hi => h i (List.mem_cons_of_mem _ hi))
    have h4 := h a (List.mem_cons_self ..)
    rw [List.countP_cons, List.countP_cons]
    rcases List.mem_cons.1 hj with rfl | hj
    · rw [h1, h2]; simp; omega
    · have h5 := ih (fun i hi => h i (List.mem_cons_of_mem _ hi)) hj
      cases hp : p a with
      | false => simp; split <;> omega
      | true => rw [h4 hp]; simp; exact h5
theorem wtK_le {a b : Kn} (h : a.Le b) : wtK a ≤ wtK b :=
  Nat.add_le_add (countP_mono' fun i hi => (h i (List.mem_range.1 hi)).1) (countP_mono' fun i hi => (h i (List.mem_range.1 hi)).2)
theorem wtK_lt {a b : Kn} (h : a.Le b) (hne : a ≠ b) : wtK a < wtK b := by
  have h1 : bitsIn a.off ≤ bitsIn b.off := countP_mono' fun i hi => (h i (List.mem_range.1 hi)).1
  have h2 : bitsIn a.on ≤ bitsIn b.on := countP_mono' fun i hi => (h i (List.mem_range.1 hi)).2
  rcases Nat.lt_or_ge (wtK a) (wtK b) with hlt | hge
  · exact hlt
  · exfalso
    unfold wtK at hge
    refine hne (h.antisymm fun i hi => ⟨fun x => ?_, fun x => ?_⟩)
    · cases y : a.off.getLsbD i with
      | true => rfl
      | false =>
        have : bitsIn a.off < bitsIn b.off := countP_lt' (fun i hi => (h i (List.mem_range.1 hi)).1) (List.mem_range.2 hi) y x
        omega
    · cases y : a.on.getLsbD i with
      | true => rfl
      | false =>
        have : bitsIn a.on < bitsIn b.on := countP_lt' (fun i hi => (h i (List.mem_range.1 hi)).2) (List.mem_range.2 hi) y x
        omega
theorem wtT_set : ∀ (s : Tb) (d : Nat) (k : Kn) (hd : d < s.length), wtT (s.set d k) + wtK s[d] = wtT s + wtK k
  | [], d, k, hd => by simp at hd
  | a :: s, 0, k, _ => by unfold wtT; simp; omega
  | a :: s, d + 1, k, hd => by
    have h := wtT_set s d k (by simpa using hd)
    unfold wtT at h ⊢
    simp only [List.set_cons_succ, List.map_cons, List.sum_cons, List.getElem_cons_succ]
    omega
theorem tbAt_lt {s : Tb} {d : Nat} (hd : d < s.length) : tbAt s d = s[d] := by
  unfold tbAt; rw [List.getD_eq_getElem?_getD, List.getElem?_eq_getElem hd]; rfl
theorem put_wt {s : Tb} {d : Nat} {k : Kn} (hd : d < s.length) : wtT (putF s d k) ≤ wtT s ∧ (k.meet (tbAt s d) ≠ tbAt s d → wtT (putF s d k) < wtT s) := by
  have h := wtT_set s d (k.meet (tbAt s d)) hd
  rw [← tbAt_lt hd] at h
  have h1 := wtK_le (Kn.meet_le_right k (tbAt s d))
  refine ⟨by unfold putF; omega, fun hne => ?_⟩
  have h2 := wtK_lt (Kn.meet_le_right k (tbAt s d)) hne
  unfold putF; omega
theorem put_changed {s : Tb} {d : Nat} {k : Kn} (hd : d < s.length) : k.meet (tbAt s d) ≠ tbAt s d ↔ putF s d k ≠ s := by
  constructor
  · intro h e
    have h1 := tbAt_put (k := k) hd d
    rw [e, if_pos rfl] at h1
    exact h h1.symm
  · intro h e
    refine h (tb_ext (putF_len _ _ _) fun x => ?_)
    rw [tbAt_put hd]
    by_cases hx : x = d
    · rw [if_pos hx, hx, e]
    · rw [if_neg hx]

/-- One update; and whether something changed. -/
def updS (s : Tb × Bool) (u : Upd) : Tb × Bool := if (u.g s.1).meet (tbAt s.1 u.d) ≠ tbAt s.1 u.d then (putF s.1 u.d (u.g s.1), true) else s
def passU (l : List Upd) (s : Tb × Bool) : Tb × Bool := l.foldl updS s
def iterU (l : List Upd) : Nat → Tb → Tb
  | 0, s => s
  | f + 1, s => if (passU l (s, false)).2 = true then iterU l f (passU l (s, false)).1 else (passU l (s, false)).1
/-- What is to hold of the updates: they name places; they are monotone; what they make is fit. -/
structure UpdOk (n : Nat) (l : List Upd) : Prop where
  d : ∀ u ∈ l, u.d < n
  mono : ∀ u ∈ l, ∀ s t, LeT s t → (u.g s).Le (u.g t)
  fit : ∀ u ∈ l, ∀ s, FitT s → (u.g s).Fit
/-- Nothing would change. -/
def Still (l : List Upd) (s : Tb) : Prop := ∀ u ∈ l, (tbAt s u.d).Le (u.g s)

structure PassSt (l : List Upd) (s0 : Tb) (s : Tb × Bool) : Prop where
  le : LeT s.1 s0
  fit : FitT s.1
  wt : wtT s.1 ≤ wtT s0
  lt : s.2 = true → wtT s.1 < wtT s0
  same : s.2 = false → s.1 = s0
theorem PassSt.zero {l : List Upd} {s0 : Tb} (h : FitT s0) : PassSt l s0 (s0, false) := ⟨LeT.refl _, h, Nat.le_refl _, fun h => (by cases h), fun _ => rfl⟩
theorem upd_ok {n : Nat} {l : List Upd} (hu : UpdOk n l) {s0 : Tb} (hn : s0.length = n) {s : Tb × Bool} (h : PassSt l s0 s) {u : Upd} (hm : u ∈ l) : PassSt l s0 (updS s u) ∧ ((updS s u).2 = false → s.2 = false ∧ (tbAt s0 u.d).Le (u.g s0)) ∧ ∀ F, LeT F s.1 → Still l F → LeT F (updS s u).1 := by
  have hd : u.d < s.1.length := by rw [h.le.1, hn]; exact hu.d u hm
  unfold updS
  by_cases hc : (u.g s.1).meet (tbAt s.1 u.d) ≠ tbAt s.1 u.d
  · rw [if_pos hc]
    have hw := (put_wt (k := u.g s.1) hd).2 hc
    refine ⟨⟨(put_le hd).trans h.le, put_fit hd h.fit (hu.fit u hm _ h.fit), Nat.le_trans (Nat.le_of_lt hw) h.wt, fun _ => Nat.lt_of_lt_of_le hw h.wt, fun h => (by cases h)⟩, fun h => (by cases h), fun F hF hS => ?_⟩
    exact put_ge hd hF ((hS u hm).trans (hu.mono u hm F s.1 hF))
  · rw [if_neg hc]
    refine ⟨h, fun hs => ⟨hs, ?_⟩, fun F hF _ => hF⟩
    have e := h.same hs
    rw [e] at hc
    have hc' := Classical.not_not.1 hc
    rw [← hc']
    exact Kn.meet_le_left _ _
theorem pass_ok' {n : Nat} {l : List Upd} (hu : UpdOk n l) {s0 : Tb} (hn : s0.length = n) : ∀ (r : List Upd) (s : Tb × Bool), (∀ u ∈ r, u ∈ l) → PassSt l s0 s → PassSt l s0 (passU r s) ∧ ((passU r s).2 = false → s.2 = false ∧ ∀ u ∈ r, (tbAt s0 u.d).Le (u.g s0)) ∧ ∀ F, LeT F s.1 → Still l F → LeT F (passU r s).1 := by
  intro r
  induction r with
  | nil => exact fun s _ h => ⟨h, fun hs => ⟨hs, fun u hu => by cases hu⟩, fun F hF _ => hF⟩
  | cons u r ih =>
    intro s hr h
    obtain ⟨h1, h2, h3⟩ := upd_ok hu hn h (hr u (List.mem_cons_self ..))
    obtain ⟨k1, k2, k3⟩ := ih (updS s u) (fun v hv => hr v (List.mem_cons_of_mem _ hv)) h1
    refine ⟨k1, fun hs => ?_, fun F hF hS => k3 F (h3 F hF hS) hS⟩
    obtain ⟨a, b⟩ := k2 hs
    obtain ⟨c, d⟩ := h2 a
    refine ⟨c, fun v hv => ?_⟩
    rcases List.mem_cons.1 hv with rfl | hv
    · exact d
    · exact b v hv
/-- Where the rounds end: nothing would change; and it is the greatest such table below the first one. -/
theorem iter_ok {n : Nat} {l : List Upd} (hu : UpdOk n l) : ∀ (f : Nat) (s : Tb), s.length = n → FitT s → wtT s < f → LeT (iterU l f s) s ∧ FitT (iterU l f s) ∧ Still l (iterU l f s) ∧ ∀ F, LeT F s → Still l F → LeT F (iterU l f s) := by
  intro f
  induction f with
  | zero => intro s _ _ h; omega
  | succ f ih =>
    intro s hn hf hw
    obtain ⟨h1, h2, h3⟩ := pass_ok' hu hn l (s, false) (fun u h => h) (PassSt.zero hf)
    rw [iterU]
    by_cases hc : (passU l (s, false)).2 = true
    · rw [if_pos hc]
      have := h1.lt hc
      obtain ⟨k1, k2, k3, k4⟩ := ih _ (h1.le.1.trans hn) h1.fit (by omega)
      exact ⟨k1.trans h1.le, k2, k3, fun F hF hS => k4 F (h3 F hF hS) hS⟩
    · rw [if_neg hc]
      have hc' : (passU l (s, false)).2 = false := by simpa using hc
      have e := h1.same hc'
      refine ⟨h1.le, h1.fit, ?_, fun F hF hS => h3 F hF hS⟩
      rw [e]
      exact (h2 hc').2
theorem iter_same {n : Nat} {l r : List Upd} (hl : UpdOk n l) (hr : UpdOk n r) (he : ∀ s, Still l s ↔ Still r s) {s : Tb} (hn : s.length = n) (hf : FitT s) {f g : Nat} (h1 : wtT s < f) (h2 : wtT s < g) : iterU l f s = iterU r g s := by
  obtain ⟨a1, -, a3, a4⟩ := iter_ok hl f s hn hf h1
  obtain ⟨b1, -, b3, b4⟩ := iter_ok hr g s hn hf h2
  exact (b4 _ a1 ((he _).1 a3)).antisymm (a4 _ b1 ((he _).2 b3))

/- The updates of a function. -/
def bvOf (n : Int) : BitVec 64 := BitVec.ofInt 64 n
def valK (s : Tb) (v : DVal) : Kn := if v.reg = true then tbAt s v.n.toNat else Kn.num (bvOf v.n)
theorem valK_mono {s t : Tb} (h : LeT s t) (v : DVal) : (valK s v).Le (valK t v) := by
  unfold valK
  by_cases hr : v.reg = true
  · rw [if_pos hr, if_pos hr]; exact h.2 _
  · rw [if_neg hr, if_neg hr]; exact Kn.Le.refl _
theorem valK_fit {s : Tb} (h : FitT s) (v : DVal) : (valK s v).Fit := by
  unfold valK
  by_cases hr : v.reg = true
  · rw [if_pos hr]; exact h _
  · rw [if_neg hr]; exact .inr (Kn.num_apart _)
/-- A merge at once: of all that come. -/
def meetL (s : Tb) (l : List DVal) : Kn := l.foldl (fun k v => k.meet (valK s v)) Kn.top
def phiU (p : DPhi) : Upd := ⟨p.dst.toNat, fun s => meetL s p.src⟩
def fromU (p : DPhi) (v : DVal) : Upd := ⟨p.dst.toNat, fun s => valK s v⟩
def insU' (x : DIns) : Upd := ⟨x.dst.toNat, fun s => makesF x.op (valK s x.a) (valK s x.b)⟩
def wrote (x : DIns) : Bool := decide (0 ≤ x.dst)
def insUs (l : List DIns) : List Upd := (l.filter wrote).map insU'
/-- As the program goes: a merge at once. -/
def blockU (x : DBlock) : List Upd := x.phis.map phiU ++ insUs x.list
def progU (bs : List DBlock) : List Upd := bs.flatMap blockU
/-- As the document goes: a merge value by value. -/
def phiR (p : DPhi) : List Upd := p.src.map (fromU p)
def blockR (x : DBlock) : List Upd := x.phis.flatMap phiR ++ insUs x.list
def refU (bs : List DBlock) : List Upd := bs.flatMap blockR

theorem foldl_meet_le (s : Tb) : ∀ (l : List DVal) (k c : Kn), c.Le (l.foldl (fun k v => k.meet (valK s v)) k) ↔ c.Le k ∧ ∀ v ∈ l, c.Le (valK s v) := by
  intro l
  induction l with
  | nil => exact fun k c => ⟨fun h => ⟨h, fun v hv => by cases hv⟩, fun h => h.1⟩
  | cons v l ih =>
    intro k c
    rw [List.foldl_cons, ih]
    constructor
    · rintro ⟨h1, h2⟩
      refine ⟨h1.trans (Kn.meet_le_left _ _), fun u hu => ?_⟩
      rcases List.mem_cons.1 hu with rfl | hu
      · exact h1.trans (Kn.meet_le_right _ _)
      · exact h2 u hu
    · rintro ⟨h1, h2⟩
      exact ⟨Kn.le_meet h1 (h2 v (List.mem_cons_self ..)), fun u hu => h2 u (List.mem_cons_of_mem _ hu)⟩
theorem meetL_le {s : Tb} {l : List DVal} {c : Kn} : c.Le (meetL s l) ↔ ∀ v ∈ l, c.Le (valK s v) := by
  unfold meetL
  rw [foldl_meet_le]
  exact ⟨fun h => h.2, fun h => ⟨Kn.le_top _, h⟩⟩
theorem foldl_meet_fit {s : Tb} (hs : FitT s) : ∀ (l : List DVal) (k : Kn), k.Fit → (l.foldl (fun k v => k.meet (valK s v)) k).Fit := by
  intro l
  induction l with
  | nil => exact fun k h => h
  | cons v l ih => exact fun k h => ih _ (h.meet (valK_fit hs v))
theorem mem_insUs {l : List DIns} {u : Upd} : u ∈ insUs l ↔ ∃ x ∈ l, 0 ≤ x.dst ∧ u = insU' x := by
  unfold insUs
  rw [List.mem_map]
  constructor
  · rintro ⟨x, hx, rfl⟩
    obtain ⟨h1, h2⟩ := List.mem_filter.1 hx
    exact ⟨x, h1, by simpa [wrote] using h2, rfl⟩
  · rintro ⟨x, hx, h0, rfl⟩
    exact ⟨x, List.mem_filter.2 ⟨hx, by simpa [wrote] using h0⟩, rfl⟩
theorem insU'_mono (x : DIns) {s t : Tb} (h : LeT s t) : ((insU' x).g s).Le ((insU' x).g t) := makes_mono (valK_mono h _) (valK_mono h _)
/-- Nothing would change: what that says, block by block. -/
def StillF (bs : List DBlock) (s : Tb) : Prop := ∀ b ∈ bs, (∀ p ∈ b.phis, ∀ v ∈ p.src, (tbAt s p.dst.toNat).Le (valK s v)) ∧ ∀ x ∈ b.list, 0 ≤ x.dst → (tbAt s x.dst.toNat).Le (makesF x.op (valK s x.a) (valK s x.b))
theorem prog_still {bs : List DBlock} {s : Tb} : Still (progU bs) s ↔ StillF bs s := by
  unfold Still progU StillF
  constructor
  · intro h b hb
    refine ⟨fun p hp v hv => ?_, fun x hx h0 => ?_⟩
    · have := h (phiU p) (List.mem_flatMap.2 ⟨b, hb, List.mem_append.2 (.inl (List.mem_map.2 ⟨p, hp, rfl⟩))⟩)
      exact meetL_le.1 this v hv
    · exact h (insU' x) (List.mem_flatMap.2 ⟨b, hb, List.mem_append.2 (.inr (mem_insUs.2 ⟨x, hx, h0, rfl⟩))⟩)
  · intro h u hu
    obtain ⟨b, hb, hu⟩ := List.mem_flatMap.1 hu
    rcases List.mem_append.1 hu with hu | hu
    · obtain ⟨p, hp, rfl⟩ := List.mem_map.1 hu
      exact meetL_le.2 fun v hv => (h b hb).1 p hp v hv
    · obtain ⟨x, hx, h0, rfl⟩ := mem_insUs.1 hu
      exact (h b hb).2 x hx h0
theorem ref_still {bs : List DBlock} {s : Tb} : Still (refU bs) s ↔ StillF bs s := by
  unfold Still refU StillF
  constructor
  · intro h b hb
    refine ⟨fun p hp v hv => ?_, fun x hx h0 => ?_⟩
    · exact h (fromU p v) (List.mem_flatMap.2 ⟨b, hb, List.mem_append.2 (.inl (List.mem_flatMap.2 ⟨p, hp, List.mem_map.2 ⟨v, hv, rfl⟩⟩))⟩)
    · exact h (insU' x) (List.mem_flatMap.2 ⟨b, hb, List.mem_append.2 (.inr (mem_insUs.2 ⟨x, hx, h0, rfl⟩))⟩)
  · intro h u hu
    obtain ⟨b, hb, hu⟩ := List.mem_flatMap.1 hu
    rcases List.mem_append.1 hu with hu | hu
    · obtain ⟨p, hp, hu⟩ := List.mem_flatMap.1 hu
      obtain ⟨v, hv, rfl⟩ := List.mem_map.1 hu
      exact (h b hb).1 p hp v hv
    · obtain ⟨x, hx, h0, rfl⟩ := mem_insUs.1 hu
      exact (h b hb).2 x hx h0
theorem upd_ok_prog {f : DFunc} (h : FnOk f) : UpdOk f.regs.toNat (progU f.blocks) := by
  have hm : ∀ u ∈ progU f.blocks, (∃ p : DPhi, p.dst < f.regs ∧ 0 ≤ p.dst ∧ u = phiU p) ∨ ∃ x : DIns, x.dst < f.regs ∧ 0 ≤ x.dst ∧ u = insU' x := fun u hu => by
    obtain ⟨b, hb, hu⟩ := List.mem_flatMap.1 hu
    obtain ⟨k, hk⟩ := List.getElem?_of_mem hb
    rcases List.mem_append.1 hu with hu | hu
    · obtain ⟨p, hp, rfl⟩ := List.mem_map.1 hu
      have := (h.phi k b hk p hp).1
      exact .inl ⟨p, this.2, this.1, rfl⟩
    · obtain ⟨x, hx, h0, rfl⟩ := mem_insUs.1 hu
      exact .inr ⟨x, (h.ins k b hk x hx).dst.2, h0, rfl⟩
  refine ⟨fun u hu => ?_, fun u hu s t hst => ?_, fun u hu s hs => ?_⟩
  · rcases hm u hu with ⟨p, h1, h2, rfl⟩ | ⟨p, h1, h2, rfl⟩ <;> (show _ < _; unfold phiU insU' at *; dsimp only; omega)
  · rcases hm u hu with ⟨p, -, -, rfl⟩ | ⟨x, -, -, rfl⟩
    · exact meetL_le.2 fun v hv => ((meetL_le (c := meetL s p.src)).1 (Kn.Le.refl _) v hv).trans (valK_mono hst v)
    · exact insU'_mono x hst
  · rcases hm u hu with ⟨p, -, -, rfl⟩ | ⟨x, -, -, rfl⟩
    · exact foldl_meet_fit hs _ _ (.inl rfl)
    · exact makes_fit
theorem upd_ok_ref {f : DFunc} (h : FnOk f) : UpdOk f.regs.toNat (refU f.blocks) := by
  have hm : ∀ u ∈ refU f.blocks, (∃ (p : DPhi) (v : DVal), p.dst < f.regs ∧ 0 ≤ p.dst ∧ u = fromU p v) ∨ ∃ x : DIns, x.dst < f.regs ∧ 0 ≤ x.dst ∧ u = insU' x := fun u hu => by
    obtain ⟨b, hb, hu⟩ := List.mem_flatMap.1 hu
    obtain ⟨k, hk⟩ := List.getElem?_of_mem hb
    rcases List.mem_append.1 hu with hu | hu
    · obtain ⟨p, hp, hu⟩ := List.mem_flatMap.1 hu
      obtain ⟨v, -, rfl⟩ := List.mem_map.1 hu
      have := (h.phi k b hk p hp).1
      exact .inl ⟨p, v, this.2, this.1, rfl⟩
    · obtain ⟨x, hx, h0, rfl⟩ := mem_insUs.1 hu
      exact .inr ⟨x, (h.ins k b hk x hx).dst.2, h0, rfl⟩
  refine ⟨fun u hu => ?_, fun u hu s t hst => ?_, fun u hu s hs => ?_⟩
  · rcases hm u hu with ⟨p, v, h1, h2, rfl⟩ | ⟨p, h1, h2, rfl⟩ <;> (show _ < _; unfold fromU insU' at *; dsimp only; omega)
  · rcases hm u hu with ⟨p, v, -, -, rfl⟩ | ⟨x, -, -, rfl⟩
    · exact valK_mono hst v
    · exact insU'_mono x hst
  · rcases hm u hu with ⟨p, v, -, -, rfl⟩ | ⟨x, -, -, rfl⟩
    · exact valK_fit hs v
    · exact makes_fit
/-- The table to begin with. -/
def tb0 (f : DFunc) : Tb := (List.range f.regs.toNat).map fun r : Nat => if (r : Int) < f.params then Kn.none else Kn.top
theorem tb0_len (f : DFunc) : (tb0 f).length = f.regs.toNat := by unfold tb0; simp
theorem tb0_at {f : DFunc} {r : Nat} (hr : r < f.regs.toNat) : tbAt (tb0 f) r = if (r : Int) < f.params then Kn.none else Kn.top := by
  unfold tbAt tb0
  rw [List.getD_eq_getElem?_getD, List.getElem?_map, List.getElem?_range hr]; rfl
theorem tb0_fit (f : DFunc) : FitT (tb0 f) := fun r => by
  by_cases hr : r < f.regs.toNat
  · rw [tb0_at hr]
    split
    · exact .inr Kn.none_apart
    · exact .inl rfl
  · unfold tbAt
    rw [List.getD_eq_getElem?_getD, List.getElem?_eq_none (by rw [tb0_len]; omega)]
    exact .inl rfl
/-- The table of a function. -/
def tableF (f : DFunc) : Tb := iterU (progU f.blocks) (wtT (tb0 f) + 1) (tb0 f)
def tableR (f : DFunc) : Tb := iterU (refU f.blocks) (wtT (tb0 f) + 1) (tb0 f)
theorem tables_same {f : DFunc} (h : FnOk f) : tableF f = tableR f :=
  iter_same (upd_ok_prog h) (upd_ok_ref h) (fun _ => prog_still.trans ref_still.symm) (tb0_len f) (tb0_fit f) (Nat.lt_succ_self _) (Nat.lt_succ_self _)
theorem table_ok {f : DFunc} (h : FnOk f) : LeT (tableF f) (tb0 f) ∧ FitT (tableF f) ∧ StillF f.blocks (tableF f) := by
  obtain ⟨h1, h2, h3, -⟩ := iter_ok (upd_ok_prog h) (wtT (tb0 f) + 1) (tb0 f) (tb0_len f) (tb0_fit f) (Nat.lt_succ_self _)
  exact ⟨h1, h2, prog_still.1 h3⟩

end Go.Proofs.YtaehkcnankijfaaDoor
