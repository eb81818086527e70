/- The tree of the blocks that rule others, plainly: what its rounds keep, and that they end. No program in sight. dom.meet: where two ways up meet. -/
import Derived.Test.YtnkogppgacappaaDoorPChk2
import Derived.Test.YtnkogppgacappaaDoorPSameU
import Derived.Test.YtnkogppgacappaaDoorPRound
namespace Go.Proofs.YtnkogppgacappaaDoor
open Go.RowKit

/-- v lies on the way up from x. -/
inductive Anc (up : Nat → Int) : Nat → Nat → Prop
  | refl (x : Nat) : Anc up x x
  | step {x v : Nat} : x ≠ 0 → Anc up (up x).toNat v → Anc up x v

/-- Each block that has one above it: that one stands ahead of it in the order. -/
structure DTree (n : Nat) (ps : Nat → Nat) (up : Nat → Int) : Prop where
  zero : up 0 = 0
  root : ps 0 = 0
  lt : ∀ x, 0 ≤ up x → x < n
  next : ∀ x, 0 ≤ up x → 0 ≤ up (up x).toNat
  less : ∀ x, 0 ≤ up x → x ≠ 0 → ps (up x).toNat < ps x
  inj : ∀ x y, 0 ≤ up x → 0 ≤ up y → ps x = ps y → x = y

section
variable {n : Nat} {ps : Nat → Nat} {up : Nat → Int} {x y v w : Nat}
theorem Anc.pr (ht : DTree n ps up) (h : Anc up x v) : 0 ≤ up x → 0 ≤ up v ∧ ps v ≤ ps x ∧ (v ≠ x → ps v < ps x) := by
  induction h with
  | refl x => exact fun hx => ⟨hx, Nat.le_refl _, fun h => absurd rfl h⟩
  | step h0 h ih =>
    intro hx
    obtain ⟨a, b, c⟩ := ih (ht.next _ hx)
    have := ht.less _ hx h0
    exact ⟨a, by omega, fun _ => by omega⟩
theorem Anc.trans (h : Anc up x y) : Anc up y v → Anc up x v := by
  induction h with
  | refl x => exact fun h => h
  | step h0 h ih => exact fun k => .step h0 (ih k)
/-- Above x, not x itself. -/
theorem Anc.above (h : Anc up x v) (hne : v ≠ x) : x ≠ 0 ∧ Anc up (up x).toNat v := by
  cases h with
  | refl => exact absurd rfl hne
  | step h0 h => exact ⟨h0, h⟩
end

/-- Where two ways up meet. -/
def meetF (ps : Nat → Nat) (up : Nat → Int) : Nat → Nat → Nat → Nat
  | 0, a, _ => a
  | f + 1, a, b => if a = b then a else if ps a < ps b then meetF ps up f (up b).toNat a else meetF ps up f (up a).toNat b
theorem meetF_spec {n : Nat} {ps : Nat → Nat} {up : Nat → Int} (ht : DTree n ps up) : ∀ f a b, 0 ≤ up a → 0 ≤ up b → ps a + ps b < f →
    Anc up a (meetF ps up f a b) ∧ Anc up b (meetF ps up f a b) ∧ ∀ v, Anc up a v → Anc up b v → Anc up (meetF ps up f a b) v := by
  intro f
  induction f with
  | zero => intro a b _ _ h; omega
  | succ f ih =>
    intro a b ha hb hf
    rw [meetF]
    by_cases hab : a = b
    · subst hab
      rw [if_pos rfl]
      exact ⟨.refl _, .refl _, fun v h _ => h⟩
    · rw [if_neg hab]
      by_cases hlt : ps a < ps b
      · rw [if_pos hlt]
        have hb0 : b ≠ 0 := fun e => by rw [e, ht.root] at hlt; omega
        have hl := ht.less b hb hb0
        obtain ⟨h1, h2, h3⟩ := ih (up b).toNat a (ht.next b hb) ha (by omega)
        refine ⟨h2, .step hb0 h1, fun v k1 k2 => h3 v ?_ k1⟩
        refine (k2.above fun e => ?_).2
        have := (k1.pr ht ha).2.1
        rw [e] at this
        omega
      · rw [if_neg hlt]
        have hne : ps a ≠ ps b := fun e => hab (ht.inj a b ha hb e)
        have ha0 : a ≠ 0 := fun e => by rw [e, ht.root] at hlt hne; omega
        have hl := ht.less a ha ha0
        obtain ⟨h1, h2, h3⟩ := ih (up a).toNat b (ht.next a ha) hb (by omega)
        refine ⟨.step ha0 h1, h2, fun v k1 k2 => h3 v ?_ k2⟩
        refine (k1.above fun e => ?_).2
        have := (k2.pr ht hb).2.1
        rw [e] at this
        omega
def mtF (ps : Nat → Nat) (up : Nat → Int) (a b : Nat) : Nat := meetF ps up (ps a + ps b + 1) a b

/-- One block more on the way to the nearest. -/
def oneF (ps : Nat → Nat) (up : Nat → Int) (best : Int) (p : Nat) : Int := if up p < 0 then best else if best < 0 then (p : Int) else ((mtF ps up best.toNat p : Nat) : Int)
/-- The nearest one of several. -/
def bestF (ps : Nat → Nat) (up : Nat → Int) (best : Int) (l : List Nat) : Int := l.foldl (oneF ps up) best
theorem bestF_spec {n : Nat} {ps : Nat → Nat} {up : Nat → Int} (ht : DTree n ps up) : ∀ (l : List Nat) (best : Int), (0 ≤ best → 0 ≤ up best.toNat) → (0 ≤ best ∨ ∃ p ∈ l, 0 ≤ up p) →
    0 ≤ bestF ps up best l ∧ 0 ≤ up (bestF ps up best l).toNat ∧ ∀ v, Anc up (bestF ps up best l).toNat v ↔ (0 ≤ best → Anc up best.toNat v) ∧ ∀ p ∈ l, 0 ≤ up p → Anc up p v := by
  intro l
  induction l with
  | nil =>
    intro best hb h
    have h0 : 0 ≤ best := by
      rcases h with h | ⟨p, hp, -⟩
      · exact h
      · cases hp
    exact ⟨h0, hb h0, fun v => ⟨fun h => ⟨fun _ => h, fun p hp => by cases hp⟩, fun h => h.1 h0⟩⟩
  | cons p l ih =>
    intro best hb h
    show 0 ≤ bestF ps up (oneF ps up best p) l ∧ _
    have hbe : bestF ps up best (p :: l) = bestF ps up (oneF ps up best p) l := rfl
    rw [hbe]
    by_cases hp : up p < 0
    · have e : oneF ps up best p = best := by unfold oneF; rw [if_pos hp]
      rw [e]
      obtain ⟨h1, h2, h3⟩ := ih best hb (by
        rcases h with h | ⟨q, hq, hq2⟩
        · exact .inl h
        · rcases List.mem_cons.1 hq with rfl | hq
          · omega
          · exact .inr ⟨q, hq, hq2⟩)
      refine ⟨h1, h2, fun v => (h3 v).trans ⟨fun h => ⟨h.1, fun q hq hq2 => ?_⟩, fun h => ⟨h.1, fun q hq => h.2 q (by simp [hq])⟩⟩⟩
      rcases List.mem_cons.1 hq with rfl | hq
      · omega
      · exact h.2 q hq hq2
    · by_cases hb0 : best < 0
      · have e : oneF ps up best p = (p : Int) := by unfold oneF; rw [if_neg hp, if_pos hb0]
        rw [e]
        obtain ⟨h1, h2, h3⟩ := ih (p : Int) (fun _ => by rw [Int.toNat_natCast]; omega) (.inl (by omega))
        refine ⟨h1, h2, fun v => (h3 v).trans ?_⟩
        rw [Int.toNat_natCast]
        refine ⟨fun h => ⟨fun h' => by omega, fun q hq hq2 => ?_⟩, fun h => ⟨fun _ => h.2 p (by simp) (by omega), fun q hq => h.2 q (by simp [hq])⟩⟩
        rcases List.mem_cons.1 hq with rfl | hq
        · exact h.1 (by omega)
        · exact h.2 q hq hq2
      · have e : oneF ps up best p = ((mtF ps up best.toNat p : Nat) : Int) := by unfold oneF; rw [if_neg hp, if_neg hb0]
        rw [e]
        obtain ⟨m1, m2, m3⟩ := meetF_spec ht _ best.toNat p (hb (by omega)) (by omega) (Nat.lt_succ_self _)
        have hmt : meetF ps up (ps best.toNat + ps p).succ best.toNat p = mtF ps up best.toNat p := rfl
        rw [hmt] at m1 m2 m3
        obtain ⟨h1, h2, h3⟩ := ih ((mtF ps up best.toNat p : Nat) : Int) (fun _ => by rw [Int.toNat_natCast]; exact (m1.pr ht (hb (by omega))).1) (.inl (by omega))
        refine ⟨h1, h2, fun v => (h3 v).trans ?_⟩
        rw [Int.toNat_natCast]
        refine ⟨fun h => ⟨fun _ => m1.trans (h.1 (by omega)), fun q hq hq2 => ?_⟩, fun h => ⟨fun _ => m3 v (h.1 (by omega)) (h.2 p (by simp) (by omega)), fun q hq => h.2 q (by simp [hq])⟩⟩
        rcases List.mem_cons.1 hq with rfl | hq
        · exact m2.trans (h.1 (by omega))
        · exact h.2 q hq hq2

/-- What is given: an order in which each block but the first one has one ahead of it that leads to it. -/
structure Rpo (n : Nat) (ord : List Nat) (ps : Nat → Nat) (ahd : Nat → List Nat) (fp : Nat → Nat) : Prop where
  pos : 0 < ord.length
  len : ord.length ≤ n
  lt : ∀ x ∈ ord, x < n
  at_ : ∀ j (h : j < ord.length), ps ord[j] = j
  head : ∀ (h : 0 < ord.length), ord[0] = 0
  fore : ∀ j (h : j < ord.length), 1 ≤ j → fp ord[j] ∈ ahd ord[j] ∧ ∃ j', ∃ h' : j' < ord.length, j' < j ∧ ord[j'] = fp ord[j]

/-- Ahead of the turn of the i-th block of the order. -/
structure DSt (n : Nat) (ord : List Nat) (ps : Nat → Nat) (ahd : Nat → List Nat) (fp : Nat → Nat) (i : Nat) (up : Nat → Int) : Prop where
  tree : DTree n ps up
  done : ∀ j (h : j < ord.length), j < i → 0 ≤ up ord[j]
  only : ∀ x, 0 ≤ up x → ∃ j, ∃ h : j < ord.length, ord[j] = x
  fpd : ∀ x, 0 ≤ up x → x ≠ 0 → 0 ≤ up (fp x)
  g : ∀ x, 0 ≤ up x → i < ps x → ∀ c, i ≤ ps c → Anc up x c → c ≠ x → Anc up (fp x) c
  h : ∀ x, 0 ≤ up x → x ≠ 0 → ps x < i → ∀ c, Anc up x c → c ≠ x → Anc up (fp x) c
  inv : ∀ x, 0 ≤ up x → x ≠ 0 → ∀ v, (∀ p ∈ ahd x, 0 ≤ up p → Anc up p v) → Anc up x v

def updF (up : Nat → Int) (c : Nat) (b : Int) : Nat → Int := fun x => if x = c then b else up x
section
variable {n : Nat} {ps : Nat → Nat} {up : Nat → Int} {c : Nat} {b : Int} {x v : Nat}
theorem updF_self (up : Nat → Int) (c : Nat) (b : Int) : updF up c b c = b := if_pos rfl
theorem updF_ne (up : Nat → Int) {c : Nat} (b : Int) {x : Nat} (h : x ≠ c) : updF up c b x = up x := if_neg h
theorem anc_off (h : Anc up x v) : ¬ Anc up x c → Anc (updF up c b) x v := by
  induction h with
  | refl x => exact fun _ => .refl _
  | @step x v h0 h ih =>
    intro hn
    have hxc : x ≠ c := fun e => hn (by rw [e]; exact .refl _)
    refine .step h0 ?_
    rw [updF_ne _ _ hxc]
    exact ih fun k => hn (.step h0 k)
theorem anc_on (h : Anc (updF up c b) x v) : ¬ Anc up x c → Anc up x v := by
  induction h with
  | refl x => exact fun _ => .refl _
  | @step x v h0 h ih =>
    intro hn
    have hxc : x ≠ c := fun e => hn (by rw [e]; exact .refl _)
    rw [updF_ne _ _ hxc] at ih
    exact .step h0 (ih fun k => hn (.step h0 k))
theorem anc_to (h : Anc up x c) : Anc (updF up c b) x c := by
  induction h with
  | refl x => exact .refl _
  | @step x v h0 h ih =>
    by_cases hxc : x = v
    · rw [hxc]; exact .refl _
    · refine .step h0 ?_
      rw [updF_ne _ _ hxc]
      exact ih
theorem anc_split (ht : DTree n ps up) (h : Anc up x c) : 0 ≤ up x → Anc (updF up c b) x v → (Anc up x v ∧ ps c ≤ ps v) ∨ Anc (updF up c b) c v := by
  induction h with
  | refl x => exact fun _ h => .inr h
  | @step x c h0 h ih =>
    intro hx hv
    by_cases hxc : x = c
    · subst hxc; exact .inr hv
    · have hle := ((Anc.step h0 h).pr ht hx).2.1
      by_cases hvx : v = x
      · subst hvx; exact .inl ⟨.refl _, hle⟩
      · have h2 := (hv.above hvx).2
        rw [updF_ne _ _ hxc] at h2
        rcases ih (ht.next _ hx) h2 with ⟨h3, h4⟩ | h3
        · exact .inl ⟨.step h0 h3, h4⟩
        · exact .inr h3
theorem anc_part (ht : DTree n ps up) (h : Anc up x v) : 0 ≤ up x → ps c ≤ ps v → Anc (updF up c b) x v := by
  induction h with
  | refl x => exact fun _ _ => .refl _
  | @step x v h0 h ih =>
    intro hx hle
    have hl := ht.less _ hx h0
    have hp := (h.pr ht (ht.next _ hx)).2.1
    have hxc : x ≠ c := fun e => by rw [← e] at hle; omega
    refine .step h0 ?_
    rw [updF_ne _ _ hxc]
    exact ih (ht.next _ hx) hle
end

/-- One block's turn. -/
theorem DSt.turn {n : Nat} {ord : List Nat} {ps : Nat → Nat} {ahd : Nat → List Nat} {fp : Nat → Nat} {i : Nat} {up : Nat → Int} (ho : Rpo n ord ps ahd fp) (hs : DSt n ord ps ahd fp i up) (h1 : 1 ≤ i) (hi : i < ord.length) :
    0 ≤ bestF ps up (-1) (ahd ord[i]) ∧ (bestF ps up (-1) (ahd ord[i])).toNat < n ∧ DSt n ord ps ahd fp (i + 1) (updF up ord[i] (bestF ps up (-1) (ahd ord[i]))) ∧
      (up ord[i] ≠ bestF ps up (-1) (ahd ord[i]) → up ord[i] < 0 ∨ ps (bestF ps up (-1) (ahd ord[i])).toNat < ps (up ord[i]).toNat) := by
  have ht := hs.tree
  obtain ⟨c, hc⟩ : ∃ c, c = ord[i] := ⟨_, rfl⟩
  have hpc : ps c = i := by rw [hc]; exact ho.at_ i hi
  have hc0 : c ≠ 0 := fun e => by rw [e, ht.root] at hpc; omega
  have hcn : c < n := by rw [hc]; exact ho.lt _ (List.getElem_mem _)
  obtain ⟨hfp, j', hj', hj'i, hfe⟩ := ho.fore i hi h1
  rw [← hc] at hfp hfe ⊢
  have hfpp : 0 ≤ up (fp c) := by rw [← hfe]; exact hs.done j' hj' hj'i
  have hpfp : ps (fp c) < i := by rw [← hfe, ho.at_ j' hj']; exact hj'i
  obtain ⟨hb0, hbp, hb⟩ := bestF_spec ht (ahd c) (-1) (fun h => by omega) (.inr ⟨_, hfp, hfpp⟩)
  obtain ⟨best, hbest⟩ : ∃ best, best = bestF ps up (-1) (ahd c) := ⟨_, rfl⟩
  rw [← hbest] at hb0 hbp hb ⊢
  obtain ⟨b, rfl⟩ := Int.eq_ofNat_of_zero_le hb0
  rw [Int.toNat_natCast] at hbp hb ⊢
  have hb : ∀ v, Anc up b v ↔ ∀ p ∈ ahd c, 0 ≤ up p → Anc up p v := fun v => (hb v).trans ⟨fun h => h.2, fun h => ⟨fun h => by omega, h⟩⟩
  clear hbest hb0
  have hbfp : Anc up (fp c) b := (hb b).1 (.refl _) _ hfp hfpp
  have hpb : ps b < i := by have := (hbfp.pr ht hfpp).2.1; omega
  have hbc : b ≠ c := fun e => by rw [e] at hpb; omega
  -- ways that do not go through c
  have off : ∀ x, 0 ≤ up x → ps x < i → ¬ Anc up x c := fun x hx hlt h => by have := (h.pr ht hx).2.1; omega
  have ancc : ∀ v, Anc (updF up c b) c v → v = c ∨ Anc up b v := fun v h => by
    by_cases hv : v = c
    · exact .inl hv
    · have h2 := (h.above hv).2
      rw [updF_self, Int.toNat_natCast] at h2
      exact .inr (anc_on h2 (off b hbp hpb))
  have cup : 0 ≤ up c → Anc up c b := fun hcp => hs.inv c hcp hc0 b ((hb b).1 (.refl _))
  have sub : ∀ x, 0 ≤ up x → ∀ v, Anc (updF up c b) x v → Anc up x v := fun x hx v h => by
    by_cases hxc : Anc up x c
    · rcases anc_split ht hxc hx h with h2 | h2
      · exact h2.1
      · rcases ancc v h2 with rfl | h3
        · exact hxc
        · exact hxc.trans ((cup (hxc.pr ht hx).1).trans h3)
    · exact anc_on h hxc
  have pr : ∀ x, 0 ≤ updF up c b x → x = c ∨ 0 ≤ up x := fun x h => by
    by_cases hx : x = c
    · exact .inl hx
    · rw [updF_ne _ _ hx] at h; exact .inr h
  have pr' : ∀ x, 0 ≤ up x → 0 ≤ updF up c b x := fun x h => by
    by_cases hx : x = c
    · rw [hx, updF_self]; omega
    · rw [updF_ne _ _ hx]; exact h
  have only' : ∀ x, 0 ≤ updF up c b x → ∃ j, ∃ h : j < ord.length, ord[j] = x := fun x hx => by
    rcases pr x hx with rfl | hx
    · exact ⟨i, hi, hc.symm⟩
    · exact hs.only x hx
  have inj' : ∀ x y, 0 ≤ updF up c b x → 0 ≤ updF up c b y → ps x = ps y → x = y := fun x y hx hy he => by
    obtain ⟨j1, k1, rfl⟩ := only' x hx
    obtain ⟨j2, k2, rfl⟩ := only' y hy
    rw [ho.at_ j1 k1, ho.at_ j2 k2] at he
    subst he; rfl
  have fpl : ∀ x, 0 ≤ updF up c b x → x ≠ 0 → fp x ∈ ahd x ∧ ps (fp x) < ps x := fun x hx hx0 => by
    obtain ⟨j, hj, rfl⟩ := only' x hx
    have hj1 : 1 ≤ j := by
      rcases Nat.eq_zero_or_pos j with rfl | h
      · exact absurd (ho.head ho.pos) hx0
      · exact h
    obtain ⟨g1, j2, g2, g3, g4⟩ := ho.fore j hj hj1
    exact ⟨g1, by rw [← g4, ho.at_ j2 g2, ho.at_ j hj]; exact g3⟩
  refine ⟨by omega, ht.lt b hbp, ⟨⟨?_, ht.root, ?_, ?_, ?_, inj'⟩, ?_, only', ?_, ?_, ?_, ?_⟩, ?_⟩
  · rw [updF_ne _ _ (Ne.symm hc0)]; exact ht.zero
  · intro x hx
    rcases pr x hx with rfl | hx
    · exact hcn
    · exact ht.lt x hx
  · intro x hx
    by_cases hxc : x = c
    · rw [hxc, updF_self, Int.toNat_natCast]; exact pr' b hbp
    · rw [updF_ne _ _ hxc] at hx ⊢
      exact pr' _ (ht.next x hx)
  · intro x hx hx0
    by_cases hxc : x = c
    · rw [hxc, updF_self, Int.toNat_natCast]; omega
    · rw [updF_ne _ _ hxc] at hx ⊢
      exact ht.less x hx hx0
  · intro j hj hji
    by_cases hje : j = i
    · subst hje; rw [← hc, updF_self]; omega
    · exact pr' _ (hs.done j hj (by omega))
  · intro x hx hx0
    rcases pr x hx with rfl | hx
    · exact pr' _ hfpp
    · exact pr' _ (hs.fpd x hx hx0)
  · intro x hx hix d hid hd hdx
    have hxc : x ≠ c := fun e => by rw [e] at hix; omega
    rw [updF_ne _ _ hxc] at hx
    have hx0 : x ≠ 0 := fun e => by rw [e, ht.root] at hix; omega
    have h2 := hs.g x hx (by omega) d (by omega) (sub x hx d hd) hdx
    exact anc_part ht h2 (hs.fpd x hx hx0) (by omega)
  · intro x hx hx0 hxi d hd hdx
    by_cases hxc : x = c
    · subst hxc
      rcases ancc d hd with rfl | h2
      · exact absurd rfl hdx
      · exact anc_off ((hb d).1 h2 _ hfp hfpp) (off _ hfpp hpfp)
    · have hx2 := hx
      rw [updF_ne _ _ hxc] at hx
      have hlt : ps x < i := by
        rcases Nat.lt_or_ge (ps x) i with h | h
        · exact h
        · exact absurd (inj' x c hx2 (by rw [updF_self]; omega) (by omega)) hxc
      have h2 := hs.h x hx hx0 hlt d (anc_on hd (off x hx hlt)) hdx
      exact anc_off h2 (off _ (hs.fpd x hx hx0) (by have := (fpl x hx2 hx0).2; omega))
  · intro x hx hx0 v hv
    by_cases hxc : x = c
    · subst hxc
      have h2 : Anc up b v := (hb v).2 fun p hp hpp => sub p hpp v (hv p hp (pr' p hpp))
      refine .step hx0 ?_
      rw [updF_self, Int.toNat_natCast]
      exact anc_off h2 (off b hbp hpb)
    · have hx2 := hx
      rw [updF_ne _ _ hxc] at hx
      have hxv : Anc up x v := hs.inv x hx hx0 v fun p hp hpp => sub p hpp v (hv p hp (pr' p hpp))
      by_cases hxc2 : Anc up x c
      · have hlt : i < ps x := by have := (hxc2.pr ht hx).2.2 (Ne.symm hxc); omega
        have h3 := hs.g x hx hlt c (by omega) hxc2 (Ne.symm hxc)
        have hfx := hs.fpd x hx hx0
        rcases anc_split ht h3 hfx (hv _ (fpl x hx2 hx0).1 (pr' _ hfx)) with h4 | h4
        · exact anc_part ht hxv hx h4.2
        · exact (anc_to hxc2).trans h4
      · exact anc_off hxv hxc2
  · intro hne
    by_cases hlt : up c < 0
    · exact .inl hlt
    · refine .inr ?_
      have hge : 0 ≤ up c := by omega
      have h2 := ((cup hge).above hbc).2
      refine (h2.pr ht (ht.next c hge)).2.2 fun e => hne ?_
      rw [e]; omega

/-- The round is over: the next one begins. -/
theorem DSt.again {n : Nat} {ord : List Nat} {ps : Nat → Nat} {ahd : Nat → List Nat} {fp : Nat → Nat} {up : Nat → Int} (ho : Rpo n ord ps ahd fp) (hs : DSt n ord ps ahd fp ord.length up) : DSt n ord ps ahd fp 1 up := by
  have hp := ho.pos
  have hlt : ∀ x, 0 ≤ up x → ps x < ord.length := fun x hx => by
    obtain ⟨j, hj, rfl⟩ := hs.only x hx
    rw [ho.at_ j hj]; exact hj
  refine ⟨hs.tree, fun j h hj => hs.done j h h, hs.only, hs.fpd, fun x hx h1 c _ h2 h3 => ?_, fun x hx h0 h1 => ?_, hs.inv⟩
  · exact hs.h x hx (fun e => by rw [e, hs.tree.root] at h1; omega) (hlt x hx) c h2 h3
  · exact absurd (hs.tree.inj x 0 hx (by rw [hs.tree.zero]; omega) (by rw [hs.tree.root]; omega)) h0
def up0 : Nat → Int := fun x => if x = 0 then 0 else -1
theorem DSt.start {n : Nat} {ord : List Nat} {ps : Nat → Nat} {ahd : Nat → List Nat} {fp : Nat → Nat} (ho : Rpo n ord ps ahd fp) (hr : ps 0 = 0) : DSt n ord ps ahd fp 1 up0 := by
  have h0 : ∀ x, 0 ≤ up0 x → x = 0 := fun x hx => by
    unfold up0 at hx
    split at hx
    · assumption
    · omega
  have hn := ho.lt _ (List.getElem_mem ho.pos)
  refine ⟨⟨rfl, hr, fun x hx => ?_, fun x hx => ?_, fun x hx hx0 => absurd (h0 x hx) hx0, fun x y hx hy _ => (h0 x hx).trans (h0 y hy).symm⟩, fun j h hj => ?_, fun x hx => ?_, fun x hx hx0 => absurd (h0 x hx) hx0, fun x hx h1 => ?_, fun x hx hx0 => absurd (h0 x hx) hx0, fun x hx hx0 => absurd (h0 x hx) hx0⟩
  · rw [h0 x hx]; omega
  · rw [h0 x hx]; decide
  · obtain rfl : j = 0 := by omega
    rw [ho.head h]; decide
  · rw [h0 x hx]; exact ⟨0, ho.pos, ho.head ho.pos⟩
  · rw [h0 x hx, hr] at h1; omega

/-- How far the tree is from its end. -/
def weightF (n : Nat) (ps : Nat → Nat) (up : Nat → Int) : Nat → Nat := fun x => if up x < 0 then n else ps (up x).toNat
def sumF (f : Nat → Nat) : Nat → Nat
  | 0 => 0
  | k + 1 => sumF f k + f k
theorem sumF_le {f g : Nat → Nat} : ∀ k, (∀ x, x < k → f x ≤ g x) → sumF f k ≤ sumF g k
  | 0, _ => Nat.le_refl _
  | k + 1, h => Nat.add_le_add (sumF_le k fun x hx => h x (by omega)) (h k (by omega))
theorem sumF_lt {f g : Nat → Nat} {c : Nat} : ∀ k, (∀ x, x < k → f x ≤ g x) → c < k → f c < g c → sumF f k < sumF g k
  | 0, _, h, _ => by omega
  | k + 1, h, hc, hlt => by
    by_cases hck : c = k
    · subst hck
      exact Nat.add_lt_add_of_le_of_lt (sumF_le c fun x hx => h x (by omega)) hlt
    · exact Nat.add_lt_add_of_lt_of_le (sumF_lt k (fun x hx => h x (by omega)) (by omega) hlt) (h k (by omega))
def muF (n : Nat) (ps : Nat → Nat) (up : Nat → Int) : Nat := sumF (weightF n ps up) n

/-- One block's turn, and whether it changed. -/
def stepF (ps : Nat → Nat) (ahd : Nat → List Nat) (s : (Nat → Int) × Bool) (b : Nat) : (Nat → Int) × Bool :=
  if s.1 b ≠ bestF ps s.1 (-1) (ahd b) then (updF s.1 b (bestF ps s.1 (-1) (ahd b)), true) else s
/-- One round over what is left of the order. -/
def passF (ps : Nat → Nat) (ahd : Nat → List Nat) (l : List Nat) (s : (Nat → Int) × Bool) : (Nat → Int) × Bool := l.foldl (stepF ps ahd) s
/-- Rounds until nothing changes. -/
def treeR (ps : Nat → Nat) (ahd : Nat → List Nat) (l : List Nat) : Nat → (Nat → Int) → (Nat → Int)
  | 0, up => up
  | f + 1, up => if (passF ps ahd l (up, false)).2 = true then treeR ps ahd l f (passF ps ahd l (up, false)).1 else (passF ps ahd l (up, false)).1

theorem updF_same (up : Nat → Int) (c : Nat) : updF up c (up c) = up := by
  funext x
  by_cases h : x = c
  · rw [h, updF_self]
  · rw [updF_ne _ _ h]
/-- One block's turn keeps the state, and brings the tree no further from its end; nearer, if it changed. -/
theorem step_ok {n : Nat} {ord : List Nat} {ps : Nat → Nat} {ahd : Nat → List Nat} {fp : Nat → Nat} {i : Nat} {s : (Nat → Int) × Bool} (ho : Rpo n ord ps ahd fp) (hs : DSt n ord ps ahd fp i s.1) (h1 : 1 ≤ i) (hi : i < ord.length) :
    DSt n ord ps ahd fp (i + 1) (stepF ps ahd s ord[i]).1 ∧ muF n ps (stepF ps ahd s ord[i]).1 ≤ muF n ps s.1 ∧ (s.1 ord[i] ≠ bestF ps s.1 (-1) (ahd ord[i]) → muF n ps (stepF ps ahd s ord[i]).1 < muF n ps s.1) := by
  obtain ⟨hb0, hbn, hd, hv⟩ := hs.turn ho h1 hi
  unfold stepF
  by_cases hne : s.1 ord[i] ≠ bestF ps s.1 (-1) (ahd ord[i])
  · rw [if_pos hne]
    have hcn : ord[i] < n := ho.lt _ (List.getElem_mem _)
    have hbp : ps (bestF ps s.1 (-1) (ahd ord[i])).toNat < n := by
      have hx : 0 ≤ updF s.1 ord[i] (bestF ps s.1 (-1) (ahd ord[i])) ord[i] := by rw [updF_self]; exact hb0
      have h2 := hd.tree.next _ hx
      obtain ⟨j, hj, he⟩ := hd.only _ h2
      rw [updF_self] at he
      rw [← he, ho.at_ j hj]
      have := ho.len
      omega
    have hlt : muF n ps (updF s.1 ord[i] (bestF ps s.1 (-1) (ahd ord[i]))) < muF n ps s.1 := by
      refine sumF_lt (c := ord[i]) n (fun x hx => ?_) hcn ?_
      · by_cases hxc : x = ord[i]
        · subst hxc
          unfold weightF
          rw [updF_self, if_neg (by omega)]
          rcases hv hne with h | h
          · rw [if_pos h]; omega
          · split <;> omega
        · unfold weightF; rw [updF_ne _ _ hxc]; exact Nat.le_refl _
      · unfold weightF
        rw [updF_self, if_neg (by omega)]
        rcases hv hne with h | h
        · rw [if_pos h]; omega
        · split <;> omega
    exact ⟨hd, Nat.le_of_lt hlt, fun _ => hlt⟩
  · rw [if_neg hne]
    have he : s.1 ord[i] = bestF ps s.1 (-1) (ahd ord[i]) := Classical.not_not.1 hne
    rw [← he, updF_same] at hd
    exact ⟨hd, Nat.le_refl _, fun h => absurd he h⟩

end Go.Proofs.YtnkogppgacappaaDoor

namespace Go.Proofs.YtnkogppgacappaaDoor
open Go.RowKit

theorem meetF_self (ps : Nat → Nat) (up : Nat → Int) (f a : Nat) : meetF ps up f a a = a := by
  cases f with
  | zero => rfl
  | succ f => rw [meetF, if_pos rfl]

set_option maxRecDepth 100000 in
set_option maxHeartbeats 2000000 in
theorem meet_any {S S' : Nat → Prop} (ua ta : Option Addr) (uc tc n : Nat) (U T : List Int) (ps : Nat → Nat) (up : Nat → Int) (a b : Nat) (w : World) (hU : SlAt S w 1 rInt (.slice ua n uc) U) (hT : SlAt S' w 1 rInt (.slice ta n tc) T) (hul : U.length = n) (htl : T.length = n)
    (_hn : n ≤ 1048576) (hu : ∀ x, x < n → U.getD x 0 = up x) (hp : ∀ x, x < n → 0 ≤ up x → T.getD x 0 = (ps x : Int)) (ht : DTree n ps up) (ha : 0 ≤ up a) (hb : 0 ≤ up b) :
    Calls Tryd.prog 54 #[.slice ua n uc, .slice ta n tc, .int .i64 (a : Int), .int .i64 (b : Int)] w fun e w' => e = .returned (.int .i64 (mtF ps up a b : Nat)) ∧ Below w.heap.size w w' := by
  have HU := hid hU
  have HT := hid hT
  have Hul := hid hul
  have Htl := hid htl
  have Hu := hid hu
  have Hp := hid hp
  have Ht := hid ht
  have Ha := hid ha
  have Hb := hid hb
  clear hU hT hul htl hu hp ht ha hb
  go_enter Tryd.func54, Tryd.ntmps54
  go_wp2_with fail
  go_loopw [2, 3] (fun s2 s3 wr => ∃ (f x y q : Nat), s2 = .int .i64 (x : Int) ∧ s3 = .int .i64 (y : Int) ∧ 0 ≤ up x ∧ 0 ≤ up y ∧ ps x + ps y < f ∧ meetF ps up f x y = mtF ps up a b ∧ w.drewN q = wr) (fun s2 s3 _ => ps (intOf s2).toNat + ps (intOf s3).toNat)
  case atStart => exact ⟨_, a, b, 0, rfl, rfl, Ha.out, Hb.out, by omega, rfl, rfl⟩
  case round =>
    obtain ⟨f, x, y, q, rfl, rfl, hx, hy, hf, hr, rfl⟩ := hrel
    have Hx := hid hx
    have Hy := hid hy
    have Hf := hid hf
    have Hr := hid hr
    have hxn := Ht.out.lt x hx
    have hyn := Ht.out.lt y hy
    clear hx hy hf hr
    by_cases hxy : (x : Int) = (y : Int)
    · obtain rfl : y = x := by omega
      have hv : mtF ps up a b = y := by
        rw [← Hr.out, meetF_self]
      have Hv := hid hv
      clear hv hxy
      go_wp2_with fail
      go_ret
      exact ⟨by rw [Hv.out]; rfl, by (repeat (first | exact Below.refl _ _ | refine Below.alloc ?_ (by first | omega | (simp <;> omega)) _ | refine Below.setCell ?_ (by first | omega | (simp <;> omega)) _ | refine below_drewN ?_ _ | refine Below.drew ?_))⟩
    · have q1 : x < y ∨ y < x := by omega
      have hxT : x < T.length := by rw [Htl.out]; exact hxn
      have hyT : y < T.length := by rw [Htl.out]; exact hyn
      have hxU : x < U.length := by rw [Hul.out]; exact hxn
      have hyU : y < U.length := by rw [Hul.out]; exact hyn
      obtain ⟨tb, toff, rfl, c0⟩ := int_at HT.out hxT
      obtain ⟨tb2, toff2, e0, c1⟩ := int_at HT.out hyT
      cases e0
      obtain ⟨ub, uoff, rfl, d0⟩ := int_at HU.out hxU
      obtain ⟨ub2, uoff2, e0, d1⟩ := int_at HU.out hyU
      cases e0
      have e1 : T[x] = (ps x : Int) := by have h := Hp.out x hxn Hx.out; rw [List.getD_eq_getElem?_getD, List.getElem?_eq_getElem hxT] at h; exact h
      have e2 : T[y] = (ps y : Int) := by have h := Hp.out y hyn Hy.out; rw [List.getD_eq_getElem?_getD, List.getElem?_eq_getElem hyT] at h; exact h
      have e3 : U[x] = up x := by have h := Hu.out x hxn; rw [List.getD_eq_getElem?_getD, List.getElem?_eq_getElem hxU] at h; exact h
      have e4 : U[y] = up y := by have h := Hu.out y hyn; rw [List.getD_eq_getElem?_getD, List.getElem?_eq_getElem hyU] at h; exact h
      rw [e1] at c0
      rw [e2] at c1
      rw [e3] at d0
      rw [e4] at d1
      obtain ⟨x', hx'⟩ := Int.eq_ofNat_of_zero_le Hx.out
      obtain ⟨y', hy'⟩ := Int.eq_ofNat_of_zero_le Hy.out
      have hnx := Ht.out.next x Hx.out
      have hny := Ht.out.next y Hy.out
      have hlx := Ht.out.less x Hx.out
      have hly := Ht.out.less y Hy.out
      rw [hx', Int.toNat_natCast] at hnx hlx
      rw [hy', Int.toNat_natCast] at hny hly
      rw [hx'] at d0
      rw [hy'] at d1
      have z0 : ps 0 = 0 := Ht.out.root
      have hinj := Ht.out.inj x y Hx.out Hy.out
      obtain ⟨f', rfl⟩ : ∃ f', f = f' + 1 := ⟨f - 1, by have := Hf.out; omega⟩
      obtain ⟨p1, hp1⟩ : ∃ p1, ps x = p1 := ⟨_, rfl⟩
      obtain ⟨p2, hp2⟩ : ∃ p2, ps y = p2 := ⟨_, rfl⟩
      rw [hp1] at c0
      rw [hp2] at c1
      have zt : tb < w.heap.size := cell_lt c0
      have zu : ub < w.heap.size := cell_lt d0
      have Hnx := hid hnx
      have Hny := hid hny
      have hne : x ≠ y := by omega
      by_cases hlt : p1 < p2
      · have q2 : decide (p1 < p2) = true := decide_eq_true hlt
        have hy0 : y ≠ 0 := fun e => by rw [e, z0] at hp2; omega
        have hly' := hly hy0
        have Hv : Hid (meetF ps up f' y' x = mtF ps up a b) := by
          show _ = _
          rw [← Hr.out, show meetF ps up (f' + 1) x y = meetF ps up f' (up y).toNat x by rw [meetF, if_neg hne, if_pos (by omega)], hy', Int.toNat_natCast]
        have Hm : Hid (ps y' + ps x < ps x + ps y) := by show _ < _; omega
        clear hx' hy' hlx hly hinj z0 hne hy0 hly' hlt hp1 hp2 e1 e2 e3 e4 hnx hny hxy
        go_wp2_with fail
        go_quiet (fail)
        go_wp2_with fail
        go_roundw
        case rel => exact ⟨f', y', x, _, rfl, rfl, Hny.out, Hx.out, by have := Hm.out; have := Hf.out; omega, Hv.out, rfl⟩
        case measure => have := Hm.out; simp [intOf]; omega
      · have q2 : decide (p1 < p2) = false := decide_eq_false hlt
        have hx0 : x ≠ 0 := fun e => by
          rw [e, z0] at hp1
          exact hne (hinj (by omega))
        have hlx' := hlx hx0
        have Hv : Hid (meetF ps up f' x' y = mtF ps up a b) := by
          show _ = _
          rw [← Hr.out, show meetF ps up (f' + 1) x y = meetF ps up f' (up x).toNat y by rw [meetF, if_neg hne, if_neg (by omega)], hx', Int.toNat_natCast]
        have Hm : Hid (ps x' + ps y < ps x + ps y) := by show _ < _; omega
        clear hx' hy' hlx hly hinj z0 hne hx0 hlx' hlt hp1 hp2 e1 e2 e3 e4 hnx hny hxy
        go_wp2_with fail
        go_quiet (fail)
        go_wp2_with fail
        go_roundw
        case rel => exact ⟨f', x', y, _, rfl, rfl, Hnx.out, Hy.out, by have := Hm.out; have := Hf.out; omega, Hv.out, rfl⟩
        case measure => have := Hm.out; simp [intOf]; omega

end Go.Proofs.YtnkogppgacappaaDoor
