/- dom.TreeOf, in plain Lean: the order of a search in depth is fit for the tree; the rounds end, and what holds then. ssa.Check, in plain Lean; and what code.Check says of a function, gathered. -/
import Derived.Test.YtnkogppgacappaaDoorPReach0
import Derived.Test.YtnkogppgacappaaDoorPMeet
import Derived.Test.YtnkogppgacappaaDoorPQueue
import Derived.Test.YtnkogppgacappaaDoorPKnown
import Derived.Test.YtnkogppgacappaaDoorPBy1
import Derived.Test.YtnkogppgacappaaDoorPHotW
namespace Go.Proofs.YtnkogppgacappaaDoor
open Go.RowKit

theorem hits_has {tg : List Int} {t i : Nat} (h : (t : Int) ∈ tg) : (i : Int) ∈ hits tg t i := by
  unfold hits
  exact List.mem_map.2 ⟨_, List.mem_filter.2 ⟨h, by simp⟩, rfl⟩
theorem predsOf_has {l : List DBlock} {t : Nat} : ∀ {s i : Nat} {x : DBlock}, l[i]? = some x → (t : Int) ∈ x.fin.to → ((s + i : Nat) : Int) ∈ predsOf l s t := by
  induction l with
  | nil => intro s i x h; simp at h
  | cons b l ih =>
    intro s i x h ht
    simp only [predsOf, List.mem_append]
    cases i with
    | zero =>
      rw [List.getElem?_cons_zero] at h
      cases h
      exact .inl (hits_has ht)
    | succ i =>
      rw [List.getElem?_cons_succ] at h
      have := ih (s := s + 1) h ht
      rw [show s + 1 + i = s + (i + 1) by omega] at this
      exact .inr this
/-- The order: as blocks are left, turned round. -/
def ordL (bs : List DBlock) : List Int := (postF bs).reverse
def ordN (bs : List DBlock) : List Nat := (ordL bs).map Int.toNat
def psF (bs : List DBlock) : Nat → Nat := atF (ordN bs) (ordN bs).length
def ahdF (bs : List DBlock) (x : Nat) : List Nat := (predsOf bs 0 x).map Int.toNat

structure ToOk (bs : List DBlock) : Prop where
  pos : 0 < bs.length
  tgt : ∀ (k : Nat) (x : DBlock), bs[k]? = some x → x.fin.to.length ≤ 2 ∧ ∀ t ∈ x.fin.to, 0 ≤ t ∧ t < (bs.length : Int)

theorem ToOk.tos {bs : List DBlock} (h : ToOk bs) : ∀ b, ∀ t ∈ tosOf bs b, 0 ≤ t := by
  intro b t ht
  unfold tosOf at ht
  cases e : bs[b]? with
  | none => rw [e] at ht; cases ht
  | some x => rw [e] at ht; exact ((h.tgt b x e).2 t ht).1
/-- What is left of all. -/
theorem post_facts {bs : List DBlock} (h : ToOk bs) : (∀ x ∈ postF bs, 0 ≤ x ∧ x < (bs.length : Int)) ∧ (postF bs).Nodup ∧ LedBy bs (postF bs) [0] ∧ (∃ A, postF bs = A ++ [0]) := by
  have hp := h.pos
  obtain ⟨A, h1, h2⟩ := visit_visd bs h.tos bs.length 0 (List.replicate bs.length false, []) (by dsimp only; rw [List.getElem?_replicate, if_pos hp]) (by dsimp only; rw [List.count_replicate_self]; exact Nat.le_refl _)
  have e : postF bs = A := by
    unfold postF
    have := h1.left
    rw [List.nil_append] at this
    exact this
  refine ⟨fun x hx => ?_, by rw [e]; exact h1.nodup, by rw [e]; exact h2, ?_⟩
  · rw [e] at hx
    have := h1.fresh x hx
    dsimp only at this
    rw [List.length_replicate] at this
    exact ⟨this.1, this.2.1⟩
  · obtain ⟨n, hn⟩ : ∃ n, bs.length = n + 1 := ⟨bs.length - 1, by omega⟩
    unfold postF
    rw [hn, visitF_succ]
    exact ⟨_, rfl⟩

theorem nodup_inj {α : Type} {l : List α} (h : l.Nodup) {i j : Nat} (hi : i < l.length) (hj : j < l.length) (e : l[i] = l[j]) : i = j := by
  have h2 := List.pairwise_iff_getElem.1 h
  rcases Nat.lt_trichotomy i j with h3 | h3 | h3
  · exact absurd e (h2 i j hi hj h3)
  · exact h3
  · exact absurd e.symm (h2 j i hj hi h3)
theorem nodup_of {α : Type} {l : List α} (h : ∀ i j (hi : i < l.length) (hj : j < l.length), l[i] = l[j] → i = j) : l.Nodup :=
  List.pairwise_iff_getElem.2 fun i j hi hj hlt e => by have := h i j hi hj e; omega
theorem ordN_get {bs : List DBlock} {j : Nat} (hj : j < (ordN bs).length) : ∃ h : (postF bs).length - 1 - j < (postF bs).length, (ordN bs)[j] = ((postF bs)[(postF bs).length - 1 - j]).toNat := by
  have e : (ordN bs).length = (postF bs).length := by unfold ordN ordL; simp
  have h : (postF bs).length - 1 - j < (postF bs).length := by omega
  refine ⟨h, ?_⟩
  have h2 : (ordN bs)[j]? = some ((postF bs)[(postF bs).length - 1 - j]).toNat := by
    unfold ordN ordL
    rw [List.getElem?_map, List.getElem?_reverse (by omega), List.getElem?_eq_getElem h]; rfl
  rw [List.getElem?_eq_getElem hj] at h2
  exact Option.some.inj h2
theorem ordN_len (bs : List DBlock) : (ordN bs).length = (postF bs).length := by unfold ordN ordL; simp
theorem ordN_inj {bs : List DBlock} (h : ToOk bs) {i j : Nat} (hi : i < (ordN bs).length) (hj : j < (ordN bs).length) (e : (ordN bs)[i] = (ordN bs)[j]) : i = j := by
  obtain ⟨h1, h2, -, -⟩ := post_facts h
  obtain ⟨a, ea⟩ := ordN_get hi
  obtain ⟨b, eb⟩ := ordN_get hj
  rw [ea, eb] at e
  have p1 := h1 _ (List.getElem_mem a)
  have p2 := h1 _ (List.getElem_mem b)
  have e2 : (postF bs)[(postF bs).length - 1 - i] = (postF bs)[(postF bs).length - 1 - j] := by omega
  have := nodup_inj h2 _ _ e2
  have := ordN_len bs
  omega
theorem ordN_lt {bs : List DBlock} (h : ToOk bs) {x : Nat} (hx : x ∈ ordN bs) : x < bs.length := by
  obtain ⟨h1, -, -, -⟩ := post_facts h
  unfold ordN ordL at hx
  obtain ⟨y, hy, rfl⟩ := List.mem_map.1 hx
  have := h1 y (List.mem_reverse.1 hy)
  omega
theorem nodup_len {n : Nat} : ∀ (l : List Nat), l.Nodup → (∀ x ∈ l, x < n) → l.length ≤ n := by
  intro l h1 h2
  have := List.Nodup.length_le_of_subset (l₁ := l) (l₂ := List.range n) h1 (fun x hx => List.mem_range.2 (h2 x hx))
  simpa using this
theorem ordN_le {bs : List DBlock} (h : ToOk bs) : (ordN bs).length ≤ bs.length := by
  refine nodup_len _ (nodup_of fun i j hi hj e => ordN_inj h hi hj e) (fun x hx => ordN_lt h hx)
theorem ordN_head {bs : List DBlock} (h : ToOk bs) : 0 < (ordN bs).length ∧ ∀ (k : 0 < (ordN bs).length), (ordN bs)[0] = 0 := by
  obtain ⟨-, -, -, A, hA⟩ := post_facts h
  have e : (postF bs).length = A.length + 1 := by rw [hA]; simp
  have hl : 0 < (ordN bs).length := by rw [ordN_len, e]; omega
  refine ⟨hl, fun k => ?_⟩
  obtain ⟨a, ea⟩ := ordN_get k
  rw [ea]
  have : (postF bs)[(postF bs).length - 1 - 0]? = some 0 := by rw [hA]; simp
  rw [List.getElem?_eq_getElem a] at this
  injection this with this
  rw [this]; rfl
theorem psF_at {bs : List DBlock} (h : ToOk bs) {j : Nat} (hj : j < (ordN bs).length) : psF bs (ordN bs)[j] = j := by
  have hm : (ordN bs)[j] ∈ ordN bs := List.getElem_mem _
  have hl : (ordN bs).idxOf (ordN bs)[j] < (ordN bs).length := List.idxOf_lt_length_iff.2 hm
  unfold psF atF
  rw [List.take_length, if_pos (hadB_mem.2 hm)]
  exact ordN_inj h hl hj (List.getElem_idxOf hl)
theorem psF_zero {bs : List DBlock} (h : ToOk bs) : psF bs 0 = 0 := by
  obtain ⟨h1, h2⟩ := ordN_head h
  have := psF_at h h1
  rw [h2 h1] at this
  exact this
theorem ord_led {bs : List DBlock} (h : ToOk bs) {j : Nat} (hj : j < (ordN bs).length) (h1 : 1 ≤ j) : ∃ y, y ∈ ahdF bs (ordN bs)[j] ∧ ∃ j', ∃ h' : j' < (ordN bs).length, j' < j ∧ (ordN bs)[j'] = y := by
  obtain ⟨p1, p2, p3, A, hA⟩ := post_facts h
  have el := ordN_len bs
  obtain ⟨a, ea⟩ := ordN_get hj
  have e : (postF bs).length = A.length + 1 := by rw [hA]; simp
  rcases p3 _ a with ⟨k, hk, hlt, hto⟩ | h0
  · have hk2 : (postF bs).length - 1 - k < (ordN bs).length := by omega
    obtain ⟨b, eb⟩ := ordN_get hk2
    have hkk : (postF bs).length - 1 - ((postF bs).length - 1 - k) = k := by omega
    refine ⟨_, ?_, (postF bs).length - 1 - k, hk2, by omega, rfl⟩
    rw [eb, ea]
    have q := p1 _ (List.getElem_mem a)
    have hto2 : (((postF bs)[(postF bs).length - 1 - j].toNat : Nat) : Int) ∈ tosOf bs ((postF bs)[k]).toNat := by
      rw [Int.toNat_of_nonneg q.1]; exact hto
    unfold tosOf at hto2
    cases e5 : bs[((postF bs)[k]).toNat]? with
    | none => rw [e5] at hto2; cases hto2
    | some x =>
      rw [e5] at hto2
      have := predsOf_has (s := 0) e5 hto2
      unfold ahdF
      refine List.mem_map.2 ⟨_, this, ?_⟩
      simp only [hkk, Nat.zero_add, Int.toNat_natCast]
  · exfalso
    rw [List.mem_singleton] at h0
    have hl : (postF bs)[(postF bs).length - 1]? = some 0 := by rw [hA]; simp
    have hl2 : (postF bs).length - 1 < (postF bs).length := by omega
    rw [List.getElem?_eq_getElem hl2] at hl
    injection hl with hl
    have := nodup_inj p2 _ _ (h0.trans hl.symm)
    omega
open Classical in
/-- One that leads to a block and stands ahead of it. -/
noncomputable def fpF (bs : List DBlock) (x : Nat) : Nat := if h : ∃ y, y ∈ ahdF bs x ∧ ∃ j j', ∃ (h : j < (ordN bs).length) (h' : j' < (ordN bs).length), (ordN bs)[j] = x ∧ j' < j ∧ (ordN bs)[j'] = y then Classical.choose h else 0
theorem fpF_ok {bs : List DBlock} (h : ToOk bs) {j : Nat} (hj : j < (ordN bs).length) (h1 : 1 ≤ j) : fpF bs (ordN bs)[j] ∈ ahdF bs (ordN bs)[j] ∧ ∃ j', ∃ h' : j' < (ordN bs).length, j' < j ∧ (ordN bs)[j'] = fpF bs (ordN bs)[j] := by
  obtain ⟨y, h2, j', h3, h4, h5⟩ := ord_led h hj h1
  have hex : ∃ y, y ∈ ahdF bs (ordN bs)[j] ∧ ∃ j2 j', ∃ (h : j2 < (ordN bs).length) (h' : j' < (ordN bs).length), (ordN bs)[j2] = (ordN bs)[j] ∧ j' < j2 ∧ (ordN bs)[j'] = y := ⟨y, h2, j, j', hj, h3, rfl, h4, h5⟩
  have hc := Classical.choose_spec hex
  have e : fpF bs (ordN bs)[j] = Classical.choose hex := by unfold fpF; rw [dif_pos hex]
  rw [e]
  obtain ⟨c1, k, k', c2, c3, c4, c5, c6⟩ := hc
  have := ordN_inj h c2 hj c4
  exact ⟨c1, k', c3, by omega, c6⟩
theorem post_rpo {bs : List DBlock} (h : ToOk bs) : Rpo bs.length (ordN bs) (psF bs) (ahdF bs) (fpF bs) :=
  ⟨(ordN_head h).1, ordN_le h, fun _ hx => ordN_lt h hx, fun _ hj => psF_at h hj, (ordN_head h).2, fun _ hj h1 => fpF_ok h hj h1⟩

/- The rounds. -/
section
variable {n : Nat} {ord : List Nat} {ps : Nat → Nat} {ahd : Nat → List Nat} {fp : Nat → Nat}
theorem stepF_low {s : (Nat → Int) × Bool} {b : Nat} (h : ∀ x, -1 ≤ s.1 x) (hb : -1 ≤ bestF ps s.1 (-1) (ahd b)) : ∀ x, -1 ≤ (stepF ps ahd s b).1 x := by
  intro x
  unfold stepF
  by_cases hne : s.1 b ≠ bestF ps s.1 (-1) (ahd b)
  · rw [if_pos hne]
    dsimp only
    by_cases hx : x = b
    · rw [hx, updF_self]; exact hb
    · rw [updF_ne _ _ hx]; exact h x
  · rw [if_neg hne]; exact h x
/-- Between two blocks of a round: the state; the weight against the round's start; whether something changed. -/
structure PSt (n : Nat) (ord : List Nat) (ps : Nat → Nat) (ahd : Nat → List Nat) (fp : Nat → Nat) (u0 : Nat → Int) (i : Nat) (s : (Nat → Int) × Bool) : Prop where
  d : DSt n ord ps ahd fp i s.1
  low : ∀ x, -1 ≤ s.1 x
  le : muF n ps s.1 ≤ muF n ps u0
  lt : s.2 = true → muF n ps s.1 < muF n ps u0
  same : s.2 = false → s.1 = u0 ∧ ∀ j (h : j < ord.length), 1 ≤ j → j < i → u0 ord[j] = bestF ps u0 (-1) (ahd ord[j])
theorem PSt.next (ho : Rpo n ord ps ahd fp) {u0 : Nat → Int} {i : Nat} {s : (Nat → Int) × Bool} (h : PSt n ord ps ahd fp u0 i s) (h1 : 1 ≤ i) (hi : i < ord.length) : PSt n ord ps ahd fp u0 (i + 1) (stepF ps ahd s ord[i]) := by
  obtain ⟨g1, g2, g3⟩ := step_ok ho h.d h1 hi
  obtain ⟨hb0, -, -, -⟩ := h.d.turn ho h1 hi
  refine ⟨g1, stepF_low h.low (by omega), Nat.le_trans g2 h.le, fun hs => ?_, fun hs => ?_⟩
  · by_cases hne : s.1 ord[i] ≠ bestF ps s.1 (-1) (ahd ord[i])
    · exact Nat.lt_of_lt_of_le (g3 hne) h.le
    · unfold stepF at hs ⊢
      rw [if_neg hne] at hs ⊢
      exact h.lt hs
  · by_cases hne : s.1 ord[i] ≠ bestF ps s.1 (-1) (ahd ord[i])
    · unfold stepF at hs
      rw [if_pos hne] at hs
      cases hs
    · have he : s.1 ord[i] = bestF ps s.1 (-1) (ahd ord[i]) := Classical.not_not.1 hne
      unfold stepF at hs ⊢
      rw [if_neg hne] at hs ⊢
      obtain ⟨k1, k2⟩ := h.same hs
      refine ⟨k1, fun j hj h2 h3 => ?_⟩
      by_cases hji : j = i
      · subst hji; rw [← k1]; exact he
      · exact k2 j hj h2 (by omega)
theorem pass_ok (ho : Rpo n ord ps ahd fp) {u0 : Nat → Int} : ∀ (m i : Nat) (s : (Nat → Int) × Bool), PSt n ord ps ahd fp u0 i s → 1 ≤ i → i + m = ord.length → PSt n ord ps ahd fp u0 ord.length (passF ps ahd (ord.drop i) s) := by
  intro m
  induction m with
  | zero =>
    intro i s h h1 he
    rw [List.drop_of_length_le (by omega), show ord.length = i by omega]
    exact h
  | succ m ih =>
    intro i s h h1 he
    rw [List.drop_eq_getElem_cons (by omega)]
    exact ih (i + 1) _ (h.next ho h1 (by omega)) (by omega) (by omega)
/-- A tree at rest. -/
structure Rest (n : Nat) (ord : List Nat) (ps : Nat → Nat) (ahd : Nat → List Nat) (fp : Nat → Nat) (up : Nat → Int) : Prop where
  d : DSt n ord ps ahd fp 1 up
  low : ∀ x, -1 ≤ up x
  fix : ∀ j (h : j < ord.length), 1 ≤ j → up ord[j] = bestF ps up (-1) (ahd ord[j])
theorem PSt.zero {up : Nat → Int} (h : DSt n ord ps ahd fp 1 up) (hl : ∀ x, -1 ≤ up x) : PSt n ord ps ahd fp up 1 (up, false) :=
  ⟨h, hl, Nat.le_refl _, fun h => (by cases h), fun _ => ⟨rfl, fun j hj h1 h2 => by omega⟩⟩
theorem treeR_rest (ho : Rpo n ord ps ahd fp) : ∀ (f : Nat) (up : Nat → Int), DSt n ord ps ahd fp 1 up → (∀ x, -1 ≤ up x) → muF n ps up < f → Rest n ord ps ahd fp (treeR ps ahd ord.tail f up) := by
  intro f
  induction f with
  | zero => intro up _ _ h; omega
  | succ f ih =>
    intro up hd hl hf
    have hp := pass_ok ho (ord.length - 1) 1 (up, false) (PSt.zero hd hl) (Nat.le_refl _) (by have := ho.pos; omega)
    rw [List.drop_one] at hp
    rw [treeR]
    by_cases hc : (passF ps ahd ord.tail (up, false)).2 = true
    · rw [if_pos hc]
      exact ih _ (hp.d.again ho) hp.low (by have := hp.lt hc; omega)
    · rw [if_neg hc]
      have hc' : (passF ps ahd ord.tail (up, false)).2 = false := by simpa using hc
      obtain ⟨k1, k2⟩ := hp.same hc'
      rw [k1]
      exact ⟨hd, hl, fun j hj h1 => k2 j hj h1 hj⟩
end
/-- The tree at rest, its root not yet cut. -/
def restF (bs : List DBlock) : Nat → Int := treeR (psF bs) (ahdF bs) (ordN bs).tail (muF bs.length (psF bs) up0 + 1) up0
theorem rest_ok {bs : List DBlock} (h : ToOk bs) : Rest bs.length (ordN bs) (psF bs) (ahdF bs) (fpF bs) (restF bs) :=
  treeR_rest (post_rpo h) _ _ (DSt.start (post_rpo h) (psF_zero h)) (fun x => by unfold up0; split <;> omega) (Nat.lt_succ_self _)
/-- The tree as it is told. -/
def treeF (bs : List DBlock) : List Int := (List.range bs.length).map (updF (restF bs) 0 (-1))
theorem treeF_len (bs : List DBlock) : (treeF bs).length = bs.length := by unfold treeF; simp
theorem treeF_at {bs : List DBlock} {k : Nat} (hk : k < bs.length) : (treeF bs).getD k 0 = if k = 0 then -1 else restF bs k := by
  unfold treeF
  rw [List.getD_eq_getElem?_getD, List.getElem?_map, List.getElem?_range hk]
  rfl
theorem treeF_up {bs : List DBlock} (h : ToOk bs) : TreeUp (treeF bs) (psF bs) := by
  have hr := rest_ok h
  refine ⟨fun k hk => ?_⟩
  rw [treeF_len] at hk ⊢
  rw [treeF_at hk]
  by_cases h0 : k = 0
  · rw [if_pos h0]; exact .inl rfl
  · rw [if_neg h0]
    by_cases hn : restF bs k < 0
    · have := hr.low k; exact .inl (by omega)
    · refine .inr ⟨(restF bs k).toNat, by omega, ?_, ?_⟩
      · exact hr.d.tree.lt _ (hr.d.tree.next k (by omega))
      · exact hr.d.tree.less k (by omega) h0

end Go.Proofs.YtnkogppgacappaaDoor

namespace Go.Proofs.YtnkogppgacappaaDoor
open Go.RowKit

def VOk (regs : Int) (v : DVal) : Prop := v.reg = true → 0 ≤ v.n ∧ v.n < regs
theorem valE_ok {regs : Int} {v : DVal} (h : valE regs v = 0) : VOk regs v := by
  intro hr
  unfold valE at h
  by_cases h1 : v.reg = true ∧ ¬ (0 ≤ v.n ∧ v.n ≤ regs - 1)
  · rw [if_pos h1] at h; omega
  · have h2 : ¬ ¬ (0 ≤ v.n ∧ v.n ≤ regs - 1) := fun h3 => h1 ⟨hr, h3⟩
    omega
theorem dstE_ok {regs n : Int} (h : dstE regs n = 0) : 0 ≤ n ∧ n < regs := by
  unfold dstE at h
  by_cases h1 : ¬ (0 ≤ n ∧ n ≤ regs - 1)
  · rw [if_pos h1] at h; omega
  · omega
/-- What an instruction of a checked function is. -/
structure InsOk (regs : Int) (x : DIns) : Prop where
  op : 1 ≤ x.op ∧ x.op ≤ 22
  dst : -1 ≤ x.dst ∧ x.dst < regs
  low : x.op ≤ 18 → 0 ≤ x.dst
  a : VOk regs x.a
  b : VOk regs x.b
  offA : shpA x.op = false → x.a = ⟨false, 0⟩
  offB : shpB x.op = false → x.b = ⟨false, 0⟩
  args : ∀ v ∈ x.args, VOk regs v
theorem insE_ok {fs : List DFunc} {regs : Int} {x : DIns} (hr : 0 ≤ regs) (h : insE fs regs x = 0) : InsOk regs x := by
  unfold insE at h
  by_cases h1 : ¬ (1 ≤ x.op ∧ x.op ≤ 22)
  · rw [if_pos h1] at h; omega
  rw [if_neg h1] at h
  by_cases h2 : formBad x = true
  · rw [if_pos h2] at h; omega
  rw [if_neg h2] at h
  by_cases h3 : (shpD x.op = true ∧ ¬ (x.op = 20 ∧ x.dst = -1)) ∧ dstE regs x.dst ≠ 0
  · rw [if_pos h3] at h; omega
  rw [if_neg h3] at h
  have hf : firstE (valE regs x.a) (valE regs x.b) (callE fs regs x) = 0 → valE regs x.a = 0 ∧ valE regs x.b = 0 ∧ callE fs regs x = 0 := by
    unfold firstE
    by_cases a1 : valE regs x.a ≠ 0
    · rw [if_pos a1]; exact fun h => absurd h a1
    rw [if_neg a1]
    by_cases a2 : valE regs x.b ≠ 0
    · rw [if_pos a2]; exact fun h => absurd h a2
    rw [if_neg a2]
    exact fun h => ⟨by omega, by omega, h⟩
  obtain ⟨h4, h5, h6⟩ := hf h
  unfold formBad at h2
  simp only [Bool.or_eq_true, Bool.and_eq_true, Bool.not_eq_true', decide_eq_true_eq, not_or, not_and] at h2
  obtain ⟨⟨⟨g1, g2⟩, g3⟩, g4⟩ := h2
  have hdst : -1 ≤ x.dst ∧ x.dst < regs ∧ (x.op ≤ 18 → 0 ≤ x.dst) := by
    cases hD : shpD x.op with
    | false =>
      have := g1 hD
      refine ⟨by omega, by omega, fun h18 => ?_⟩
      unfold shpD at hD
      simp only [Bool.or_eq_false_iff, decide_eq_false_iff_not] at hD
      omega
    | true =>
      by_cases h7 : x.op = 20 ∧ x.dst = -1
      · exact ⟨by omega, by omega, fun h => by omega⟩
      · have h8 : dstE regs x.dst = 0 := by
          by_cases h9 : dstE regs x.dst = 0
          · exact h9
          · exact absurd ⟨⟨hD, h7⟩, h9⟩ h3
        have := dstE_ok h8
        exact ⟨by omega, by omega, fun _ => this.1⟩
  refine ⟨by omega, ⟨hdst.1, hdst.2.1⟩, hdst.2.2, valE_ok h4, valE_ok h5, fun h => by have := g2 h; exact Classical.not_not.1 this, fun h => by have := g3 h; exact Classical.not_not.1 this, fun v hv => ?_⟩
  by_cases hop : x.op = 20
  · unfold callE at h6
    rw [if_neg (by simpa using hop)] at h6
    by_cases b1 : ¬ (0 ≤ x.fn ∧ x.fn ≤ (fs.length : Int) - 1)
    · rw [if_pos b1] at h6; omega
    rw [if_neg b1] at h6
    by_cases b2 : (x.args.length : Int) ≠ (fs.getD x.fn.toNat ⟨ByteArray.empty, 0, 0, []⟩).params
    · rw [if_pos b2] at h6; omega
    rw [if_neg b2] at h6
    exact valE_ok (argsE_iff.1 h6 v hv)
  · have := (g4 hop).2
    have : x.args.length = 0 := by omega
    rw [List.length_eq_zero_iff.1 this] at hv
    cases hv
/-- What a function of a checked unit is. -/
structure FnOk (f : DFunc) : Prop where
  len : 1 ≤ f.blocks.length ∧ f.blocks.length ≤ 40
  pr : 0 ≤ f.params ∧ f.params ≤ 6 ∧ f.params ≤ f.regs ∧ f.regs ≤ 100
  many : ∀ x ∈ f.blocks, x.phis.length ≤ 300 ∧ x.list.length ≤ 300
  tgt : ∀ (k : Nat) (x : DBlock), f.blocks[k]? = some x → x.fin.to.length ≤ 2 ∧ ∀ t ∈ x.fin.to, 0 ≤ t ∧ t < (f.blocks.length : Int)
  kind : ∀ (k : Nat) (x : DBlock), f.blocks[k]? = some x → 1 ≤ x.fin.kind ∧ x.fin.kind ≤ 3 ∧ (x.fin.to.length : Int) = x.fin.kind - 1 ∧ (∀ t ∈ x.fin.to, 1 ≤ t) ∧ ¬ (x.fin.kind = 3 ∧ x.fin.to.getD 0 0 = x.fin.to.getD 1 0)
  on : ∀ (k : Nat) (x : DBlock), f.blocks[k]? = some x → VOk f.regs x.fin.on
  phi : ∀ (k : Nat) (x : DBlock), f.blocks[k]? = some x → ∀ p ∈ x.phis, (0 ≤ p.dst ∧ p.dst < f.regs) ∧ p.src.length = (predsOf f.blocks 0 k).length ∧ ∀ v ∈ p.src, VOk f.regs v
  phi0 : ∀ (k : Nat) (x : DBlock), f.blocks[k]? = some x → ∀ p ∈ x.phis, k ≠ 0
  ins : ∀ (k : Nat) (x : DBlock), f.blocks[k]? = some x → ∀ y ∈ x.list, InsOk f.regs y
  args : ∀ (k : Nat) (x : DBlock), f.blocks[k]? = some x → ∀ y ∈ x.list, y.args.length ≤ 1048576
theorem fnOk {u : DUnit} (h : checkF u = (0, 0)) {k : Nat} {f : DFunc} (hf : u.funcs[k]? = some f) : FnOk f := by
  obtain ⟨hh, hb⟩ := checkF_at h hf
  obtain ⟨-, -, p1, p2, p3, p4, l1, l2, hm⟩ := headE_ok hh
  obtain ⟨e1, e2⟩ := bodyE_zero.1 hb
  have hsm := (checkF_small h).2 f (List.mem_of_getElem? hf)
  have he : ∀ (k : Nat) (x : DBlock), f.blocks[k]? = some x → endE f.blocks.length f.regs x.fin = 0 := fun k x hx => by
    have := e1 k (List.getElem?_eq_some_iff.1 hx).1
    unfold endsE at this
    rw [hx] at this
    exact this
  have hbk : ∀ (k : Nat) (x : DBlock), f.blocks[k]? = some x → (∀ p ∈ x.phis, phiE f.regs k (aheadF f.blocks) p = 0) ∧ ∀ y ∈ x.list, insE u.funcs f.regs y = 0 := fun k x hx =>
    (blockE_zero hx).1 (e2 k (List.getElem?_eq_some_iff.1 hx).1)
  refine ⟨⟨l1, l2⟩, ⟨p1, p2, p3, p4⟩, fun x hx => by have := manyOf_mem hx; omega, fun k x hx => ?_, fun k x hx => ?_, fun k x hx => ?_, fun k x hx p hp => ?_, fun k x hx p hp => ?_, fun k x hx y hy => ?_, fun k x hx y hy => ?_⟩
  · have := endE_ok (he k x hx)
    refine ⟨by omega, fun t ht => ?_⟩
    have := this.2.2.2.1 t ht
    omega
  · obtain ⟨a1, a2, a3, a4, a5, -⟩ := endE_ok (he k x hx)
    exact ⟨a1, a2, a3, fun t ht => (a4 t ht).1, a5⟩
  · exact valE_ok (endE_ok (he k x hx)).2.2.2.2.2
  · obtain ⟨-, a2, a3, a4⟩ := phiE_iff.1 ((hbk k x hx).1 p hp)
    rw [aheadF_getD (List.getElem?_eq_some_iff.1 hx).1] at a3
    exact ⟨dstE_ok a2, a3, fun v hv => valE_ok (argsE_iff.1 a4 v hv)⟩
  · exact (phiE_iff.1 ((hbk k x hx).1 p hp)).1
  · exact insE_ok (by omega) ((hbk k x hx).2 y hy)
  · rcases insE_args ((hbk k x hx).2 y hy) with h4 | ⟨g, hg, h4⟩
    · omega
    · obtain ⟨i, hi, rfl⟩ := List.getElem_of_mem hg
      have := (headE_ok (checkF_at h (List.getElem?_eq_getElem hi)).1).2.2.2.1
      omega
theorem FnOk.toOk {f : DFunc} (h : FnOk f) : ToOk f.blocks := ⟨h.len.1, h.tgt⟩

end Go.Proofs.YtnkogppgacappaaDoor
