/- In static single assignment no bit of a register that is written is known to be both. No program in sight. Rows of 64 codes: known bits as the document writes them; the rounds of a table, step by step. No program in sight. -/
import Derived.Test.YtaehkcnankijfaaDoorPBits1
namespace Go.Proofs.YtaehkcnankijfaaDoor

theorem makes_apart {op : Int} {a b : Kn} (ha : op ≤ 17 → a.Apart) (hb : op ≤ 17 → loneB op = false → b.Apart) : (makesF op a b).Apart := by
  rcases makes_fit (op := op) (a := a) (b := b) with h | h
  · by_cases q : 17 < op
    · unfold makesF; rw [if_pos q]; exact Kn.none_apart
    · have hc : ¬ (a.both || (!loneB op && b.both)) = true := by
        simp only [Bool.or_eq_true, Bool.and_eq_true, not_or, not_and, Bool.not_eq_true]
        refine ⟨Kn.both_apart.2 (ha (by omega)), fun hl => Kn.both_apart.2 (hb (by omega) ?_)⟩
        cases hx : loneB op with
        | false => rfl
        | true => rw [hx] at hl; cases hl
      exfalso
      have h2 := Kn.both_top
      rw [← h] at h2
      have h3 : (makesF op a b).both = false := by
        refine Kn.both_apart.2 ?_
        have := makeIn_fit hc
        unfold makesF
        rw [if_neg q, if_neg hc]
        exact this
      rw [h3] at h2; cases h2
  · exact h

/- A path from the first block. -/
def Path (bs : List DBlock) : List Nat → Nat → Prop
  | [], b => b = 0
  | p :: r, b => (b : Int) ∈ tosOf bs p ∧ Path bs r p
theorem path_lt {bs : List DBlock} (h : ToOk bs) : ∀ (r : List Nat) (b : Nat), Path bs r b → b < bs.length
  | [], b, hp => by have := h.pos; rw [show b = 0 from hp]; exact this
  | p :: r, b, hp => by
    have ht := hp.1
    unfold tosOf at ht
    cases e : bs[p]? with
    | none => rw [e] at ht; cases ht
    | some x => rw [e] at ht; have := ((h.tgt p x e).2 _ ht).2; omega
theorem path_to {bs : List DBlock} (h : ToOk bs) : ∀ (j : Nat) (hj : j < (ordN bs).length), ∃ r, Path bs r (ordN bs)[j] := by
  intro j
  induction j using Nat.strongRecOn with
  | _ j ih =>
    intro hj
    rcases Nat.eq_zero_or_pos j with rfl | h1
    · exact ⟨[], (ordN_head h).2 hj⟩
    · obtain ⟨y, hy, j', h2, h3, h4⟩ := ord_led h hj h1
      obtain ⟨r, hr⟩ := ih j' h3 h2
      rw [h4] at hr
      refine ⟨y :: r, ?_, hr⟩
      unfold ahdF at hy
      obtain ⟨z, hz, rfl⟩ := List.mem_map.1 hy
      obtain ⟨i, x, e1, e2, rfl⟩ := predsOf_inv hz
      simp only [Nat.zero_add, Int.toNat_natCast]
      unfold tosOf
      rw [e1]; exact e2
theorem tos_ahd {bs : List DBlock} {p b : Nat} (h : (b : Int) ∈ tosOf bs p) : p ∈ ahdF bs b ∧ (p : Int) ∈ predsOf bs 0 b := by
  unfold tosOf at h
  cases e : bs[p]? with
  | none => rw [e] at h; cases h
  | some x =>
    rw [e] at h
    have := predsOf_has (s := 0) e h
    rw [Nat.zero_add] at this
    exact ⟨List.mem_map.2 ⟨_, this, by simp⟩, this⟩
theorem path_ord {bs : List DBlock} (h : ToOk bs) (hall : bs.length ≤ (postF bs).length) {b : Nat} (hb : b < bs.length) : b ∈ ordN bs := by
  have hn : (ordN bs).Nodup := nodup_of fun i j hi hj e => ordN_inj h hi hj e
  have hl := ordN_len bs
  rcases Classical.em (b ∈ ordN bs) with hm | hm
  · exact hm
  · exfalso
    have h1 : (b :: ordN bs).Nodup := List.nodup_cons.2 ⟨hm, hn⟩
    have h2 := nodup_len (n := bs.length) _ h1 (fun x hx => by
      rcases List.mem_cons.1 hx with rfl | hx
      · exact hb
      · exact ordN_lt h hx)
    rw [List.length_cons] at h2
    omega

section
variable {n : Nat} {ord : List Nat} {ps : Nat → Nat} {ahd : Nat → List Nat} {fp : Nat → Nat} {up : Nat → Int}
theorem Rest.pos (ho : Rpo n ord ps ahd fp) (h : Rest n ord ps ahd fp up) : ∀ (j : Nat) (hj : j < ord.length), 0 ≤ up ord[j] := by
  intro j
  induction j using Nat.strongRecOn with
  | _ j ih =>
    intro hj
    rcases Nat.eq_zero_or_pos j with rfl | h1
    · rw [ho.head hj, h.d.tree.zero]; exact Int.le_refl _
    · obtain ⟨h2, j', h3, h4, h5⟩ := ho.fore j hj h1
      have h6 := ih j' h4 h3
      rw [h.fix j hj h1]
      exact (bestF_spec h.d.tree (ahd ord[j]) (-1) (fun h => by omega) (.inr ⟨_, h2, by rw [← h5]; exact h6⟩)).1
/-- Who rules a block rules all that lead to it. -/
theorem Rest.ahead (ho : Rpo n ord ps ahd fp) (h : Rest n ord ps ahd fp up) {b v p : Nat} (hb : b ∈ ord) (hp : p ∈ ord) (hpb : p ∈ ahd b) (hv : Anc up b v) (hne : v ≠ b) : Anc up p v := by
  obtain ⟨h0, h1⟩ := hv.above hne
  obtain ⟨j, hj, rfl⟩ := List.getElem_of_mem hb
  obtain ⟨i, hi, rfl⟩ := List.getElem_of_mem hp
  have hj1 : 1 ≤ j := by
    rcases Nat.eq_zero_or_pos j with rfl | h
    · exact absurd (ho.head hj) h0
    · exact h
  obtain ⟨h2, -, -⟩ := ho.fore j hj hj1
  have hpi := h.pos ho i hi
  rw [h.fix j hj hj1] at h1
  exact (((bestF_spec h.d.tree (ahd ord[j]) (-1) (fun h => by omega) (.inr ⟨_, hpb, hpi⟩)).2.2 v).1 h1).2 _ hpb hpi
end

theorem rules_anc {bs : List DBlock} {a : Nat} : ∀ (f b : Nat), b < bs.length → rulesF (treeF bs) (a : Int) f (b : Int) = true → (∀ k, k < bs.length → restF bs k < 0 ∨ (restF bs k).toNat < bs.length) → Anc (restF bs) b a := by
  intro f
  induction f with
  | zero =>
    intro b hb h _
    unfold rulesF at h
    have : a = b := by have := of_decide_eq_true h; omega
    rw [this]; exact .refl _
  | succ f ih =>
    intro b hb h hlt
    rw [rulesF] at h
    by_cases hab : (b : Int) = (a : Int)
    · have : b = a := by omega
      rw [this]; exact .refl _
    · rw [if_neg (by omega), Int.toNat_natCast, treeF_at hb] at h
      have hneg : ∀ x : Int, x < 0 → rulesF (treeF bs) (a : Int) f x = false := fun x hx => by
        cases f with
        | zero => unfold rulesF; exact decide_eq_false (by omega)
        | succ f => rw [rulesF, if_pos (.inl hx)]; exact decide_eq_false (by omega)
      by_cases h0 : b = 0
      · rw [if_pos h0, hneg _ (by omega)] at h; cases h
      · rw [if_neg h0] at h
        rcases hlt b hb with h1 | h1
        · rw [hneg _ h1] at h; cases h
        · by_cases h2 : restF bs b < 0
          · rw [hneg _ h2] at h; cases h
          · refine .step h0 (ih _ h1 ?_ hlt)
            rw [Int.toNat_of_nonneg (by omega)]
            exact h
/-- Who rules the end of a path lies on it. -/
theorem anc_path {bs : List DBlock} (h : ToOk bs) (hall : bs.length ≤ (postF bs).length) {v : Nat} : ∀ (r : List Nat) (b : Nat), Path bs r b → Anc (restF bs) b v → v = b ∨ v ∈ r := by
  intro r
  induction r with
  | nil =>
    intro b hp ha
    cases ha with
    | refl => exact .inl rfl
    | step h0 _ => exact absurd hp h0
  | cons p r ih =>
    intro b hp ha
    by_cases hv : v = b
    · exact .inl hv
    · have hb := path_ord h hall (path_lt h (p :: r) b hp)
      have hpo := path_ord h hall (path_lt h r p hp.2)
      have h2 := (rest_ok h).ahead (post_rpo h) hb hpo (tos_ahd hp.1).1 ha hv
      rcases ih p hp.2 h2 with h3 | h3
      · exact .inr (by rw [h3]; exact List.mem_cons_self ..)
      · exact .inr (List.mem_cons_of_mem _ h3)

/- What the table of places says. -/
/-- The place (b, a) is one where the register is written. -/
def WrAt (f : DFunc) (r : Nat) (b a : Int) : Prop :=
  (b = 0 ∧ a = -1 ∧ (r : Int) < f.params) ∨ ∃ (k : Nat) (x : DBlock), f.blocks[k]? = some x ∧ b = (k : Int) ∧ ((a = -1 ∧ ∃ p ∈ x.phis, p.dst = (r : Int)) ∨ ∃ (j : Nat) (y : DIns), x.list[j]? = some y ∧ a = (j : Int) ∧ y.dst = (r : Int))
def Sound (f : DFunc) (s : WSt) : Prop := ∀ r : Nat, 0 ≤ (s.1.getD r (-1, -1)).1 → WrAt f r (s.1.getD r (-1, -1)).1 (s.1.getD r (-1, -1)).2
theorem Sound.wr {f : DFunc} {s : WSt} (h : Sound f s) {r b a : Int} (_hr : 0 ≤ r) (hw : WrAt f r.toNat b a) : Sound f (wrF s r b a) := by
  unfold wrF
  by_cases hc : 0 ≤ (s.1.getD r.toNat (-1, -1)).1
  · rw [if_pos hc]; exact h
  · rw [if_neg hc]
    intro q hq
    dsimp only at hq ⊢
    rw [List.getD_eq_getElem?_getD, List.getElem?_set] at hq ⊢
    by_cases hqr : r.toNat = q
    · subst hqr
      rw [if_pos rfl] at hq ⊢
      by_cases hl : r.toNat < s.1.length
      · rw [if_pos hl]; exact hw
      · rw [if_neg hl] at hq; exact absurd hq (by decide)
    · rw [if_neg hqr] at hq ⊢
      rw [← List.getD_eq_getElem?_getD] at hq ⊢
      exact h q hq
theorem Sound.pars {f : DFunc} {s : WSt} (h : Sound f s) : ∀ k : Nat, (k : Int) ≤ f.params → Sound f (wrPars k s) := by
  intro k
  induction k with
  | zero => exact fun _ => h
  | succ k ih =>
    intro hk
    exact (ih (by omega)).wr (by omega) (.inl ⟨rfl, rfl, by rw [Int.toNat_natCast]; omega⟩)
theorem Sound.block {f : DFunc} (hf : FnOk f) {s : WSt} (h : Sound f s) {k : Nat} {x : DBlock} (hx : f.blocks[k]? = some x) : Sound f (wrBlock k x s) := by
  have hp : ∀ i, i ≤ x.phis.length → Sound f (wrPhis k x.phis i s) := by
    intro i
    induction i with
    | zero => exact fun _ => h
    | succ i ih =>
      intro hi
      have hm : x.phis.getD i noPhi ∈ x.phis := by
        rw [List.getD_eq_getElem?_getD, List.getElem?_eq_getElem (by omega)]
        exact List.getElem_mem _
      have hd := (hf.phi k x hx _ hm).1
      exact (ih (by omega)).wr hd.1 (.inr ⟨k, x, hx, rfl, .inl ⟨rfl, _, hm, by omega⟩⟩)
  have hl : ∀ j, j ≤ x.list.length → Sound f (wrList k x.list j (wrPhis k x.phis x.phis.length s)) := by
    intro j
    induction j with
    | zero => exact fun _ => hp _ (Nat.le_refl _)
    | succ j ih =>
      intro hj
      have he : x.list[j]? = some (x.list.getD j noIns) := by
        rw [List.getD_eq_getElem?_getD, List.getElem?_eq_getElem (by omega)]; rfl
      rw [wrList, wrOne]
      by_cases hd : (x.list.getD j noIns).dst < 0
      · rw [if_pos hd]; exact ih (by omega)
      · rw [if_neg hd]
        exact (ih (by omega)).wr (by omega) (.inr ⟨k, x, hx, rfl, .inr ⟨j, _, he, rfl, by omega⟩⟩)
  exact hl _ (Nat.le_refl _)
theorem writes_sound {f : DFunc} (hf : FnOk f) : Sound f (writesF f) := by
  have h0 : Sound f (List.replicate f.regs.toNat (-1, -1), true) := fun r hr => by
    exfalso
    dsimp only at hr
    rw [List.getD_eq_getElem?_getD, List.getElem?_replicate] at hr
    split at hr <;> exact absurd hr (by decide)
  have h1 := h0.pars f.params.toNat (by have := hf.pr; omega)
  have hk : ∀ k, k ≤ f.blocks.length → Sound f (wrBlocks f.blocks k (wrPars f.params.toNat (List.replicate f.regs.toNat (-1, -1), true))) := by
    intro k
    induction k with
    | zero => exact fun _ => h1
    | succ k ih =>
      intro hk
      have he : f.blocks[k]? = some (f.blocks.getD k noBlock) := by
        rw [List.getD_eq_getElem?_getD, List.getElem?_eq_getElem (by omega)]; rfl
      exact (ih (by omega)).block hf he
  exact hk _ (Nat.le_refl _)

/-- All that a block writes is apart. -/
def BlkApart (s : Tb) (x : DBlock) : Prop := (∀ y ∈ x.list, 0 ≤ y.dst → (tbAt s y.dst.toNat).Apart) ∧ ∀ p ∈ x.phis, (tbAt s p.dst.toNat).Apart
theorem ssa_apart {f : DFunc} (hf : FnOk f) (hs : ssaOf f = 0) : ∀ (k : Nat) (x : DBlock), f.blocks[k]? = some x → BlkApart (tableF f) x := by
  have ht := hf.toOk
  unfold ssaOf at hs
  by_cases c1 : (postF f.blocks).length < f.blocks.length
  · rw [if_pos c1] at hs; omega
  rw [if_neg c1] at hs
  by_cases c2 : (writesF f).2 = false
  · rw [if_pos c2] at hs; omega
  rw [if_neg c2] at hs
  by_cases c3 : usesF f (writesF f).1 = false
  · rw [if_pos c3] at hs; omega
  have c3 : usesF f (writesF f).1 = true := by simpa using c3
  have hall : f.blocks.length ≤ (postF f.blocks).length := by omega
  clear hs c1 c2
  have hso := writes_sound hf
  obtain ⟨T, hT⟩ : ∃ T, T = (writesF f).1 := ⟨_, rfl⟩
  have hso : ∀ r : Nat, 0 ≤ (T.getD r (-1, -1)).1 → WrAt f r (T.getD r (-1, -1)).1 (T.getD r (-1, -1)).2 := by rw [hT]; exact hso
  rw [← hT] at c3
  obtain ⟨t1, -, t3⟩ := table_ok hf
  obtain ⟨s, hsS⟩ : ∃ s, s = tableF f := ⟨_, rfl⟩
  rw [← hsS] at t1 t3 ⊢
  have hpar : ∀ r : Nat, (r : Int) < f.params → (tbAt s r).Apart := fun r hr => by
    have := hf.pr
    have h1 := t1.2 r
    rw [tb0_at (by omega), if_pos hr] at h1
    exact Kn.Apart.of_le h1 Kn.none_apart
  -- what uses says
  have huse : ∀ (k : Nat) (x : DBlock), f.blocks[k]? = some x → useBlock f.blocks T k x = true := fun k x hx => by
    have hk := (List.getElem?_eq_some_iff.1 hx).1
    have := List.all_eq_true.1 c3 k (List.mem_range.2 hk)
    rw [List.getD_eq_getElem?_getD, hx] at this
    exact this
  have hrl : ∀ k, k < f.blocks.length → restF f.blocks k < 0 ∨ (restF f.blocks k).toNat < f.blocks.length := fun k _ => by
    by_cases h0 : restF f.blocks k < 0
    · exact .inl h0
    · have hr := rest_ok ht
      exact .inr (hr.d.tree.lt _ (hr.d.tree.next k (by omega)))
  -- a value that is known at a place on a path
  have hval : ∀ (v : DVal) (r : List Nat) (b : Nat) (x : DBlock) (at_ : Int), Path f.blocks r b → f.blocks[b]? = some x → VOk f.regs v →
      (∀ c ∈ r, ∀ z, f.blocks[c]? = some z → BlkApart s z) → (∀ p ∈ x.phis, (tbAt s p.dst.toNat).Apart) → (∀ (j : Nat) (y : DIns), (j : Int) < at_ → x.list[j]? = some y → 0 ≤ y.dst → (tbAt s y.dst.toNat).Apart) →
      knownV f.blocks T v (b : Int) at_ = true → (valK s v).Apart := by
    intro v r b x at_ hp hx hv hr hph hli hk
    unfold valK
    by_cases hreg : v.reg = true
    · rw [if_pos hreg]
      obtain ⟨q, hq⟩ : ∃ q : Nat, v.n = (q : Int) := Int.eq_ofNat_of_zero_le (hv hreg).1
      unfold knownV knownF at hk
      rw [if_neg (by simp [hreg]), hq, Int.toNat_natCast] at hk
      rw [hq, Int.toNat_natCast]
      by_cases hw : (T.getD q (-1, -1)).1 < 0
      · rw [if_pos hw] at hk; cases hk
      rw [if_neg hw] at hk
      have hat := hso q (by omega)
      obtain ⟨B, hB⟩ : ∃ B, B = (T.getD q (-1, -1)).1 := ⟨_, rfl⟩
      obtain ⟨A, hA⟩ : ∃ A, A = (T.getD q (-1, -1)).2 := ⟨_, rfl⟩
      rw [← hB] at hk hat hw
      rw [← hA] at hk hat
      rcases hat with ⟨-, -, h3⟩ | ⟨c, z, hz, e1, h2⟩
      · exact hpar q h3
      · subst e1
        by_cases hcb : (c : Int) = (b : Int)
        · rw [if_pos hcb] at hk
          have hcb' : c = b := by omega
          subst hcb'
          rw [hx] at hz
          cases hz
          rcases h2 with ⟨-, p, hpm, hd⟩ | ⟨j, y, hy, e2, hd⟩
          · have := hph p hpm
            rw [hd, Int.toNat_natCast] at this
            exact this
          · have := hli j y (by have := of_decide_eq_true hk; omega) hy (by omega)
            rw [hd, Int.toNat_natCast] at this
            exact this
        · rw [if_neg hcb] at hk
          have hb := (List.getElem?_eq_some_iff.1 hx).1
          have h4 := anc_path ht hall r b hp (rules_anc _ b hb hk hrl)
          rcases h4 with h4 | h4
          · exact absurd (by rw [h4]) hcb
          · have h5 := hr c h4 z hz
            rcases h2 with ⟨-, p, hpm, hd⟩ | ⟨j, y, hy, e2, hd⟩
            · have := h5.2 p hpm
              rw [hd, Int.toNat_natCast] at this
              exact this
            · have := h5.1 y (List.mem_of_getElem? hy) (by omega)
              rw [hd, Int.toNat_natCast] at this
              exact this
    · rw [if_neg hreg]; exact Kn.num_apart _
  -- within a block
  have hblock : ∀ (r : List Nat) (b : Nat), Path f.blocks r b → ∀ x, f.blocks[b]? = some x → (∀ c ∈ r, ∀ z, f.blocks[c]? = some z → BlkApart s z) → (∀ p ∈ x.phis, (tbAt s p.dst.toNat).Apart) → BlkApart s x := by
    intro r b hp x hx hr hph
    have hu := huse b x hx
    unfold useBlock at hu
    rw [Bool.and_eq_true, Bool.and_eq_true] at hu
    have hli := hu.2.1
    refine ⟨?_, hph⟩
    have hins : ∀ (j : Nat) (y : DIns), x.list[j]? = some y → 0 ≤ y.dst → (tbAt s y.dst.toNat).Apart := by
      intro j
      induction j using Nat.strongRecOn with
      | _ j ih =>
        intro y hy h0
        have hj := (List.getElem?_eq_some_iff.1 hy).1
        have hm := List.mem_of_getElem? hy
        have hi := hf.ins b x hx y hm
        have hk := List.all_eq_true.1 hli j (List.mem_range.2 hj)
        have e1 : x.list.getD j noIns = y := by rw [List.getD_eq_getElem?_getD, hy]; rfl
        rw [e1] at hk
        have hkn : ∀ v ∈ valsF y, knownV f.blocks T v (b : Int) (j : Int) = true := List.all_eq_true.1 hk
        have hv : ∀ v, VOk f.regs v → knownV f.blocks T v (b : Int) (j : Int) = true → (valK s v).Apart := fun v h1 h2 =>
          hval v r b x (j : Int) hp hx h1 hr hph (fun j' y' hlt hy' h0' => ih j' (by omega) y' hy' h0') h2
        refine Kn.Apart.of_le ((t3 x (List.mem_of_getElem? hx)).2 y hm h0) (makes_apart (fun hop => ?_) (fun hop hl => ?_))
        · refine hv _ hi.a (hkn _ ?_)
          have hA : shpA y.op = true := by unfold shpA; have := hi.op; simp; omega
          unfold valsF
          rw [if_pos hA]
          simp
        · refine hv _ hi.b (hkn _ ?_)
          have hB : shpB y.op = true := by
            unfold shpB
            unfold loneB at hl
            have := hi.op
            simp at hl ⊢
            omega
          unfold valsF
          rw [if_pos hB]
          simp
    intro y hy h0
    obtain ⟨j, hj⟩ := List.getElem?_of_mem hy
    exact hins j y hj h0
  -- along a path
  have hmain : ∀ (r : List Nat) (b : Nat), Path f.blocks r b → (∀ c ∈ r, ∀ z, f.blocks[c]? = some z → BlkApart s z) ∧ ∀ x, f.blocks[b]? = some x → BlkApart s x := by
    intro r
    induction r with
    | nil =>
      intro b hp
      have hb0 : b = 0 := hp
      refine ⟨fun c hc => (by cases hc), fun x hx => ?_⟩
      have hnp : x.phis = [] := by
        cases e : x.phis with
        | nil => rfl
        | cons p l => exact absurd hb0 (hf.phi0 b x hx p (by rw [e]; exact List.mem_cons_self ..))
      exact hblock [] b hp x hx (fun c hc => (by cases hc)) (fun p hp => (by rw [hnp] at hp; cases hp))
    | cons p r ih =>
      intro b hp
      obtain ⟨h1, h2⟩ := ih p hp.2
      have hr : ∀ c ∈ p :: r, ∀ z, f.blocks[c]? = some z → BlkApart s z := fun c hc z hz => by
        rcases List.mem_cons.1 hc with rfl | hc
        · exact h2 z hz
        · exact h1 c hc z hz
      refine ⟨hr, fun x hx => hblock (p :: r) b hp x hx hr fun q hq => ?_⟩
      obtain ⟨-, hlen, hsv⟩ := hf.phi b x hx q hq
      obtain ⟨-, hpm⟩ := tos_ahd hp.1
      obtain ⟨j, hj, hje⟩ := List.getElem_of_mem hpm
      have hjs : j < q.src.length := by omega
      obtain ⟨i, hi, rfl⟩ := List.getElem_of_mem hq
      have hpl : p < f.blocks.length := path_lt ht r p hp.2
      have hpx : f.blocks[p]? = some f.blocks[p] := List.getElem?_eq_getElem hpl
      have hu := huse b x hx
      unfold useBlock at hu
      rw [Bool.and_eq_true] at hu
      have hu1 := List.all_eq_true.1 hu.1 i (List.mem_range.2 hi)
      have e1 : x.phis.getD i noPhi = x.phis[i] := by rw [List.getD_eq_getElem?_getD, List.getElem?_eq_getElem hi]; rfl
      rw [e1] at hu1
      have hu2 := List.all_eq_true.1 hu1 j (List.mem_range.2 hjs)
      unfold phiKnown lenAt at hu2
      have e2 : (predsOf f.blocks 0 b).getD j 0 = (p : Int) := by rw [List.getD_eq_getElem?_getD, List.getElem?_eq_getElem hj, hje]; rfl
      have e3 : x.phis[i].src.getD j ⟨false, 0⟩ = x.phis[i].src[j] := by rw [List.getD_eq_getElem?_getD, List.getElem?_eq_getElem hjs]; rfl
      have e4 : f.blocks.getD p noBlock = f.blocks[p] := by rw [List.getD_eq_getElem?_getD, hpx]; rfl
      rw [e2, e3, Int.toNat_natCast, e4] at hu2
      have h3 := h2 _ hpx
      have hv := hval x.phis[i].src[j] r p f.blocks[p] _ hp.2 hpx (hsv _ (List.getElem_mem _)) h1 h3.2 (fun j y _ hy h0 => h3.1 y (List.mem_of_getElem? hy) h0) hu2
      exact Kn.Apart.of_le ((t3 x (List.mem_of_getElem? hx)).1 _ (List.getElem_mem hi) _ (List.getElem_mem hjs)) hv
  intro k x hx
  have hk := (List.getElem?_eq_some_iff.1 hx).1
  obtain ⟨j, hj, he⟩ := List.getElem_of_mem (path_ord ht hall hk)
  obtain ⟨r, hr⟩ := path_to ht j hj
  rw [he] at hr
  exact (hmain r k hr).2 x hx

end Go.Proofs.YtaehkcnankijfaaDoor

namespace Go.Proofs.YtaehkcnankijfaaDoor

/-- The code of one bit: 0, 1, open, or nothing yet. -/
def codeB (x y : Bool) : Int := if x then (if y then 3 else 0) else (if y then 1 else 2)
def codeF (k : Kn) (i : Nat) : Int := codeB (k.off.getLsbD i) (k.on.getLsbD i)
def meetC (a b : Int) : Int := if a = 3 then b else if b = 3 ∨ a = b then a else 2
theorem codeB_range (x y : Bool) : 0 ≤ codeB x y ∧ codeB x y ≤ 3 := by cases x <;> cases y <;> decide
theorem codeF_range (k : Kn) (i : Nat) : 0 ≤ codeF k i ∧ codeF k i ≤ 3 := codeB_range _ _
theorem meetC_code (k l : Kn) (i : Nat) : meetC (codeF k i) (codeF l i) = codeF (k.meet l) i := by
  unfold codeF Kn.meet
  rw [BitVec.getLsbD_and, BitVec.getLsbD_and]
  cases k.off.getLsbD i <;> cases k.on.getLsbD i <;> cases l.off.getLsbD i <;> cases l.on.getLsbD i <;> decide
theorem codeF_inj {k l : Kn} (h : ∀ i, i < 64 → codeF k i = codeF l i) : k = l := Kn.ext_bits fun i hi => by
  have := h i hi
  unfold codeF at this
  revert this
  cases k.off.getLsbD i <;> cases k.on.getLsbD i <;> cases l.off.getLsbD i <;> cases l.on.getLsbD i <;> decide
/-- Are two of the first n codes different? -/
def diffTo (k l : Kn) : Nat → Bool
  | 0 => false
  | n + 1 => diffTo k l n || decide (codeF k n ≠ codeF l n)
theorem diffTo_spec (k l : Kn) : ∀ n, diffTo k l n = false ↔ ∀ i, i < n → codeF k i = codeF l i
  | 0 => ⟨fun _ i hi => by omega, fun _ => rfl⟩
  | n + 1 => by
    rw [diffTo, Bool.or_eq_false_iff, diffTo_spec k l n, decide_eq_false_iff_not, Classical.not_not]
    constructor
    · intro h i hi
      rcases Nat.lt_or_ge i n with h1 | h1
      · exact h.1 i h1
      · rw [show i = n by omega]; exact h.2
    · exact fun h => ⟨fun i hi => h i (by omega), h n (by omega)⟩
theorem diff_all (k l : Kn) : diffTo k l 64 = decide (k ≠ l) := by
  cases h : diffTo k l 64 with
  | false =>
    have := codeF_inj ((diffTo_spec k l 64).1 h)
    rw [decide_eq_false (by rw [Classical.not_not]; exact this)]
  | true =>
    rw [decide_eq_true]
    intro e
    rw [(diffTo_spec k l 64).2 (fun i _ => by rw [e])] at h
    cases h

/- What the codes say of a thing of which no bit is both. -/
theorem Kn.Apart.at {k : Kn} (h : k.Apart) {i : Nat} (hi : i < 64) : (k.off.getLsbD i && k.on.getLsbD i) = false := by
  cases a : k.off.getLsbD i with
  | false => rfl
  | true =>
    cases b : k.on.getLsbD i with
    | false => rfl
    | true => exact (h i hi a b).elim
theorem code_le2 {k : Kn} (h : k.Apart) {i : Nat} (hi : i < 64) : codeF k i ≤ 2 := by
  have := h.at hi
  unfold codeF
  revert this
  cases k.off.getLsbD i <;> cases k.on.getLsbD i <;> decide
theorem code_one {k : Kn} (h : k.Apart) {i : Nat} (hi : i < 64) : codeF k i = 1 ↔ k.on.getLsbD i = true := by
  have := h.at hi
  unfold codeF
  revert this
  cases k.off.getLsbD i <;> cases k.on.getLsbD i <;> decide
theorem code_two {k : Kn} (h : k.Apart) {i : Nat} (hi : i < 64) : codeF k i < 2 ↔ (k.off.getLsbD i || k.on.getLsbD i) = true := by
  have := h.at hi
  unfold codeF
  revert this
  cases k.off.getLsbD i <;> cases k.on.getLsbD i <;> decide
theorem code_top (i : Nat) (hi : i < 64) : codeF Kn.top i = 3 := by
  unfold codeF Kn.top
  simp only [BitVec.getLsbD_allOnes, hi, decide_true]
  rfl
theorem code_none (i : Nat) : codeF Kn.none i = 2 := by
  unfold codeF Kn.none
  simp only [BitVec.getLsbD_zero]
  rfl
theorem code_off (k : Kn) (i : Nat) : (codeF k i = 0 ∨ codeF k i = 3) ↔ k.off.getLsbD i = true := by
  unfold codeF
  cases k.off.getLsbD i <;> cases k.on.getLsbD i <;> decide
theorem code_on (k : Kn) (i : Nat) : (codeF k i = 1 ∨ codeF k i = 3) ↔ k.on.getLsbD i = true := by
  unfold codeF
  cases k.off.getLsbD i <;> cases k.on.getLsbD i <;> decide

/-- One bit as a number. -/
def bitI (x : BitVec 64) (i : Nat) : Int := if x.getLsbD i then 1 else 0
theorem code_num (x : BitVec 64) {i : Nat} (hi : i < 64) : codeF (Kn.num x) i = bitI x i := by
  unfold codeF Kn.num bitI
  rw [BitVec.getLsbD_not]
  simp only [hi, decide_true, Bool.true_and]
  cases x.getLsbD i <;> rfl
/-- Of one bit of both. -/
def bitTwoF (op a b : Int) : Int :=
  if op = 7 then if a = 0 ∨ b = 0 then 0 else if a = 1 ∧ b = 1 then 1 else 2
  else if op = 8 then if a = 1 ∨ b = 1 then 1 else if a = 0 ∧ b = 0 then 0 else 2
  else if op = 9 then if a < 2 ∧ b < 2 then (if a = b then 0 else 1) else 2
  else 2
theorem two_and {a b : Kn} (ha : a.Apart) (hb : b.Apart) {i : Nat} (hi : i < 64) : bitTwoF 7 (codeF a i) (codeF b i) = codeF ⟨a.off ||| b.off, a.on &&& b.on⟩ i := by
  have h1 := ha.at hi
  have h2 := hb.at hi
  unfold codeF
  rw [BitVec.getLsbD_or, BitVec.getLsbD_and]
  revert h1 h2
  cases a.off.getLsbD i <;> cases a.on.getLsbD i <;> cases b.off.getLsbD i <;> cases b.on.getLsbD i <;> decide
theorem two_or {a b : Kn} (ha : a.Apart) (hb : b.Apart) {i : Nat} (hi : i < 64) : bitTwoF 8 (codeF a i) (codeF b i) = codeF ⟨a.off &&& b.off, a.on ||| b.on⟩ i := by
  have h1 := ha.at hi
  have h2 := hb.at hi
  unfold codeF
  rw [BitVec.getLsbD_or, BitVec.getLsbD_and]
  revert h1 h2
  cases a.off.getLsbD i <;> cases a.on.getLsbD i <;> cases b.off.getLsbD i <;> cases b.on.getLsbD i <;> decide
theorem two_xor {a b : Kn} (ha : a.Apart) (hb : b.Apart) {i : Nat} (hi : i < 64) : bitTwoF 9 (codeF a i) (codeF b i) = codeF ⟨(a.off &&& b.off) ||| (a.on &&& b.on), (a.off &&& b.on) ||| (a.on &&& b.off)⟩ i := by
  have h1 := ha.at hi
  have h2 := hb.at hi
  unfold codeF
  simp only [BitVec.getLsbD_or, BitVec.getLsbD_and]
  revert h1 h2
  cases a.off.getLsbD i <;> cases a.on.getLsbD i <;> cases b.off.getLsbD i <;> cases b.on.getLsbD i <;> decide
theorem two_not {a : Kn} (ha : a.Apart) {i : Nat} (hi : i < 64) : bitTwoF 9 (codeF a i) 1 = codeF ⟨a.on, a.off⟩ i := by
  have h1 := ha.at hi
  unfold codeF
  revert h1
  cases a.off.getLsbD i <;> cases a.on.getLsbD i <;> decide

/- Numbers, bit by bit. -/
theorem mask_none (x : BitVec 64) : x &&& maskF 0 = 0#64 := by
  refine BitVec.eq_of_getLsbD_eq fun i hi => ?_
  rw [BitVec.getLsbD_and, maskF_at _ _ hi]; simp
theorem mask_all (x : BitVec 64) : x &&& maskF 64 = x := by
  refine BitVec.eq_of_getLsbD_eq fun i hi => ?_
  rw [BitVec.getLsbD_and, maskF_at _ _ hi]; simp [hi]
/-- The j-th bit alone. -/
def oneB (j : Nat) : BitVec 64 := 1#64 <<< j
theorem oneB_at {i j : Nat} (hi : i < 64) : (oneB j).getLsbD i = decide (i = j) := by
  unfold oneB
  rw [BitVec.getLsbD_shiftLeft]
  by_cases h : i = j
  · subst h; simp [hi]
  · rw [decide_eq_false h]
    simp only [hi, decide_true, Bool.true_and, Bool.and_eq_false_iff, Bool.not_eq_false', decide_eq_true_eq]
    by_cases h2 : i < j
    · exact .inl h2
    · refine .inr ?_
      rw [BitVec.getLsbD_one]; simp; omega
theorem mask_yes {x : BitVec 64} {j : Nat} (h : x.getLsbD j = true) : x &&& maskF (j + 1) = (x &&& maskF j) ||| oneB j := by
  refine BitVec.eq_of_getLsbD_eq fun i hi => ?_
  rw [BitVec.getLsbD_or, BitVec.getLsbD_and, BitVec.getLsbD_and, maskF_at _ _ hi, maskF_at _ _ hi, oneB_at hi]
  by_cases e : i = j
  · subst e; simp [h]
  · rw [decide_eq_false e, Bool.or_false]
    congr 1
    rw [decide_eq_decide]; omega
theorem mask_no {x : BitVec 64} {j : Nat} (h : x.getLsbD j = false) : x &&& maskF (j + 1) = x &&& maskF j := by
  refine BitVec.eq_of_getLsbD_eq fun i hi => ?_
  rw [BitVec.getLsbD_and, BitVec.getLsbD_and, maskF_at _ _ hi, maskF_at _ _ hi]
  by_cases e : i = j
  · subst e; simp [h]
  · congr 1
    rw [decide_eq_decide]; omega

/-- All bits known, as the codes say it. -/
theorem sure_codes {k : Kn} (h : k.Apart) : sureB k = true ↔ ∀ i, i < 64 → codeF k i < 2 := by
  constructor
  · intro hs i hi
    rw [code_two h hi, sure_at hs hi]
    cases k.on.getLsbD i <;> rfl
  · intro hs
    unfold sureB
    rw [decide_eq_true_eq]
    refine BitVec.eq_of_getLsbD_eq fun i hi => ?_
    have h1 := (code_two h hi).1 (hs i hi)
    have h2 := h.at hi
    rw [BitVec.getLsbD_not]
    simp only [hi, decide_true, Bool.true_and]
    revert h1 h2
    cases k.off.getLsbD i <;> cases k.on.getLsbD i <;> decide
/-- The lowest bits that are known of both. -/
def lowM (a b : Kn) : Nat := min (knownTo a) (knownTo b)
theorem lowM_le (a b : Kn) : lowM a b ≤ 64 := by have := knownTo_le a; unfold lowM; omega
theorem lowM_lt {a b : Kn} (ha : a.Apart) (hb : b.Apart) {i : Nat} (h : i < lowM a b) : codeF a i < 2 ∧ codeF b i < 2 := by
  have h0 := knownTo_le a
  unfold lowM at h
  have h1 := knownTo_at (a := a) (i := i) (by omega)
  have h2 := knownTo_at (a := b) (i := i) (by omega)
  rw [code_two ha (by omega), code_two hb (by omega), Bool.or_eq_true, Bool.or_eq_true]
  exact ⟨h1, h2⟩
theorem lowM_end {a b : Kn} (ha : a.Apart) (hb : b.Apart) (h : lowM a b < 64) : ¬ (codeF a (lowM a b) < 2 ∧ codeF b (lowM a b) < 2) := by
  rw [code_two ha h, code_two hb h]
  unfold lowM at h ⊢
  rcases Nat.le_total (knownTo a) (knownTo b) with h1 | h1
  · rw [Nat.min_eq_left h1] at h ⊢
    have := knownTo_end h
    rw [this.1, this.2]; simp
  · rw [Nat.min_eq_right h1] at h ⊢
    have := knownTo_end h
    rw [this.1, this.2]; simp
theorem code_low (n : BitVec 64) (m : Nat) {i : Nat} (hi : i < 64) : codeF (lowF n m) i = if i < m then bitI n i else 2 := by
  unfold codeF lowF bitI
  simp only [BitVec.getLsbD_and, BitVec.getLsbD_not, maskF_at _ _ hi, hi, decide_true, Bool.true_and]
  by_cases h : i < m
  · rw [if_pos h, decide_eq_true h]
    cases n.getLsbD i <;> rfl
  · rw [if_neg h, decide_eq_false h]
    cases n.getLsbD i <;> rfl
theorem code_shr (a : Kn) (n : Nat) {i : Nat} (hi : i < 64) : codeF ⟨a.off.sshiftRight n, a.on.sshiftRight n⟩ i = codeF a (min (n + i) 63) := by
  unfold codeF
  rw [sshr_at _ _ _ hi, sshr_at _ _ _ hi]
theorem code_shl (a : Kn) (n : Nat) {i : Nat} (hi : i < 64) : codeF ⟨(a.off <<< n) ||| maskF n, a.on <<< n⟩ i = if i < n then 0 else codeF a (i - n) := by
  unfold codeF
  simp only [BitVec.getLsbD_or, BitVec.getLsbD_shiftLeft, maskF_at _ _ hi, hi, decide_true, Bool.true_and]
  by_cases h : i < n
  · rw [if_pos h, decide_eq_true h]; simp [codeB]
  · rw [if_neg h, decide_eq_false h]; simp
theorem code_cmp {i : Nat} (hi : i < 64) : codeF ⟨~~~1#64, 0#64⟩ i = if i = 0 then 2 else 0 := by
  unfold codeF
  rw [BitVec.getLsbD_zero, BitVec.getLsbD_not]
  by_cases h : i = 0
  · subst h; rfl
  · rw [if_neg h, BitVec.getLsbD_one]
    simp [hi, h, codeB]

/- The rounds of a table, step by step. -/
/-- Between two rounds: what is to come, and whether there is one more. -/
structure RndS (n : Nat) (l : List Upd) (FIN : Tb) (f : Nat) (more : Bool) (s : Tb) : Prop where
  len : s.length = n
  fit : FitT s
  go : more = true → iterU l f s = FIN ∧ wtT s < f
  stop : more = false → s = FIN
theorem RndS.start {n : Nat} {l : List Upd} {s : Tb} (hn : s.length = n) (hf : FitT s) : RndS n l (iterU l (wtT s + 1) s) (wtT s + 1) true s :=
  ⟨hn, hf, fun _ => ⟨rfl, Nat.lt_succ_self _⟩, fun h => by cases h⟩
theorem RndS.next {n : Nat} {l : List Upd} {FIN : Tb} {f : Nat} {s : Tb} (hu : UpdOk n l) (h : RndS n l FIN f true s) {t : Tb} {c : Bool} (e : passU l (s, false) = (t, c)) : f ≠ 0 ∧ RndS n l FIN (f - 1) c t := by
  obtain ⟨h1, h2⟩ := h.go rfl
  obtain ⟨g, rfl⟩ : ∃ g, f = g + 1 := ⟨f - 1, by omega⟩
  obtain ⟨k1, k2, -⟩ := pass_ok' hu h.len l (s, false) (fun u h => h) (PassSt.zero h.fit)
  rw [iterU] at h1
  rw [e] at h1 k1
  refine ⟨by omega, k1.le.1.trans h.len, k1.fit, fun hc => ?_, fun hc => ?_⟩
  · subst hc
    have := k1.lt rfl
    dsimp only at this
    exact ⟨by simpa using h1, by omega⟩
  · subst hc
    simpa using h1
/-- Within a round: what is still to be done of it. -/
structure InS (n : Nat) (l : List Upd) (s0 : Tb) (E : Tb × Bool) (rest : List Upd) (s : Tb) (c : Bool) : Prop where
  len : s.length = n
  st : PassSt l s0 (s, c)
  sub : ∀ u ∈ rest, u ∈ l
  fin : passU rest (s, c) = E
theorem InS.fit {n : Nat} {l : List Upd} {s0 : Tb} {E : Tb × Bool} {rest : List Upd} {s : Tb} {c : Bool} (h : InS n l s0 E rest s c) : FitT s := h.st.fit
theorem InS.start {n : Nat} {l : List Upd} {s0 : Tb} (hn : s0.length = n) (hf : FitT s0) : InS n l s0 (passU l (s0, false)) l s0 false := ⟨hn, PassSt.zero hf, fun _ h => h, rfl⟩
theorem InS.step {n : Nat} {l : List Upd} {s0 : Tb} {E : Tb × Bool} {u : Upd} {rest : List Upd} {s : Tb} {c : Bool} (hu : UpdOk n l) (hn : s0.length = n) (h : InS n l s0 E (u :: rest) s c) :
    InS n l s0 E rest (if (u.g s).meet (tbAt s u.d) ≠ tbAt s u.d then putF s u.d (u.g s) else s) (decide ((u.g s).meet (tbAt s u.d) ≠ tbAt s u.d) || c) := by
  have hm := h.sub u (List.mem_cons_self ..)
  have h1 := (upd_ok hu hn h.st hm).1
  have h2 := h.fin
  unfold passU at h2
  rw [List.foldl_cons] at h2
  unfold updS at h1 h2
  by_cases hc : (u.g s).meet (tbAt s u.d) ≠ tbAt s u.d
  · rw [if_pos hc] at h1 h2
    rw [if_pos hc, decide_eq_true hc]
    exact ⟨(putF_len _ _ _).trans h.len, h1, fun v hv => h.sub v (List.mem_cons_of_mem _ hv), h2⟩
  · rw [if_neg hc] at h1 h2
    rw [if_neg hc, decide_eq_false hc]
    exact ⟨h.len, h1, fun v hv => h.sub v (List.mem_cons_of_mem _ hv), h2⟩
theorem InS.done {n : Nat} {l : List Upd} {s0 : Tb} {E : Tb × Bool} {s : Tb} {c : Bool} (h : InS n l s0 E [] s c) : E = (s, c) := h.fin.symm
theorem putF_same {s : Tb} {d : Nat} {k : Kn} (h : k.meet (tbAt s d) = tbAt s d) (hd : d < s.length) : putF s d k = s := by
  rcases Classical.em (putF s d k = s) with h1 | h1
  · exact h1
  · exact absurd h ((put_changed hd).2 h1)
theorem InS.put {n : Nat} {l : List Upd} {s0 : Tb} {E : Tb × Bool} {u : Upd} {rest : List Upd} {s : Tb} {c : Bool} (hu : UpdOk n l) (hn : s0.length = n) (h : InS n l s0 E (u :: rest) s c) (hd : u.d < n) :
    InS n l s0 E rest (putF s u.d (u.g s)) (decide ((u.g s).meet (tbAt s u.d) ≠ tbAt s u.d) || c) := by
  have h1 := h.step hu hn
  by_cases hc : (u.g s).meet (tbAt s u.d) ≠ tbAt s u.d
  · rw [if_pos hc] at h1; exact h1
  · rw [if_neg hc] at h1
    rw [putF_same (Classical.not_not.1 hc) (by rw [h.len]; exact hd)]; exact h1

theorem drop_get {α : Type} {l : List α} {i : Nat} {x : α} (h : l[i]? = some x) : l.drop i = x :: l.drop (i + 1) := by
  obtain ⟨hi, he⟩ := List.getElem?_eq_some_iff.1 h
  rw [List.drop_eq_getElem_cons hi, he]
theorem insUs_yes {x : DIns} {l : List DIns} (h : 0 ≤ x.dst) : insUs (x :: l) = insU' x :: insUs l := by
  unfold insUs
  rw [List.filter_cons, if_pos (by simpa [wrote] using h)]; rfl
theorem insUs_no {x : DIns} {l : List DIns} (h : x.dst < 0) : insUs (x :: l) = insUs l := by
  unfold insUs
  rw [List.filter_cons, if_neg (by simp [wrote]; omega)]
/- What is left of a round, at each place. -/
def refRest (bs : List DBlock) (i : Nat) : List Upd := (bs.drop i).flatMap blockR
def progRest (bs : List DBlock) (i : Nat) : List Upd := (bs.drop i).flatMap blockU
theorem refRest_zero (bs : List DBlock) : refRest bs 0 = refU bs := rfl
theorem progRest_zero (bs : List DBlock) : progRest bs 0 = progU bs := rfl
theorem refRest_end (bs : List DBlock) : refRest bs bs.length = [] := by unfold refRest; rw [List.drop_length]; rfl
theorem progRest_end (bs : List DBlock) : progRest bs bs.length = [] := by unfold progRest; rw [List.drop_length]; rfl
def refPhi (x : DBlock) (R : List Upd) (p : Nat) : List Upd := (x.phis.drop p).flatMap phiR ++ (insUs x.list ++ R)
def progPhi (x : DBlock) (R : List Upd) (p : Nat) : List Upd := (x.phis.drop p).map phiU ++ (insUs x.list ++ R)
def refVals (p : DPhi) (R : List Upd) (j : Nat) : List Upd := (p.src.drop j).map (fromU p) ++ R
def insRest (x : DBlock) (R : List Upd) (j : Nat) : List Upd := insUs (x.list.drop j) ++ R
theorem refRest_at {bs : List DBlock} {i : Nat} {x : DBlock} (h : bs[i]? = some x) : refRest bs i = refPhi x (refRest bs (i + 1)) 0 := by
  unfold refRest refPhi
  rw [drop_get h, List.flatMap_cons, List.drop_zero]
  unfold blockR
  rw [List.append_assoc]
theorem progRest_at {bs : List DBlock} {i : Nat} {x : DBlock} (h : bs[i]? = some x) : progRest bs i = progPhi x (progRest bs (i + 1)) 0 := by
  unfold progRest progPhi
  rw [drop_get h, List.flatMap_cons, List.drop_zero]
  unfold blockU
  rw [List.append_assoc]
theorem refPhi_at {x : DBlock} {R : List Upd} {p : Nat} {y : DPhi} (h : x.phis[p]? = some y) : refPhi x R p = refVals y (refPhi x R (p + 1)) 0 := by
  unfold refPhi refVals
  rw [drop_get h, List.flatMap_cons, List.drop_zero]
  unfold phiR
  rw [List.append_assoc]
theorem progPhi_at {x : DBlock} {R : List Upd} {p : Nat} {y : DPhi} (h : x.phis[p]? = some y) : progPhi x R p = phiU y :: progPhi x R (p + 1) := by
  unfold progPhi
  rw [drop_get h, List.map_cons]; rfl
theorem refPhi_end (x : DBlock) (R : List Upd) : refPhi x R x.phis.length = insRest x R 0 := by
  unfold refPhi insRest
  rw [List.drop_length]; rfl
theorem progPhi_end (x : DBlock) (R : List Upd) : progPhi x R x.phis.length = insRest x R 0 := by
  unfold progPhi insRest
  rw [List.drop_length]; rfl
theorem refVals_at {p : DPhi} {R : List Upd} {j : Nat} {v : DVal} (h : p.src[j]? = some v) : refVals p R j = fromU p v :: refVals p R (j + 1) := by
  unfold refVals
  rw [drop_get h, List.map_cons]; rfl
theorem refVals_end (p : DPhi) (R : List Upd) : refVals p R p.src.length = R := by
  unfold refVals
  rw [List.drop_length]; rfl
theorem insRest_yes {x : DBlock} {R : List Upd} {j : Nat} {y : DIns} (h : x.list[j]? = some y) (hd : 0 ≤ y.dst) : insRest x R j = insU' y :: insRest x R (j + 1) := by
  unfold insRest
  rw [drop_get h, insUs_yes hd]; rfl
theorem insRest_no {x : DBlock} {R : List Upd} {j : Nat} {y : DIns} (h : x.list[j]? = some y) (hd : y.dst < 0) : insRest x R j = insRest x R (j + 1) := by
  unfold insRest
  rw [drop_get h, insUs_no hd]
theorem insRest_end (x : DBlock) (R : List Upd) : insRest x R x.list.length = R := by
  unfold insRest
  rw [List.drop_length]; rfl

end Go.Proofs.YtaehkcnankijfaaDoor
