/- The loops of a function, in plain Lean: the blocks of a loop are gathered from its tail on. The loops of a function, in plain Lean: the pairs that go back, the loops' blocks, in how many loops each block is, the guess. -/
import Derived.Test.YtnkogppgacappaaDoorPSsa0
import Derived.Test.YtnkogppgacappaaDoorPSortI
namespace Go.Proofs.YtnkogppgacappaaDoor
open Go.RowKit

/-- The loop's gathering: 'row' waits, 'inn' is gathered; the blocks ahead of a new one, but of the head, are set behind the row. 'm': how many are yet taken up, at most. -/
def gatherF (ahd : Nat → List Int) (head : Int) : Nat → List Int → List Int → List Int
  | 0, _, inn => inn
  | _ + 1, [], inn => inn
  | m + 1, b :: row, inn =>
    if b ∈ inn then gatherF ahd head m row inn
    else if b = head then gatherF ahd head m row (inn ++ [b])
    else gatherF ahd head m (row ++ ahd b.toNat) (inn ++ [b])
theorem gather_nil (ahd : Nat → List Int) (head : Int) : ∀ (m : Nat) (inn : List Int), gatherF ahd head m [] inn = inn
  | 0, _ => rfl
  | _ + 1, _ => rfl
/-- The gathered ones are different blocks of the function. -/
structure GathOk (n : Nat) (row inn : List Int) : Prop where
  wait : ∀ x ∈ row, 0 ≤ x ∧ x < (n : Int)
  have_ : ∀ x ∈ inn, 0 ≤ x ∧ x < (n : Int)
  nodup : inn.Nodup
theorem GathOk.many {n : Nat} {row inn : List Int} (h : GathOk n row inn) : inn.length ≤ n := by
  have h1 : (inn.map Int.toNat).Nodup := by
    refine List.pairwise_map.2 (List.Pairwise.imp_of_mem (fun {x y} hx hy hne e => hne ?_) h.nodup)
    have a := (h.have_ x hx).1
    have b := (h.have_ y hy).1
    have e' : x.toNat = y.toNat := e
    omega
  have h2 := nodup_len (n := n) (inn.map Int.toNat) h1 fun x hx => by
    obtain ⟨y, hy, rfl⟩ := List.mem_map.1 hx
    obtain ⟨a, b⟩ := h.have_ y hy
    omega
  simpa using h2
theorem GathOk.skip {n : Nat} {b : Int} {row inn : List Int} (h : GathOk n (b :: row) inn) : GathOk n row inn := ⟨fun x hx => h.wait x (List.mem_cons_of_mem _ hx), h.have_, h.nodup⟩
theorem GathOk.take {n : Nat} {b : Int} {row inn l : List Int} (h : GathOk n (b :: row) inn) (hb : b ∉ inn) (hl : ∀ x ∈ l, 0 ≤ x ∧ x < (n : Int)) : GathOk n (row ++ l) (inn ++ [b]) := by
  refine ⟨fun x hx => ?_, fun x hx => ?_, ?_⟩
  · rcases List.mem_append.1 hx with hx | hx
    · exact h.wait x (List.mem_cons_of_mem _ hx)
    · exact hl x hx
  · rcases List.mem_append.1 hx with hx | hx
    · exact h.have_ x hx
    · rw [List.mem_singleton] at hx; subst hx; exact h.wait _ (List.mem_cons_self ..)
  · rw [List.nodup_append]
    refine ⟨h.nodup, by simp, fun x hx y hy e => ?_⟩
    rw [List.mem_singleton] at hy
    subst hy
    subst e
    exact hb hx
/-- A state of the gathering that ends in R. -/
structure GathAt (ahd : Nat → List Int) (head : Int) (n K : Nat) (R : List Int) (m : Nat) (row inn : List Int) : Prop where
  ok : GathOk n row inn
  left : (n - inn.length) * (K + 1) + row.length ≤ m
  res : gatherF ahd head m row inn = R
section
variable {ahd : Nat → List Int} {hd : Int} {n K : Nat} {R : List Int} {m : Nat} {b : Int} {row inn : List Int}
theorem GathAt.done (h : GathAt ahd hd n K R m [] inn) : inn = R := by rw [← h.res, gather_nil]
theorem GathAt.skip (h : GathAt ahd hd n K R m (b :: row) inn) (hb : b ∈ inn) : ∃ m', m' < m ∧ GathAt ahd hd n K R m' row inn := by
  obtain ⟨ok, left, res⟩ := h
  rw [List.length_cons] at left
  obtain ⟨m', rfl⟩ : ∃ m', m = m' + 1 := ⟨m - 1, by omega⟩
  refine ⟨m', by omega, ok.skip, by omega, ?_⟩
  rw [gatherF, if_pos hb] at res
  exact res
theorem GathAt.atHead (h : GathAt ahd hd n K R m (b :: row) inn) (hb : b ∉ inn) (he : b = hd) : ∃ m', m' < m ∧ GathAt ahd hd n K R m' row (inn ++ [b]) := by
  obtain ⟨ok, left, res⟩ := h
  rw [List.length_cons] at left
  obtain ⟨m', rfl⟩ : ∃ m', m = m' + 1 := ⟨m - 1, by omega⟩
  have hk := ok.take (l := []) hb (by simp)
  rw [List.append_nil] at hk
  have hm := hk.many
  rw [List.length_append, List.length_singleton] at hm
  refine ⟨m', by omega, hk, ?_, ?_⟩
  · rw [List.length_append, List.length_singleton]
    have : (n - (inn.length + 1)) * (K + 1) ≤ (n - inn.length) * (K + 1) := Nat.mul_le_mul_right _ (by omega)
    omega
  · rw [gatherF, if_neg hb, if_pos he] at res
    exact res
theorem GathAt.take (h : GathAt ahd hd n K R m (b :: row) inn) (hb : b ∉ inn) (he : b ≠ hd) (hl : ∀ x ∈ ahd b.toNat, 0 ≤ x ∧ x < (n : Int)) (hK : (ahd b.toNat).length ≤ K) : ∃ m', m' < m ∧ GathAt ahd hd n K R m' (row ++ ahd b.toNat) (inn ++ [b]) := by
  obtain ⟨ok, left, res⟩ := h
  rw [List.length_cons] at left
  obtain ⟨m', rfl⟩ : ∃ m', m = m' + 1 := ⟨m - 1, by omega⟩
  have hk := ok.take hb hl
  have hm := hk.many
  rw [List.length_append, List.length_singleton] at hm
  refine ⟨m', by omega, hk, ?_, ?_⟩
  · rw [List.length_append, List.length_singleton, List.length_append]
    have e : (n - inn.length) * (K + 1) = (n - (inn.length + 1)) * (K + 1) + (K + 1) := by
      rw [show n - inn.length = (n - (inn.length + 1)) + 1 by omega, Nat.succ_mul]
    omega
  · rw [gatherF, if_neg hb, if_neg he] at res
    exact res
end

end Go.Proofs.YtnkogppgacappaaDoor

namespace Go.Proofs.YtnkogppgacappaaDoor
open Go.RowKit

/-- Where a block stands in a list; -1: nowhere. -/
def plcF (l : List Int) : Nat → Nat → Int
  | 0, _ => -1
  | k + 1, x => if l.getD k 0 = (x : Int) then (k : Int) else plcF l k x
def plcB (bs : List DBlock) (x : Nat) : Int := plcF (ordL bs) (ordL bs).length x
/-- The pairs of a block that go back. -/
def backB (at_ : Nat → Int) (b : Nat) (tg : List Int) : List (Int × Int) := (tg.filter fun t => decide (0 ≤ at_ b) && decide (at_ t.toNat ≤ at_ b)).map fun t => ((b : Int), t)
theorem backB_take (at_ : Nat → Int) (b : Nat) (tg : List Int) (j : Nat) (h : j < tg.length) : backB at_ b (tg.take (j + 1)) = if 0 ≤ at_ b ∧ at_ tg[j].toNat ≤ at_ b then backB at_ b (tg.take j) ++ [((b : Int), tg[j])] else backB at_ b (tg.take j) := by
  unfold backB
  rw [List.take_succ_eq_append_getElem h, List.filter_append, List.map_append]
  by_cases h1 : 0 ≤ at_ b ∧ at_ tg[j].toNat ≤ at_ b
  · rw [if_pos h1]; simp [h1.1, h1.2]
  · rw [if_neg h1]
    have : (decide (0 ≤ at_ b) && decide (at_ tg[j].toNat ≤ at_ b)) = false := by
      rw [Bool.eq_false_iff]; intro e; rw [Bool.and_eq_true] at e; exact h1 ⟨of_decide_eq_true e.1, of_decide_eq_true e.2⟩
    simp [this]
theorem backB_len (at_ : Nat → Int) (b : Nat) (tg : List Int) : (backB at_ b tg).length ≤ tg.length := by
  unfold backB; rw [List.length_map]; exact List.length_filter_le _ _
theorem sortI_mem {l : List Int} {x : Int} : x ∈ sortI l ↔ x ∈ l := by unfold sortI; exact List.mem_mergeSort
def backTo (bs : List DBlock) (k : Nat) : List (Int × Int) := (List.range k).flatMap fun b => backB (plcB bs) b (sortI (tosOf bs b))
def backF (bs : List DBlock) : List (Int × Int) := backTo bs bs.length
theorem backTo_succ (bs : List DBlock) (k : Nat) : backTo bs (k + 1) = backTo bs k ++ backB (plcB bs) k (sortI (tosOf bs k)) := by
  unfold backTo; rw [List.range_succ, List.flatMap_append]; simp
theorem tosOf_at {bs : List DBlock} {k : Nat} (h : k < bs.length) : tosOf bs k = bs[k].fin.to := by unfold tosOf; rw [List.getElem?_eq_getElem h]
theorem tosOf_len {bs : List DBlock} (h : ToOk bs) (k : Nat) : (tosOf bs k).length ≤ 2 := by
  unfold tosOf
  cases e : bs[k]? with
  | none => simp
  | some x => exact (h.tgt k x e).1
theorem tosOf_in {bs : List DBlock} (h : ToOk bs) (k : Nat) : ∀ t ∈ tosOf bs k, 0 ≤ t ∧ t < (bs.length : Int) := by
  unfold tosOf
  cases e : bs[k]? with
  | none => simp
  | some x => exact (h.tgt k x e).2
theorem backTo_len {bs : List DBlock} (h : ToOk bs) : ∀ k, (backTo bs k).length ≤ 2 * k
  | 0 => by simp [backTo]
  | k + 1 => by
    have h1 := backTo_len h k
    have h2 := backB_len (plcB bs) k (sortI (tosOf bs k))
    have h3 := sortI_len (tosOf bs k)
    have h4 := tosOf_len h k
    rw [backTo_succ, List.length_append]
    omega
theorem backF_in {bs : List DBlock} (h : ToOk bs) : ∀ p ∈ backF bs, (0 ≤ p.1 ∧ p.1 < (bs.length : Int)) ∧ (0 ≤ p.2 ∧ p.2 < (bs.length : Int)) := by
  intro p hp
  unfold backF backTo at hp
  obtain ⟨b, hb, hp⟩ := List.mem_flatMap.1 hp
  have hb := List.mem_range.1 hb
  unfold backB at hp
  obtain ⟨t, ht, rfl⟩ := List.mem_map.1 hp
  have h2 := tosOf_in h b t (sortI_mem.1 (List.mem_filter.1 ht).1)
  exact ⟨by dsimp only; omega, h2⟩

/-- Does a block lie in the tree? -/
def inTree (bs : List DBlock) (a : Int) : Bool := decide (a = 0) || decide (0 ≤ (treeF bs).getD a.toNat 0)
/-- The blocks ahead of one, of the tree. -/
def ahdU (bs : List DBlock) (b : Nat) : List Int := (predsOf bs 0 b).filter (inTree bs)
theorem ahdU_in (bs : List DBlock) (b : Nat) : ∀ x ∈ ahdU bs b, 0 ≤ x ∧ x < (bs.length : Int) := by
  intro x hx
  unfold ahdU at hx
  have := predsOf_mem (List.mem_filter.1 hx).1
  omega
theorem predsOf_len2 {bs : List DBlock} (h : ToOk bs) (b : Nat) : (predsOf bs 0 b).length ≤ 2 * bs.length := by
  have h2 := predsOf_le bs 2 (fun i x hx => (h.tgt i x hx).1) bs.length 0 b
  rw [List.take_length] at h2
  exact h2
theorem ahdU_len {bs : List DBlock} (h : ToOk bs) (b : Nat) : (ahdU bs b).length ≤ 2 * bs.length := by
  unfold ahdU
  exact Nat.le_trans (List.length_filter_le _ _) (predsOf_len2 h b)
/-- How many are set behind the row, at most. -/
def gathM (n : Nat) : Nat := n * (2 * n + 1) + 2
def gathB (bs : List DBlock) (tail head : Int) (inn : List Int) : List Int := gatherF (ahdU bs) head (gathM bs.length) [head, tail] inn
theorem gath_at {bs : List DBlock} {tail head : Int} {inn : List Int} (h1 : 0 ≤ tail ∧ tail < (bs.length : Int)) (h2 : 0 ≤ head ∧ head < (bs.length : Int)) (hi : GathOk bs.length [] inn) :
    GathAt (ahdU bs) head bs.length (2 * bs.length) (gathB bs tail head inn) (gathM bs.length) [head, tail] inn := by
  refine ⟨⟨fun x hx => ?_, hi.have_, hi.nodup⟩, ?_, rfl⟩
  · simp only [List.mem_cons, List.not_mem_nil, or_false] at hx
    rcases hx with rfl | rfl
    · exact h2
    · exact h1
  · unfold gathM
    have : (bs.length - inn.length) * (2 * bs.length + 1) ≤ bs.length * (2 * bs.length + 1) := Nat.mul_le_mul_right _ (Nat.sub_le _ _)
    simp only [List.length_cons, List.length_nil]
    omega
/-- The gathering ends well. -/
theorem gath_ok {bs : List DBlock} (h : ToOk bs) : ∀ {m : Nat} {head : Int} {R row inn : List Int}, GathAt (ahdU bs) head bs.length (2 * bs.length) R m row inn → GathOk bs.length [] R
  | m, head, R, [], inn, g => by
    have e := g.done
    subst e
    exact ⟨fun x hx => absurd hx (List.not_mem_nil), g.ok.have_, g.ok.nodup⟩
  | m, head, R, b :: row, inn, g => by
    by_cases hb : b ∈ inn
    · obtain ⟨m', hm, g'⟩ := g.skip hb
      exact gath_ok h g'
    · by_cases he : b = head
      · obtain ⟨m', hm, g'⟩ := g.atHead hb he
        exact gath_ok h g'
      · obtain ⟨m', hm, g'⟩ := g.take hb he (ahdU_in bs _) (ahdU_len h _)
        exact gath_ok h g'
  termination_by m => m
theorem GathOk.sort {n : Nat} {l : List Int} (h : GathOk n [] l) : GathOk n [] (sortI l) :=
  ⟨fun _ hx => absurd hx (List.not_mem_nil), fun x hx => h.have_ x (sortI_mem.1 hx), (List.mergeSort_perm l _).nodup_iff.2 h.nodup⟩

/-- One pair more. -/
def allStep (bs : List DBlock) (out : Nat → List Int) (p : Int × Int) : Nat → List Int :=
  if rulesF (treeF bs) p.2 (psF bs p.1.toNat + 1) p.1 = true then fun h => if h = p.2.toNat then sortI (gathB bs p.1 p.2 (out h)) else out h else out
def allTo (bs : List DBlock) (k : Nat) : Nat → List Int := ((backF bs).take k).foldl (allStep bs) fun _ => []
theorem allTo_succ (bs : List DBlock) (k : Nat) (h : k < (backF bs).length) : allTo bs (k + 1) = allStep bs (allTo bs k) (backF bs)[k] := by
  unfold allTo; rw [List.take_succ_eq_append_getElem h, List.foldl_append]; rfl
theorem allTo_ok {bs : List DBlock} (h : ToOk bs) : ∀ k, k ≤ (backF bs).length → ∀ x, GathOk bs.length [] (allTo bs k x)
  | 0, _, x => ⟨fun y hy => absurd hy (List.not_mem_nil), fun y hy => absurd hy (List.not_mem_nil), List.nodup_nil⟩
  | k + 1, hk, x => by
    have ih := allTo_ok h k (by omega)
    rw [allTo_succ bs k (by omega)]
    have hp := backF_in h _ (List.getElem_mem (by omega : k < (backF bs).length))
    unfold allStep
    split
    · dsimp only
      split
      · exact (gath_ok h (gath_at hp.1 hp.2 (ih x))).sort
      · exact ih x
    · exact ih x
def allN (bs : List DBlock) : Nat → List Int := allTo bs (backF bs).length
def allF (bs : List DBlock) : List (List Int) := (List.range bs.length).map (allN bs)
theorem allN_ok {bs : List DBlock} (h : ToOk bs) (x : Nat) : GathOk bs.length [] (allN bs x) := allTo_ok h _ (Nat.le_refl _) x
theorem allF_len (bs : List DBlock) : (allF bs).length = bs.length := by unfold allF; simp
theorem allF_at {bs : List DBlock} {k : Nat} (h : k < (allF bs).length) : (allF bs)[k] = allN bs k := by
  have hk : k < bs.length := by rw [← allF_len bs]; exact h
  have h2 : (allF bs)[k]? = some (allN bs k) := by unfold allF; rw [List.getElem?_map, List.getElem?_range hk]; rfl
  rw [List.getElem?_eq_getElem h] at h2
  exact Option.some.inj h2

/-- In how many loops a block is: those of the first k, and of the next one's first j. -/
def deepTo (bs : List DBlock) (k j b : Nat) : Nat := (((allF bs).take k).flatten ++ ((allF bs).getD k []).take j).count (b : Int)
def deepF (bs : List DBlock) : List Int := (List.range bs.length).map fun b => (deepTo bs bs.length 0 b : Int)
theorem deepTo_next {bs : List DBlock} {k : Nat} (h : k < (allF bs).length) (b : Nat) : deepTo bs (k + 1) 0 b = deepTo bs k (allF bs)[k].length b := by
  unfold deepTo
  rw [List.take_succ_eq_append_getElem h, List.getD_eq_getElem?_getD, List.getD_eq_getElem?_getD, List.getElem?_eq_getElem h, List.flatten_append, List.take_zero, List.append_nil]
  simp
theorem deepTo_step {bs : List DBlock} {k j : Nat} (h : k < (allF bs).length) (hj : j < (allF bs)[k].length) (b : Nat) : deepTo bs k (j + 1) b = deepTo bs k j b + if (allF bs)[k][j] = (b : Int) then 1 else 0 := by
  unfold deepTo
  rw [List.getD_eq_getElem?_getD, List.getElem?_eq_getElem h]
  simp only [Option.getD_some]
  rw [List.take_succ_eq_append_getElem hj, ← List.append_assoc, List.count_append]
  congr 1
  simp [List.count_cons, List.count_nil]
theorem count_nodup_le {l : List Int} (h : l.Nodup) (b : Int) : l.count b ≤ 1 := List.nodup_iff_count.1 h b
theorem flat_count {L : List (List Int)} (h : ∀ l ∈ L, l.Nodup) (b : Int) : L.flatten.count b ≤ L.length := by
  induction L with
  | nil => simp
  | cons l L ih =>
    have h1 := count_nodup_le (h l (List.mem_cons_self ..)) b
    have h2 := ih fun l hl => h l (List.mem_cons_of_mem _ hl)
    rw [List.flatten_cons, List.count_append, List.length_cons]
    omega
theorem deepTo_le {bs : List DBlock} (h : ToOk bs) (k j b : Nat) (hk : k ≤ bs.length) : deepTo bs k j b ≤ bs.length + 1 := by
  unfold deepTo
  rw [List.count_append]
  have hm : ∀ l ∈ allF bs, l.Nodup := fun l hl => by
    unfold allF at hl
    obtain ⟨i, -, rfl⟩ := List.mem_map.1 hl
    exact (allN_ok h i).nodup
  have h1 := flat_count (L := (allF bs).take k) (fun l hl => hm l (List.mem_of_mem_take hl)) (b : Int)
  rw [List.length_take, allF_len] at h1
  have h2 : (((allF bs).getD k []).take j).count (b : Int) ≤ 1 := by
    refine count_nodup_le (List.Nodup.sublist (List.take_sublist _ _) ?_) _
    rw [List.getD_eq_getElem?_getD]
    cases e : (allF bs)[k]? with
    | none => exact List.nodup_nil
    | some l => exact hm l (List.mem_of_getElem? e)
  omega
theorem deepF_len (bs : List DBlock) : (deepF bs).length = bs.length := by unfold deepF; simp
theorem deepF_i64 {bs : List DBlock} (h : ToOk bs) : ∀ x ∈ deepF bs, 0 ≤ x ∧ x ≤ (bs.length : Int) + 1 := by
  intro x hx
  unfold deepF at hx
  obtain ⟨b, -, rfl⟩ := List.mem_map.1 hx
  have := deepTo_le h bs.length 0 b (Nat.le_refl _)
  omega

/-- How often a block may be gone through that lies in d loops. -/
def guess1 (d : Int) : Int := ((10 ^ (min d 8).toNat : Nat) : Int)
def guessF (l : List Int) : List Int := l.map guess1
theorem guessF_len (l : List Int) : (guessF l).length = l.length := by unfold guessF; simp
theorem guess1_le (d : Int) : 1 ≤ guess1 d ∧ guess1 d ≤ 100000000 := by
  unfold guess1
  have h1 : (min d 8).toNat ≤ 8 := by omega
  have h2 : 10 ^ (min d 8).toNat ≤ 10 ^ 8 := Nat.pow_le_pow_right (by decide) h1
  have h3 : 0 < 10 ^ (min d 8).toNat := Nat.pow_pos (by decide)
  omega
theorem guessF_in (l : List Int) : ∀ x ∈ guessF l, 1 ≤ x ∧ x ≤ 100000000 := by
  intro x hx
  unfold guessF at hx
  obtain ⟨d, -, rfl⟩ := List.mem_map.1 hx
  exact guess1_le d

end Go.Proofs.YtnkogppgacappaaDoor
