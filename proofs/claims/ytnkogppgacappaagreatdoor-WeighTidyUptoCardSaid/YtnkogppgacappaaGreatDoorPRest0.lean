/- The sources of a merge, counted by the document, are those of the program: plain lists. A function with its blocks in an order, laid once more by the same counts: it stays; and it is in its form. Plain. -/
import Derived.Test.YtnkogppgacappaaGreatDoorPFour
import Derived.Test.YtnkogppgacappaaGreatDoorPHasInt
namespace Go.Proofs.YtnkogppgacappaaGreatDoor
open Go.RowKit

def turnTo (ord : List Nat) (tz : List Int) : List Int := tz.map (fun t => ((placeOf ord t.toNat : Nat) : Int))
theorem flatMap_congr9 {α β : Type} {l : List α} {f g : α → List β} (h : ∀ a ∈ l, f a = g a) : l.flatMap f = l.flatMap g := by
 induction l with
 | nil => rfl
 | cons a l ih => rw [List.flatMap_cons, List.flatMap_cons, h a (by simp), ih (fun b hb => h b (by simp [hb]))]
theorem predsOf_flat (t : Nat) : ∀ (l : List DBlock) (s : Nat), predsOf l s t = (List.range l.length).flatMap (fun j => hits (l.getD j noBlock).fin.to t (s + j)) := by
 intro l
 induction l with
 | nil => intro s; simp [predsOf]
 | cons b l ih =>
   intro s
   rw [predsOf, ih (s + 1), List.length_cons, List.range_succ_eq_map, List.flatMap_cons, List.flatMap_map]
   congr 1
   refine flatMap_congr9 fun j _ => ?_
   show hits (l.getD j noBlock).fin.to t (s + 1 + j) = hits ((b :: l).getD (j + 1) noBlock).fin.to t (s + (j + 1))
   rw [List.getD_cons_succ, show s + 1 + j = s + (j + 1) by omega]
theorem hits_none {tz : List Int} {t i : Nat} (h : (t : Int) ∉ tz) : hits tz t i = [] := by
 unfold hits
 rw [List.map_eq_nil_iff, List.filter_eq_nil_iff]
 intro x hx
 simp
 rintro rfl
 exact h hx
theorem hits_one {tz : List Int} {t i : Nat} (hn : tz.Nodup) (h : (t : Int) ∈ tz) : hits tz t i = [(i : Int)] := by
 unfold hits
 induction tz with
 | nil => cases h
 | cons a l ih =>
   rw [List.nodup_cons] at hn
   by_cases ha : a = (t : Int)
   · subst ha
     have e : l.filter (fun x : Int => decide (x = (t : Int))) = [] := by
      rw [List.filter_eq_nil_iff]
      intro x hx
      simp
      rintro rfl
      exact hn.1 hx
     simp [e]
   · rcases List.mem_cons.1 h with h | h
     · exact absurd h.symm ha
     · have := ih hn.2 h
       simpa [List.filter_cons, ha] using this
theorem hits_mem2 {tz : List Int} {t i : Nat} {x : Int} (h : x ∈ hits tz t i) : x = i ∧ (t : Int) ∈ tz := by
 unfold hits at h
 obtain ⟨y, hy, rfl⟩ := List.mem_map.1 h
 rw [List.mem_filter] at hy
 simp at hy
 exact ⟨rfl, hy.2 ▸ hy.1⟩
theorem predsOf_mem2 {l : List DBlock} {t : Nat} {x : Int} (h : x ∈ predsOf l 0 t) : ∃ j : Nat, j < l.length ∧ x = j ∧ (t : Int) ∈ (l.getD j noBlock).fin.to := by
 rw [predsOf_flat] at h
 obtain ⟨j, hj, hx⟩ := List.mem_flatMap.1 h
 have := hits_mem2 hx
 exact ⟨j, by simpa using hj, by rw [this.1]; simp, this.2⟩
structure Perm (ord : List Nat) (n : Nat) : Prop where
 len : ord.length = n
 lt : ∀ x ∈ ord, x < n
 all : ∀ z, z < n → z ∈ ord
 nodup : ord.Nodup
theorem Perm.place {ord : List Nat} {n : Nat} (h : Perm ord n) {z : Nat} (hz : z < n) : ∃ hlt : placeOf ord z < ord.length, ord[placeOf ord z]'hlt = z := by
 have h1 : placeOf ord z < ord.length := List.idxOf_lt_length_iff.2 (h.all z hz)
 exact ⟨h1, List.getElem_idxOf h1⟩
theorem Perm.at {ord : List Nat} {n : Nat} (h : Perm ord n) {i : Nat} (hi : i < ord.length) : placeOf ord ord[i] = i := h.nodup.idxOf_getElem i hi

end Go.Proofs.YtnkogppgacappaaGreatDoor

namespace Go.Proofs.YtnkogppgacappaaGreatDoor
open Go.RowKit

theorem Perm.range (n : Nat) : Perm (List.range n) n :=
 ⟨List.length_range, fun x hx => by simpa using hx, fun z hz => by simpa using hz, List.nodup_range⟩
theorem place_range {n z : Nat} (hz : z < n) : placeOf (List.range n) z = z := by
 have h := (Perm.range n).at (i := z) (by simpa using hz)
 rwa [List.getElem_range] at h

theorem pickI_zip {ord : List Nat} {n : Nat} {fr : List Int} {src : List DVal} (hl : src.length = fr.length) : pickI ord n fr src fr.length = ((fr.zip src).filter (fun p => decide (placeOf ord p.1.toNat = n))).map (·.2) := by
 have key : ∀ m, m ≤ fr.length → pickI ord n fr src m = (((fr.zip src).take m).filter (fun p => decide (placeOf ord p.1.toNat = n))).map (·.2) := by
  intro m
  induction m with
  | zero => intro _; simp [pickI]
  | succ m ih =>
    intro hm
    have hz : m < (fr.zip src).length := by simp; omega
    rw [pickI_succ, ih (by omega), List.take_succ_eq_append_getElem hz, List.filter_append, List.map_append]
    congr 1
    rw [List.getElem_zip]
    by_cases hp : placeOf ord (fr[m]).toNat = n
    · rw [pickAt_yes (by rw [List.getD_eq_getElem?_getD, List.getElem?_eq_getElem (by omega)]; exact hp) (by omega)]
      simp [hp]
    · rw [pickAt_no (by rw [List.getD_eq_getElem?_getD, List.getElem?_eq_getElem (by omega)]; exact hp)]
      simp [hp]
 have := key fr.length (Nat.le_refl _)
 rwa [List.take_of_length_le (by rw [List.length_zip]; omega)] at this
theorem flat_sorted {α : Type} (k : α → Nat) : ∀ (n : Nat) (l : List α), l.Pairwise (fun a b => k a < k b) → (List.range n).flatMap (fun j => l.filter (fun p => decide (k p = j))) = l.filter (fun p => decide (k p < n)) := by
 intro n
 induction n with
 | zero => intro l _; simp
 | succ n ih =>
   intro l h
   rw [List.range_succ, List.flatMap_append, ih l h]
   simp only [List.flatMap_cons, List.flatMap_nil, List.append_nil]
   induction l with
   | nil => rfl
   | cons a l ihl =>
     have h2 := (List.pairwise_cons.1 h)
     have ih2 := ihl h2.2
     by_cases h1 : k a < n
     · rw [List.filter_cons_of_pos (by simpa using h1), List.filter_cons_of_neg (by simp; omega), List.filter_cons_of_pos (by simp; omega), List.cons_append, ih2]
     · by_cases h3 : k a = n
       · have e1 : l.filter (fun p => decide (k p < n)) = [] := by
          rw [List.filter_eq_nil_iff]; intro b hb; have := h2.1 b hb; simp; omega
         rw [List.filter_cons_of_neg (by simpa using h1), List.filter_cons_of_pos (by simpa using h3), List.filter_cons_of_pos (by simp; omega), e1, List.nil_append]
         rw [e1, List.nil_append] at ih2
         rw [ih2]
       · rw [List.filter_cons_of_neg (by simpa using h1), List.filter_cons_of_neg (by simpa using h3), List.filter_cons_of_neg (by simp; omega), ih2]
theorem predsOf_sorted {t : Nat} : ∀ (l : List DBlock) (s : Nat), (∀ x ∈ l, x.fin.to.Nodup) → (predsOf l s t).Pairwise (· < ·) ∧ ∀ a ∈ predsOf l s t, (s : Int) ≤ a := by
 intro l
 induction l with
 | nil => intro s _; simp [predsOf]
 | cons b l ih =>
   intro s h
   obtain ⟨h1, h2⟩ := ih (s + 1) (fun x hx => h x (by simp [hx]))
   rw [predsOf]
   by_cases hm : (t : Int) ∈ b.fin.to
   · rw [hits_one (h b (by simp)) hm]
     refine ⟨?_, ?_⟩
     · rw [List.singleton_append, List.pairwise_cons]
       exact ⟨fun a ha => by have := h2 a ha; omega, h1⟩
     · intro a ha
       simp at ha
       rcases ha with rfl | ha
       · exact Int.le_refl _
       · have := h2 a ha; omega
   · rw [hits_none hm, List.nil_append]
     exact ⟨h1, fun a ha => by have := h2 a ha; omega⟩
theorem srcF_range {n : Nat} {bs : List DBlock} {b : Nat} (hn : bs.length = n) (hnd : ∀ x ∈ bs, x.fin.to.Nodup) {src : List DVal} (hl : src.length = (predsOf bs 0 b).length) :
 srcF (List.range n) (predsOf bs 0 b) src n = src := by
 obtain ⟨h1, -⟩ := predsOf_sorted (t := b) bs 0 hnd
 have hr : ∀ a ∈ predsOf bs 0 b, 0 ≤ a ∧ a < (n : Int) := fun a ha => by
  obtain ⟨j, hj, rfl, -⟩ := predsOf_mem2 ha; omega
 generalize predsOf bs 0 b = fr at *
 unfold srcF
 have e : (fun n' => pickI (List.range n) n' fr src fr.length) = fun n' => ((fr.zip src).filter (fun p => decide (placeOf (List.range n) p.1.toNat = n'))).map (·.2) := by
  funext n'; exact pickI_zip hl
 rw [e, ← List.map_flatMap, flat_sorted (fun p : Int × DVal => placeOf (List.range n) p.1.toNat)]
 · rw [List.filter_eq_self.2]
   · exact List.map_snd_zip (by omega)
   · intro p hp
     have hp1 : p.1 ∈ fr := (List.of_mem_zip hp).1
     have := hr _ hp1
     have h3 := place_range (n := n) (z := p.1.toNat) (by omega)
     simp only [decide_eq_true_eq]
     omega
 · have h4 : (fr.zip src).Pairwise (fun a b => a.1 < b.1) := by
    have := h1
    rw [show fr = (fr.zip src).map (·.1) from (List.map_fst_zip (by omega)).symm, List.pairwise_map] at this
    exact this
   refine List.Pairwise.imp_of_mem ?_ h4
   intro a c ha hc hac
   have ha1 := hr _ (List.of_mem_zip ha).1
   have hc1 := hr _ (List.of_mem_zip hc).1
   rw [place_range (by omega), place_range (by omega)]
   omega
theorem Perm.perm {ord : List Nat} {n : Nat} (h : Perm ord n) : ord.Perm (List.range n) :=
 (List.perm_ext_iff_of_nodup h.nodup List.nodup_range).2 fun a => ⟨fun ha => by simpa using h.lt a ha, fun ha => h.all a (by simpa using ha)⟩

structure Flow (bs : List DBlock) (n : Nat) : Prop where
 len : bs.length = n
 tgt : ∀ k, k < n → ∀ t ∈ (bs.getD k noBlock).fin.to, 0 ≤ t ∧ t < (n : Int)
 nodup : ∀ k, k < n → (bs.getD k noBlock).fin.to.Nodup
 phi : ∀ k, k < n → ∀ p ∈ (bs.getD k noBlock).phis, p.src.length = (predsOf bs 0 k).length
theorem Flow.mem {bs : List DBlock} {n : Nat} (h : Flow bs n) : ∀ x ∈ bs, x.fin.to.Nodup := fun x hx => by
 obtain ⟨i, hi, rfl⟩ := List.getElem_of_mem hx
 have := h.nodup i (by rw [← h.len]; exact hi)
 rwa [List.getD_eq_getElem?_getD, List.getElem?_eq_getElem hi] at this

theorem predsOf_filter {t : Nat} (l : List DBlock) (hn : ∀ j, j < l.length → (l.getD j noBlock).fin.to.Nodup) : (predsOf l 0 t).length = ((List.range l.length).filter (fun j => decide ((t : Int) ∈ (l.getD j noBlock).fin.to))).length := by
 rw [predsOf_flat]
 have : ∀ r : List Nat, (∀ j ∈ r, j < l.length) → (r.flatMap (fun j => hits (l.getD j noBlock).fin.to t (0 + j))).length = (r.filter (fun j => decide ((t : Int) ∈ (l.getD j noBlock).fin.to))).length := by
  intro r
  induction r with
  | nil => intro _; rfl
  | cons a r ih =>
    intro h
    have ih' := ih (fun j hj => h j (by simp [hj]))
    rw [List.flatMap_cons, List.length_append, ih']
    by_cases hm : (t : Int) ∈ (l.getD a noBlock).fin.to
    · rw [hits_one (hn a (h a (by simp))) hm, List.filter_cons_of_pos (by simpa using hm)]
      simp; omega
    · rw [hits_none hm, List.filter_cons_of_neg (by simpa using hm)]; simp
 exact this _ (fun j hj => by simpa using hj)

theorem turnL_len (bs : List DBlock) (ord : List Nat) : (turnL bs ord).length = ord.length := by unfold turnL; simp
theorem turnL_getD {bs : List DBlock} {ord : List Nat} {j : Nat} (hj : j < ord.length) : (turnL bs ord).getD j noBlock = turnX ord (predsOf bs 0 ord[j]) (bs.getD ord[j] noBlock) := by
 unfold turnL
 rw [List.getD_eq_getElem?_getD, List.getElem?_map, List.getElem?_eq_getElem hj]
 rfl
theorem place_inj {ord : List Nat} {n : Nat} (hp : Perm ord n) {a b : Int} (ha : 0 ≤ a ∧ a < (n : Int)) (hb : 0 ≤ b ∧ b < (n : Int)) (h : placeOf ord a.toNat = placeOf ord b.toNat) : a = b := by
 obtain ⟨l1, e1⟩ := hp.place (z := a.toNat) (by omega)
 obtain ⟨l2, e2⟩ := hp.place (z := b.toNat) (by omega)
 have : a.toNat = b.toNat := by rw [← e1, ← e2]; simp only [h]
 omega
theorem turnTo_nodup {ord : List Nat} {n : Nat} (hp : Perm ord n) {tl : List Int} (h : ∀ t ∈ tl, 0 ≤ t ∧ t < (n : Int)) (hn : tl.Nodup) : (turnTo ord tl).Nodup := by
 unfold turnTo
 rw [List.Nodup, List.pairwise_map]
 refine List.Pairwise.imp_of_mem ?_ hn
 intro a b ha hb hab he
 exact hab (place_inj hp (h a ha) (h b hb) (by exact_mod_cast he))
theorem turnTo_mem {ord : List Nat} {n : Nat} (hp : Perm ord n) {tl : List Int} (h : ∀ t ∈ tl, 0 ≤ t ∧ t < (n : Int)) {i : Nat} (hi : i < ord.length) : (i : Int) ∈ turnTo ord tl ↔ (ord[i] : Int) ∈ tl := by
 have hin : ord[i] < n := hp.lt _ (List.getElem_mem hi)
 constructor
 · intro hm
   obtain ⟨t, ht, he⟩ := List.mem_map.1 hm
   have he' : placeOf ord t.toNat = i := by exact_mod_cast he
   have : t = (ord[i] : Int) := place_inj hp (h t ht) ⟨by omega, by omega⟩ (by rw [he', Int.toNat_natCast, hp.at hi])
   exact this ▸ ht
 · intro hm
   exact List.mem_map.2 ⟨_, hm, by rw [Int.toNat_natCast, hp.at hi]⟩

theorem turnL_preds {bs : List DBlock} {ord : List Nat} {n : Nat} (hf : Flow bs n) (hp : Perm ord n) {i : Nat} (hi : i < ord.length) : (predsOf (turnL bs ord) 0 i).length = (predsOf bs 0 ord[i]).length := by
 have hlt : ∀ j, (hj : j < ord.length) → ord[j] < n := fun j hj => hp.lt _ (List.getElem_mem hj)
 rw [predsOf_filter (turnL bs ord), predsOf_filter bs, turnL_len]
 · have h1 : ((List.range ord.length).filter (fun j => decide ((i : Int) ∈ ((turnL bs ord).getD j noBlock).fin.to))).length = (ord.filter (fun b => decide ((ord[i] : Int) ∈ (bs.getD b noBlock).fin.to))).length := by
    have e : ord = (List.range ord.length).map (fun j => ord.getD j 0) := by
     refine List.ext_getElem (by simp) fun j h1 h2 => ?_
     rw [List.getElem_map, List.getElem_range, List.getD_eq_getElem?_getD, List.getElem?_eq_getElem h1]; rfl
    obtain ⟨q, hq⟩ : ∃ q, ord[i] = q := ⟨_, rfl⟩
    rw [hq]
    conv => rhs; rw [e]
    rw [List.filter_map, List.length_map]
    congr 1
    refine List.filter_congr fun j hj => ?_
    have hj' : j < ord.length := by simpa using hj
    rw [turnL_getD hj', Bool.eq_iff_iff]
    simp only [decide_eq_true_eq, Function.comp]
    have e2 : ord.getD j 0 = ord[j] := by rw [List.getD_eq_getElem?_getD, List.getElem?_eq_getElem hj']; rfl
    rw [e2]
    have := turnTo_mem hp (hf.tgt _ (hlt j hj')) hi
    rw [hq] at this
    exact this
   rw [h1, hf.len]
   exact (hp.perm.filter _).length_eq
 · intro j hj; exact hf.nodup j (by rw [← hf.len]; exact hj)
 · intro j hj
   rw [turnL_len] at hj
   rw [turnL_getD hj]
   exact turnTo_nodup hp (hf.tgt _ (hlt j hj)) (hf.nodup _ (hlt j hj))

theorem filter_split {α : Type} (k : α → Nat) (l : List α) (n : Nat) : ((List.range n).flatMap (fun j => l.filter (fun p => decide (k p = j)))).length = (l.filter (fun p => decide (k p < n))).length := by
 have h2 : ∀ n, (l.filter (fun p => decide (k p < n + 1))).length = (l.filter (fun p => decide (k p < n))).length + (l.filter (fun p => decide (k p = n))).length := by
  intro n
  induction l with
  | nil => rfl
  | cons a l ih =>
    by_cases h1 : k a < n
    · rw [List.filter_cons_of_pos (by simp; omega), List.filter_cons_of_pos (by simpa using h1), List.filter_cons_of_neg (by simp; omega), List.length_cons, List.length_cons, ih]; omega
    · by_cases h3 : k a = n
      · rw [List.filter_cons_of_pos (by simp; omega), List.filter_cons_of_neg (by simpa using h1), List.filter_cons_of_pos (by simpa using h3), List.length_cons, List.length_cons, ih]; omega
      · rw [List.filter_cons_of_neg (by simp; omega), List.filter_cons_of_neg (by simpa using h1), List.filter_cons_of_neg (by simpa using h3), ih]
 induction n with
 | zero =>
   have : l.filter (fun p => decide (k p < 0)) = [] := by rw [List.filter_eq_nil_iff]; intro a _; simp
   rw [this]; rfl
 | succ n ih =>
   rw [List.range_succ, List.flatMap_append, List.length_append, ih, h2]
   simp only [List.flatMap_cons, List.flatMap_nil, List.append_nil]
theorem srcF_length {bs : List DBlock} {ord : List Nat} {n : Nat} (hf : Flow bs n) (hp : Perm ord n) {b : Nat} {src : List DVal} (hl : src.length = (predsOf bs 0 b).length) : (srcF ord (predsOf bs 0 b) src ord.length).length = src.length := by
 have hr : ∀ a ∈ predsOf bs 0 b, 0 ≤ a ∧ a < (n : Int) := fun a ha => by
  obtain ⟨j, hj, rfl, -⟩ := predsOf_mem2 ha; have := hf.len; omega
 generalize predsOf bs 0 b = fr at *
 unfold srcF
 have e : (fun n' => pickI ord n' fr src fr.length) = fun n' => ((fr.zip src).filter (fun p => decide (placeOf ord p.1.toNat = n'))).map (·.2) := by
  funext n'; exact pickI_zip hl
 rw [e, ← List.map_flatMap, List.length_map, filter_split (fun p : Int × DVal => placeOf ord p.1.toNat)]
 rw [List.filter_eq_self.2, List.length_zip]
 · omega
 · intro p hp1
   have := hr _ (List.of_mem_zip hp1).1
   obtain ⟨h1, -⟩ := hp.place (z := p.1.toNat) (by omega)
   simpa using h1
theorem srcF_mem {ord : List Nat} {fr : List Int} {src : List DVal} {n : Nat} {v : DVal} (h : v ∈ srcF ord fr src n) : v ∈ src := by
 unfold srcF at h
 obtain ⟨j, -, h⟩ := List.mem_flatMap.1 h
 unfold pickI at h
 obtain ⟨i, -, h⟩ := List.mem_flatMap.1 h
 unfold pickAt at h
 split at h
 · split at h
   · rename_i u hu
     rw [List.mem_singleton] at h
     subst h
     exact List.mem_of_getElem? hu
   · cases h
 · cases h
theorem Flow.turn {bs : List DBlock} {ord : List Nat} {n : Nat} (hf : Flow bs n) (hp : Perm ord n) : Flow (turnL bs ord) n := by
 have hol := hp.len
 refine ⟨by rw [turnL_len]; exact hol, ?_, ?_, ?_⟩
 · intro k hk t ht
   have hk' : k < ord.length := by omega
   rw [turnL_getD hk'] at ht
   obtain ⟨x, hx, rfl⟩ := List.mem_map.1 ht
   have := hf.tgt _ (hp.lt _ (List.getElem_mem hk')) x hx
   obtain ⟨h1, -⟩ := hp.place (z := x.toNat) (by omega)
   omega
 · intro k hk
   have hk' : k < ord.length := by omega
   rw [turnL_getD hk']
   have h := hp.lt _ (List.getElem_mem hk')
   exact turnTo_nodup hp (hf.tgt _ h) (hf.nodup _ h)
 · intro k hk p hpp
   have hk' : k < ord.length := by omega
   have h := hp.lt _ (List.getElem_mem hk')
   rw [turnL_getD hk'] at hpp
   obtain ⟨q, hq, rfl⟩ := List.mem_map.1 hpp
   rw [turnL_preds hf hp hk']
   have e := hf.phi _ h q hq
   rw [← e]
   exact srcF_length hf hp e
theorem turnL_range {bs : List DBlock} {n : Nat} (hf : Flow bs n) : turnL bs (List.range n) = bs := by
 have hn := hf.len
 refine List.ext_getElem (by rw [turnL_len]; simp [hn]) fun i h1 h2 => ?_
 have hi : i < n := by omega
 have h3 := turnL_getD (bs := bs) (ord := List.range n) (j := i) (by simpa using hi)
 rw [List.getD_eq_getElem?_getD, List.getElem?_eq_getElem h1, Option.getD_some, List.getElem_range] at h3
 rw [h3]
 have hb : bs.getD i noBlock = bs[i] := by rw [List.getD_eq_getElem?_getD, List.getElem?_eq_getElem h2]; rfl
 have hto := hf.tgt i hi
 have hphi := hf.phi i hi
 rw [hb] at hto hphi ⊢
 generalize bs[i] = x at hto hphi ⊢
 obtain ⟨ph, li, kd, on, tl⟩ := x
 unfold turnX
 simp only [DBlock.mk.injEq, DEnd.mk.injEq, true_and]
 refine ⟨?_, ?_⟩
 · conv => rhs; rw [← List.map_id ph]
   refine List.map_congr_left fun p hp => ?_
   obtain ⟨d, s⟩ := p
   unfold turnPhi
   simp only [DPhi.mk.injEq, id, true_and, List.length_range]
   exact srcF_range hn hf.mem (hphi _ hp)
 · conv => rhs; rw [← List.map_id tl]
   refine List.map_congr_left fun t ht => ?_
   have := hto t ht
   rw [place_range (by omega)]
   simp only [id]
   omega
theorem hadB_range {m x : Nat} : hadB (List.range m) x = decide (x < m) := by
 rw [Bool.eq_iff_iff, hadB_mem]; simp
theorem hadB_take {ord : List Nat} {n : Nat} (hp : Perm ord n) {x : Nat} (hx : x < n) (m : Nat) : hadB (ord.take m) x = decide (placeOf ord x < m) := by
 obtain ⟨hlt, he⟩ := hp.place hx
 rw [Bool.eq_iff_iff, hadB_mem, decide_eq_true_iff]
 constructor
 · intro h
   obtain ⟨j, hj, hj2⟩ := List.getElem_of_mem h
   have hj3 : j < ord.length := by rw [List.length_take] at hj; omega
   rw [List.getElem_take] at hj2
   have := hp.at hj3
   rw [hj2] at this
   rw [this]
   rw [List.length_take] at hj; omega
 · intro h
   rw [← he]
   have : (ord.take m)[placeOf ord x]'(by rw [List.length_take]; omega) = ord[placeOf ord x] := List.getElem_take ..
   rw [← this]
   exact List.getElem_mem _
theorem pick_map {c c' : Nat → Int} {had had' : Nat → Bool} {f : Nat → Nat} (l : List Nat) : (∀ x ∈ l, c' (f x) = c x ∧ had' (f x) = had x) → pick c' had' (l.map f) = (pick c had l).map f := by
 refine list_rev (p := fun l => (∀ x ∈ l, c' (f x) = c x ∧ had' (f x) = had x) → pick c' had' (l.map f) = (pick c had l).map f) ?_ ?_ l
 · intro _; rfl
 · intro l t ih h
   have ih' := ih (fun x hx => h x (by simp [hx]))
   have ht := h t (by simp)
   rw [List.map_append, List.map_cons, List.map_nil, pick_snoc, pick_snoc, ih']
   cases hp : pick c had l with
   | none =>
     simp only [Option.map_none, pickStep, ht.2]
     split <;> rfl
   | some b =>
     have hb := h b (by simp [(pick_mem c had l b hp).1])
     simp only [Option.map_some, pickStep, ht.1, ht.2, hb.1]
     split <;> rfl
theorem targets_turn {bs : List DBlock} {ord : List Nat} {n : Nat} (hf : Flow bs n) (hp : Perm ord n) {i : Nat} (hi : i < ord.length) : targets (turnL bs ord) i = (targets bs ord[i]).map (placeOf ord) := by
 have hlt := hp.lt _ (List.getElem_mem hi)
 have h1 := turnL_getD (bs := bs) hi
 unfold targets
 rw [List.getElem?_eq_getElem (by rw [turnL_len]; exact hi), List.getElem?_eq_getElem (by rw [hf.len]; exact hlt)]
 rw [List.getD_eq_getElem?_getD, List.getElem?_eq_getElem (by rw [turnL_len]; exact hi), Option.getD_some] at h1
 dsimp only
 rw [h1]
 rw [List.getD_eq_getElem?_getD, List.getElem?_eq_getElem (by rw [hf.len]; exact hlt), Option.getD_some]
 show ((bs[ord[i]]'(by rw [hf.len]; exact hlt)).fin.to.map _).map Int.toNat = _
 rw [List.map_map, List.map_map]
 refine List.map_congr_left fun t _ => ?_
 simp
theorem targets_lt' {bs : List DBlock} {n : Nat} (hf : Flow bs n) (b : Nat) : ∀ y ∈ targets bs b, y < n := by
 intro y hy
 have h := targets_lt (bs := bs) (fun k x hx t ht => by
  obtain ⟨hk, rfl⟩ := List.getElem?_eq_some_iff.1 hx
  have := hf.tgt k (by rw [← hf.len]; exact hk) t (by rw [List.getD_eq_getElem?_getD, List.getElem?_eq_getElem hk]; exact ht)
  rw [hf.len]; exact this) b y hy
 rwa [hf.len] at h
theorem layNext_turn {bs : List DBlock} {ord : List Nat} {n : Nat} {c c' : Nat → Int} (hf : Flow bs n) (hp : Perm ord n) (hc : ∀ i (h : i < ord.length), c' i = c ord[i]) (ho : OrdAt bs c ord) {i : Nat} (hi : i + 1 < n) :
 layNext (turnL bs ord) c' (List.range (i + 1)) = some (i + 1) := by
 have hol := hp.len
 have hn := ho.next i (by omega)
 have hlast : (ord.take (i + 1)).getLastD 0 = ord[i]'(by omega) := by
  rw [List.take_succ_eq_append_getElem (by omega), List.getLastD_eq_getLast?, List.getLast?_append]; simp
 have hlast' : (List.range (i + 1)).getLastD 0 = i := by rw [List.range_succ]; simp
 have hT : ∀ x ∈ targets bs (ord[i]'(by omega)), c' (placeOf ord x) = c x ∧ hadB (List.range (i + 1)) (placeOf ord x) = hadB (ord.take (i + 1)) x := fun x hx => by
  have hxn := targets_lt' hf _ x hx
  obtain ⟨h1, h2⟩ := hp.place hxn
  refine ⟨by rw [hc _ h1, h2], ?_⟩
  rw [hadB_range, hadB_take hp hxn]
 have hpick := pick_map (targets bs (ord[i]'(by omega))) hT
 rw [← targets_turn hf hp (by omega)] at hpick
 rw [List.getElem?_eq_getElem (by omega)] at hn
 obtain ⟨y, hy⟩ : ∃ y, ord[i + 1]'(by omega) = y := ⟨_, rfl⟩
 have hy2 : placeOf ord y = i + 1 := by rw [← hy]; exact hp.at (by omega)
 rw [hy] at hn
 unfold layNext at hn ⊢
 rw [hlast] at hn
 rw [hlast', hpick]
 cases hpk : pick c (hadB (ord.take (i + 1))) (targets bs (ord[i]'(by omega))) with
 | some b =>
   rw [hpk] at hn
   simp only [Option.some.injEq] at hn
   subst hn
   simp only [Option.map_some, hy2]
 | none =>
   rw [hpk] at hn
   simp only [Option.map_none]
   dsimp only at hn
   rw [turnL_len, hol]
   have hmax := pick_max _ _ _ _ hn
   refine pick_range _ _ n (i + 1) hi (by rw [hadB_range]; simp) fun z hz hzh => ?_
   rw [hadB_range, decide_eq_false_iff_not] at hzh
   have hz2 : ord[z]'(by omega) < n := hp.lt _ (List.getElem_mem _)
   have h1 := hmax (ord[z]'(by omega)) (by rw [hf.len]; simpa using hz2) (by rw [hadB_take hp hz2, hp.at (by omega)]; simpa using hzh)
   have e1 := hc z (by omega)
   have e2 := hc (i + 1) (by omega)
   rw [hy] at e2
   simp only [lessB, Bool.or_eq_false_iff, Bool.and_eq_false_iff, decide_eq_false_iff_not]
   omega
theorem layF_turn {bs : List DBlock} {ord : List Nat} {n : Nat} {c c' : Nat → Int} (hf : Flow bs n) (hn : 0 < n) (hp : Perm ord n) (hc : ∀ i (h : i < ord.length), c' i = c ord[i]) (ho : OrdAt bs c ord) : layF (turnL bs ord) c' = List.range n := by
 have key : ∀ f m, 0 < m → m ≤ n → n - m ≤ f → layRun (turnL bs ord) c' f (List.range m) = List.range n := by
  intro f
  induction f with
  | zero =>
    intro m h1 h2 h3
    have : m = n := by omega
    subst this; rfl
  | succ f ih =>
    intro m h1 h2 h3
    by_cases hm : m = n
    · subst hm
      refine layRun_none ?_
      unfold layNext
      have t1 : pick c' (hadB (List.range m)) (targets (turnL bs ord) ((List.range m).getLastD 0)) = none := by
       rw [pick_none]
       intro b hb
       have := targets_lt' (hf.turn hp) _ b hb
       rw [hadB_range]; simpa using this
      rw [t1]
      dsimp only
      rw [pick_none]
      intro b hb
      rw [turnL_len, hp.len] at hb
      rw [hadB_range]; simpa using hb
    · obtain ⟨j, rfl⟩ : ∃ j, m = j + 1 := ⟨m - 1, by omega⟩
      rw [layRun_some (layNext_turn hf hp hc ho (by omega)), ← List.range_succ]
      exact ih _ (by omega) (by omega) (by omega)
 unfold layF
 rw [turnL_len, hp.len]
 exact key n 1 (by omega) (by omega) (by omega)
theorem endE_iff {n : Nat} {regs : Int} {e : DEnd} : endE n regs e = 0 ↔ (1 ≤ e.kind ∧ e.kind ≤ 3) ∧ (e.to.length : Int) = e.kind - 1 ∧ (∀ t ∈ e.to, 1 ≤ t ∧ t ≤ (n : Int) - 1) ∧ ¬ ((e.kind = 3 ∧ e.to.getD 0 0 = e.to.getD 1 0) ∨ (e.kind = 2 ∧ e.on ≠ ⟨false, 0⟩)) ∧ valE regs e.on = 0 := by
 unfold endE
 by_cases h1 : 1 ≤ e.kind ∧ e.kind ≤ 3
 case neg => rw [if_pos h1]; constructor; (intro h; omega); (intro h; exact absurd h.1 h1)
 rw [if_neg (by simpa using h1)]
 by_cases h2 : (e.to.length : Int) = e.kind - 1
 case neg => rw [if_pos h2]; constructor; (intro h; omega); (intro h; exact absurd h.2.1 h2)
 rw [if_neg (by simpa using h2)]
 by_cases h3 : e.to.any (badTo n) = true
 · rw [if_pos h3]
   constructor
   · intro h; omega
   · intro h
     obtain ⟨t, ht, hb⟩ := List.any_eq_true.1 h3
     have := h.2.2.1 t ht
     simp only [badTo, Bool.not_eq_true', decide_eq_false_iff_not] at hb
     exact absurd this hb
 rw [if_neg h3]
 have h3' : ∀ t ∈ e.to, 1 ≤ t ∧ t ≤ (n : Int) - 1 := fun t ht => by
  have : badTo n t ≠ true := fun hb => h3 (List.any_eq_true.2 ⟨t, ht, hb⟩)
  simpa [badTo] using this
 by_cases h4 : (e.kind = 3 ∧ e.to.getD 0 0 = e.to.getD 1 0) ∨ (e.kind = 2 ∧ e.on ≠ ⟨false, 0⟩)
 · rw [if_pos h4]; constructor; (intro h; omega); (intro h; exact absurd h4 h.2.2.2.1)
 rw [if_neg h4]
 exact ⟨fun h => ⟨h1, h2, h3', h4, h⟩, fun h => h.2.2.2.2⟩
theorem end_nodup {n : Nat} {regs : Int} {e : DEnd} (h : endE n regs e = 0) : e.to.Nodup := by
 obtain ⟨h1, h2, h3, h4, -⟩ := endE_iff.1 h
 match hl : e.to with
 | [] => exact List.nodup_nil
 | [a] => simp
 | [a, b] =>
   rw [hl] at h2 h4
   simp only [List.length_cons, List.length_nil] at h2
   have h3 : e.kind = 3 := by omega
   have hab : a ≠ b := fun hab => h4 (.inl ⟨h3, by simp [hab]⟩)
   simp [hab]
 | a :: b :: c :: r =>
   rw [hl] at h2
   simp only [List.length_cons] at h2
   omega

theorem bodyE_zero {fs : List DFunc} {f : DFunc} : bodyE fs f = 0 ↔ (∀ j, j < f.blocks.length → endsE f.regs f.blocks j = 0) ∧ ∀ j, j < f.blocks.length → blockE fs f.regs f.blocks j = 0 := by
 unfold bodyE
 constructor
 · intro h
   by_cases h1 : firstF (endsE f.regs f.blocks) f.blocks.length = 0
   · rw [if_neg (by simpa using h1)] at h
     exact ⟨firstF_inv h1, firstF_inv h⟩
   · rw [if_pos h1] at h; exact absurd h h1
 · rintro ⟨h1, h2⟩
   rw [if_neg (by simpa using firstF_zero h1)]
   exact firstF_zero h2
theorem blockE_zero {fs : List DFunc} {regs : Int} {bs : List DBlock} {k : Nat} {b : DBlock} (hb : bs[k]? = some b) : blockE fs regs bs k = 0 ↔ (∀ p ∈ b.phis, phiE regs k (aheadF bs) p = 0) ∧ ∀ x ∈ b.list, insE fs regs x = 0 := by
 unfold blockE
 rw [hb]
 dsimp only
 have e1 : (∀ j, j < b.phis.length → phisE regs bs k b j = 0) ↔ ∀ p ∈ b.phis, phiE regs k (aheadF bs) p = 0 := by
  constructor
  · intro h p hp
    obtain ⟨j, hj, rfl⟩ := List.getElem_of_mem hp
    have := h j hj
    unfold phisE at this
    rwa [List.getElem?_eq_getElem hj] at this
  · intro h j hj
    unfold phisE
    rw [List.getElem?_eq_getElem hj]
    exact h _ (List.getElem_mem hj)
 have e2 : (∀ j, j < b.list.length → listE fs regs b j = 0) ↔ ∀ x ∈ b.list, insE fs regs x = 0 := by
  constructor
  · intro h p hp
    obtain ⟨j, hj, rfl⟩ := List.getElem_of_mem hp
    have := h j hj
    unfold listE at this
    rwa [List.getElem?_eq_getElem hj] at this
  · intro h j hj
    unfold listE
    rw [List.getElem?_eq_getElem hj]
    exact h _ (List.getElem_mem hj)
 rw [← e1, ← e2]
 constructor
 · intro h
   by_cases h1 : firstF (phisE regs bs k b) b.phis.length = 0
   · rw [if_neg (by simpa using h1)] at h
     exact ⟨firstF_inv h1, firstF_inv h⟩
   · rw [if_pos h1] at h; exact absurd h h1
 · rintro ⟨h1, h2⟩
   rw [if_neg (by simpa using firstF_zero h1)]
   exact firstF_zero h2
theorem aheadF_getD {bs : List DBlock} {k : Nat} (hk : k < bs.length) : (aheadF bs).getD k [] = predsOf bs 0 k := by
 unfold aheadF
 rw [List.getD_eq_getElem?_getD, List.getElem?_map, List.getElem?_range hk]; rfl
theorem argsE_iff {regs : Int} {l : List DVal} : argsE regs l = 0 ↔ ∀ v ∈ l, valE regs v = 0 := by
 unfold argsE
 by_cases h : l.any (fun v => decide (valE regs v ≠ 0)) = true
 · rw [if_pos h]
   obtain ⟨v, hv, hb⟩ := List.any_eq_true.1 h
   constructor
   · intro h; omega
   · intro h2; exact absurd (h2 v hv) (by simpa using hb)
 · rw [if_neg h]
   refine ⟨fun _ v hv => ?_, fun _ => rfl⟩
   by_cases hz : valE regs v = 0
   · exact hz
   · exact absurd (List.any_eq_true.2 ⟨v, hv, by simpa using hz⟩) h
theorem phiE_iff {regs : Int} {block : Nat} {ahead : List (List Int)} {p : DPhi} : phiE regs block ahead p = 0 ↔ block ≠ 0 ∧ dstE regs p.dst = 0 ∧ p.src.length = (ahead.getD block []).length ∧ argsE regs p.src = 0 := by
 unfold phiE
 by_cases h1 : block = 0
 · rw [if_pos h1]; constructor; (intro h; omega); (intro h; exact absurd h1 h.1)
 rw [if_neg h1]
 by_cases h2 : dstE regs p.dst ≠ 0
 · rw [if_pos h2]; constructor; (intro h; omega); (intro h; exact absurd h.2.1 h2)
 rw [if_neg h2]
 by_cases h3 : p.src.length ≠ (ahead.getD block []).length
 · rw [if_pos h3]; constructor; (intro h; omega); (intro h; exact absurd h.2.2.1 h3)
 rw [if_neg h3]
 exact ⟨fun h => ⟨h1, by simpa using h2, by simpa using h3, h⟩, fun h => h.2.2.2⟩

theorem body_flow {fs : List DFunc} {f : DFunc} (h : bodyE fs f = 0) : Flow f.blocks f.blocks.length := by
 obtain ⟨h1, h2⟩ := bodyE_zero.1 h
 have he : ∀ k (hk : k < f.blocks.length), endE f.blocks.length f.regs (f.blocks[k]).fin = 0 := fun k hk => by
  have := h1 k hk
  unfold endsE at this
  rwa [List.getElem?_eq_getElem hk] at this
 have hg : ∀ k (hk : k < f.blocks.length), f.blocks.getD k noBlock = f.blocks[k] := fun k hk => by
  rw [List.getD_eq_getElem?_getD, List.getElem?_eq_getElem hk]; rfl
 refine ⟨rfl, fun k hk t ht => ?_, fun k hk => ?_, fun k hk p hp => ?_⟩
 · rw [hg k hk] at ht
   have := (endE_iff.1 (he k hk)).2.2.1 t ht
   omega
 · rw [hg k hk]; exact end_nodup (he k hk)
 · rw [hg k hk] at hp
   have := ((blockE_zero (List.getElem?_eq_getElem hk)).1 (h2 k hk)).1 p hp
   rw [phiE_iff, aheadF_getD hk] at this
   exact this.2.2.1

def turnF (f : DFunc) (ord : List Nat) : DFunc := ⟨f.name, f.params, f.regs, turnL f.blocks ord⟩
def noFunc : DFunc := ⟨ByteArray.empty, 0, 0, []⟩
structure Alike' (fs fs' : List DFunc) : Prop where
 len : fs'.length = fs.length
 at_ : ∀ (k : Nat) (f : DFunc), fs[k]? = some f → ∃ f', fs'[k]? = some f' ∧ f'.name = f.name ∧ f'.params = f.params
theorem callE_alike {fs fs' : List DFunc} (h : Alike' fs fs') (regs : Int) (x : DIns) : callE fs' regs x = callE fs regs x := by
 unfold callE
 rw [h.len]
 by_cases h1 : x.op ≠ 20
 · rw [if_pos h1, if_pos h1]
 rw [if_neg h1, if_neg h1]
 by_cases h2 : ¬ (0 ≤ x.fn ∧ x.fn ≤ (fs.length : Int) - 1)
 · rw [if_pos h2, if_pos h2]
 rw [if_neg h2, if_neg h2]
 have hk : x.fn.toNat < fs.length := by omega
 obtain ⟨f', hf', -, hp⟩ := h.at_ _ _ (List.getElem?_eq_getElem hk)
 rw [List.getD_eq_getElem?_getD, List.getD_eq_getElem?_getD, hf', List.getElem?_eq_getElem hk, Option.getD_some, Option.getD_some, hp]
theorem insE_alike {fs fs' : List DFunc} (h : Alike' fs fs') (regs : Int) (x : DIns) : insE fs' regs x = insE fs regs x := by
 unfold insE
 rw [callE_alike h]

theorem bodyE_turn {fs fs' : List DFunc} (ha : Alike' fs fs') {f : DFunc} (h : bodyE fs f = 0) {ord : List Nat} (hp : Perm ord f.blocks.length) (h0 : ord[0]? = some 0) : bodyE fs' (turnF f ord) = 0 := by
 have hf := body_flow h
 have hf' := hf.turn hp
 obtain ⟨h1, h2⟩ := bodyE_zero.1 h
 have hol := hp.len
 have hg : ∀ k (hk : k < f.blocks.length), f.blocks.getD k noBlock = f.blocks[k] := fun k hk => by
  rw [List.getD_eq_getElem?_getD, List.getElem?_eq_getElem hk]; rfl
 have hat : ∀ j, (hj : j < ord.length) → (turnL f.blocks ord)[j]? = some (turnX ord (predsOf f.blocks 0 ord[j]) (f.blocks[ord[j]]'(hp.lt _ (List.getElem_mem hj)))) := fun j hj => by
  have := turnL_getD (bs := f.blocks) hj
  rw [hg _ (hp.lt _ (List.getElem_mem hj))] at this
  rw [← this, List.getD_eq_getElem?_getD, List.getElem?_eq_getElem (by rw [turnL_len]; exact hj)]
  rfl
 have hp0 : placeOf ord 0 = 0 := by
  obtain ⟨hl, he⟩ := List.getElem?_eq_some_iff.1 h0
  have := hp.at hl
  rwa [he] at this
 refine bodyE_zero.2 ⟨fun j hj => ?_, fun j hj => ?_⟩
 · have hj' : j < ord.length := by rw [← turnL_len f.blocks ord]; exact hj
   have hjn := hp.lt _ (List.getElem_mem hj')
   unfold endsE
   show (match (turnL f.blocks ord)[j]? with | some b => endE (turnL f.blocks ord).length f.regs b.fin | none => 0) = 0
   rw [hat j hj', turnL_len]
   dsimp only
   have he := h1 _ hjn
   unfold endsE at he
   rw [List.getElem?_eq_getElem hjn] at he
   dsimp only at he
   have hnd := end_nodup he
   obtain ⟨e1, e2, e3, e4, e5⟩ := endE_iff.1 he
   have hr : ∀ t ∈ (f.blocks[ord[j]]).fin.to, 0 ≤ t ∧ t < (f.blocks.length : Int) := fun t ht => by have := e3 t ht; omega
   have hnd' := turnTo_nodup hp hr hnd
   refine endE_iff.2 ⟨e1, ?_, ?_, ?_, e5⟩
   · show ((List.map _ _).length : Int) = _
     rw [List.length_map]; exact e2
   · intro t ht
     obtain ⟨x, hx, rfl⟩ := List.mem_map.1 ht
     have h3 := e3 x hx
     obtain ⟨hl, he2⟩ := hp.place (z := x.toNat) (by omega)
     have : placeOf ord x.toNat ≠ 0 := fun hz => by
      have := place_inj hp (a := x) (b := 0) (by omega) (by omega) (by rw [hz]; exact hp0.symm)
      omega
     omega
   · rintro (⟨k1, k2⟩ | ⟨k1, k2⟩)
     · have hl : (turnTo ord (f.blocks[ord[j]]).fin.to).length = 2 := by
        unfold turnTo; rw [List.length_map]
        have k1' : (f.blocks[ord[j]]).fin.kind = 3 := k1
        omega
       have k2' : (turnTo ord (f.blocks[ord[j]]).fin.to).getD 0 0 = (turnTo ord (f.blocks[ord[j]]).fin.to).getD 1 0 := k2
       generalize turnTo ord (f.blocks[ord[j]]).fin.to = l at hnd' hl k2'
       match l, hl with
       | [a, b], _ =>
         simp at hnd' k2'
         exact hnd' k2'
     · exact e4 (.inr ⟨k1, k2⟩)
 · have hj' : j < ord.length := by rw [← turnL_len f.blocks ord]; exact hj
   have hjn := hp.lt _ (List.getElem_mem hj')
   obtain ⟨hph, hin⟩ := (blockE_zero (List.getElem?_eq_getElem hjn)).1 (h2 _ hjn)
   refine (blockE_zero (hat j hj')).2 ⟨fun p hpp => ?_, fun x hx => ?_⟩
   · obtain ⟨q, hq, rfl⟩ := List.mem_map.1 hpp
     have h3 := hph q hq
     rw [phiE_iff, aheadF_getD hjn] at h3
     have hjl : j < (turnL f.blocks ord).length := by rw [turnL_len]; exact hj'
     show phiE f.regs j (aheadF (turnL f.blocks ord)) _ = 0
     rw [phiE_iff, aheadF_getD hjl]
     refine ⟨fun hj0 => ?_, h3.2.1, ?_, ?_⟩
     · subst hj0
       obtain ⟨hl, he⟩ := List.getElem?_eq_some_iff.1 h0
       exact h3.1 he
     · rw [turnL_preds hf hp hj']
       rw [← h3.2.2.1]
       exact srcF_length hf hp h3.2.2.1
     · rw [argsE_iff]
       intro v hv
       exact argsE_iff.1 h3.2.2.2 v (srcF_mem hv)
   · rw [insE_alike ha]
     exact hin x hx

theorem manyOf_turn {f : DFunc} {ord : List Nat} (hp : Perm ord f.blocks.length) : manyOf (turnL f.blocks ord) = manyOf f.blocks := by
 unfold manyOf turnL
 rw [List.map_map]
 have e1 : ((ord.map ((fun b : DBlock => b.phis.length + b.list.length) ∘ fun b => turnX ord (predsOf f.blocks 0 b) (f.blocks.getD b noBlock)))) = ord.map (fun b => (f.blocks.getD b noBlock).phis.length + (f.blocks.getD b noBlock).list.length) := by
  refine List.map_congr_left fun b _ => ?_
  simp [turnX]
 rw [e1, (hp.perm.map _).sum_nat]
 congr 1
 refine List.ext_getElem (by simp) fun i h1 h2 => ?_
 have : i < f.blocks.length := by simpa using h2
 rw [List.getElem_map, List.getElem_map, List.getElem_range, List.getD_eq_getElem?_getD, List.getElem?_eq_getElem this]
 rfl
theorem headE_turn {names : List ByteArray} {f : DFunc} {ord : List Nat} (hp : Perm ord f.blocks.length) : headE names (turnF f ord) = headE names f := by
 unfold headE
 have e1 : (turnF f ord).blocks.length = f.blocks.length := by show (turnL _ _).length = _; rw [turnL_len]; exact hp.len
 have e2 : manyOf (turnF f ord).blocks = manyOf f.blocks := manyOf_turn hp
 rw [e1, e2]
 rfl
theorem checkF_turn {gs : List DGlobal} {fs fs' : List DFunc} (h : (checkF ⟨gs, fs⟩).1 = 0) (hl : fs'.length = fs.length)
 (ht : ∀ (k : Nat) (f : DFunc), fs[k]? = some f → ∃ ord, fs'[k]? = some (turnF f ord) ∧ Perm ord f.blocks.length ∧ ord[0]? = some 0) : checkF ⟨gs, fs'⟩ = checkF ⟨gs, fs⟩ := by
 have hal : Alike' fs fs' := ⟨hl, fun k f hf => by obtain ⟨ord, h1, -⟩ := ht k f hf; exact ⟨_, h1, rfl, rfl⟩⟩
 obtain ⟨h1, h2, h3, h4, h5⟩ := checkF_ok h
 have hnames : ∀ k, (fs'.take k).map (·.name) = (fs.take k).map (·.name) := fun k => by
  refine List.ext_getElem? fun i => ?_
  rw [List.getElem?_map, List.getElem?_map, List.getElem?_take, List.getElem?_take]
  by_cases hik : i < k
  · rw [if_pos hik, if_pos hik]
    cases hf : fs[i]? with
    | none =>
      have : fs'[i]? = none := by rw [List.getElem?_eq_none_iff] at hf ⊢; omega
      rw [this]
    | some f =>
      obtain ⟨f', h1, h2, -⟩ := hal.at_ i f hf
      rw [h1, Option.map_some, Option.map_some, h2]
  · rw [if_neg hik, if_neg hik]
 have hheads : headsE gs fs' = headsE gs fs := by
  funext k
  unfold headsE fNames
  rw [hnames]
  cases hf : fs[k]? with
  | none =>
    have : fs'[k]? = none := by rw [List.getElem?_eq_none_iff] at hf ⊢; omega
    rw [this]
  | some f =>
    obtain ⟨ord, e1, hp, -⟩ := ht k f hf
    rw [e1]
    exact headE_turn hp
 have hbody : ∀ k, bodiesE fs' k = 0 := fun k => by
  unfold bodiesE
  cases hf : fs[k]? with
  | none =>
    have : fs'[k]? = none := by rw [List.getElem?_eq_none_iff] at hf ⊢; omega
    rw [this]
  | some f =>
    obtain ⟨ord, e1, hp, h0⟩ := ht k f hf
    rw [e1]
    have h6 := h5 k
    unfold bodiesE at h6
    rw [hf] at h6
    exact bodyE_turn hal h6 hp h0
 have hmain : idxMain fs' = idxMain fs := by
  unfold idxMain
  have : fs'.findIdx? isMain = fs.findIdx? isMain := by
   have e1 : ∀ l : List DFunc, l.findIdx? isMain = (l.map (·.name)).findIdx? (fun s => s.toList == [109, 97, 105, 110]) := fun l => by
    rw [List.findIdx?_map]; rfl
   have e2 := hnames fs.length
   rw [List.take_of_length_le (by omega), List.take_of_length_le (by omega)] at e2
   rw [e1, e1, e2]
  rw [this]
 have hlast : lastE fs' = lastE fs := by
  unfold lastE
  rw [hmain]
  by_cases hm : idxMain fs < 0
  · rw [if_pos hm, if_pos hm]
  · rw [if_neg hm, if_neg hm]
    obtain ⟨m, hm1, hm2⟩ := idxMain_lt hm
    rw [hm2, Int.toNat_natCast]
    obtain ⟨f', e1, -, e3⟩ := hal.at_ m _ (List.getElem?_eq_getElem hm1)
    rw [List.getD_eq_getElem?_getD, List.getD_eq_getElem?_getD, e1, List.getElem?_eq_getElem hm1, Option.getD_some, Option.getD_some, e3]
 unfold checkF
 dsimp only
 rw [hl, hheads, hlast]
 have p1 : posF (globE gs) gs.length = gs.length := posF_all fun j _ => h3 j
 have p2 : posF (headsE gs fs) fs.length = fs.length := posF_all fun j _ => h4 j
 have p3 : posF (bodiesE fs') fs.length = fs.length := posF_all fun j _ => hbody j
 have p4 : posF (bodiesE fs) fs.length = fs.length := posF_all fun j _ => h5 j
 rw [p1, p2, p3, p4]
 simp only [Nat.lt_irrefl, if_false]

end Go.Proofs.YtnkogppgacappaaGreatDoor
