/- tidy, plain: the first Keep does not mind how blocks are numbered; so tidy does not mind how weigh laid them. tidy, plain: laid by weigh or not, the first Keep is the same. -/
import Derived.Test.YtnkogppgacappaaGreatDoorPLarge
namespace Go.Proofs.YtnkogppgacappaaGreatDoor

theorem sorted_from2 {l m : List (Int × DVal)} (hp : m.Perm l) (hs : m.Pairwise fun x y => x.1 ≤ y.1) (hnd : (l.map Prod.fst).Nodup) : m = l.mergeSort leF := by
 refine List.Perm.eq_of_pairwise (le := fun x y => x.1 ≤ y.1) ?_ hs ?_ (hp.trans (List.mergeSort_perm _ _).symm)
 · intro a b ha hb h1 h2
   have ha' : a ∈ l := hp.mem_iff.1 ha
   have hb' : b ∈ l := (List.mergeSort_perm l leF).mem_iff.1 hb
   have he : a.1 = b.1 := by omega
   obtain ⟨i, hi, rfl⟩ := List.getElem_of_mem ha'
   obtain ⟨j, hj, rfl⟩ := List.getElem_of_mem hb'
   have hp := List.pairwise_iff_getElem.1 hnd
   rcases Nat.lt_trichotomy i j with h | h | h
   · exact absurd (by rw [List.getElem_map, List.getElem_map]; exact he) (hp i j (by simpa using hi) (by simpa using hj) h)
   · subst h; rfl
   · exact absurd (by rw [List.getElem_map, List.getElem_map]; exact he.symm) (hp j i (by simpa using hj) (by simpa using hi) h)
 · have h := List.pairwise_mergeSort (le := leF) (fun a b c h1 h2 => by simp [leF] at *; omega) (fun a b => by simp [leF]; omega) l
   exact h.imp fun h => by simpa [leF] using h

structure Ren (bs bs' : List DBlock) (sg : Nat → Nat) : Prop where
 tok : ToOk bs
 tok' : ToOk bs'
 lt' : ∀ i : Nat, (i : Int) ∈ postF bs → sg i < bs'.length
 inj : ∀ i j : Nat, (i : Int) ∈ postF bs → (j : Int) ∈ postF bs → sg i = sg j → i = j
 zero : sg 0 = 0
 tos : ∀ i : Nat, (i : Int) ∈ postF bs → (blkOf bs' (sg i)).fin.to = (blkOf bs i).fin.to.map fun t => ((sg t.toNat : Nat) : Int)
 fin : ∀ i : Nat, (i : Int) ∈ postF bs → (blkOf bs' (sg i)).fin.kind = (blkOf bs i).fin.kind ∧ (blkOf bs' (sg i)).fin.on = (blkOf bs i).fin.on
 list : ∀ i : Nat, (i : Int) ∈ postF bs → (blkOf bs' (sg i)).list = (blkOf bs i).list
theorem post_lt {bs : List DBlock} (h : ToOk bs) {i : Nat} (hi : (i : Int) ∈ postF bs) : i < bs.length := by
 obtain ⟨p1, -, -, -⟩ := post_facts h
 have := p1 _ hi
 omega
theorem post_zero {bs : List DBlock} (h : ToOk bs) : ((0 : Nat) : Int) ∈ postF bs := by
 obtain ⟨-, -, -, A, hA⟩ := post_facts h
 rw [hA]
 simp
theorem Ren.eqv {bs bs' : List DBlock} {sg : Nat → Nat} (h : Ren bs bs' sg) : Eqv bs bs' sg fun i => (i : Int) ∈ postF bs := by
 refine ⟨fun i hi => post_lt h.tok hi, h.lt', h.inj, fun i hi t ht => ?_, fun i hi => ?_⟩
 · have h1 := post_closed h.tok _ hi t (by rw [Int.toNat_natCast]; exact ht)
   obtain ⟨p1, -, -, -⟩ := post_facts h.tok
   have := p1 t h1
   rw [Int.toNat_of_nonneg this.1]; exact h1
 · rw [tosOf_blk (h.lt' i hi), tosOf_blk (post_lt h.tok hi)]
   exact h.tos i hi
theorem Ren.ord {bs bs' : List DBlock} {sg : Nat → Nat} (h : Ren bs bs' sg) : ordL bs' = (ordL bs).map fun t => ((sg t.toNat : Nat) : Int) := by
 unfold ordL
 rw [post_eqv h.eqv (post_zero h.tok) h.zero, List.map_reverse]
theorem Ren.plc {bs bs' : List DBlock} {sg : Nat → Nat} (h : Ren bs bs' sg) {i : Nat} (hi : (i : Int) ∈ postF bs) : plcO (ordL bs') (sg i) = plcO (ordL bs) i := by
 have ho := ordL_ok h.tok
 have ho' := ordL_ok h.tok'
 have hm : (i : Int) ∈ ordL bs := List.mem_reverse.2 hi
 obtain ⟨k, hk, e⟩ := List.getElem_of_mem hm
 have e1 : (ordL bs)[k]? = some (i : Int) := by rw [List.getElem?_eq_getElem hk, e]
 rw [plcO_at ho.nd e1]
 refine plcO_at ho'.nd ?_
 rw [h.ord, List.getElem?_map, e1]
 simp
theorem keepB_eq (at_ : Nat → Int) (A : List Int) (x : DBlock) : keepB at_ A x = ⟨x.phis.map (keepP at_ A), x.list, ⟨x.fin.kind, x.fin.on, x.fin.to.map fun t => at_ t.toNat⟩⟩ := rfl
theorem Ren.keep {bs bs' : List DBlock} {sg : Nat → Nat} (h : Ren bs bs' sg) (hok : FunOk bs) (hphi : ∀ i : Nat, (i : Int) ∈ postF bs → (blkOf bs' (sg i)).phis.map (·.dst) = (blkOf bs i).phis.map (·.dst) ∧
 ∀ (j : Nat) p p', (blkOf bs i).phis[j]? = some p → (blkOf bs' (sg i)).phis[j]? = some p' → (fromL (plcO (ordL bs')) (predsOf bs' 0 (sg i)) p'.src).Perm (fromL (plcO (ordL bs)) (predsOf bs 0 i) p.src)) : keepF bs' (ordL bs') = keepF bs (ordL bs) := by
 have ho := ordL_ok h.tok
 rw [h.ord]
 unfold keepF
 rw [List.map_map]
 refine List.map_congr_left fun b hb => ?_
 have hbr := ho.inn b hb
 have hbp : ((b.toNat : Nat) : Int) ∈ postF bs := by rw [Int.toNat_of_nonneg hbr.1]; exact List.mem_reverse.1 hb
 rw [← h.ord]
 show keepB (plcO (ordL bs')) (predsOf bs' 0 (((sg b.toNat : Nat) : Int)).toNat) (blkOf bs' (((sg b.toNat : Nat) : Int)).toNat) = _
 rw [Int.toNat_natCast]
 obtain ⟨hd, hp⟩ := hphi b.toNat hbp
 rw [keepB_eq, keepB_eq, h.list _ hbp, h.tos _ hbp, (h.fin _ hbp).1, (h.fin _ hbp).2]
 congr 1
 · apply List.ext_getElem?
   intro j
   have hl : (blkOf bs' (sg b.toNat)).phis.length = (blkOf bs b.toNat).phis.length := by
    have := congrArg List.length hd
    rw [List.length_map, List.length_map] at this
    exact this
   rw [List.getElem?_map, List.getElem?_map]
   by_cases hj : j < (blkOf bs b.toNat).phis.length
   · obtain ⟨p, e⟩ : ∃ p, (blkOf bs b.toNat).phis[j]? = some p := ⟨_, List.getElem?_eq_getElem hj⟩
     obtain ⟨p', e'⟩ : ∃ p', (blkOf bs' (sg b.toNat)).phis[j]? = some p' := ⟨_, List.getElem?_eq_getElem (by omega)⟩
     have hdj := congrArg (·[j]?) hd
     simp only [List.getElem?_map, e, e', Option.map_some] at hdj
     rw [e, e']
     show some (keepP _ _ _) = some (keepP _ _ _)
     unfold keepP
     rw [Option.some.inj hdj]
     congr 2
     have hperm := hp j p p' e e'
     have hA := predsOf_sorted (t := b.toNat) bs 0 hok.toNd
     have hAn : (predsOf bs 0 b.toNat).Nodup := hA.1.imp fun h e => by omega
     have hAi : ∀ a ∈ predsOf bs 0 b.toNat, 0 ≤ a := fun a ha => by have := predsOf_mem ha; omega
     have hnd := fromL_nodup (at_ := plcO (ordL bs)) (src := p.src) hAn (fun a ha c hc h e => by
      have := plcO_inj h e
      have := hAi a ha
      have := hAi c hc
      omega)
     have hs : ((fromL (plcO (ordL bs')) (predsOf bs' 0 (sg b.toNat)) p'.src).mergeSort leF).Pairwise fun x y => x.1 ≤ y.1 := by
      have h := List.pairwise_mergeSort (le := leF) (fun a b c h1 h2 => by simp [leF] at *; omega) (fun a b => by simp [leF]; omega) (fromL (plcO (ordL bs')) (predsOf bs' 0 (sg b.toNat)) p'.src)
      exact h.imp fun h => by simpa [leF] using h
     rw [sorted_from2 ((List.mergeSort_perm _ _).trans hperm) hs hnd]
   · rw [List.getElem?_eq_none (by omega), List.getElem?_eq_none (by omega)]
     rfl
 · congr 1
   rw [List.map_map]
   refine List.map_congr_left fun t ht => ?_
   show plcO (ordL bs') (((sg t.toNat : Nat) : Int)).toNat = _
   rw [Int.toNat_natCast]
   refine h.plc ?_
   have := ho.clo b hb t ht
   have hr := ho.inn t this
   rw [Int.toNat_of_nonneg hr.1]
   exact List.mem_reverse.1 this

end Go.Proofs.YtnkogppgacappaaGreatDoor

namespace Go.Proofs.YtnkogppgacappaaGreatDoor

theorem flat_perm {α : Type} [DecidableEq α] (k : α → Nat) (l : List α) : ∀ n : Nat, ((List.range n).flatMap fun j => l.filter fun p => decide (k p = j)).Perm (l.filter fun p => decide (k p < n))
 | 0 => by
   rw [show (l.filter fun p => decide (k p < 0)) = [] from List.filter_eq_nil_iff.2 fun a _ => by simp]
   exact List.Perm.refl _
 | n + 1 => by
   rw [List.range_succ, List.flatMap_append]
   have h1 := flat_perm k l n
   simp only [List.flatMap_cons, List.flatMap_nil, List.append_nil]
   refine (h1.append_right _).trans ?_
   have h2 := List.filter_append_perm (fun p => decide (k p < n)) (l.filter fun p => decide (k p < n + 1))
   rw [List.filter_filter, List.filter_filter] at h2
   have e1 : (l.filter fun a => decide (k a < n) && decide (k a < n + 1)) = l.filter fun p => decide (k p < n) := List.filter_congr fun x _ => by
    rw [Bool.eq_iff_iff]; simp only [Bool.and_eq_true, decide_eq_true_eq]; omega
   have e2 : (l.filter fun a => (!decide (k a < n)) && decide (k a < n + 1)) = l.filter fun p => decide (k p = n) := List.filter_congr fun x _ => by
    rw [Bool.eq_iff_iff]; simp only [Bool.and_eq_true, Bool.not_eq_true', decide_eq_false_iff_not, decide_eq_true_eq]; omega
   rw [e1, e2] at h2
   exact h2
section
variable {bs : List DBlock} {o : List Nat} {n : Nat}
theorem blk_getD {i : Nat} (hi : i < bs.length) : bs.getD i noBlock = blkOf bs i := by
 rw [List.getD_eq_getElem?_getD, blkOf_self bs hi]; rfl
theorem turn_blk (hp : Perm o bs.length) {i : Nat} (hi : i < bs.length) : blkOf (turnL bs o) (placeOf o i) = turnX o (predsOf bs 0 i) (blkOf bs i) := by
 obtain ⟨h1, h2⟩ := hp.place hi
 refine blkOf_at ?_
 unfold turnL
 rw [List.getElem?_map, List.getElem?_eq_getElem h1, h2, Option.map_some, blk_getD hi]
theorem turn_toOk (_hf : Flow bs bs.length) (ht : ToOk bs) (hp : Perm o bs.length) : ToOk (turnL bs o) := by
 refine ⟨by rw [turnL_len, hp.len]; exact ht.pos, fun k x hx => ?_⟩
 have hk : k < o.length := by rw [← turnL_len bs o]; exact (List.getElem?_eq_some_iff.1 hx).1
 have hlt := hp.lt _ (List.getElem_mem hk)
 have e : x = turnX o (predsOf bs 0 o[k]) (blkOf bs o[k]) := by
  unfold turnL at hx
  rw [List.getElem?_map, List.getElem?_eq_getElem hk, Option.map_some, blk_getD hlt] at hx
  exact (Option.some.inj hx).symm
 rw [e]
 have h := ht.tgt o[k] _ (blkOf_self bs hlt)
 refine ⟨by show (List.map _ _).length ≤ 2; rw [List.length_map]; exact h.1, fun t h2 => ?_⟩
 obtain ⟨t0, h0, rfl⟩ := List.mem_map.1 (show t ∈ List.map _ _ from h2)
 have hr := h.2 t0 h0
 obtain ⟨h3, -⟩ := hp.place (z := t0.toNat) (by omega)
 rw [turnL_len]
 omega
theorem turn_ren (hf : Flow bs bs.length) (ht : ToOk bs) (hp : Perm o bs.length) (h0 : o[0]? = some 0) : Ren bs (turnL bs o) (placeOf o) := by
 have hl : ∀ i : Nat, (i : Int) ∈ postF bs → i < bs.length := fun i hi => post_lt ht hi
 refine ⟨ht, turn_toOk hf ht hp, fun i hi => ?_, fun i j hi hj e => ?_, ?_, fun i hi => ?_, fun i hi => ?_, fun i hi => ?_⟩
 · rw [turnL_len]
   exact (hp.place (hl i hi)).1
 · have := place_inj hp (a := (i : Int)) (b := (j : Int)) (by have := hl i hi; omega) (by have := hl j hj; omega) (by rw [Int.toNat_natCast, Int.toNat_natCast]; exact e)
   omega
 · have hk := (List.getElem?_eq_some_iff.1 h0).1
   have := hp.at hk
   rw [(List.getElem?_eq_some_iff.1 h0).2] at this
   exact this
 · rw [turn_blk hp (hl i hi)]; rfl
 · rw [turn_blk hp (hl i hi)]; exact ⟨rfl, rfl⟩
 · rw [turn_blk hp (hl i hi)]; rfl
theorem turn_zip (hf : Flow bs bs.length) (hp : Perm o bs.length) {i : Nat} (hi : i < bs.length) {src : List DVal} (hs : src.length = (predsOf bs 0 i).length) :
 ∃ L : List (Int × DVal), L.Perm ((predsOf bs 0 i).zip src) ∧ srcF o (predsOf bs 0 i) src o.length = L.map (·.2) ∧ predsOf (turnL bs o) 0 (placeOf o i) = L.map fun p => ((placeOf o p.1.toNat : Nat) : Int) := by
 have hA := predsOf_sorted (t := i) bs 0 hf.mem
 have hAn : (predsOf bs 0 i).Nodup := hA.1.imp fun h e => by omega
 have hAi : ∀ a ∈ predsOf bs 0 i, 0 ≤ a ∧ a < (bs.length : Int) := fun a ha => by have := predsOf_mem ha; omega
 obtain ⟨q1, q2⟩ := hp.place hi
 have hperm : ((List.range o.length).flatMap fun j => ((predsOf bs 0 i).zip src).filter fun p => decide (placeOf o p.1.toNat = j)).Perm ((predsOf bs 0 i).zip src) := by
  have h := flat_perm (fun p : Int × DVal => placeOf o p.1.toNat) ((predsOf bs 0 i).zip src) o.length
  rw [List.filter_eq_self.2 fun p hpm => ?_] at h
  · exact h
  · have := hAi p.1 (List.of_mem_zip (show (p.1, p.2) ∈ _ from hpm)).1
    exact decide_eq_true (hp.place (z := p.1.toNat) (by omega)).1
 refine ⟨_, hperm, ?_, ?_⟩
 · unfold srcF
   rw [List.map_flatMap]
   refine flatMap_congr9 fun j _ => ?_
   rw [pickI_zip hs]
 · refine (ssorted_ext ?_ (predsOf_sorted (t := placeOf o i) (turnL bs o) 0 (hf.turn hp).mem).1 fun x => ?_).symm
   · refine List.pairwise_map.2 ?_
     have hnd : (((List.range o.length).flatMap fun j => ((predsOf bs 0 i).zip src).filter fun p => decide (placeOf o p.1.toNat = j))).Pairwise fun p q => placeOf o p.1.toNat ≠ placeOf o q.1.toNat := by
      have hz : ((predsOf bs 0 i).zip src).Pairwise fun p q => p.1 ≠ q.1 := by
       have h1 : (((predsOf bs 0 i).zip src).map Prod.fst).Nodup := by
        rw [List.map_fst_zip (by omega)]; exact hAn
       exact List.pairwise_map.1 h1
      have h2 := (hperm.pairwise_iff (R := fun p q : Int × DVal => p.1 ≠ q.1) (fun h e => h e.symm)).2 hz
      refine List.Pairwise.imp_of_mem (fun {p q} hpm hqm hne e => hne ?_) h2
      have m1 := hAi p.1 (List.of_mem_zip (show (p.1, p.2) ∈ _ from hperm.mem_iff.1 hpm)).1
      have m2 := hAi q.1 (List.of_mem_zip (show (q.1, q.2) ∈ _ from hperm.mem_iff.1 hqm)).1
      exact place_inj hp m1 m2 e
     have hle : (((List.range o.length).flatMap fun j => ((predsOf bs 0 i).zip src).filter fun p => decide (placeOf o p.1.toNat = j))).Pairwise fun p q => placeOf o p.1.toNat ≤ placeOf o q.1.toNat := by
      refine List.pairwise_flatMap.2 ⟨fun j _ => ?_, ?_⟩
      · refine List.Pairwise.imp_of_mem (R := fun _ _ => True) (fun {p q} hpm hqm _ => ?_) (List.pairwise_of_forall fun _ _ => trivial)
        have e1 := of_decide_eq_true (List.mem_filter.1 hpm).2
        have e2 := of_decide_eq_true (List.mem_filter.1 hqm).2
        omega
      · refine List.Pairwise.imp (fun {a b} hab p hpm q hqm => ?_) (List.pairwise_lt_range (n := o.length))
        have e1 := of_decide_eq_true (List.mem_filter.1 hpm).2
        have e2 := of_decide_eq_true (List.mem_filter.1 hqm).2
        omega
     exact (hnd.and hle).imp fun ⟨h, h'⟩ => by omega
   · rw [mem_predsOf, List.mem_map]
     constructor
     · rintro ⟨p, hpm, rfl⟩
       have hz := hperm.mem_iff.1 hpm
       have ha := (List.of_mem_zip (show (p.1, p.2) ∈ _ from hz)).1
       have hr := hAi p.1 ha
       obtain ⟨k, y, h1, h2, h3⟩ := mem_predsOf.1 ha
       have hk : k < bs.length := (List.getElem?_eq_some_iff.1 h1).1
       have e : p.1.toNat = k := by omega
       obtain ⟨g1, g2⟩ := hp.place hk
       refine ⟨placeOf o k, _, blkOf_self (turnL bs o) (by rw [turnL_len]; exact g1), ?_, by rw [e]; omega⟩
       rw [turn_blk hp hk]
       show _ ∈ turnTo o (blkOf bs k).fin.to
       rw [turnTo_mem hp (fun t ht => hf.tgt k hk t (by rw [blk_getD hk]; exact ht)) q1, q2, blkOf_at h1]
       exact h2
     · rintro ⟨k, y, h1, h2, h3⟩
       have hk : k < o.length := by rw [← turnL_len bs o]; exact (List.getElem?_eq_some_iff.1 h1).1
       have hlt := hp.lt _ (List.getElem_mem hk)
       have e : y = turnX o (predsOf bs 0 o[k]) (blkOf bs o[k]) := by
        unfold turnL at h1
        rw [List.getElem?_map, List.getElem?_eq_getElem hk, Option.map_some, blk_getD hlt] at h1
        exact (Option.some.inj h1).symm
       rw [e] at h2
       have h4 := (turnTo_mem hp (fun t ht => hf.tgt _ hlt t (by rw [blk_getD hlt]; exact ht)) q1).1 (show ((placeOf o i : Nat) : Int) ∈ turnTo o (blkOf bs o[k]).fin.to from h2)
       rw [q2] at h4
       have hin : ((o[k] : Nat) : Int) ∈ predsOf bs 0 i := predsOf_got (blkOf_self bs hlt) h4
       obtain ⟨m, hm, em⟩ := List.getElem_of_mem hin
       refine ⟨(((o[k] : Nat) : Int), src[m]'(by omega)), hperm.mem_iff.2 ?_, ?_⟩
       · exact List.mem_of_getElem? (i := m) (List.getElem?_zip_eq_some.2 ⟨by rw [List.getElem?_eq_getElem hm, em], List.getElem?_eq_getElem (by omega)⟩)
       · show ((placeOf o (((o[k] : Nat) : Int)).toNat : Nat) : Int) = x
         rw [Int.toNat_natCast, hp.at hk, h3]; simp
theorem zip_map_both {α β γ : Type} (f : α → β) (g : α → γ) : ∀ l : List α, (l.map f).zip (l.map g) = l.map fun x => (f x, g x)
 | [] => rfl
 | x :: l => by simp only [List.map_cons, List.zip_cons_cons, zip_map_both f g l]
theorem turn_keep (hok : FunOk bs) (hf : Flow bs bs.length) (ht : ToOk bs) (hp : Perm o bs.length) (h0 : o[0]? = some 0) : keepF (turnL bs o) (ordL (turnL bs o)) = keepF bs (ordL bs) := by
 have hr := turn_ren hf ht hp h0
 refine hr.keep hok fun i hi => ?_
 have hl := post_lt ht hi
 rw [turn_blk hp hl]
 refine ⟨?_, fun j p p' h1 h2 => ?_⟩
 · show (List.map (turnPhi o (predsOf bs 0 i)) (blkOf bs i).phis).map (·.dst) = _
   rw [List.map_map]; rfl
 · have e : p' = turnPhi o (predsOf bs 0 i) p := by
    have h3 : (List.map (turnPhi o (predsOf bs 0 i)) (blkOf bs i).phis)[j]? = some p' := h2
    rw [List.getElem?_map, h1] at h3
    exact (Option.some.inj h3).symm
   have hs := hok.src i hl p (List.mem_of_getElem? h1)
   obtain ⟨L, g1, g2, g3⟩ := turn_zip hf hp hl hs
   rw [e]
   show (fromL _ _ (srcF o (predsOf bs 0 i) p.src o.length)).Perm _
   rw [g2, g3]
   unfold fromL
   rw [zip_map_both, List.flatMap_map]
   refine List.Perm.trans ?_ (g1.flatMap_right (fromOne (plcO (ordL bs))))
   rw [flatMap_congr9 (g := fromOne (plcO (ordL bs))) fun q hq => ?_]
   have ha := (List.of_mem_zip (show (q.1, q.2) ∈ _ from g1.mem_iff.1 hq)).1
   have har := predsOf_mem ha
   have har2 : q.1.toNat < bs.length := by omega
   unfold fromOne
   dsimp only
   rw [Int.toNat_natCast]
   by_cases hm : ((q.1.toNat : Nat) : Int) ∈ postF bs
   · rw [hr.plc hm]
   · have n1 : ¬ 0 ≤ plcO (ordL bs) q.1.toNat := fun h => hm (List.mem_reverse.1 (plcO_mem.1 h))
     have n2 : ¬ 0 ≤ plcO (ordL (turnL bs o)) (placeOf o q.1.toNat) := fun h => by
      have h3 := plcO_mem.1 h
      rw [hr.ord] at h3
      obtain ⟨t, h4, h5⟩ := List.mem_map.1 h3
      have hti := (ordL_ok ht).inn t h4
      have := place_inj hp (a := t) (b := ((q.1.toNat : Nat) : Int)) hti (by omega) (by rw [Int.toNat_natCast]; omega)
      exact hm (by rw [← this]; exact List.mem_reverse.1 h4)
     rw [if_neg n1, if_neg n2]
end
theorem tidy_turn {f : DFunc} {o : List Nat} (hok : FunOk f.blocks) (hf : Flow f.blocks f.blocks.length) (ht : ToOk f.blocks) (hp : Perm o f.blocks.length) (h0 : o[0]? = some 0) : tidyFn (turnF f o) = tidyFn f := by
 have h := turn_keep hok hf ht hp h0
 unfold tidyFn turnF doN doB keptB preB
 dsimp only
 rw [h]

end Go.Proofs.YtnkogppgacappaaGreatDoor
