/- The tree of the blocks that rule others, plainly: what its rounds keep, and that they end. No program in sight. dom.TreeOf, in plain Lean: the order of a search in depth is fit for the tree; the rounds end, and what holds then. Post-order: what is reached is closed; and it does not mind how blocks are numbered. Plain. -/
import Derived.Test.YtnkogppgacappaaGreatDoorPChk3
import Derived.Test.YtnkogppgacappaaGreatDoorPPost
import Derived.Test.YtnkogppgacappaaGreatDoorPFour
import Derived.Test.YtnkogppgacappaaGreatDoorPKnown
import Derived.Test.YtnkogppgacappaaGreatDoorPMrg3
namespace Go.Proofs.YtnkogppgacappaaGreatDoor
open Go.RowKit

end Go.Proofs.YtnkogppgacappaaGreatDoor

namespace Go.Proofs.YtnkogppgacappaaGreatDoor
open Go.RowKit

def ordL (bs : List DBlock) : List Int := (postF bs).reverse
def ordN (bs : List DBlock) : List Nat := (ordL bs).map Int.toNat
structure ToOk (bs : List DBlock) : Prop where
 pos : 0 < bs.length
 tgt : ∀ (k : Nat) (x : DBlock), bs[k]? = some x → x.fin.to.length ≤ 2 ∧ ∀ t ∈ x.fin.to, 0 ≤ t ∧ t < (bs.length : Int)

theorem ToOk.tos {bs : List DBlock} (h : ToOk bs) : ∀ b, ∀ t ∈ tosOf bs b, 0 ≤ t := by
 intro b t ht
 unfold tosOf at ht
 cases e : bs[b]? with
 | none => rw [e] at ht; cases ht
 | some x => rw [e] at ht; exact ((h.tgt b x e).2 t ht).1
theorem post_facts {bs : List DBlock} (h : ToOk bs) : (∀ x ∈ postF bs, 0 ≤ x ∧ x < (bs.length : Int)) ∧ (postF bs).Nodup ∧ LedBy bs (postF bs) [0] ∧ (∃ A, postF bs = A ++ [0]) := by
 have hp := h.pos
 obtain ⟨A, h1, h2⟩ := visit_visd bs h.tos bs.length 0 (List.replicate bs.length false, []) (by dsimp only; rw [List.getElem?_replicate, if_pos hp]) (by dsimp only; rw [List.count_replicate_self]; exact Nat.le_refl _)
 have e : postF bs = A := by
  unfold postF
  have := h1.left
  rw [List.nil_append] at this
  exact this
 refine ⟨fun x hx => ?_, by rw [e]; exact h1.nodup, by rw [e]; exact h2, ?_⟩
 · rw [e] at hx
   have := h1.fresh x hx
   dsimp only at this
   rw [List.length_replicate] at this
   exact ⟨this.1, this.2.1⟩
 · obtain ⟨n, hn⟩ : ∃ n, bs.length = n + 1 := ⟨bs.length - 1, by omega⟩
   unfold postF
   rw [hn, visitF_succ]
   exact ⟨_, rfl⟩

theorem nodup_inj {α : Type} {l : List α} (h : l.Nodup) {i j : Nat} (hi : i < l.length) (hj : j < l.length) (e : l[i] = l[j]) : i = j := by
 have h2 := List.pairwise_iff_getElem.1 h
 rcases Nat.lt_trichotomy i j with h3 | h3 | h3
 · exact absurd e (h2 i j hi hj h3)
 · exact h3
 · exact absurd e.symm (h2 j i hj hi h3)
theorem nodup_of {α : Type} {l : List α} (h : ∀ i j (hi : i < l.length) (hj : j < l.length), l[i] = l[j] → i = j) : l.Nodup :=
 List.pairwise_iff_getElem.2 fun i j hi hj hlt e => by have := h i j hi hj e; omega
theorem ordN_get {bs : List DBlock} {j : Nat} (hj : j < (ordN bs).length) : ∃ h : (postF bs).length - 1 - j < (postF bs).length, (ordN bs)[j] = ((postF bs)[(postF bs).length - 1 - j]).toNat := by
 have e : (ordN bs).length = (postF bs).length := by unfold ordN ordL; simp
 have h : (postF bs).length - 1 - j < (postF bs).length := by omega
 refine ⟨h, ?_⟩
 have h2 : (ordN bs)[j]? = some ((postF bs)[(postF bs).length - 1 - j]).toNat := by
  unfold ordN ordL
  rw [List.getElem?_map, List.getElem?_reverse (by omega), List.getElem?_eq_getElem h]; rfl
 rw [List.getElem?_eq_getElem hj] at h2
 exact Option.some.inj h2
theorem ordN_len (bs : List DBlock) : (ordN bs).length = (postF bs).length := by unfold ordN ordL; simp
theorem ordN_inj {bs : List DBlock} (h : ToOk bs) {i j : Nat} (hi : i < (ordN bs).length) (hj : j < (ordN bs).length) (e : (ordN bs)[i] = (ordN bs)[j]) : i = j := by
 obtain ⟨h1, h2, -, -⟩ := post_facts h
 obtain ⟨a, ea⟩ := ordN_get hi
 obtain ⟨b, eb⟩ := ordN_get hj
 rw [ea, eb] at e
 have p1 := h1 _ (List.getElem_mem a)
 have p2 := h1 _ (List.getElem_mem b)
 have e2 : (postF bs)[(postF bs).length - 1 - i] = (postF bs)[(postF bs).length - 1 - j] := by omega
 have := nodup_inj h2 _ _ e2
 have := ordN_len bs
 omega
theorem ordN_lt {bs : List DBlock} (h : ToOk bs) {x : Nat} (hx : x ∈ ordN bs) : x < bs.length := by
 obtain ⟨h1, -, -, -⟩ := post_facts h
 unfold ordN ordL at hx
 obtain ⟨y, hy, rfl⟩ := List.mem_map.1 hx
 have := h1 y (List.mem_reverse.1 hy)
 omega
theorem nodup_len {n : Nat} : ∀ (l : List Nat), l.Nodup → (∀ x ∈ l, x < n) → l.length ≤ n := by
 intro l h1 h2
 have := List.Nodup.length_le_of_subset (l₁ := l) (l₂ := List.range n) h1 (fun x hx => List.mem_range.2 (h2 x hx))
 simpa using this
theorem ordN_le {bs : List DBlock} (h : ToOk bs) : (ordN bs).length ≤ bs.length := by
 refine nodup_len _ (nodup_of fun i j hi hj e => ordN_inj h hi hj e) (fun x hx => ordN_lt h hx)
end Go.Proofs.YtnkogppgacappaaGreatDoor

namespace Go.Proofs.YtnkogppgacappaaGreatDoor

def Clo (bs : List DBlock) (s s' : List Bool × List Int) : Prop := ∀ i : Nat, s'.1.getD i true = true → s.1.getD i true = true ∨ ∀ t ∈ tosOf bs i, s'.1.getD t.toNat true = true
def SeenLe (s s' : List Bool × List Int) : Prop := ∀ i : Nat, s.1.getD i true = true → s'.1.getD i true = true
theorem Clo.trans {bs : List DBlock} {s s' s'' : List Bool × List Int} (h : Clo bs s s') (k : Clo bs s' s'') (hl : SeenLe s' s'') : Clo bs s s'' := fun i hi => by
 rcases k i hi with h1 | h1
 · rcases h i h1 with h2 | h2
   · exact .inl h2
   · exact .inr fun t ht => hl _ (h2 t ht)
 · exact .inr h1
theorem getD_seen {l : List Bool} {b i : Nat} (h : l[b]? = some false) : (l.set b true).getD i true = true ↔ i = b ∨ l.getD i true = true := by
 rw [List.getD_eq_getElem?_getD, List.getD_eq_getElem?_getD, List.getElem?_set]
 have hl := (List.getElem?_eq_some_iff.1 h).1
 by_cases e : b = i
 · subst e; simp [hl]
 · rw [if_neg e]
   constructor
   · exact .inr
   · rintro (h1 | h1)
     · exact absurd h1.symm e
     · exact h1
theorem seen_not {l : List Bool} {i : Nat} (h : ¬ l.getD i true = true) : l[i]? = some false := by
 rw [List.getD_eq_getElem?_getD] at h
 cases hh : l[i]? with
 | none => rw [hh] at h; exact absurd rfl h
 | some x => rw [hh] at h; cases x with
   | true => exact absurd rfl h
   | false => rfl
theorem walk_clo (bs : List DBlock) (f : Nat) (hv : ∀ (b : Nat) (s : List Bool × List Int), s.1[b]? = some false → s.1.count false ≤ f → Clo bs s (visitF bs f b s) ∧ SeenLe s (visitF bs f b s) ∧ (visitF bs f b s).1.getD b true = true ∧ (visitF bs f b s).1.length = s.1.length) :
 ∀ (l : List Int) (s : List Bool × List Int), s.1.count false ≤ f → Clo bs s (walkF bs f l s) ∧ SeenLe s (walkF bs f l s) ∧ (∀ t ∈ l, (walkF bs f l s).1.getD t.toNat true = true) ∧ (walkF bs f l s).1.length = s.1.length
 | [], s, _ => ⟨fun i h => .inl h, fun i h => h, fun t h => (by cases h), rfl⟩
 | t :: l, s, hc => by
   rw [walkF_cons]
   by_cases hs : s.1.getD t.toNat true = true
   · rw [if_pos hs]
     obtain ⟨h1, h2, h3, h4⟩ := walk_clo bs f hv l s hc
     refine ⟨h1, h2, fun u hu => ?_, h4⟩
     rcases List.mem_cons.1 hu with rfl | hu
     · exact h2 _ hs
     · exact h3 u hu
   · rw [if_neg hs]
     obtain ⟨g1, g2, g3, g4⟩ := hv t.toNat s (seen_not hs) hc
     have hc' : (visitF bs f t.toNat s).1.count false ≤ f := Nat.le_trans (unseen_le _ _ g4 g2) hc
     obtain ⟨h1, h2, h3, h4⟩ := walk_clo bs f hv l _ hc'
     refine ⟨g1.trans h1 h2, fun i hi => h2 _ (g2 i hi), fun u hu => ?_, h4.trans g4⟩
     rcases List.mem_cons.1 hu with rfl | hu
     · exact h2 _ g3
     · exact h3 u hu
theorem visit_clo (bs : List DBlock) : ∀ (f b : Nat) (s : List Bool × List Int), s.1[b]? = some false → s.1.count false ≤ f → Clo bs s (visitF bs f b s) ∧ SeenLe s (visitF bs f b s) ∧ (visitF bs f b s).1.getD b true = true ∧ (visitF bs f b s).1.length = s.1.length
 | 0, b, s, hb, hc => by
   have := unseen_set s.1 b hb
   omega
 | f + 1, b, s, hb, hc => by
   have hu := unseen_set s.1 b hb
   obtain ⟨h1, h2, h3, h4⟩ := walk_clo bs f (visit_clo bs f) (tosOf bs b).reverse (s.1.set b true, s.2) (by show (s.1.set b true).count false ≤ f; omega)
   rw [visitF_succ]
   refine ⟨fun i hi => ?_, fun i hi => ?_, ?_, ?_⟩
   · rcases h1 i hi with g | g
     · rcases (getD_seen hb).1 g with rfl | g
       · exact .inr fun t ht => h3 t (List.mem_reverse.2 ht)
       · exact .inl g
     · exact .inr g
   · exact h2 i ((getD_seen hb).2 (.inr hi))
   · exact h2 b ((getD_seen hb).2 (.inl rfl))
   · rw [h4]; exact List.length_set
theorem post_closed {bs : List DBlock} (h : ToOk bs) : ∀ x ∈ postF bs, ∀ t ∈ tosOf bs x.toNat, t ∈ postF bs := by
 have hp := h.pos
 have hb : (List.replicate bs.length false)[0]? = some false := by rw [List.getElem?_replicate, if_pos hp]
 have hc : (List.replicate bs.length false).count false ≤ bs.length := by rw [List.count_replicate_self]; exact Nat.le_refl _
 obtain ⟨A, h1, -⟩ := visit_visd bs h.tos bs.length 0 (List.replicate bs.length false, []) hb hc
 have h2 := visit_clo bs bs.length 0 (List.replicate bs.length false, []) hb hc
 have e : postF bs = A := by
  unfold postF
  have := h1.left
  rw [List.nil_append] at this
  exact this
 have hn : ∀ i : Nat, i < bs.length → ¬ (List.replicate bs.length false).getD i true = true := fun i hi => by
  rw [List.getD_eq_getElem?_getD, List.getElem?_replicate, if_pos hi]; simp
 intro x hx t ht
 obtain ⟨p1, -, -, -⟩ := post_facts h
 have hx2 := p1 x hx
 rw [e] at hx ⊢
 have hxs := (h1.seen x.toNat).2 (.inr (by rw [Int.toNat_of_nonneg hx2.1]; exact hx))
 rcases h2.1 x.toNat hxs with g | g
 · exact absurd g (hn _ (by omega))
 · have htn : 0 ≤ t ∧ t < (bs.length : Int) := by
    unfold tosOf at ht
    rw [List.getElem?_eq_getElem (show x.toNat < bs.length by omega)] at ht
    exact (h.tgt _ _ (List.getElem?_eq_getElem (show x.toNat < bs.length by omega))).2 t ht
   rcases (h1.seen t.toNat).1 (g t ht) with g2 | g2
   · exact absurd g2 (hn _ (by omega))
   · rw [Int.toNat_of_nonneg htn.1] at g2; exact g2

structure Eqv (bs bs' : List DBlock) (sg : Nat → Nat) (G : Nat → Prop) : Prop where
 lt : ∀ i, G i → i < bs.length
 lt' : ∀ i, G i → sg i < bs'.length
 inj : ∀ i j, G i → G j → sg i = sg j → i = j
 clo : ∀ i, G i → ∀ t ∈ tosOf bs i, G t.toNat
 tos : ∀ i, G i → tosOf bs' (sg i) = (tosOf bs i).map fun t => ((sg t.toNat : Nat) : Int)
structure EqS (sg : Nat → Nat) (G : Nat → Prop) (n n' : Nat) (s s' : List Bool × List Int) : Prop where
 len : s.1.length = n ∧ s'.1.length = n'
 seen : ∀ i, G i → s'.1.getD (sg i) true = s.1.getD i true
 left : s'.2 = s.2.map fun t => ((sg t.toNat : Nat) : Int)
section
variable {bs bs' : List DBlock} {sg : Nat → Nat} {G : Nat → Prop}
theorem walk_eqv (f f' : Nat) (hv : ∀ (b : Nat) (s s' : List Bool × List Int), G b → EqS sg G bs.length bs'.length s s' → s.1[b]? = some false → s.1.count false ≤ f → s'.1.count false ≤ f' → EqS sg G bs.length bs'.length (visitF bs f b s) (visitF bs' f' (sg b) s') ∧ (visitF bs f b s).1.count false ≤ s.1.count false ∧ (visitF bs' f' (sg b) s').1.count false ≤ s'.1.count false) :
 ∀ (l : List Int) (s s' : List Bool × List Int), (∀ t ∈ l, G t.toNat) → EqS sg G bs.length bs'.length s s' → s.1.count false ≤ f → s'.1.count false ≤ f' → EqS sg G bs.length bs'.length (walkF bs f l s) (walkF bs' f' (l.map fun t => ((sg t.toNat : Nat) : Int)) s') ∧ (walkF bs f l s).1.count false ≤ s.1.count false ∧ (walkF bs' f' (l.map fun t => ((sg t.toNat : Nat) : Int)) s').1.count false ≤ s'.1.count false
 | [], s, s', _, h, _, _ => ⟨h, Nat.le_refl _, Nat.le_refl _⟩
 | t :: l, s, s', hl, h, hc, hc' => by
   have hg := hl t (List.mem_cons_self ..)
   rw [List.map_cons, walkF_cons, walkF_cons, Int.toNat_natCast, h.seen _ hg]
   by_cases hs : s.1.getD t.toNat true = true
   · rw [if_pos hs, if_pos hs]
     exact walk_eqv f f' hv l s s' (fun u hu => hl u (List.mem_cons_of_mem _ hu)) h hc hc'
   · rw [if_neg hs, if_neg hs]
     obtain ⟨g1, g2, g3⟩ := hv t.toNat s s' hg h (seen_not hs) hc hc'
     obtain ⟨k1, k2, k3⟩ := walk_eqv f f' hv l _ _ (fun u hu => hl u (List.mem_cons_of_mem _ hu)) g1 (Nat.le_trans g2 hc) (Nat.le_trans g3 hc')
     exact ⟨k1, Nat.le_trans k2 g2, Nat.le_trans k3 g3⟩
theorem visit_eqv (h : Eqv bs bs' sg G) : ∀ (f f' b : Nat) (s s' : List Bool × List Int), G b → EqS sg G bs.length bs'.length s s' → s.1[b]? = some false → s.1.count false ≤ f → s'.1.count false ≤ f' → EqS sg G bs.length bs'.length (visitF bs f b s) (visitF bs' f' (sg b) s') ∧ (visitF bs f b s).1.count false ≤ s.1.count false ∧ (visitF bs' f' (sg b) s').1.count false ≤ s'.1.count false
 | 0, f', b, s, s', hg, hs, hb, hc, hc' => by
   have := unseen_set s.1 b hb
   omega
 | f + 1, 0, b, s, s', hg, hs, hb, hc, hc' => by
   have hn : ¬ s'.1.getD (sg b) true = true := by
    rw [hs.seen b hg, List.getD_eq_getElem?_getD, hb]; simp
   have := unseen_set s'.1 (sg b) (seen_not hn)
   omega
 | f + 1, f' + 1, b, s, s', hg, hs, hb, hc, hc' => by
   have hn : ¬ s'.1.getD (sg b) true = true := by
    rw [hs.seen b hg, List.getD_eq_getElem?_getD, hb]; simp
   have hb' := seen_not hn
   have hu := unseen_set s.1 b hb
   have hu' := unseen_set s'.1 (sg b) hb'
   have hs1 : EqS sg G bs.length bs'.length (s.1.set b true, s.2) (s'.1.set (sg b) true, s'.2) := by
    refine ⟨by simp [hs.len.1, hs.len.2], fun i hi => ?_, hs.left⟩
    have e := hs.seen i hi
    have i1 : (s'.1.set (sg b) true).getD (sg i) true = true ↔ (s.1.set b true).getD i true = true := by
     rw [getD_seen hb', getD_seen hb, e]
     constructor
     · rintro (h1 | h1)
       · exact .inl (h.inj i b hi hg h1)
       · exact .inr h1
     · rintro (h1 | h1)
       · exact .inl (by rw [h1])
       · exact .inr h1
    exact Bool.eq_iff_iff.2 i1
   have hrev : (tosOf bs' (sg b)).reverse = (tosOf bs b).reverse.map fun t => ((sg t.toNat : Nat) : Int) := by rw [h.tos b hg, List.map_reverse]
   rw [visitF_succ, visitF_succ, hrev]
   obtain ⟨k1, k2, k3⟩ := walk_eqv f f' (visit_eqv h f f') (tosOf bs b).reverse (s.1.set b true, s.2) (s'.1.set (sg b) true, s'.2) (fun t ht => h.clo b hg t (List.mem_reverse.1 ht)) hs1 (by show (s.1.set b true).count false ≤ f; omega) (by show (s'.1.set (sg b) true).count false ≤ f'; omega)
   refine ⟨⟨k1.len, k1.seen, ?_⟩, ?_, ?_⟩
   · show _ ++ [_] = (_ ++ [_]).map _
     rw [k1.left, List.map_append]
     simp
   · exact Nat.le_trans k2 (by show (s.1.set b true).count false ≤ _; omega)
   · exact Nat.le_trans k3 (by show (s'.1.set (sg b) true).count false ≤ _; omega)
theorem post_eqv (h : Eqv bs bs' sg G) (h0 : G 0) (h0' : sg 0 = 0) : postF bs' = (postF bs).map fun t => ((sg t.toNat : Nat) : Int) := by
 have l1 := h.lt 0 h0
 have l2 := h.lt' 0 h0
 rw [h0'] at l2
 have hb : (List.replicate bs.length false)[0]? = some false := by rw [List.getElem?_replicate, if_pos l1]
 have hs : EqS sg G bs.length bs'.length (List.replicate bs.length false, []) (List.replicate bs'.length false, []) := by
  refine ⟨by simp, fun i hi => ?_, rfl⟩
  show (List.replicate _ false).getD _ true = (List.replicate _ false).getD _ true
  rw [List.getD_eq_getElem?_getD, List.getD_eq_getElem?_getD, List.getElem?_replicate, List.getElem?_replicate, if_pos (h.lt i hi), if_pos (h.lt' i hi)]
 have hv := (visit_eqv h bs.length bs'.length 0 _ _ h0 hs hb (by rw [List.count_replicate_self]; exact Nat.le_refl _) (by rw [List.count_replicate_self]; exact Nat.le_refl _)).1.left
 rw [h0'] at hv
 exact hv
end

end Go.Proofs.YtnkogppgacappaaGreatDoor
