/- graph.Post, in plain Lean: blocks as a search in depth leaves them. graph.Post: a visit of a block (the closure that calls itself within a loop over a function). -/
import Derived.Test.YtnkogppgacappaaGreatDoorPRefA
import Derived.Test.YtnkogppgacappaaGreatDoorPBack
import Derived.Test.YtnkogppgacappaaGreatDoorPStill
import Derived.Test.YtnkogppgacappaaGreatDoorPRowSt
import Derived.Maps.OwnIn
namespace Go.Proofs.YtnkogppgacappaaGreatDoor

def tosOf (bs : List DBlock) (b : Nat) : List Int := match bs[b]? with | some x => x.fin.to | none => []
def visitF (bs : List DBlock) : Nat → Nat → List Bool × List Int → List Bool × List Int
 | 0, _, s => s
 | f + 1, b, s =>
   let s1 := (tosOf bs b).reverse.foldl (fun s t => if s.1.getD t.toNat true = true then s else visitF bs f t.toNat s) (s.1.set b true, s.2)
   (s1.1, s1.2 ++ [(b : Int)])
def walkF (bs : List DBlock) (f : Nat) (l : List Int) (s : List Bool × List Int) : List Bool × List Int := l.foldl (fun s t => if s.1.getD t.toNat true = true then s else visitF bs f t.toNat s) s
theorem visitF_succ (bs : List DBlock) (f b : Nat) (s : List Bool × List Int) : visitF bs (f + 1) b s = ((walkF bs f (tosOf bs b).reverse (s.1.set b true, s.2)).1, (walkF bs f (tosOf bs b).reverse (s.1.set b true, s.2)).2 ++ [(b : Int)]) := rfl
theorem walkF_snoc (bs : List DBlock) (f : Nat) (l : List Int) (t : Int) (s : List Bool × List Int) : walkF bs f (l ++ [t]) s = if (walkF bs f l s).1.getD t.toNat true = true then walkF bs f l s else visitF bs f t.toNat (walkF bs f l s) := by
 unfold walkF; rw [List.foldl_append]; rfl
theorem walkF_cons (bs : List DBlock) (f : Nat) (l : List Int) (t : Int) (s : List Bool × List Int) : walkF bs f (t :: l) s = walkF bs f l (if s.1.getD t.toNat true = true then s else visitF bs f t.toNat s) := rfl

theorem unseen_set : ∀ (l : List Bool) (b : Nat), l[b]? = some false → (l.set b true).count false + 1 = l.count false := by
 intro l
 induction l with
 | nil => intro b h; simp at h
 | cons a l ih =>
   intro b h
   cases b with
   | zero =>
     rw [List.getElem?_cons_zero] at h
     cases h
     simp
   | succ b =>
     rw [List.getElem?_cons_succ] at h
     have := ih b h
     rw [List.set_cons_succ, List.count_cons, List.count_cons]
     omega

structure Visd (bs : List DBlock) (s s' : List Bool × List Int) (A : List Int) : Prop where
 len : s'.1.length = s.1.length
 left : s'.2 = s.2 ++ A
 seen : ∀ i, s'.1.getD i true = true ↔ s.1.getD i true = true ∨ (i : Int) ∈ A
 fresh : ∀ x ∈ A, 0 ≤ x ∧ x < (s.1.length : Int) ∧ s.1.getD x.toNat true = false
 nodup : A.Nodup
theorem Visd.refl (bs : List DBlock) (s : List Bool × List Int) : Visd bs s s [] :=
 ⟨rfl, (List.append_nil _).symm, fun i => ⟨.inl, fun h => h.elim id (fun h => (by cases h))⟩, fun x h => (by cases h), List.nodup_nil⟩
theorem Visd.trans {bs : List DBlock} {s s' s'' : List Bool × List Int} {A B : List Int} (h : Visd bs s s' A) (k : Visd bs s' s'' B) : Visd bs s s'' (A ++ B) := by
 refine ⟨k.len.trans h.len, by rw [k.left, h.left, List.append_assoc], fun i => ?_, fun x hx => ?_, ?_⟩
 · rw [k.seen, h.seen, List.mem_append]
   constructor
   · rintro ((h | h) | h)
     · exact .inl h
     · exact .inr (.inl h)
     · exact .inr (.inr h)
   · rintro (h | h | h)
     · exact .inl (.inl h)
     · exact .inl (.inr h)
     · exact .inr h
 · rcases List.mem_append.1 hx with hx | hx
   · exact h.fresh x hx
   · obtain ⟨h1, h2, h3⟩ := k.fresh x hx
     refine ⟨h1, by rw [h.len] at h2; exact h2, ?_⟩
     cases hs : s.1.getD x.toNat true with
     | false => rfl
     | true => rw [(h.seen x.toNat).2 (.inl hs)] at h3; cases h3
 · refine List.nodup_append.2 ⟨h.nodup, k.nodup, fun x hx y hy e => ?_⟩
   subst e
   obtain ⟨h1, h2, h3⟩ := k.fresh x hy
   have := (h.seen x.toNat).2 (.inr (by rw [Int.toNat_of_nonneg h1]; exact hx))
   rw [this] at h3; cases h3

theorem unseen_le : ∀ (l l' : List Bool), l'.length = l.length → (∀ i, l.getD i true = true → l'.getD i true = true) → l'.count false ≤ l.count false := by
 intro l
 induction l with
 | nil =>
   intro l' hl _
   obtain rfl := List.length_eq_zero_iff.1 hl
   exact Nat.le_refl _
 | cons a l ih =>
   intro l' hl h
   cases l' with
   | nil => simp at hl
   | cons a' l' =>
     have h1 := ih l' (by simpa using hl) (fun i hi => h (i + 1) hi)
     have h2 := h 0
     rw [List.count_cons, List.count_cons]
     cases a <;> cases a' <;> simp at h2 ⊢ <;> omega

def LedBy (bs : List DBlock) (A l : List Int) : Prop := ∀ j (h : j < A.length), (∃ k, ∃ h' : k < A.length, j < k ∧ A[j] ∈ tosOf bs (A[k]).toNat) ∨ A[j] ∈ l
theorem LedBy.mono {bs : List DBlock} {A l l' : List Int} (h : LedBy bs A l) (hl : ∀ x ∈ l, x ∈ l') : LedBy bs A l' := fun j hj => (h j hj).imp id (hl _)
theorem LedBy.append {bs : List DBlock} {A B l : List Int} (h : LedBy bs A l) (k : LedBy bs B l) : LedBy bs (A ++ B) l := by
 intro j hj
 by_cases hA : j < A.length
 · rw [List.getElem_append_left hA]
   rcases h j hA with ⟨i, hi, h1, h2⟩ | h
   · exact .inl ⟨i, by rw [List.length_append]; omega, h1, by rw [List.getElem_append_left hi]; exact h2⟩
   · exact .inr h
 · have hj' : j - A.length < B.length := by rw [List.length_append] at hj; omega
   rw [List.getElem_append_right (by omega)]
   rcases k (j - A.length) hj' with ⟨i, hi, h1, h2⟩ | h
   · refine .inl ⟨i + A.length, by rw [List.length_append]; omega, by omega, ?_⟩
     rw [List.getElem_append_right (by omega)]
     simpa using h2
   · exact .inr h
theorem LedBy.close {bs : List DBlock} {A : List Int} {b : Nat} (h : LedBy bs A (tosOf bs b)) : LedBy bs (A ++ [(b : Int)]) [(b : Int)] := by
 intro j hj
 by_cases hA : j < A.length
 · left
   rw [List.getElem_append_left hA]
   rcases h j hA with ⟨i, hi, h1, h2⟩ | h
   · exact ⟨i, by rw [List.length_append]; omega, h1, by rw [List.getElem_append_left hi]; exact h2⟩
   · exact ⟨A.length, by simp, hA, by simpa using h⟩
 · right
   rw [List.getElem_append_right (by omega)]
   simp

theorem walk_visd (bs : List DBlock) (f : Nat) (hv : ∀ (b : Nat) (s : List Bool × List Int), s.1[b]? = some false → s.1.count false ≤ f → ∃ A, Visd bs s (visitF bs f b s) A ∧ LedBy bs A [(b : Int)]) :
 ∀ (l : List Int) (s : List Bool × List Int), (∀ t ∈ l, 0 ≤ t) → s.1.count false ≤ f → ∃ A, Visd bs s (walkF bs f l s) A ∧ LedBy bs A l := by
 intro l
 induction l with
 | nil => exact fun s _ _ => ⟨[], Visd.refl bs s, fun j h => (by cases h)⟩
 | cons t l ih =>
   intro s ht hc
   rw [walkF_cons]
   by_cases hs : s.1.getD t.toNat true = true
   · rw [if_pos hs]
     obtain ⟨A, h1, h2⟩ := ih s (fun x hx => ht x (List.mem_cons_of_mem _ hx)) hc
     exact ⟨A, h1, h2.mono (fun x hx => List.mem_cons_of_mem _ hx)⟩
   · rw [if_neg hs]
     have hs' : s.1[t.toNat]? = some false := by
      rw [List.getD_eq_getElem?_getD] at hs
      cases h : s.1[t.toNat]? with
      | none => rw [h] at hs; exact absurd rfl hs
      | some x => rw [h] at hs; cases x with
        | true => exact absurd rfl hs
        | false => rfl
     obtain ⟨A, h1, h2⟩ := hv t.toNat s hs' hc
     have hc' : (visitF bs f t.toNat s).1.count false ≤ f := Nat.le_trans (unseen_le _ _ h1.len (fun i hi => (h1.seen i).2 (.inl hi))) hc
     obtain ⟨B, h3, h4⟩ := ih _ (fun x hx => ht x (List.mem_cons_of_mem _ hx)) hc'
     refine ⟨A ++ B, h1.trans h3, LedBy.append (h2.mono (fun x hx => ?_)) (h4.mono (fun x hx => List.mem_cons_of_mem _ hx))⟩
     rw [List.mem_singleton] at hx
     rw [hx, Int.toNat_of_nonneg (ht t (List.mem_cons_self ..))]
     exact List.mem_cons_self ..

theorem visit_visd (bs : List DBlock) (hto : ∀ b, ∀ t ∈ tosOf bs b, 0 ≤ t) : ∀ (f b : Nat) (s : List Bool × List Int), s.1[b]? = some false → s.1.count false ≤ f → ∃ A, Visd bs s (visitF bs f b s) A ∧ LedBy bs A [(b : Int)] := by
 intro f
 induction f with
 | zero =>
   intro b s hb hc
   have := unseen_set s.1 b hb
   omega
 | succ f ih =>
   intro b s hb hc
   have hb1 := (List.getElem?_eq_some_iff.1 hb).1
   have hu := unseen_set s.1 b hb
   obtain ⟨A, h1, h2⟩ := walk_visd bs f ih (tosOf bs b).reverse (s.1.set b true, s.2) (fun t ht => hto b t (List.mem_reverse.1 ht)) (by dsimp only; omega)
   rw [visitF_succ]
   have hset : ∀ i, (s.1.set b true).getD i true = true ↔ s.1.getD i true = true ∨ i = b := fun i => by
    rw [List.getD_eq_getElem?_getD, List.getD_eq_getElem?_getD, List.getElem?_set]
    by_cases hib : b = i
    · subst hib; simp [hb1]
    · rw [if_neg hib]
      exact ⟨.inl, fun h => h.elim id (fun h => absurd h.symm hib)⟩
   refine ⟨A ++ [(b : Int)], ⟨?_, ?_, fun i => ?_, fun x hx => ?_, ?_⟩, (h2.mono (fun x hx => List.mem_reverse.1 hx)).close⟩
   · have := h1.len
     simpa using this
   · have := h1.left
     dsimp only at this ⊢
     rw [this, List.append_assoc]
   · have h := h1.seen i
     dsimp only at h ⊢
     rw [h, hset, List.mem_append, List.mem_singleton]
     constructor
     · rintro ((h | h) | h)
       · exact .inl h
       · exact .inr (.inr (by rw [h]))
       · exact .inr (.inl h)
     · rintro (h | h | h)
       · exact .inl (.inl h)
       · exact .inr h
       · exact .inl (.inr (by omega))
   · rcases List.mem_append.1 hx with hx | hx
     · obtain ⟨k1, k2, k3⟩ := h1.fresh x hx
       dsimp only at k2 k3
       rw [List.length_set] at k2
       refine ⟨k1, k2, ?_⟩
       cases hs : s.1.getD x.toNat true with
       | false => rfl
       | true => rw [(hset x.toNat).2 (.inl hs)] at k3; cases k3
     · rw [List.mem_singleton] at hx
       subst hx
       refine ⟨by omega, by omega, ?_⟩
       rw [Int.toNat_natCast, List.getD_eq_getElem?_getD, hb]; rfl
   · refine List.nodup_append.2 ⟨h1.nodup, by simp, fun x hx y hy e => ?_⟩
     rw [List.mem_singleton] at hy
     subst e
     subst hy
     obtain ⟨k1, k2, k3⟩ := h1.fresh _ hx
     dsimp only at k3
     rw [Int.toNat_natCast, (hset b).2 (.inr rfl)] at k3
     cases k3

theorem getD_false {l : List Bool} {i : Nat} (h : ¬ l.getD i true = true) : l[i]? = some false := by
 rw [List.getD_eq_getElem?_getD] at h
 cases e : l[i]? with
 | none => rw [e] at h; exact absurd rfl h
 | some x => rw [e] at h; cases x with
   | true => exact absurd rfl h
   | false => rfl
theorem walk_sum (bs : List DBlock) (f : Nat) (hv : ∀ (b : Nat) (s : List Bool × List Int), s.1[b]? = some false → s.1.count false ≤ f → (visitF bs f b s).2.length + (visitF bs f b s).1.count false ≤ s.2.length + s.1.count false ∧ (visitF bs f b s).1.count false ≤ s.1.count false ∧ (visitF bs f b s).1.length = s.1.length) :
 ∀ (l : List Int) (s : List Bool × List Int), s.1.count false ≤ f → (walkF bs f l s).2.length + (walkF bs f l s).1.count false ≤ s.2.length + s.1.count false ∧ (walkF bs f l s).1.count false ≤ s.1.count false ∧ (walkF bs f l s).1.length = s.1.length := by
 intro l
 induction l with
 | nil => exact fun s _ => ⟨Nat.le_refl _, Nat.le_refl _, rfl⟩
 | cons t l ih =>
   intro s hc
   rw [walkF_cons]
   by_cases hs : s.1.getD t.toNat true = true
   · rw [if_pos hs]; exact ih s hc
   · rw [if_neg hs]
     obtain ⟨h1, h2, h3⟩ := hv t.toNat s (getD_false hs) hc
     obtain ⟨k1, k2, k3⟩ := ih _ (Nat.le_trans h2 hc)
     exact ⟨Nat.le_trans k1 h1, Nat.le_trans k2 h2, k3.trans h3⟩
theorem visit_sum (bs : List DBlock) : ∀ (f b : Nat) (s : List Bool × List Int), s.1[b]? = some false → s.1.count false ≤ f →
 (visitF bs f b s).2.length + (visitF bs f b s).1.count false ≤ s.2.length + s.1.count false ∧ (visitF bs f b s).1.count false ≤ s.1.count false ∧ (visitF bs f b s).1.length = s.1.length := by
 intro f
 induction f with
 | zero =>
   intro b s hb hc
   have := unseen_set s.1 b hb
   omega
 | succ f ih =>
   intro b s hb hc
   have hu := unseen_set s.1 b hb
   obtain ⟨h1, h2, h3⟩ := walk_sum bs f ih (tosOf bs b).reverse (s.1.set b true, s.2) (by dsimp only; omega)
   rw [visitF_succ]
   dsimp only at h1 h2 h3 ⊢
   rw [List.length_append, List.length_singleton]
   rw [List.length_set] at h3
   exact ⟨by omega, by omega, h3⟩

def postF (bs : List DBlock) : List Int := (visitF bs bs.length 0 (List.replicate bs.length false, [])).2

end Go.Proofs.YtnkogppgacappaaGreatDoor

namespace Go.Proofs.YtnkogppgacappaaGreatDoor
open Go.RowKit Go.Shelf

attribute [local go_sem] Oper.semAt_some

structure PoSt (w0 : World) (OB LC base : Nat) (W : World) (s : List Bool × List Int) (v : Value) : Prop where
 size : base ≤ W.heap.size
 keep : ∀ b, b < base → b ≠ OB → b ≠ LC → W.heap[b]? = w0.heap[b]?
 env : W.os = w0.os ∧ W.tape = w0.tape ∧ W.output = w0.output
 row : W.heap[OB]? = some (.cells (s.1.map Value.bool).toArray 4 (0, 0))
 cell : W.heap[LC]? = some (.cells #[v] 33 (0, 0))
 own : OwnInts base W v s.2
structure VisW (OB LC : Nat) (W W' : World) (v v' : Value) : Prop where
 size : W.heap.size ≤ W'.heap.size
 keep : ∀ b, b < W.heap.size → b ≠ OB → b ≠ LC → v.ownBlock ≠ some b → W'.heap[b]? = W.heap[b]?
 row : ∀ g, v'.ownBlock = some g → v.ownBlock = some g ∨ W.heap.size ≤ g
theorem VisW.refl (OB LC : Nat) (W : World) (v : Value) : VisW OB LC W W v v := ⟨Nat.le_refl _, fun _ _ _ _ _ => rfl, fun _ h => .inl h⟩
theorem VisW.trans {OB LC : Nat} {A B C : World} {u v x : Value} (h : VisW OB LC A B u v) (k : VisW OB LC B C v x) : VisW OB LC A C u x := by
 refine ⟨Nat.le_trans h.size k.size, fun b h1 h2 h3 h4 => ?_, fun g hg => ?_⟩
 · rw [k.keep b (Nat.lt_of_lt_of_le h1 h.size) h2 h3 (fun e => by
    rcases h.row b e with h5 | h5
    · exact h4 h5
    · omega), h.keep b h1 h2 h3 h4]
 · rcases k.row g hg with h1 | h1
   · exact h.row g h1
   · exact .inr (Nat.le_trans h.size h1)

theorem own_ge {base : Nat} {w : World} {v : Value} {l : List Int} (h : OwnInts base w v l) {g : Nat} (hg : v.ownBlock = some g) : base ≤ g ∧ g < w.heap.size := by
 rcases h.1.2 with ⟨rfl, -⟩ | ⟨g', cap, cur, rfl, h1, h2, -⟩
 · cases hg
 · cases hg; exact ⟨h1, (Array.getElem?_eq_some_iff.1 h2).1⟩
theorem PoSt.cellOf {w0 : World} {OB LC base : Nat} {W : World} {s : List Bool × List Int} {v : Value} (h : PoSt w0 OB LC base W s v) {b o : Nat} {u : Value} (hc : w0.cell? ⟨b, o, none⟩ = some u) (h1 : b < base) (h2 : b ≠ OB) (h3 : b ≠ LC) : W.cell? ⟨b, o, none⟩ = some u := by
 rw [World.cell?_of_block (w := w0) (a := ⟨b, o, none⟩) (h.keep b h1 h2 h3)]; exact hc
theorem PoSt.left {w0 : World} {OB LC base : Nat} {W : World} {s : List Bool × List Int} {v : Value} (h : PoSt w0 OB LC base W s v) : W.cell? ⟨LC, 0, none⟩ = some v := by simp [World.cell?, h.cell]
theorem PoSt.seen {w0 : World} {OB LC base : Nat} {W : World} {s : List Bool × List Int} {v : Value} (h : PoSt w0 OB LC base W s v) {i : Nat} (hi : i < s.1.length) : W.cell? ⟨OB, i, none⟩ = some (.bool s.1[i]) := by
 rw [cell_row h.row]; simp [hi]

set_option maxRecDepth 100000 in
set_option maxHeartbeats 4000000 in
theorem visit_any (w0 : World) (OB LC base SC FC VC n : Nat) (ba : Option Addr) (bc : Nat) (bs : List DBlock) (hb : SlAt (fun b => b < base ∧ b ≠ OB ∧ b ≠ LC) w0 6 rBlock (.slice ba n bc) bs) (hn : bs.length = n) (hn2 : n ≤ 1048576)
 (hto : ∀ (k : Nat) (x : DBlock), bs[k]? = some x → x.fin.to.length ≤ 2 ∧ ∀ t ∈ x.fin.to, 0 ≤ t ∧ t < (n : Int))
 (hO : OB < base) (hL : LC < base) (hOL : OB ≠ LC) (hS : SC < base ∧ SC ≠ OB ∧ SC ≠ LC) (hF : FC < base ∧ FC ≠ OB ∧ FC ≠ LC) (hV : VC < base ∧ VC ≠ OB ∧ VC ≠ LC)
 (cS : w0.cell? ⟨SC, 0, none⟩ = some (.slice (some ⟨OB, 0, none⟩) n n)) (cF : w0.cell? ⟨FC, 3, none⟩ = some (.slice ba n bc))
 (cV : w0.cell? ⟨VC, 0, none⟩ = some (.func (.func 133) #[] #[.pointer (some ⟨SC, 0, none⟩), .pointer (some ⟨FC, 0, none⟩), .pointer (some ⟨VC, 0, none⟩), .pointer (some ⟨LC, 0, none⟩)])) :
 ∀ (f b : Nat) (s : List Bool × List Int) (v : Value) (W : World), PoSt w0 OB LC base W s v → s.1.length = n → s.1[b]? = some false → s.1.count false ≤ f → s.2.length + s.1.count false ≤ n →
   Calls Tryz.prog 133 #[.int .i64 (b : Int), .pointer (some ⟨SC, 0, none⟩), .pointer (some ⟨FC, 0, none⟩), .pointer (some ⟨VC, 0, none⟩), .pointer (some ⟨LC, 0, none⟩)] W fun e W' =>
    (∃ u, e = .returned u) ∧ ∃ v', PoSt w0 OB LC base W' (visitF bs f b s) v' ∧ VisW OB LC W W' v v' := by
 have Hb := hid hb
 have Hto := hid hto
 have Hn := hid hn
 clear hb hto hn
 intro f
 induction f with
 | zero =>
   intro b s v W _ _ hsb hc _
   have := unseen_set s.1 b hsb
   omega
 | succ f ih =>
   intro b s v W hst hln hsb hc hsum
   have Ih := hid ih
   have Hst := hid hst
   have hbn : b < n := by rw [← hln]; exact (List.getElem?_eq_some_iff.1 hsb).1
   have hu := unseen_set s.1 b hsb
   have d0 := hst.cellOf cS hS.1 hS.2.1 hS.2.2
   have d1 := hst.cellOf cF hF.1 hF.2.1 hF.2.2
   have d2 := hst.seen (i := b) (by rw [hln]; exact hbn)
   have d3 : W.frozen? ⟨OB, b, none⟩ = false := by simp [World.frozen?, hst.row]
   have hbl : b < bs.length := by rw [Hn.out]; exact hbn
   obtain ⟨xb, xoff, cs, hxa, hxS, hx, -, hcs⟩ := Hb.out.get hbl
   subst hxa
   obtain ⟨pa, pc, la, lc, ta, tc, rfl, -, -, hts, -, -, htm, -, -⟩ := hx.opens
   obtain ⟨-, -, -, -, -, c5⟩ := hcs.get6
   have d5 := hst.cellOf c5 hxS.1 hxS.2.1 hxS.2.2
   have HbS := hid hxS
   have Hts := hid hts
   clear ih hst hcs hx hts c5
   refine (callsIn_wide (n := 6)).1 ?_
   refine callsIn_of_wp_marks Tryz.func133 rfl trivial ?_ rfl
   simp only [Tryz.ntmps133, List.size_toArray, List.length_cons, List.length_nil, Nat.reduceAdd, Nat.reduceSub, Array.replicate_succ, Array.replicate_zero, List.push_toArray, List.append_toArray, List.nil_append, List.cons_append]
   gi_wp2_with (refine ⟨trivial, ?_⟩; gi_at_call 134; refine (back_in Fence.wide 5 trivial rfl _ _ _ _).mono ?_; rintro e w' ⟨rfl, rfl⟩)
   have hs1 : (W.setCell ⟨OB, b, none⟩ (.bool true)).heap.size = W.heap.size := by simp [World.setCell]
   obtain ⟨W1, hW1⟩ : ∃ W1, W1 = W.setCell ⟨OB, b, none⟩ (.bool true) := ⟨_, rfl⟩
   rw [← hW1] at hs1
   rw [← hW1]
   obtain ⟨Wk, hWk⟩ : ∃ Wk, Wk = W1.alloc (.cells #[.slice ta bs[b].fin.to.length tc] 33) := ⟨_, rfl⟩
   have hsk : Wk.heap.size = W.heap.size + 1 := by rw [hWk]; simp [hs1]
   have hkk : ∀ k, k < W.heap.size → k ≠ OB → Wk.heap[k]? = W.heap[k]? := fun k h1 h2 => by
    rw [hWk, Below.heap_alloc _ _ _ (by rw [hs1]; exact h1), hW1, Below.heap_setCell _ _ _ _ (by dsimp only; exact h2)]
   have hso := Hst.out.size
   have hvk : VisW OB LC W Wk v v := ⟨by omega, fun k h1 h2 _ _ => hkk k h1 h2, fun _ h => .inl h⟩
   have hst1 : PoSt w0 OB LC base Wk (s.1.set b true, s.2) v := by
    refine ⟨by omega, fun k h1 h2 h3 => ?_, ?_, ?_, ?_, ?_⟩
    · rw [hkk k (by omega) h2]; exact Hst.out.keep k h1 h2 h3
    · rw [hWk, hW1]; exact Hst.out.env
    · rw [hWk, Below.heap_alloc _ _ _ (by rw [hs1]; omega), hW1, heap_set_row Hst.out.row, List.map_set]
      congr 2
      simp
    · rw [hkk LC (by omega) (Ne.symm hOL)]; exact Hst.out.cell
    · have h := Hst.out.own
      have hg : W.grownBy Wk (some OB) := ⟨by rw [hWk, hW1]; rfl, by rw [hWk, hW1]; rfl, by rw [hWk, hW1]; rfl, by omega, fun k h1 h2 => hkk k h1 (fun e => h2 (by rw [e]))⟩
      exact ⟨h.1.kept hg (by
       cases hv : v.ownBlock with
       | none => exact .inl rfl
       | some g => exact .inr (fun e => by
          have := (own_ge h hv).1
          injection e with e
          omega)), h.2⟩
   have hLl := (Hto.out b _ (List.getElem?_eq_getElem hbl)).1
   have hnx : ∀ k, k < base → k ≠ OB → k ≠ LC → k < Wk.heap.size ∧ ¬ (k = OB ∨ k = LC ∨ v.ownBlock = some k) := fun k h1 h2 h3 => ⟨by omega, fun h => by
    rcases h with h | h | h
    · exact h2 h
    · exact h3 h
    · have := (own_ge Hst.out.own h).1; omega⟩
   have hbx : SlAt (fun k => k < Wk.heap.size ∧ ¬ (k = OB ∨ k = LC ∨ v.ownBlock = some k)) Wk 1 rInt (.slice ta bs[b].fin.to.length tc) bs[b].fin.to :=
    Hts.out.mono rInt_mono (fun k hk => hnx k hk.1 hk.2.1 hk.2.2) (stays_at fun k hk _ => hst1.keep k hk.1 hk.2.1 hk.2.2)
   have hBs : Wk.cell? ⟨W.heap.size, 0, none⟩ = some (.slice ta bs[b].fin.to.length tc) := by rw [hWk, ← hs1]; simp
   have Hst1 := hid hst1
   have Hvk := hid hvk
   rw [← hWk]
   clear hWk hW1 hkk hst1 hvk hs1 d0 d1 d2 d3 d5
   refine wpIn_rangeFunc_ownF (α := BackP bs[b].fin.to) rfl (by decide) (gf := 152) (lb := #[.pointer (some ⟨W.heap.size, 0, none⟩)]) rfl trivial (enters_of Tryz.func152 (by kernel_rfl) rfl)
    (back_stops Fence.wide (6 - 1) trivial rfl (by decide) W.heap.size Wk.heap.size (fun k => k = OB ∨ k = LC ∨ v.ownBlock = some k) ta tc bs[b].fin.to Wk Wk (by omega) hbx
      ⟨by omega, fun h => by
        rcases h with h | h | h
        · omega
        · omega
        · have := (own_ge Hst.out.own h).2; omega⟩ (Below.refl _ _) hBs)
    (fun h k => keepE_t h k) (keepE_b (Nat.le_refl _)) (Below.refl _ _) (fun _ => rfl)
    (fun pre V => ∃ v', PoSt w0 OB LC base V (walkF bs f (pre.map numOf) (s.1.set b true, s.2)) v' ∧ VisW OB LC Wk V v v')
    (fun _ _ _ => False)
    ?hI ?hIx ?h0 (fun x => { tmps := #[(.int .i64 (b : Int)), (.pointer (some ⟨SC, 0, none⟩)), (.pointer (some ⟨FC, 0, none⟩)), (.pointer (some ⟨VC, 0, none⟩)), (.pointer (some ⟨LC, 0, none⟩)), undef, undef, (.int .i64 x.1.2), (.slice (some ⟨OB, 0, none⟩) n n), (.int .i64 (b : Int)), (.pointer (some ⟨OB, b, none⟩)), (.pointer (some ⟨FC, 3, none⟩)), (.slice (some ⟨xb, xoff, none⟩) n bc), (.int .i64 (b : Int)), (.pointer (some ⟨xb, xoff + b * 6, none⟩)), (.pointer (some ⟨xb, xoff + b * 6 + 2, none⟩)), (.pointer (some ⟨xb, xoff + b * 6 + 2 + 3, none⟩)), (.slice ta bs[b].fin.to.length tc), (.func (.func 152) #[] #[.pointer (some ⟨W.heap.size, 0, none⟩)]), (.int .i64 (x.1.1 : Int)), (.int .i64 x.1.2), undef, undef, undef, undef, undef, undef, undef, undef, undef, undef, undef, undef], defers := [] }) ?assign ?body ?done ?stop
   case hI =>
    rintro pr A B row ⟨v', hst, hvw⟩ hg hr
    have hrw : ∀ r, row = some r → Wk.heap.size ≤ r := fun r e => (hr r e).1
    have hAs := hst.size
    refine ⟨v', ⟨Nat.le_trans hst.size hg.size, fun k h1 h2 h3 => ?_, ⟨hg.os.trans hst.env.1, hg.tape.trans hst.env.2.1, hg.output.trans hst.env.2.2⟩, ?_, ?_, ?_⟩, ⟨Nat.le_trans hvw.size hg.size, fun k h1 h2 h3 h4 => ?_, hvw.row⟩⟩
    · rw [hg.block k (by omega) (fun e => by have := hrw k e.symm; omega)]; exact hst.keep k h1 h2 h3
    · rw [hg.block OB (by omega) (fun e => by have := hrw OB e.symm; omega)]; exact hst.row
    · rw [hg.block LC (by omega) (fun e => by have := hrw LC e.symm; omega)]; exact hst.cell
    · refine ⟨hst.own.1.kept hg ?_, hst.own.2⟩
      rcases hst.own.1.2 with ⟨rfl, -⟩ | ⟨g', cap, cur, rfl, -, h2, -⟩
      · exact .inl rfl
      · refine .inr (fun e => ?_)
        obtain ⟨-, o, ho, hc⟩ := hr g' e.symm
        rw [h2] at ho
        cases ho
        cases hc
    · rw [hg.block k (Nat.lt_of_lt_of_le h1 hvw.size) (fun e => by have := hrw k e.symm; omega)]; exact hvw.keep k h1 h2 h3 h4
   case hIx => exact fun _ _ _ _ _ h _ _ => h
   case h0 => exact ⟨v, Hst1.out, VisW.refl _ _ _ _⟩
   case assign =>
    intro l x V K hK
    unfold encB
    gi_wp2
    exact hK
   case body =>
    rintro l pre x V ⟨v', hst, hvw⟩ _
    obtain ⟨k1, k2, k3⟩ := walk_sum bs f (visit_sum bs f) (pre.map numOf) (s.1.set b true, s.2) (by dsimp only; omega)
    obtain ⟨s', hs'⟩ : ∃ s', s' = walkF bs f (pre.map numOf) (s.1.set b true, s.2) := ⟨_, rfl⟩
    have Hsn : Hid (walkF bs f ((pre ++ [x]).map numOf) (s.1.set b true, s.2) = if s'.1.getD (numOf x).toNat true = true then s' else visitF bs f (numOf x).toNat s') := by
     show _ = _
     rw [List.map_append, hs']
     exact walkF_snoc bs f (pre.map numOf) (numOf x) _
    rw [← hs'] at hst k1 k2 k3
    dsimp only at k1 k2 k3
    rw [List.length_set, hln] at k3
    have htt := (Hto.out b _ (List.getElem?_eq_getElem hbl)).2 _ (numOf_mem x)
    obtain ⟨xv, hxv⟩ : ∃ xv, xv = x.1.2 := ⟨_, rfl⟩
    have hnum : numOf x = xv := hxv.symm
    rw [hnum] at htt Hsn
    rw [← hxv]
    obtain ⟨t, rfl⟩ := Int.eq_ofNat_of_zero_le htt.1
    rw [Int.toNat_natCast] at Hsn
    have htn : t < n := by omega
    have c0 := hst.cellOf cS hS.1 hS.2.1 hS.2.2
    have c1 := hst.cellOf cV hV.1 hV.2.1 hV.2.2
    have c2 := hst.seen (i := t) (by rw [k3]; exact htn)
    have Hst2 := hid hst
    have Hvw := hid hvw
    have hgd : s'.1.getD t true = s'.1[t]'(by rw [k3]; exact htn) := by rw [List.getD_eq_getElem?_getD, List.getElem?_eq_getElem (by rw [k3]; exact htn)]; rfl
    obtain ⟨q, hq⟩ : ∃ q, s'.1[t]'(by rw [k3]; exact htn) = q := ⟨_, rfl⟩
    rw [hq] at c2 hgd
    rw [hgd] at Hsn
    have hq' : s'.1[t]? = some q := by rw [List.getElem?_eq_getElem (by rw [k3]; exact htn), hq]
    have Hk1 := hid k1
    have Hk2 := hid k2
    have Hk3 := hid k3
    have Hq := hid hq'
    clear hst hvw hs' hxv hnum hgd hq hq' k1 k2 k3 htt
    cases q with
    | true =>
      gi_wp2
      exact ⟨KeepsOthers.refl _, KeepE.refl _ _ _, v', by rw [Hsn.out, if_pos trivial]; exact Hst2.out, Hvw.out⟩
    | false =>
      gi_wp2_with (refine ⟨trivial, ?_⟩; gi_at_call 133; refine (CallsIn.inRound l (callsIn_wide.2 (Ih.out t s' v' V Hst2.out Hk3.out Hq.out (by have := Hk2.out; omega) (by have := Hk1.out; omega)))).mono ?_; rintro e V' ⟨⟨u, rfl⟩, v'', hst3, hvw3⟩)
      have hko : KeepsOthers V V' := ⟨hvw3.size, fun k o hk hc => by
       have hkl : k < V.heap.size := (Array.getElem?_eq_some_iff.1 hk).1
       rw [hvw3.keep k hkl (fun e => by rw [e, Hst2.out.row] at hk; cases hk; cases hc) (fun e => by rw [e, Hst2.out.cell] at hk; cases hk; cases hc) (fun e => by
        rcases Hst2.out.own.1.2 with ⟨rfl, -⟩ | ⟨g', cap, cur, rfl, -, h2, -⟩
        · cases e
        · cases e; rw [h2] at hk; cases hk; cases hc)]
       exact hk⟩
      have hke : KeepE Wk.heap.size (fun k => k = OB ∨ k = LC ∨ v.ownBlock = some k) V V' := ⟨hvw3.size, fun k h1 h2 => hvw3.keep k (Nat.lt_of_lt_of_le h1 Hvw.out.size) (fun e => h2 (.inl e)) (fun e => h2 (.inr (.inl e))) (fun e => by
       rcases Hvw.out.row k e with h3 | h3
       · exact h2 (.inr (.inr h3))
       · omega)⟩
      have Hko := hid hko
      have Hke := hid hke
      have Hst3 := hid hst3
      have Hvw3 := hid hvw3
      clear hko hke hst3 hvw3
      gi_wp2
      exact ⟨Hko.out, Hke.out, v'', by rw [Hsn.out, if_neg (by simp)]; exact Hst3.out, Hvw.out.trans Hvw3.out⟩
   case done =>
    rintro D xs V hD hxs ⟨v', hst, hvw⟩ hd
    obtain ⟨j1, j2, j3⟩ := walk_sum bs f (visit_sum bs f) (xs.map numOf) (s.1.set b true, s.2) (by dsimp only; omega)
    have Hvf : Hid (visitF bs (f + 1) b s = ((walkF bs f (xs.map numOf) (s.1.set b true, s.2)).1, (walkF bs f (xs.map numOf) (s.1.set b true, s.2)).2 ++ [(b : Int)])) := by
     show _ = _
     rw [visitF_succ, hxs]
     have e : tosOf bs b = bs[b].fin.to := by unfold tosOf; rw [List.getElem?_eq_getElem hbl]
     rw [e]
    obtain ⟨s', hs'⟩ : ∃ s', s' = walkF bs f (xs.map numOf) (s.1.set b true, s.2) := ⟨_, rfl⟩
    rw [← hs'] at hst j1 j2 j3 Hvf
    dsimp only at j1
    have hlen : s'.2.length + 1 ≤ n := by omega
    obtain ⟨i0, hi, hz0, hz1, hz2⟩ := info_parts infoInt'
    obtain ⟨la', lc', hv'⟩ := hst.own.shape
    subst hv'
    have hlv := hst.left
    have hfz : V.frozen? ⟨LC, 0, none⟩ = false := by simp [World.frozen?, hst.cell]
    have zV : base ≤ V.heap.size := hst.size
    have zL : LC < V.heap.size := by omega
    have Hst5 := hid hst
    have Hvw5 := hid hvw
    have Hown : Hid ((V.alloc (.cells #[.int .i64 (b : Int)] 3)).ownsRow base 3 1 (.slice la' s'.2.length lc') s'.2.length (s'.2.map fun x => Value.int .i64 x)) := hst.own.1.alloc _
    have Hd := hid hd
    clear hst hvw hs' j2 j3 hxs hd
    gi_wp2_with (gi_at_builtin; refine wpListIn_append_own_at _ rfl _ _ 33 rfl base 3 i0 (.int .i64 0) 1 8 Tryz.underlying33 hi hz0 hz1 hz2 rfl (by decide) _ _ _ rfl Hown.out ⟨V.heap.size, 0, none⟩ 1 1 [.int .i64 (b : Int)] rfl rfl (cell_one_new _ _ _) ?_ ?_ ?_ ?_ ?_)
    · intro u hu; simp at hu; subst hu; rfl
    · unfold maxLen; omega
    · omega
    · simp; omega
    · intro v9 w9 hown9 hgrow hnil hat
      obtain ⟨g, cap, rfl, hgb, hgl⟩ := own_shape hown9
      have hrow : ∀ r, (Value.slice la' s'.2.length lc').ownBlock = some r → base ≤ r ∧ ∃ o : Obj, V.heap[r]? = some o ∧ o.isCells = true := fun r e => by
       rcases Hst5.out.own.1.2 with ⟨h1, -⟩ | ⟨g', cap', cur, h1, h2, h3, -⟩
       · rw [h1] at e; cases e
       · rw [h1] at e; cases e; exact ⟨h2, _, h3, rfl⟩
      have hk9 : ∀ k, k < V.heap.size → (Value.slice la' s'.2.length lc').ownBlock ≠ some k → w9.heap[k]? = V.heap[k]? := fun k h1 h2 => by
       rw [hgrow.block k (by simp; omega) (fun e => h2 e.symm), Below.heap_alloc _ _ _ h1]
      have hL9 : w9.heap[LC]? = some (.cells #[.slice la' s'.2.length lc'] 33 (0, 0)) := by
       rw [hk9 LC zL (fun e => by have := (hrow LC e).1; omega)]; exact Hst5.out.cell
      have c9 : w9.cell? ⟨LC, 0, none⟩ = some (.slice la' s'.2.length lc') := by simp [World.cell?, hL9]
      have f9 : w9.frozen? ⟨LC, 0, none⟩ = false := by simp [World.frozen?, hL9]
      have Hown9 := hid hown9
      have Hgrow := hid hgrow
      have Hat := hid hat
      have Hk9 := hid hk9
      have HL9 := hid hL9
      have Hrow := hid hrow
      clear hown9 hgrow hnil hat hk9 hL9 hrow hlv hfz
      gi_wp2
      obtain ⟨W9, hW9⟩ : ∃ W9, W9 = w9.setCell ⟨LC, 0, none⟩ (.slice (some ⟨g, 0, none⟩) (s'.2.length + 1) cap) := ⟨_, rfl⟩
      rw [← hW9]
      have hs9 : W9.heap.size = w9.heap.size := by rw [hW9]; simp [World.setCell]
      have hw9s : V.heap.size + 1 ≤ w9.heap.size := by have := Hgrow.out.size; simpa using this
      have hk10 : ∀ k, k < V.heap.size → k ≠ LC → (Value.slice la' s'.2.length lc').ownBlock ≠ some k → W9.heap[k]? = V.heap[k]? := fun k h1 h2 h3 => by
       rw [hW9, Below.heap_setCell _ _ _ _ (by dsimp only; exact h2)]; exact Hk9.out k h1 h3
      have hrb : ∀ k, k < base → (Value.slice la' s'.2.length lc').ownBlock ≠ some k := fun k h1 e => by have := (Hrow.out k e).1; omega
      have hDV : D < V.heap.size := (Array.getElem?_eq_some_iff.1 Hd.out).1
      have hD9 : W9.heap[D]? = some (.deferred (some [])) := by
       rw [hk10 D hDV (by omega) (fun e => by
        obtain ⟨-, o, ho, hc⟩ := Hrow.out D e
        rw [Hd.out] at ho
        cases ho
        cases hc)]
       exact Hd.out
      have hvs := Hvw5.out.size
      refine leaves_marks (B := Wk.heap.size) (C := D + 1) _ _ (by omega) ((Marks.nil Wk.heap.size D W9).cons (Nat.le_refl _) hD (by omega) hD9) (fun W' hW => ?_)
      have hws := hW.1.size
      refine ⟨.tuple #[], results_none rfl _ _ _, ⟨_, rfl⟩, .slice (some ⟨g, 0, none⟩) (s'.2.length + 1) cap, ?_, ?_⟩
      · rw [Hvf.out]
        refine ⟨by omega, fun k h1 h2 h3 => ?_, ⟨?_, ?_, ?_⟩, ?_, ?_, ?_⟩
        · rw [hW.1.block k (by omega), hk10 k (by omega) h3 (hrb k h1)]; exact Hst5.out.keep k h1 h2 h3
        · rw [hW.1.os, hW9]; exact Hgrow.out.os.trans Hst5.out.env.1
        · rw [hW.1.tape, hW9]; exact Hgrow.out.tape.trans Hst5.out.env.2.1
        · rw [hW.1.output, hW9]; exact Hgrow.out.output.trans Hst5.out.env.2.2
        · rw [hW.1.block OB (by omega), hk10 OB (by omega) hOL (hrb OB hO)]; exact Hst5.out.row
        · rw [hW.1.block LC (by omega), hW9, heap_set_row HL9.out]; rfl
        · obtain ⟨q1, q2⟩ := Hown9.out
          rcases q2 with ⟨h, -⟩ | ⟨g', cap', cur, e, q3, q4, q5, q6, q7, q8⟩
          · cases h
          · cases e
            refine ⟨⟨by simp, .inr ⟨g, cap, cur, by simp, q3, hW.2 _ _ _ _ (by rw [hW9, Below.heap_setCell _ _ _ _ (by dsimp only; omega)]; exact q4), by simpa using q5, q6, q7, ?_⟩⟩, fun x hx => ?_⟩
            · rw [List.length_append, List.length_singleton, q8, List.map_append]; rfl
            · rcases List.mem_append.1 hx with hx | hx
              · exact Hst5.out.own.2 x hx
              · rw [List.mem_singleton] at hx
                subst hx
                unfold I64
                omega
      · refine ⟨by omega, fun k h1 h2 h3 h4 => ?_, fun r hr => ?_⟩
        · have hne : (Value.slice la' s'.2.length lc').ownBlock ≠ some k := fun e => by
           rcases Hvw5.out.row k e with h | h
           · exact h4 h
           · omega
          rw [hW.1.block k (by omega), hk10 k (by omega) h3 hne, Hvw5.out.keep k (by omega) h2 h3 h4]
          exact Hvk.out.keep k h1 h2 h3 h4
        · rcases Hat.out with h | h
          · rcases Hvw5.out.row r (h.symm.trans hr) with h5 | h5
            · exact .inl h5
            · exact .inr (by omega)
          · rw [h] at hr
            cases hr
            exact .inr (by first | omega | (simp; omega) | (rw [World.size_alloc]; omega))
   case stop => exact fun _ _ _ _ _ _ h _ => h.elim

end Go.Proofs.YtnkogppgacappaaGreatDoor
