/- The order of blocks, plainly: each block once, the first one first, and each behind the best one. The law WeighOnce: its walk. The law WeighHot: its walk. -/
import Derived.Test.YtnkogppgacappaaGreatDoorPLay0
import Derived.Test.YtnkogppgacappaaGreatDoorPArgR
import Derived.Test.YtnkogppgacappaaGreatDoorPHasInt
namespace Go.Proofs.YtnkogppgacappaaGreatDoor
open Go.RowKit

theorem cnt_step {p q : Nat → Bool} {b : Nat} : ∀ n, (∀ x, x < n → x ≠ b → q x = p x) → cnt p n ≤ cnt q n + if b < n then 1 else 0 := by
 intro n
 induction n with
 | zero => intro _; exact Nat.zero_le _
 | succ n ih =>
   intro h
   have h1 := ih (fun x hx => h x (by omega))
   simp only [cnt]
   by_cases hb : n = b
   · subst hb
     rw [if_neg (Nat.lt_irrefl _)] at h1
     rw [if_pos (Nat.lt_succ_self _)]
     split <;> split <;> omega
   · rw [h n (by omega) hb]
     by_cases hbn : b < n
     · rw [if_pos hbn] at h1
       have e : (if b < n + 1 then 1 else 0) = 1 := if_pos (by omega)
       rw [e]; omega
     · rw [if_neg hbn] at h1
       have e : (if b < n + 1 then 1 else 0) = 0 := if_neg (by omega)
       rw [e]; omega
theorem left_step (out : List Nat) (b n : Nat) : left out n ≤ left (out ++ [b]) n + 1 := by
 have h := cnt_step (p := fun x => !hadB out x) (q := fun x => !hadB (out ++ [b]) x) (b := b) n (fun x _ hx => by simp only [hadB_snoc]; simp [hx])
 unfold left
 split at h <;> omega
theorem left_nil (n : Nat) : left [] n = n := by
 unfold left
 induction n with
 | zero => rfl
 | succ n ih => simp only [cnt]; rw [ih]; simp [hadB]
theorem len_left (n : Nat) (out : List Nat) : n ≤ out.length + left out n :=
 list_rev (p := fun out => n ≤ out.length + left out n) (by simp [left_nil]) (fun l t h => by have := left_step l t n; simp only [List.length_append, List.length_singleton]; omega) out
theorem left_had {out : List Nat} {n : Nat} (h : ∀ b, b < n → hadB out b = true) : left out n = 0 := by
 have key : ∀ m, m ≤ n → cnt (fun b => !hadB out b) m = 0 := by
  intro m
  induction m with
  | zero => intro _; rfl
  | succ m ih => intro hm; simp only [cnt]; rw [ih (by omega)]; simp [h m (by omega)]
 exact key n (Nat.le_refl _)

structure OrdAt (bs : List DBlock) (c : Nat → Int) (r : List Nat) : Prop where
 head : r[0]? = some 0
 lt : ∀ x ∈ r, x < bs.length
 next : ∀ i, i + 1 < r.length → layNext bs c (r.take (i + 1)) = r[i + 1]?
theorem targets_lt {bs : List DBlock} (hto : ∀ (k : Nat) (x : DBlock), bs[k]? = some x → ∀ t ∈ x.fin.to, 0 ≤ t ∧ t < (bs.length : Int)) (b : Nat) : ∀ y ∈ targets bs b, y < bs.length := by
 intro y hy
 unfold targets at hy
 split at hy
 · rename_i x hx
   obtain ⟨t, ht, rfl⟩ := List.mem_map.1 hy
   have := hto b x hx t ht
   omega
 · cases hy
theorem layNext_ok {bs : List DBlock} {c : Nat → Int} {out : List Nat} {y : Nat} (hT : ∀ b, ∀ y ∈ targets bs b, y < bs.length) (h : layNext bs c out = some y) : y < bs.length ∧ hadB out y = false := by
 unfold layNext at h
 split at h
 · rename_i b hb
   cases h
   have := pick_mem _ _ _ _ hb
   exact ⟨hT _ _ this.1, this.2⟩
 · have := pick_mem _ _ _ _ h
   exact ⟨by simpa using this.1, this.2⟩
theorem OrdAt.snoc {bs : List DBlock} {c : Nat → Int} {r : List Nat} {y : Nat} (h : OrdAt bs c r) (hT : ∀ b, ∀ y ∈ targets bs b, y < bs.length) (hy : layNext bs c r = some y) : OrdAt bs c (r ++ [y]) := by
 have h0 : 0 < r.length := (List.getElem?_eq_some_iff.1 h.head).1
 refine ⟨?_, ?_, ?_⟩
 · rw [List.getElem?_append_left h0]; exact h.head
 · intro x hx
   rcases List.mem_append.1 hx with hx | hx
   · exact h.lt x hx
   · rw [List.mem_singleton] at hx; subst hx; exact (layNext_ok hT hy).1
 · intro i hi
   rw [List.length_append, List.length_singleton] at hi
   by_cases hlt : i + 1 < r.length
   · rw [List.take_append_of_le_length (by omega), List.getElem?_append_left hlt]; exact h.next i hlt
   · have he : i + 1 = r.length := by omega
     rw [he, List.take_left, List.getElem?_concat_length]; exact hy
theorem layRun_ord {bs : List DBlock} {c : Nat → Int} (hT : ∀ b, ∀ y ∈ targets bs b, y < bs.length) : ∀ f out, OrdAt bs c out → left out bs.length ≤ f → OrdAt bs c (layRun bs c f out) ∧ layNext bs c (layRun bs c f out) = none := by
 intro f
 induction f with
 | zero =>
   intro out ho hf
   refine ⟨ho, ?_⟩
   cases h : layNext bs c out with
   | none => exact h
   | some y =>
     have h1 := layNext_ok hT h
     have := left_lt h1.1 h1.2
     omega
 | succ f ih =>
   intro out ho hf
   cases h : layNext bs c out with
   | none => rw [layRun_none h]; exact ⟨ho, h⟩
   | some y =>
     rw [layRun_some h]
     have h1 := layNext_ok hT h
     have := left_lt h1.1 h1.2
     exact ih _ (ho.snoc hT h) (by omega)
theorem layF_ord {bs : List DBlock} {c : Nat → Int} (hn : 0 < bs.length) (hT : ∀ b, ∀ y ∈ targets bs b, y < bs.length) : OrdAt bs c (layF bs c) ∧ layNext bs c (layF bs c) = none := by
 refine layRun_ord hT _ _ ⟨rfl, fun x hx => ?_, fun i hi => ?_⟩ (cnt_bound _ _)
 · rw [List.mem_singleton] at hx; omega
 · simp at hi
theorem OrdAt.fresh {bs : List DBlock} {c : Nat → Int} {r : List Nat} (h : OrdAt bs c r) (hT : ∀ b, ∀ y ∈ targets bs b, y < bs.length) {i : Nat} (hi : i < r.length) : hadB (r.take i) r[i] = false := by
 cases i with
 | zero => simp [hadB]
 | succ i => exact (layNext_ok hT ((h.next i hi).trans (List.getElem?_eq_getElem hi))).2
theorem OrdAt.count {bs : List DBlock} {c : Nat → Int} {r : List Nat} (h : OrdAt bs c r) (hT : ∀ b, ∀ y ∈ targets bs b, y < bs.length) : ∀ i, i ≤ r.length → i + left (r.take i) bs.length ≤ bs.length := by
 intro i
 induction i with
 | zero => intro _; rw [List.take_zero, left_nil]; omega
 | succ i ih =>
   intro hi
   have h1 := ih (by omega)
   rw [List.take_succ_eq_append_getElem hi]
   have := left_lt (out := r.take i) (n := bs.length) (h.lt r[i] (List.getElem_mem _)) (h.fresh hT hi)
   omega
theorem layF_once {bs : List DBlock} {c : Nat → Int} (hn : 0 < bs.length) (hT : ∀ b, ∀ y ∈ targets bs b, y < bs.length) : OrdAt bs c (layF bs c) ∧ (layF bs c).length = bs.length ∧ ∀ b, b < bs.length → hadB (layF bs c) b = true := by
 obtain ⟨h1, h2⟩ := layF_ord (c := c) hn hT
 have hall : ∀ b, b < bs.length → hadB (layF bs c) b = true := by
  intro b hb
  unfold layNext at h2
  split at h2
  · cases h2
  · exact (pick_none _ _ _).1 h2 b (by simpa using hb)
 have h3 := left_had hall
 have h4 := h1.count hT _ (Nat.le_refl _)
 rw [List.take_length, h3] at h4
 have h5 := len_left bs.length (layF bs c)
 exact ⟨h1, by omega, hall⟩
theorem OrdAt.inj {bs : List DBlock} {c : Nat → Int} {r : List Nat} (h : OrdAt bs c r) (hT : ∀ b, ∀ y ∈ targets bs b, y < bs.length) {i j : Nat} (hi : i < r.length) (hj : j < r.length) (he : r[i] = r[j]) : i = j := by
 have key : ∀ i j (hi : i < r.length) (hj : j < r.length), r[i] = r[j] → ¬ i < j := by
  intro i j hi hj he hlt
  have h1 := h.fresh hT hj
  have h2 : r[i] ∈ r.take j := by
   rw [List.mem_iff_getElem]
   exact ⟨i, by rw [List.length_take]; omega, by rw [List.getElem_take]⟩
  rw [← he] at h1
  unfold hadB at h1
  rw [List.contains_iff_mem.2 h2] at h1
  cases h1
 have := key i j hi hj he
 have := key j i hj hi he.symm
 omega
theorem pick_max (c : Nat → Int) (had : Nat → Bool) (l : List Nat) : ∀ b, pick c had l = some b → ∀ y ∈ l, had y = false → c y ≤ c b := by
 refine list_rev (p := fun l => ∀ b, pick c had l = some b → ∀ y ∈ l, had y = false → c y ≤ c b) ?_ ?_ l
 · intro b h; simp [pick] at h
 · intro l t ih b h y hy hyh
   rw [pick_snoc] at h
   cases hp : pick c had l with
   | none =>
     have hall := (pick_none c had l).1 hp
     rw [hp] at h
     simp only [pickStep] at h
     split at h
     · cases h
     · cases h
       rcases List.mem_append.1 hy with h' | h'
       · have := hall y h'; rw [hyh] at this; cases this
       · rw [List.mem_singleton] at h'; subst h'; exact Int.le_refl _
   | some d =>
     rw [hp] at h
     simp only [pickStep] at h
     have ihd := ih d hp
     split at h
     · rename_i hh
       obtain rfl := Option.some.inj h
       rcases List.mem_append.1 hy with h' | h'
       · have := ihd y h' hyh; omega
       · rw [List.mem_singleton] at h'; subst h'; exact Int.le_refl _
     · rename_i hh
       have e := Option.some.inj h
       rw [← e]
       rcases List.mem_append.1 hy with h' | h'
       · exact ihd y h' hyh
       · rw [List.mem_singleton] at h'; subst h'
         by_cases hc : c d < c y
         · exact absurd ⟨hyh, hc⟩ hh
         · omega

def atF (r : List Nat) (k : Nat) (x : Nat) : Nat := if hadB (r.take k) x = true then r.idxOf x else 0
theorem hadB_mem {l : List Nat} {x : Nat} : hadB l x = true ↔ x ∈ l := by unfold hadB; exact List.contains_iff_mem
end Go.Proofs.YtnkogppgacappaaGreatDoor

namespace Go.Proofs.YtnkogppgacappaaGreatDoor
open Go.RowKit

theorem checkF_zero {u : DUnit} (h : (checkF u).1 = 0) : checkF u = (0, 0) := by
 have h0 := h
 unfold checkF at h ⊢
 by_cases h1 : 10 < u.globals.length ∨ 10 < u.funcs.length
 · rw [if_pos h1] at h; simp at h
 rw [if_neg h1] at h ⊢
 by_cases h2 : posF (globE u.globals) u.globals.length < u.globals.length
 · rw [if_pos h2] at h; exact absurd h (posF_ne h2)
 rw [if_neg h2] at h ⊢
 by_cases h3 : posF (headsE u.globals u.funcs) u.funcs.length < u.funcs.length
 · rw [if_pos h3] at h; exact absurd h (posF_ne h3)
 rw [if_neg h3] at h ⊢
 by_cases h4 : posF (bodiesE u.funcs) u.funcs.length < u.funcs.length
 · rw [if_pos h4] at h; exact absurd h (posF_ne h4)
 rw [if_neg h4] at h ⊢
 unfold lastE at h ⊢
 by_cases h5 : idxMain u.funcs < 0
 · rw [if_pos h5] at h; simp at h
 rw [if_neg h5] at h ⊢
 by_cases h6 : 0 < (u.funcs.getD (idxMain u.funcs).toNat ⟨ByteArray.empty, 0, 0, []⟩).params
 · rw [if_pos h6] at h; simp at h
 rw [if_neg h6]

theorem sl_len {α : Type} {r : Rp α} {S : Nat → Prop} {w : World} {sz : Nat} {v : Value} {l : List α} (h : SlAt S w sz r v l) : ∃ a c, v = .slice a l.length c := by
 obtain ⟨a, c, hv, _⟩ := h
 exact ⟨a, c, hv⟩

end Go.Proofs.YtnkogppgacappaaGreatDoor

namespace Go.Proofs.YtnkogppgacappaaGreatDoor
open Go.RowKit

structure AtSt (w W3 wr : World) (H n : Nat) (r : List Nat) (k : Nat) : Prop where
 at_ : wr.rowIs H 3 n (fun b => .int .i64 ((atF r k b : Nat) : Int))
 below : Below w.heap.size w wr
 old : Below W3.heap.size W3 wr
theorem AtSt.next {w W3 wr : World} {H n : Nat} {r : List Nat} {k : Nat} (h : AtSt w W3 wr H n r k) (h1 : w.heap.size ≤ H) (h2 : W3.heap.size ≤ H) {x : Nat} (hx : ∀ y, atF r (k + 1) y = if y = x then k else atF r k y) :
 AtSt w W3 (wr.setCell ⟨H, x, none⟩ (.int .i64 k)) H n r (k + 1) := by
 refine ⟨(h.at_.set x (.int .i64 k)).congr (fun y hy => ?_), h.below.setCell (by exact h1) _, h.old.setCell (by exact h2) _⟩
 rw [hx y]
 by_cases hyb : y = x
 · rw [if_pos hyb, if_pos hyb]
 · rw [if_neg hyb, if_neg hyb]
end Go.Proofs.YtnkogppgacappaaGreatDoor
