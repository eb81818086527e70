/- weigh.By, plainly: what it answers. What code.Check leaves: small units, functions whose blocks may be laid. A row of structs that is written one by one. WeighRest, plainly: laid twice it lies as laid once. code.Ahead of a unit in its form; turnerylaw6.weighFits. turnerylaw6.weighFits: are there as many counts as blocks? weigh.By: a unit with its blocks laid by counts. -/
import Derived.Test.YtnkogppgacappaaGreatDoorPRest0
import Derived.Test.YtnkogppgacappaaGreatDoorPHotW
import Derived.Test.YtnkogppgacappaaGreatDoorPFour
import Derived.Test.YtnkogppgacappaaGreatDoorPCloneR
import Derived.Test.YtnkogppgacappaaGreatDoorPGAhd
import Derived.Test.YtnkogppgacappaaGreatDoorPHasInt
import Derived.BigQuiet
import Derived.Test.YtnkogppgacappaaGreatDoorPTurn
import Derived.Deep.RegionLaw
import Derived.Deep.RegionWith
namespace Go.Proofs.YtnkogppgacappaaGreatDoor
open Go.RowKit

def rowE (fs : List DFunc) (Cs : List (List Int)) (k : Nat) : Int := if (Cs.getD k []).length = (fs.getD k noFunc).blocks.length then 0 else 9
def fitsF (u : DUnit) (Cs : List (List Int)) : Int × Int :=
 if checkF u ≠ (0, 0) then checkF u
 else if Cs.length ≠ u.funcs.length then (9, -1)
 else if posF (rowE u.funcs Cs) Cs.length < Cs.length then (9, ((posF (rowE u.funcs Cs) Cs.length : Nat) : Int))
 else (0, 0)
def byF (f : DFunc) (C : List Int) : DFunc := turnF f (layF f.blocks (cntOf C))
def byL (fs : List DFunc) (Cs : List (List Int)) : List DFunc := (List.range fs.length).map fun k => byF (fs.getD k noFunc) (Cs.getD k [])

theorem fitsF_check {u : DUnit} {Cs : List (List Int)} (h : checkF u ≠ (0, 0)) : fitsF u Cs = checkF u := by unfold fitsF; rw [if_pos h]
theorem fitsF_size {u : DUnit} {Cs : List (List Int)} (h : checkF u = (0, 0)) (hl : Cs.length ≠ u.funcs.length) : fitsF u Cs = (9, -1) := by unfold fitsF; rw [if_neg (by simp [h]), if_pos hl]
theorem fitsF_row {u : DUnit} {Cs : List (List Int)} (h : checkF u = (0, 0)) (hl : Cs.length = u.funcs.length) {k : Nat} (hk : k < Cs.length) (h0 : ∀ j, j < k → rowE u.funcs Cs j = 0) (hk0 : rowE u.funcs Cs k ≠ 0) : fitsF u Cs = (9, ((k : Nat) : Int)) := by
 unfold fitsF
 rw [if_neg (by simp [h]), if_neg (by simp [hl]), posF_at h0 hk hk0, if_pos hk]
theorem fitsF_ok {u : DUnit} {Cs : List (List Int)} (h : checkF u = (0, 0)) (hl : Cs.length = u.funcs.length) (h0 : ∀ j, j < Cs.length → rowE u.funcs Cs j = 0) : fitsF u Cs = (0, 0) := by
 unfold fitsF
 rw [if_neg (by simp [h]), if_neg (by simp [hl]), posF_all h0, if_neg (Nat.lt_irrefl _)]
theorem rowE_zero {fs : List DFunc} {Cs : List (List Int)} {k : Nat} (h1 : k < fs.length) (h2 : k < Cs.length) : rowE fs Cs k = 0 ↔ Cs[k].length = fs[k].blocks.length := by
 unfold rowE
 rw [List.getD_eq_getElem?_getD, List.getD_eq_getElem?_getD, List.getElem?_eq_getElem h1, List.getElem?_eq_getElem h2, Option.getD_some, Option.getD_some]
 split <;> simp_all
theorem byL_len (fs : List DFunc) (Cs : List (List Int)) : (byL fs Cs).length = fs.length := by unfold byL; simp
theorem lay_perm {fs : List DFunc} {f : DFunc} (h : bodyE fs f = 0) (hn : 0 < f.blocks.length) (c : Nat → Int) : Perm (layF f.blocks c) f.blocks.length ∧ (layF f.blocks c)[0]? = some 0 ∧ OrdAt f.blocks c (layF f.blocks c) := by
 have hf := body_flow h
 have hT := targets_lt (bs := f.blocks) (fun k x hx t ht => by
  obtain ⟨hk, rfl⟩ := List.getElem?_eq_some_iff.1 hx
  exact hf.tgt k hk t (by rw [List.getD_eq_getElem?_getD, List.getElem?_eq_getElem hk]; exact ht))
 obtain ⟨hO, hl, hall⟩ := layF_once (bs := f.blocks) (c := c) hn hT
 refine ⟨⟨hl, hO.lt, fun z hz => hadB_mem.1 (hall z hz), ?_⟩, hO.head, hO⟩
 rw [List.nodup_iff_pairwise_ne, List.pairwise_iff_getElem]
 intro i j hi hj hij he
 have := hO.inj hT hi hj he
 omega

end Go.Proofs.YtnkogppgacappaaGreatDoor

namespace Go.Proofs.YtnkogppgacappaaGreatDoor
open Go.RowKit

theorem checkF_pos {u : DUnit} (h : checkF u = (0, 0)) : 0 < u.funcs.length := by
 rcases Nat.eq_zero_or_pos u.funcs.length with h0 | h0
 · exfalso
   obtain ⟨h1, h2, h3, h4, h5⟩ := checkF_ok (u := u) (by rw [h])
   unfold checkF at h
   rw [if_neg (by omega), posF_all (fun j _ => h3 j), posF_all (fun j _ => h4 j), posF_all (fun j _ => h5 j)] at h
   simp only [Nat.lt_irrefl, if_false] at h
   have h6 : u.funcs = [] := List.length_eq_zero_iff.1 h0
   rw [h6] at h
   unfold lastE idxMain at h
   simp at h
 · exact h0
theorem checkF_at {u : DUnit} (h : checkF u = (0, 0)) {k : Nat} {f : DFunc} (hf : u.funcs[k]? = some f) :
 headE (fNames u.globals u.funcs k) f = 0 ∧ bodyE u.funcs f = 0 := by
 obtain ⟨-, -, -, h2, h3⟩ := checkF_ok (u := u) (by rw [h])
 have g2 := h2 k
 have g3 := h3 k
 unfold headsE at g2
 unfold bodiesE at g3
 rw [hf] at g2 g3
 exact ⟨g2, g3⟩
theorem manyOf_mem {l : List DBlock} {x : DBlock} (h : x ∈ l) : x.phis.length + x.list.length ≤ manyOf l := by
 unfold manyOf
 induction l with
 | nil => cases h
 | cons a l ih =>
   rw [List.map_cons, List.sum_cons]
   rcases List.mem_cons.1 h with rfl | h
   · omega
   · have := ih h; omega
theorem insE_args {fs : List DFunc} {regs : Int} {x : DIns} (h : insE fs regs x = 0) : x.args.length = 0 ∨ ∃ f ∈ fs, (x.args.length : Int) = f.params := by
 unfold insE at h
 by_cases h1 : ¬ (1 ≤ x.op ∧ x.op ≤ 22)
 · rw [if_pos h1] at h; omega
 rw [if_neg h1] at h
 by_cases h2 : formBad x = true
 · rw [if_pos h2] at h; omega
 rw [if_neg h2] at h
 by_cases h3 : (shpD x.op = true ∧ ¬ (x.op = 20 ∧ x.dst = -1)) ∧ dstE regs x.dst ≠ 0
 · rw [if_pos h3] at h; omega
 rw [if_neg h3] at h
 by_cases hop : x.op = 20
 · right
   unfold firstE at h
   by_cases a1 : valE regs x.a ≠ 0
   · rw [if_pos a1] at h; exact absurd h a1
   rw [if_neg a1] at h
   by_cases a2 : valE regs x.b ≠ 0
   · rw [if_pos a2] at h; exact absurd h a2
   rw [if_neg a2] at h
   unfold callE at h
   rw [if_neg (by simpa using hop)] at h
   by_cases b1 : ¬ (0 ≤ x.fn ∧ x.fn ≤ (fs.length : Int) - 1)
   · rw [if_pos b1] at h; omega
   rw [if_neg b1] at h
   by_cases b2 : (x.args.length : Int) ≠ (fs.getD x.fn.toNat ⟨ByteArray.empty, 0, 0, []⟩).params
   · rw [if_pos b2] at h; omega
   have hk : x.fn.toNat < fs.length := by omega
   rw [List.getD_eq_getElem?_getD, List.getElem?_eq_getElem hk, Option.getD_some] at b2
   exact ⟨_, List.getElem_mem hk, by omega⟩
 · left
   unfold formBad at h2
   simp only [Bool.or_eq_true, Bool.and_eq_true, decide_eq_true_eq, not_or, not_and] at h2
   have := (h2.2 hop).2
   omega
theorem checkF_small {u : DUnit} (h : checkF u = (0, 0)) : (∀ g ∈ u.globals, g.init.length ≤ 1048576) ∧ ∀ f ∈ u.funcs, SmallF f := by
 obtain ⟨-, -, h1, -, -⟩ := checkF_ok (u := u) (by rw [h])
 have hpar : ∀ f ∈ u.funcs, f.params ≤ 6 := fun f hf => by
  obtain ⟨i, hi, rfl⟩ := List.getElem_of_mem hf
  exact (headE_ok (checkF_at h (List.getElem?_eq_getElem hi)).1).2.2.2.1
 refine ⟨fun g hg => ?_, fun f hf => ?_⟩
 · obtain ⟨i, hi, rfl⟩ := List.getElem_of_mem hg
   have g1 := h1 i
   unfold globE at g1
   rw [List.getElem?_eq_getElem hi] at g1
   have := globErr_ok g1
   omega
 · obtain ⟨i, hi, rfl⟩ := List.getElem_of_mem hf
   obtain ⟨hh, hb⟩ := checkF_at h (List.getElem?_eq_getElem hi)
   obtain ⟨-, -, -, -, -, -, -, h40, hm⟩ := headE_ok hh
   refine ⟨by omega, fun x hx => ?_⟩
   have hmx := manyOf_mem hx
   obtain ⟨j, hj, rfl⟩ := List.getElem_of_mem hx
   obtain ⟨e1, e2⟩ := bodyE_zero.1 hb
   have he := e1 j hj
   unfold endsE at he
   rw [List.getElem?_eq_getElem hj] at he
   have he' := endE_iff.1 he
   obtain ⟨hph, hin⟩ := (blockE_zero (List.getElem?_eq_getElem hj)).1 (e2 j hj)
   refine ⟨by omega, by omega, by omega, fun p hp => ?_, fun x hx => ?_⟩
   · have h3 := phiE_iff.1 (hph p hp)
     rw [aheadF_getD hj] at h3
     rw [h3.2.2.1]
     have := predsOf_len j u.funcs[i].blocks 0 (fun x hx => by
      obtain ⟨j', hj', rfl⟩ := List.getElem_of_mem hx
      have he := e1 j' hj'
      unfold endsE at he
      rw [List.getElem?_eq_getElem hj'] at he
      have := endE_iff.1 he
      omega)
     omega
   · rcases insE_args (hin x hx) with h4 | ⟨f, hf, h4⟩
     · omega
     · have := hpar f hf; omega

theorem row_set4 {w : World} {R o : Nat} {cur : Array Value} {T : TypeId} (u0 u1 u2 u3 : Value) (h : w.heap[R]? = some (.cells cur T (0, 0))) (ho : o + 4 ≤ cur.size) :
 ∃ cur', (((((w.setCell ⟨R, o, none⟩ u0).setCell ⟨R, o + 1, none⟩ u1).setCell ⟨R, o + 2, none⟩ u2).setCell ⟨R, o + 3, none⟩ u3).heap[R]? = some (.cells cur' T (0, 0))) ∧ cur'.size = cur.size ∧
   CellsAt ((((w.setCell ⟨R, o, none⟩ u0).setCell ⟨R, o + 1, none⟩ u1).setCell ⟨R, o + 2, none⟩ u2).setCell ⟨R, o + 3, none⟩ u3) R o [u0, u1, u2, u3] ∧
   ∀ j, (j < o ∨ o + 4 ≤ j) → ((((w.setCell ⟨R, o, none⟩ u0).setCell ⟨R, o + 1, none⟩ u1).setCell ⟨R, o + 2, none⟩ u2).setCell ⟨R, o + 3, none⟩ u3).cell? ⟨R, j, none⟩ = w.cell? ⟨R, j, none⟩ := by
 have h1 := heap_set_row (i := o) h u0
 have h2 := heap_set_row (i := o + 1) h1 u1
 have h3 := heap_set_row (i := o + 2) h2 u2
 have h4 := heap_set_row (i := o + 3) h3 u3
 refine ⟨_, h4, by simp, fun j v hj => ?_, fun j hj => ?_⟩
 · rw [cell_row h4]
   have hj6 : j < 4 := by have := (List.getElem?_eq_some_iff.1 hj).1; simpa using this
   simp only [Array.getElem?_setIfInBounds, Array.size_setIfInBounds]
   match j, hj with
   | 0, hj => cases hj; simp; omega
   | 1, hj => cases hj; simp; omega
   | 2, hj => cases hj; simp; omega
   | 3, hj => cases hj; simp; omega
   | k + 4, hj => simp at hj
 · rw [cell_row h4, cell_row h]
   simp only [Array.getElem?_setIfInBounds, Array.size_setIfInBounds]
   rw [if_neg (by omega), if_neg (by omega), if_neg (by omega), if_neg (by omega)]

structure RSt (w W6 wr : World) (R cap : Nat) (L : Nat → DFunc) (k : Nat) : Prop where
 below : Below w.heap.size w wr
 size : W6.heap.size ≤ wr.heap.size
 keep : ∀ b, b < W6.heap.size → b ≠ R → wr.heap[b]? = W6.heap[b]?
 row : ∃ cur, wr.heap[R]? = some (.cells cur 38 (0, 0)) ∧ cur.size = cap * 4
 done : ∀ (j : Nat), j < k → ∃ cs, cs.length = 4 ∧ CellsAt wr R (j * 4) cs ∧ rFunc (iv W6.heap.size wr.heap.size) wr cs (L j)
section
variable {w W6 wo wr : World} {R cap : Nat} {L : Nat → DFunc} {k : Nat}
theorem RSt.cell (h : RSt w W6 wr R cap L k) {b o : Nat} {v : Value} (hc : W6.cell? ⟨b, o, none⟩ = some v) (hb : b ≠ R) : wr.cell? ⟨b, o, none⟩ = some v := by
 rw [World.cell?_of_block (w := W6) (a := ⟨b, o, none⟩) (h.keep b (cell_lt hc) hb)]; exact hc
theorem RSt.later (h : RSt w W6 wo R cap L k) (hb : Below wo.heap.size wo wr) (hR : R < wo.heap.size) : RSt w W6 wr R cap L k := by
 refine ⟨h.below.trans (hb.mono h.below.size), Nat.le_trans h.size hb.size, fun b h1 h2 => ?_, ?_, fun j h1 => ?_⟩
 · rw [hb.block b (Nat.lt_of_lt_of_le h1 h.size), h.keep b h1 h2]
 · obtain ⟨cur, h1, h2⟩ := h.row
   exact ⟨cur, by rw [hb.block R hR]; exact h1, h2⟩
 · obtain ⟨cs, h3, h4, h5⟩ := h.done j h1
   exact ⟨cs, h3, h4.later hb, rFunc_mono.out _ _ _ _ _ _ (fun b h => ⟨h.1, Nat.lt_of_lt_of_le h.2 hb.size⟩) (Stays.below' hb) h5⟩
theorem RSt.next (h : RSt w W6 wr R cap L k) (hw : w.heap.size ≤ R) (hR : R < W6.heap.size) (hk : k < cap) (u0 u1 u2 u3 : Value)
 (hx : rFunc (iv W6.heap.size wr.heap.size) wr [u0, u1, u2, u3] (L k)) :
 RSt w W6 ((((wr.setCell ⟨R, k * 4, none⟩ u0).setCell ⟨R, k * 4 + 1, none⟩ u1).setCell ⟨R, k * 4 + 2, none⟩ u2).setCell ⟨R, k * 4 + 3, none⟩ u3) R cap L (k + 1) := by
 obtain ⟨cur, hc1, hc2⟩ := h.row
 obtain ⟨cur', r1, r2, r3, r4⟩ := row_set4 (o := k * 4) u0 u1 u2 u3 hc1 (by omega)
 have hsz : ((((wr.setCell ⟨R, k * 4, none⟩ u0).setCell ⟨R, k * 4 + 1, none⟩ u1).setCell ⟨R, k * 4 + 2, none⟩ u2).setCell ⟨R, k * 4 + 3, none⟩ u3).heap.size = wr.heap.size := by simp [World.setCell]
 have hk' : ∀ b, b ≠ R → ((((wr.setCell ⟨R, k * 4, none⟩ u0).setCell ⟨R, k * 4 + 1, none⟩ u1).setCell ⟨R, k * 4 + 2, none⟩ u2).setCell ⟨R, k * 4 + 3, none⟩ u3).heap[b]? = wr.heap[b]? := fun b hb => by
  iterate 4 rw [Below.heap_setCell _ _ _ _ (by dsimp only; exact hb)]
 have hbel : Below w.heap.size w ((((wr.setCell ⟨R, k * 4, none⟩ u0).setCell ⟨R, k * 4 + 1, none⟩ u1).setCell ⟨R, k * 4 + 2, none⟩ u2).setCell ⟨R, k * 4 + 3, none⟩ u3) :=
  (((h.below.setCell (p := ⟨R, k * 4, none⟩) hw _).setCell (p := ⟨R, k * 4 + 1, none⟩) hw _).setCell (p := ⟨R, k * 4 + 2, none⟩) hw _).setCell (p := ⟨R, k * 4 + 3, none⟩) hw _
 generalize ((((wr.setCell ⟨R, k * 4, none⟩ u0).setCell ⟨R, k * 4 + 1, none⟩ u1).setCell ⟨R, k * 4 + 2, none⟩ u2).setCell ⟨R, k * 4 + 3, none⟩ u3) = WN at *
 have hst : Stays (iv W6.heap.size wr.heap.size) wr WN := stays_at fun b hb _ => hk' b (by have := hb.1; omega)
 refine ⟨hbel, by rw [hsz]; exact h.size, fun b h1 h2 => by rw [hk' b h2, h.keep b h1 h2], ⟨cur', r1, by rw [r2, hc2]⟩, fun j h1 => ?_⟩
 rw [hsz]
 by_cases hjk : j = k
 · subst hjk
   exact ⟨_, rfl, r3, rFunc_mono.out _ _ _ _ _ _ (fun _ h => h) hst hx⟩
 · obtain ⟨cs, h3, h4, h5⟩ := h.done j (by omega)
   refine ⟨cs, h3, fun i u hu => ?_, rFunc_mono.out _ _ _ _ _ _ (fun _ h => h) hst h5⟩
   have hi : i < 4 := by rw [← h3]; exact (List.getElem?_eq_some_iff.1 hu).1
   rw [r4 _ (by omega)]
   exact h4 i u hu
theorem RSt.sl {n : Nat} (h : RSt w W6 wr R cap L n) {c : Nat} (hc : n ≤ c) (hm : c ≤ 9223372036854775807) {lo : Nat} (hw : lo ≤ R) (hR : R < W6.heap.size) {l : List DFunc} (hl : l.length = n) (hL : ∀ (j : Nat) (f : DFunc), l[j]? = some f → f = L j) : SlAt (iv lo wr.heap.size) wr 4 rFunc (.slice (some ⟨R, 0, none⟩) n c) l := by
 refine ⟨_, c, by rw [hl], by rw [hl]; exact hc, hm, fun _ => ⟨R, 0, rfl, ⟨hw, Nat.lt_of_lt_of_le hR h.size⟩, fun i x hx => ?_⟩⟩
 have hi : i < n := by rw [← hl]; exact (List.getElem?_eq_some_iff.1 hx).1
 obtain ⟨cs, h3, h4, h5⟩ := h.done i hi
 rw [← hL i x hx] at h5
 exact ⟨cs, rFunc_mono.out _ _ _ _ _ _ (fun b h => ⟨by have := h.1; omega, h.2⟩) (Stays.refl _ _) h5, h3, by rw [Nat.zero_add]; exact h4⟩
end
end Go.Proofs.YtnkogppgacappaaGreatDoor

namespace Go.Proofs.YtnkogppgacappaaGreatDoor
open Go.RowKit

def nowRow (f : DFunc) (C : List Int) : List Int := (layF f.blocks (cntOf C)).map (cntOf C)
def nowL (fs : List DFunc) (Cs : List (List Int)) (k : Nat) : List (List Int) := (List.range k).map fun k => nowRow (fs.getD k noFunc) (Cs.getD k [])

theorem nowL_len (fs : List DFunc) (Cs : List (List Int)) (k : Nat) : (nowL fs Cs k).length = k := by unfold nowL; simp
theorem nowL_getD {fs : List DFunc} {Cs : List (List Int)} {n k : Nat} (hk : k < n) : (nowL fs Cs n).getD k [] = nowRow (fs.getD k noFunc) (Cs.getD k []) := by
 unfold nowL
 rw [List.getD_eq_getElem?_getD, List.getElem?_map, List.getElem?_range hk]; rfl
theorem byL_getD {fs : List DFunc} {Cs : List (List Int)} {k : Nat} (hk : k < fs.length) : (byL fs Cs).getD k noFunc = byF (fs.getD k noFunc) (Cs.getD k []) := by
 unfold byL
 rw [List.getD_eq_getElem?_getD, List.getElem?_map, List.getElem?_range hk]; rfl
theorem fitsF_inv {u : DUnit} {Cs : List (List Int)} (h : fitsF u Cs = (0, 0)) : checkF u = (0, 0) ∧ Cs.length = u.funcs.length ∧ ∀ k, k < Cs.length → rowE u.funcs Cs k = 0 := by
 unfold fitsF at h
 by_cases h1 : checkF u ≠ (0, 0)
 · rw [if_pos h1] at h; exact absurd h h1
 rw [if_neg h1] at h
 by_cases h2 : Cs.length ≠ u.funcs.length
 · rw [if_pos h2] at h; exact absurd (congrArg Prod.fst h) (by decide)
 rw [if_neg h2] at h
 by_cases h3 : posF (rowE u.funcs Cs) Cs.length < Cs.length
 · rw [if_pos h3] at h; exact absurd (congrArg Prod.fst h) (show ¬ (9 : Int) = 0 by decide)
 exact ⟨Classical.not_not.1 h1, Classical.not_not.1 h2, posF_inv h3⟩
theorem fitsF_code {u : DUnit} {Cs : List (List Int)} (h : (fitsF u Cs).1 = 0) : fitsF u Cs = (0, 0) := by
 unfold fitsF at h ⊢
 by_cases h1 : checkF u ≠ (0, 0)
 · rw [if_pos h1] at h; exact absurd (checkF_zero h) h1
 rw [if_neg h1] at h ⊢
 by_cases h2 : Cs.length ≠ u.funcs.length
 · rw [if_pos h2] at h; exact absurd h (by decide)
 rw [if_neg h2] at h ⊢
 by_cases h3 : posF (rowE u.funcs Cs) Cs.length < Cs.length
 · rw [if_pos h3] at h; exact absurd h (show ¬ (9 : Int) = 0 by decide)
 rw [if_neg h3]

theorem byF_rest {fs : List DFunc} {f : DFunc} {C : List Int} (hb : bodyE fs f = 0) (hn : 0 < f.blocks.length) : byF (byF f C) (nowRow f C) = byF f C := by
 obtain ⟨hp, h0, hO⟩ := lay_perm hb hn (cntOf C)
 have hf := body_flow hb
 have e : layF (byF f C).blocks (cntOf (nowRow f C)) = List.range f.blocks.length := by
  refine layF_turn (bs := f.blocks) hf hn hp (fun i hi => ?_) hO
  show (List.map (cntOf C) _).getD i 0 = _
  rw [List.getD_eq_getElem?_getD, List.getElem?_map, List.getElem?_eq_getElem hi]; rfl
 show turnF (byF f C) _ = _
 rw [e]
 show (⟨f.name, f.params, f.regs, turnL (turnL f.blocks _) _⟩ : DFunc) = ⟨f.name, f.params, f.regs, _⟩
 rw [turnL_range (hf.turn hp)]

theorem rest_plain {gs : List DGlobal} {fs : List DFunc} {Cs : List (List Int)} (h : fitsF ⟨gs, fs⟩ Cs = (0, 0)) :
 fitsF ⟨gs, byL fs Cs⟩ (nowL fs Cs fs.length) = (0, 0) ∧ byL (byL fs Cs) (nowL fs Cs fs.length) = byL fs Cs := by
 obtain ⟨h1, h2, h3⟩ := fitsF_inv h
 dsimp only at h2 h3
 have hg : ∀ k (f : DFunc), fs[k]? = some f → fs.getD k noFunc = f := fun k f hf => by rw [List.getD_eq_getElem?_getD, hf]; rfl
 have hpos : ∀ k (f : DFunc), fs[k]? = some f → bodyE fs f = 0 ∧ 0 < f.blocks.length := fun k f hf => by
  obtain ⟨hh, hb⟩ := checkF_at (u := ⟨gs, fs⟩) h1 hf
  obtain ⟨-, -, -, -, -, -, g1, -, -⟩ := headE_ok hh
  exact ⟨hb, by omega⟩
 have hck : checkF ⟨gs, byL fs Cs⟩ = (0, 0) := by
  rw [checkF_turn (fs := fs) (by rw [h1]) (byL_len fs Cs) (fun k f hf => ?_), h1]
  obtain ⟨hk, he⟩ := List.getElem?_eq_some_iff.1 hf
  obtain ⟨hb, hn⟩ := hpos k f hf
  obtain ⟨hp, h0, -⟩ := lay_perm hb hn (cntOf (Cs.getD k []))
  refine ⟨layF f.blocks (cntOf (Cs.getD k [])), ?_, hp, h0⟩
  unfold byL
  rw [List.getElem?_map, List.getElem?_range hk, Option.map_some, hg k f hf]
  rfl
 refine ⟨fitsF_ok hck (by rw [nowL_len]; exact (byL_len fs Cs).symm) (fun k hk => ?_), ?_⟩
 · rw [nowL_len] at hk
   unfold rowE
   dsimp only
   rw [nowL_getD hk, byL_getD hk]
   refine if_pos ?_
   show (nowRow _ _).length = (turnL _ _).length
   rw [turnL_len]
   unfold nowRow
   rw [List.length_map]
 · refine List.ext_getElem? fun k => ?_
   by_cases hk : k < fs.length
   · have hk2 : k < (byL fs Cs).length := by rw [byL_len]; exact hk
     have e1 : (byL (byL fs Cs) (nowL fs Cs fs.length))[k]? = some (byF ((byL fs Cs).getD k noFunc) ((nowL fs Cs fs.length).getD k [])) := by
      show ((List.range _).map _)[k]? = _
      rw [List.getElem?_map, List.getElem?_range hk2]; rfl
     have e2 : (byL fs Cs)[k]? = some (byF (fs.getD k noFunc) (Cs.getD k [])) := by
      unfold byL
      rw [List.getElem?_map, List.getElem?_range hk]; rfl
     obtain ⟨hb, hn⟩ := hpos k _ (List.getElem?_eq_getElem hk)
     rw [e1, e2, byL_getD hk, nowL_getD hk, hg k _ (List.getElem?_eq_getElem hk), byF_rest hb hn]
   · rw [List.getElem?_eq_none (by rw [byL_len, byL_len]; omega), List.getElem?_eq_none (by rw [byL_len]; omega)]

end Go.Proofs.YtnkogppgacappaaGreatDoor

namespace Go.Proofs.YtnkogppgacappaaGreatDoor
open Go.RowKit

theorem ahead_any' {S : Nat → Prop} (nm : ByteArray) (p r : Int) (ba : Option Addr) (bc : Nat) (bs : List DBlock) (n : Nat) (w : World) (hb : SlAt S w 6 rBlock (.slice ba n bc) bs) (hbn : bs.length = n) (hn : n ≤ 1048576)
 (hto : ∀ (k : Nat) (x : DBlock), bs[k]? = some x → x.fin.to.length ≤ 2 ∧ ∀ t ∈ x.fin.to, 0 ≤ t ∧ t < (bs.length : Int)) :
 Calls Tryz.prog 49 #[.agg #[.string nm, .int .i64 p, .int .i64 r, .slice ba n bc]] w fun e w' =>
  ∃ a c, e = .returned (.slice a n c) ∧ SlAt (fun b => w.heap.size ≤ b) w' 1 rRow (.slice a n c) (aheadF bs) ∧ Below w.heap.size w w' := by
 subst hbn
 refine (ahead_any nm p r ba bc bs w hb hn hto).mono ?_
 rintro e w' ⟨v, rfl, hv, hb⟩
 obtain ⟨a, c, rfl⟩ := sl_len hv
 have hl : (aheadF bs).length = bs.length := by unfold aheadF; simp
 rw [hl] at hv ⊢
 exact ⟨a, c, rfl, hv, hb⟩

theorem res_ahead {fn : Func} (hfn : fn.results = #[.tmp 4, .cell 5 27]) {tmps : Array Value} {b : Nat} {v : Value} (hv : tmps.getD 4 undef = v) (ht : tmps.getD 5 undef = .pointer (some ⟨b, 0, none⟩)) {c a : Int} {W : World}
 (h0 : W.cell? ⟨b, 0, none⟩ = some (.int .i64 c)) (h1 : W.cell? ⟨b, 1, none⟩ = some (.int .i64 a)) : (results fn tmps).run Tryz.prog W = .ok (.tuple #[v, .agg #[.int .i64 c, .int .i64 a]]) W := by
 simp only [Array.getD_eq_getD_getElem?] at ht hv
 simp [results, hfn, ht, hv, go_sem, h0, h1]

set_option maxRecDepth 100000 in
set_option maxHeartbeats 2000000 in
theorem Ahead_ok {S : Nat → Prop} (ga : Option Addr) (gc : Nat) (fa : Option Addr) (fc : Nat) (gs : List DGlobal) (fs : List DFunc) (kk : Nat) (w : World)
 (hg : SlAt S w 3 rGlobal (.slice ga gs.length gc) gs) (hf : SlAt S w 4 rFunc (.slice fa fs.length fc) fs) (hw : Ways w)
 (hgl : gs.length ≤ 1048576) (hfl : fs.length ≤ 1048576) (hsm : ∀ (k : Nat) (f : DFunc), fs[k]? = some f → manyOf f.blocks ≤ 1048576 ∧ f.blocks.length ≤ 1048576)
 (hck : checkF ⟨gs, fs⟩ = (0, 0)) (hkn : kk < fs.length) :
 Calls Tryz.prog 44 #[.agg #[.slice ga gs.length gc, .slice fa fs.length fc], .int .i64 kk] w fun e w' =>
  ∃ a c, e = .returned (.tuple #[.slice a fs[kk].blocks.length c, .agg #[.int .i64 0, .int .i64 0]]) ∧ SlAt (fun b => w.heap.size ≤ b) w' 1 rRow (.slice a fs[kk].blocks.length c) (aheadF fs[kk].blocks) ∧ Below w.heap.size w w' := by
 have Hg := hid hg
 have Hf := hid hf
 have Hw := hid hw
 have Hsm := hid hsm
 have Hck := hid hck
 clear hg hf hw hsm hck
 go_enter Tryz.func44, Tryz.ntmps44
 obtain ⟨W, hW⟩ : ∃ W, W = (w.alloc (.cells #[.slice ga gs.length gc, .slice fa fs.length fc] 25)).alloc (.cells #[.int .i64 0, .int .i64 0] 27) := ⟨_, rfl⟩
 have hbW : Below w.heap.size w W := by rw [hW]; (repeat (first | exact Below.refl _ _ | refine Below.alloc ?_ (by first|omega|(simp<;>omega)) _ | refine Below.setCell ?_ (by first|omega|(simp<;>omega)) _ | refine below_drewN ?_ _ | refine Below.drew ?_))
 have HbW := hid hbW
 have W0 : Hid (W.cell? ⟨w.heap.size, 0, none⟩ = some (.slice ga gs.length gc)) := by show _ = _; rw [hW]; simp
 have W1 : Hid (W.cell? ⟨w.heap.size, 1, none⟩ = some (.slice fa fs.length fc)) := by show _ = _; rw [hW]; simp
 have R0 : Hid (W.cell? ⟨w.heap.size + 1, 0, none⟩ = some (.int .i64 0)) := by show _ = _; rw [hW]; simp
 have R1 : Hid (W.cell? ⟨w.heap.size + 1, 1, none⟩ = some (.int .i64 0)) := by show _ = _; rw [hW]; simp
 have F0 : Hid (W.frozen? ⟨w.heap.size + 1, 0, none⟩ = false) := by show _ = _; rw [hW]; simp
 have F1 : Hid (W.frozen? ⟨w.heap.size + 1, 1, none⟩ = false) := by show _ = _; rw [hW]; simp
 have hWs : W.heap.size = w.heap.size + 2 := by rw [hW]; simp
 go_wp2_with fail
 rw [← hW]
 have hwW : Ways W := Ways.below Hw.out hbW
 refine (check_any (S := S) ga gc fa fc gs fs W (Hg.out.later rGlobal_mono hbW) (Hf.out.later rFunc_mono hbW) hwW hgl hfl Hsm.out).mono ?_
 rintro e w1 ⟨rfl, hb1⟩
 have g0 := cell_later' W0.out hb1
 have g1 := cell_later' W1.out hb1
 have g2 := cell_later' R0.out hb1
 have g3 := cell_later' R1.out hb1
 have k2 := (hb1.frozen (p := ⟨w.heap.size + 1, 0, none⟩) (by simp; omega)).trans F0.out
 have k3 := (hb1.frozen (p := ⟨w.heap.size + 1, 1, none⟩) (by simp; omega)).trans F1.out
 have z1 : w.heap.size + 1 < w1.heap.size := cell_lt g2
 have z0 : w.heap.size < w1.heap.size := cell_lt g0
 rw [Hck.out]
 have Hw1 : Hid (Below w.heap.size w w1) := HbW.out.trans (hb1.mono (by omega))
 clear hb1 hW hbW hwW
 obtain ⟨b, off, xa, xc, rfl, hcs, hxb, -, -⟩ := func_at Hf.out hkn
 obtain ⟨c0, c1, c2, c3⟩ := (hcs.later Hw1.out).get4
 obtain ⟨n1, n2, n3⟩ := checkF_func (u := ⟨gs, fs⟩) (k := kk) (f := fs[kk]) (by rw [Hck.out]) (List.getElem?_eq_getElem hkn)
 have N3 := hid n3
 have Hxb := hid hxb
 have hb9 : b < w1.heap.size := cell_lt c3
 have hwi : decide ((0 : Int) ≤ (kk : Int) ∧ (kk : Int) ≤ (fs.length : Int) - 1) = true := decide_eq_true ⟨by omega, by omega⟩
 clear hcs n3 hxb
 go_wp2_with (first
  | (go_at_call 22; ((with_reducible refine (within_any _ _ _ _).mono ?_); rintro e w' ⟨rfl, rfl⟩; rw [hwi])))
 refine (ahead_any' _ _ _ xa xc fs[kk].blocks _ _ (Hxb.out.later rBlock_mono ?_) rfl (by omega) ?_).mono ?_
 · have h := Hw1.out; (have hz0 := (h).size; have hy0 := hz0; (try simp at hy0); repeat (first | exact Below.refl _ _ | refine Below.trans ?_ ((h).mono (by first|omega|(simp<;>omega))) | refine Below.alloc ?_ (by first|omega|(simp<;>omega)) _ | refine Below.setCell ?_ (by first|omega|(simp<;>omega)) _ | refine below_drewN ?_ _ | refine Below.drew ?_))
 · intro i x hx
   have h := endE_ok (N3.out i x hx)
   refine ⟨by omega, fun t ht => ?_⟩
   have := h.2.2.2.1 t ht
   omega
 · rintro e w2 ⟨a, c, rfl, hv, hb2⟩
   have hq2 : Below w1.heap.size w1 w2 := by (have hz0 := (hb2).size; have hy0 := hz0; (try simp at hy0); repeat (first | exact Below.refl _ _ | refine Below.trans ?_ ((hb2).mono (by first|omega|(simp<;>omega))) | refine Below.alloc ?_ (by first|omega|(simp<;>omega)) _ | refine Below.setCell ?_ (by first|omega|(simp<;>omega)) _ | refine below_drewN ?_ _ | refine Below.drew ?_))
   have g4 := cell_later' g2 hq2
   have g5 := cell_later' g3 hq2
   have k4 := (hq2.frozen (p := ⟨w.heap.size + 1, 0, none⟩) z1).trans k2
   have k5 := (hq2.frozen (p := ⟨w.heap.size + 1, 1, none⟩) z1).trans k3
   have Hv := hid hv
   have Hq2 := hid hq2
   clear hv hq2 hb2
   go_wp2_with fail
   have q := set_two (u := .int .i64 0) (v := .int .i64 0) g4 g5
   refine bodyPost_ret (res_ahead rfl rfl rfl (c := 0) (a := 0) q.1 q.2) rfl ⟨_, _, rfl, ?_, ?_⟩
   · refine Hv.out.mono rRow_mono (fun b hb => ?_) ((stays_set _ ?_).trans (stays_set _ ?_))
     · simp at hb; omega
     · intro b hb; simp at hb; simp; omega
     · intro b hb; simp at hb; simp; omega
   · have h := Hw1.out; have h2 := Hq2.out; (have hz0 := (h2).size; have hy0 := hz0; (try simp at hy0); have hz1 := (h).size; have hy1 := hz1; (try simp at hy1); repeat (first | exact Below.refl _ _ | refine Below.trans ?_ ((h2).mono (by first|omega|(simp<;>omega))) | refine Below.trans ?_ ((h).mono (by first|omega|(simp<;>omega))) | refine Below.alloc ?_ (by first|omega|(simp<;>omega)) _ | refine Below.setCell ?_ (by first|omega|(simp<;>omega)) _ | refine below_drewN ?_ _ | refine Below.drew ?_))

end Go.Proofs.YtnkogppgacappaaGreatDoor

namespace Go.Proofs.YtnkogppgacappaaGreatDoor
open Go.RowKit

theorem rows_at {S : Nat → Prop} {w : World} {a : Option Addr} {n c : Nat} {l : List (List Int)} (h : SlAt S w 1 rRow (.slice a n c) l) {t : Nat} (ht : t < l.length) : ∃ b off ra rc, a = some ⟨b, off, none⟩ ∧ w.cell? ⟨b, off + t, none⟩ = some (.slice ra l[t].length rc) ∧ SlAt S w 1 rInt (.slice ra l[t].length rc) l[t] := by
 obtain ⟨b, off, cs, ha, -, ⟨v, rfl, hv⟩, -, hcs⟩ := h.get ht
 have d := hcs.get1
 rw [Nat.mul_one] at d
 obtain ⟨ra, rc, rfl, -⟩ := hv.val
 exact ⟨b, off, ra, rc, ha, d, hv⟩

end Go.Proofs.YtnkogppgacappaaGreatDoor

namespace Go.Proofs.YtnkogppgacappaaGreatDoor
open Go.RowKit

theorem turn_of {S S' S'' : Nat → Prop} {fs : List DFunc} (f : DFunc) (C : List Int) (names : List ByteArray) (hh : headE names f = 0) (hbd : bodyE fs f = 0) (hsm : SmallF f)
 (nm : ByteArray) (p r : Int) (n : Nat) (hn : f.blocks.length = n) (ba : Option Addr) (bc : Nat) (aa : Option Addr) (ac : Nat) (v : Value) (w : World)
 (hb : SlAt S w 6 rBlock (.slice ba n bc) f.blocks) (hA : SlAt S' w 1 rRow (.slice aa n ac) (aheadF f.blocks)) (ho : SlAt S'' w 1 rInt v ((layF f.blocks (cntOf C)).map fun b : Nat => (b : Int))) :
 Calls Tryz.prog 45 #[.agg #[.string nm, .int .i64 p, .int .i64 r, .slice ba n bc], .slice aa n ac, v] w fun e w' =>
  ∃ a c, e = .returned (.agg #[.string nm, .int .i64 p, .int .i64 r, .slice a n c]) ∧ SlAt (iv w.heap.size w'.heap.size) w' 6 rBlock (.slice a n c) (byF f C).blocks ∧ Below w.heap.size w w' := by
 subst hn
 obtain ⟨-, -, -, -, -, -, h1, h40, -⟩ := headE_ok hh
 obtain ⟨hp, h0, hO⟩ := lay_perm hbd (by omega) (cntOf C)
 have hf := body_flow hbd
 have hal : (aheadF f.blocks).length = f.blocks.length := by unfold aheadF; simp
 have hml : ((layF f.blocks (cntOf C)).map fun b : Nat => (b : Int)).length = f.blocks.length := by rw [List.length_map]; exact hp.len
 obtain ⟨oa, oc, rfl⟩ := sl_len ho
 have hg : ∀ k (x : DBlock), f.blocks[k]? = some x → k < f.blocks.length ∧ f.blocks.getD k noBlock = x := fun k x hx => by
  refine ⟨(List.getElem?_eq_some_iff.1 hx).1, ?_⟩
  rw [List.getD_eq_getElem?_getD, hx]; rfl
 have hto : ∀ (k : Nat) (x : DBlock), f.blocks[k]? = some x → x.fin.to.length ≤ 2 ∧ ∀ t ∈ x.fin.to, 0 ≤ t ∧ t < (f.blocks.length : Int) := fun k x hx => by
  obtain ⟨hk, hgd⟩ := hg k x hx
  have he := (bodyE_zero.1 hbd).1 k hk
  unfold endsE at he
  rw [hx] at he
  have he' := endE_iff.1 he
  exact ⟨by omega, fun t ht => by have := he'.2.2.1 t ht; omega⟩
 have h := turn_any (S := S) (S' := S') (S'' := S'') nm p r ba bc f.blocks aa ac oa oc (layF f.blocks (cntOf C)) f.blocks.length w hb (by rw [hal]; exact hA) ho (by omega) h40 rfl hp.len hp.lt hp.all
  (fun i j hi hj he => hO.inj (targets_lt fun k x hx => (hto k x hx).2) hi hj he) hsm.each hto (fun b x hx q hq => by
    obtain ⟨hk, hgd⟩ := hg b x hx
    exact hf.phi b hk q (by rw [hgd]; exact hq))
 rw [hml]
 refine h.mono ?_
 rintro e w' ⟨bv, rfl, hv, hb'⟩
 obtain ⟨a, c, rfl⟩ := sl_len hv
 have hl : (turnL f.blocks (layF f.blocks (cntOf C))).length = f.blocks.length := by rw [turnL_len]; exact hp.len
 rw [hl] at hv ⊢
 exact ⟨a, c, rfl, hv, hb'⟩

theorem res_unit4 {fn : Func} (hfn : fn.results = #[.cell 4 25, .cell 5 27]) {tmps : Array Value} {b b' : Nat} (ht : tmps.getD 4 undef = .pointer (some ⟨b, 0, none⟩)) (ht' : tmps.getD 5 undef = .pointer (some ⟨b', 0, none⟩)) {g f : Value} {c a : Int} {W : World}
 (hg : W.cell? ⟨b, 0, none⟩ = some g) (hf : W.cell? ⟨b, 1, none⟩ = some f) (h0 : W.cell? ⟨b', 0, none⟩ = some (.int .i64 c)) (h1 : W.cell? ⟨b', 1, none⟩ = some (.int .i64 a)) : (results fn tmps).run Tryz.prog W = .ok (.tuple #[.agg #[g, f], .agg #[.int .i64 c, .int .i64 a]]) W := by
 simp only [Array.getD_eq_getD_getElem?] at ht ht'
 simp [results, hfn, ht, ht', go_sem, hg, hf, h0, h1]

theorem four {w : World} {B C : Nat} {x0 x1 y0 y1 : Value} (u0 u1 v0 v1 : Value) (hBC : B ≠ C) (h0 : w.cell? ⟨B, 0, none⟩ = some x0) (h1 : w.cell? ⟨B, 1, none⟩ = some x1) (k0 : w.cell? ⟨C, 0, none⟩ = some y0) (k1 : w.cell? ⟨C, 1, none⟩ = some y1) :
 ((((w.setCell ⟨B, 0, none⟩ u0).setCell ⟨B, 1, none⟩ u1).setCell ⟨C, 0, none⟩ v0).setCell ⟨C, 1, none⟩ v1).cell? ⟨B, 0, none⟩ = some u0 ∧ ((((w.setCell ⟨B, 0, none⟩ u0).setCell ⟨B, 1, none⟩ u1).setCell ⟨C, 0, none⟩ v0).setCell ⟨C, 1, none⟩ v1).cell? ⟨B, 1, none⟩ = some u1 ∧ ((((w.setCell ⟨B, 0, none⟩ u0).setCell ⟨B, 1, none⟩ u1).setCell ⟨C, 0, none⟩ v0).setCell ⟨C, 1, none⟩ v1).cell? ⟨C, 0, none⟩ = some v0 ∧ ((((w.setCell ⟨B, 0, none⟩ u0).setCell ⟨B, 1, none⟩ u1).setCell ⟨C, 0, none⟩ v0).setCell ⟨C, 1, none⟩ v1).cell? ⟨C, 1, none⟩ = some v1 := by
 have a := set_two (u := u0) (v := u1) h0 h1
 have c0 : ((w.setCell ⟨B, 0, none⟩ u0).setCell ⟨B, 1, none⟩ u1).cell? ⟨C, 0, none⟩ = some y0 := by rw [cell_set_ne _ (Ne.symm hBC), cell_set_ne _ (Ne.symm hBC)]; exact k0
 have c1 : ((w.setCell ⟨B, 0, none⟩ u0).setCell ⟨B, 1, none⟩ u1).cell? ⟨C, 1, none⟩ = some y1 := by rw [cell_set_ne _ (Ne.symm hBC), cell_set_ne _ (Ne.symm hBC)]; exact k1
 have b := set_two (u := v0) (v := v1) c0 c1
 refine ⟨?_, ?_, b.1, b.2⟩
 · rw [cell_set_ne _ hBC, cell_set_ne _ hBC]; exact a.1
 · rw [cell_set_ne _ hBC, cell_set_ne _ hBC]; exact a.2
theorem four' {w : World} {B C : Nat} {x0 x1 y0 y1 : Value} (u0 u1 v0 v1 : Value) (hBC : B ≠ C) (h0 : w.cell? ⟨B, 0, none⟩ = some x0) (h1 : w.cell? ⟨B, 1, none⟩ = some x1) (k0 : w.cell? ⟨C, 0, none⟩ = some y0) (k1 : w.cell? ⟨C, 1, none⟩ = some y1) :
 ((((w.setCell ⟨C, 0, none⟩ v0).setCell ⟨C, 1, none⟩ v1).setCell ⟨B, 0, none⟩ u0).setCell ⟨B, 1, none⟩ u1).cell? ⟨B, 0, none⟩ = some u0 ∧ ((((w.setCell ⟨C, 0, none⟩ v0).setCell ⟨C, 1, none⟩ v1).setCell ⟨B, 0, none⟩ u0).setCell ⟨B, 1, none⟩ u1).cell? ⟨B, 1, none⟩ = some u1 ∧ ((((w.setCell ⟨C, 0, none⟩ v0).setCell ⟨C, 1, none⟩ v1).setCell ⟨B, 0, none⟩ u0).setCell ⟨B, 1, none⟩ u1).cell? ⟨C, 0, none⟩ = some v0 ∧ ((((w.setCell ⟨C, 0, none⟩ v0).setCell ⟨C, 1, none⟩ v1).setCell ⟨B, 0, none⟩ u0).setCell ⟨B, 1, none⟩ u1).cell? ⟨C, 1, none⟩ = some v1 := by
 have h := four v0 v1 u0 u1 hBC.symm k0 k1 h0 h1
 exact ⟨h.2.2.1, h.2.2.2, h.1, h.2.1⟩
theorem below_four {w0 w : World} (h : Below w0.heap.size w0 w) {B C : Nat} (hB : w0.heap.size ≤ B) (hC : w0.heap.size ≤ C) (u0 u1 v0 v1 : Value) : Below w0.heap.size w0 ((((w.setCell ⟨B, 0, none⟩ u0).setCell ⟨B, 1, none⟩ u1).setCell ⟨C, 0, none⟩ v0).setCell ⟨C, 1, none⟩ v1) :=
 (((h.setCell (p := ⟨B, 0, none⟩) hB _).setCell (p := ⟨B, 1, none⟩) hB _).setCell (p := ⟨C, 0, none⟩) hC _).setCell (p := ⟨C, 1, none⟩) hC _
theorem cell_dr {T : World} {p : Addr} {v : Value} (h : T.cell? p = some v) : T.drew.cell? p = some v := h
theorem below_al {w0 T : World} (h : Below w0.heap.size w0 T) (o : Obj) : Below w0.heap.size w0 (T.alloc o) := h.alloc h.size o
theorem cell_al {T : World} {o : Obj} {b i : Nat} {v : Value} (h : T.cell? ⟨b, i, none⟩ = some v) : (T.alloc o).cell? ⟨b, i, none⟩ = some v :=
 cell_later' h (Below.alloc (Below.refl _ _) (Nat.le_refl _) _)

theorem sl_four {α : Type} {r : Rp α} (hr : r.Mono) {lo base sz B C : Nat} {wr : World} {v : Value} {l : List α} (h : SlAt (iv lo wr.heap.size) wr sz r v l) (hB : B < lo) (hC : C < lo) (hlo : base ≤ lo) (u0 u1 v0 v1 : Value) :
 SlAt (iv base ((((wr.setCell ⟨B, 0, none⟩ u0).setCell ⟨B, 1, none⟩ u1).setCell ⟨C, 0, none⟩ v0).setCell ⟨C, 1, none⟩ v1).heap.size) ((((wr.setCell ⟨B, 0, none⟩ u0).setCell ⟨B, 1, none⟩ u1).setCell ⟨C, 0, none⟩ v0).setCell ⟨C, 1, none⟩ v1) sz r v l := by
 have hs : ((((wr.setCell ⟨B, 0, none⟩ u0).setCell ⟨B, 1, none⟩ u1).setCell ⟨C, 0, none⟩ v0).setCell ⟨C, 1, none⟩ v1).heap.size = wr.heap.size := by simp [World.setCell]
 have hst : Stays (iv lo wr.heap.size) wr ((((wr.setCell ⟨B, 0, none⟩ u0).setCell ⟨B, 1, none⟩ u1).setCell ⟨C, 0, none⟩ v0).setCell ⟨C, 1, none⟩ v1) := stays_at fun b hb _ => by
  have := hb.1
  iterate 4 rw [Below.heap_setCell _ _ _ _ (by dsimp only; omega)]
 exact h.mono hr (fun b hb => ⟨by have := hb.1; omega, by rw [hs]; exact hb.2⟩) hst
def ByPost (w : World) (gs : List DGlobal) (fs : List DFunc) (Cs : List (List Int)) (e : Ending) (w' : World) : Prop :=
 Below w.heap.size w w' ∧
  ((∃ c d : Int, fitsF ⟨gs, fs⟩ Cs = (c, d) ∧ ¬ (c = 0 ∧ d = 0) ∧ e = .returned (.tuple #[.agg #[.slice none 0 0, .slice none 0 0], .agg #[.int .i64 c, .int .i64 d]])) ∨
   (fitsF ⟨gs, fs⟩ Cs = (0, 0) ∧ ∃ ga gc fa fc, e = .returned (.tuple #[.agg #[.slice ga gs.length gc, .slice fa fs.length fc], .agg #[.int .i64 0, .int .i64 0]]) ∧
    SlAt (iv w.heap.size w'.heap.size) w' 3 rGlobal (.slice ga gs.length gc) gs ∧ SlAt (iv w.heap.size w'.heap.size) w' 4 rFunc (.slice fa fs.length fc) (byL fs Cs)))

set_option maxRecDepth 100000 in
set_option maxHeartbeats 8000000 in
theorem by_any {S S' : Nat → Prop} (ga : Option Addr) (gc : Nat) (fa : Option Addr) (fc : Nat) (gs : List DGlobal) (fs : List DFunc) (ca : Option Addr) (cc : Nat) (Cs : List (List Int)) (w : World)
 (hg : SlAt S w 3 rGlobal (.slice ga gs.length gc) gs) (hf : SlAt S w 4 rFunc (.slice fa fs.length fc) fs) (hC : SlAt S' w 1 rRow (.slice ca Cs.length cc) Cs) (hw : Ways w)
 (hgl : gs.length ≤ 1048576) (hfl : fs.length ≤ 1048576) (_hcl : Cs.length ≤ 1048576) (hsm : ∀ (k : Nat) (f : DFunc), fs[k]? = some f → manyOf f.blocks ≤ 1048576 ∧ f.blocks.length ≤ 1048576) (hcm : ∀ C ∈ Cs, C.length ≤ 1048576) :
 Calls Tryz.prog 17 #[.agg #[.slice ga gs.length gc, .slice fa fs.length fc], .slice ca Cs.length cc] w (ByPost w gs fs Cs) := by
 have Hg := hid hg
 have Hf := hid hf
 have HC := hid hC
 have Hw := hid hw
 have Hsm := hid hsm
 have Hcm := hid hcm
 clear hg hf hC hw hsm hcm
 go_enter Tryz.func17, Tryz.ntmps17
 obtain ⟨W, hW⟩ : ∃ W, W = ((w.alloc (.cells #[.slice ga gs.length gc, .slice fa fs.length fc] 25)).alloc (.cells #[.slice none 0 0, .slice none 0 0] 25)).alloc (.cells #[.int .i64 0, .int .i64 0] 27) := ⟨_, rfl⟩
 have hbW : Below w.heap.size w W := by rw [hW]; (repeat (first | exact Below.refl _ _ | refine Below.alloc ?_ (by first|omega|(simp<;>omega)) _ | refine Below.setCell ?_ (by first|omega|(simp<;>omega)) _ | refine below_drewN ?_ _ | refine Below.drew ?_))
 have HbW := hid hbW
 have hWs : W.heap.size = w.heap.size + 3 := by rw [hW]; simp
 have W0 : Hid (CellsAt W w.heap.size 0 [.slice ga gs.length gc, .slice fa fs.length fc]) := by
  intro j u hj; rw [hW, Nat.zero_add, World.cell?_alloc_past _ _ _ (by simp; omega), World.cell?_alloc2_first]; simpa using hj
 have R0 : Hid (CellsAt W (w.heap.size + 1) 0 [.slice none 0 0, .slice none 0 0]) := by
  intro j u hj; rw [hW, Nat.zero_add, World.cell?_alloc_past _ _ _ (by simp), World.cell?_alloc2_new]; simpa using hj
 have E0 : Hid (CellsAt W (w.heap.size + 2) 0 [.int .i64 0, .int .i64 0]) := by
  intro j u hj; rw [hW, Nat.zero_add, World.cell?_alloc_at _ _ _ _ (by simp)]; simpa using hj
 have RF : Hid (∀ j, W.frozen? ⟨w.heap.size + 1, j, none⟩ = false) := by intro j; rw [hW, World.frozen?_alloc_old _ _ _ (by simp), World.frozen?_alloc_at _ _ _ _ (by simp)]
 have EF : Hid (∀ j, W.frozen? ⟨w.heap.size + 2, j, none⟩ = false) := by intro j; rw [hW, World.frozen?_alloc_at _ _ _ _ (by simp)]
 go_wp2_with fail
 rw [← hW]
 have hwW : Ways W := Ways.below Hw.out hbW
 refine (check_any (S := S) ga gc fa fc gs fs W (Hg.out.later rGlobal_mono hbW) (Hf.out.later rFunc_mono hbW) hwW hgl hfl Hsm.out).mono ?_
 rintro e w1 ⟨rfl, hb1⟩
 have hz1 := hb1.size
 have K0 := hid (W0.out.later hb1)
 have K1 := hid (R0.out.later hb1)
 have K2 := hid (E0.out.later hb1)
 have KF : Hid (∀ j, w1.frozen? ⟨w.heap.size + 1, j, none⟩ = false) := fun j => (hb1.frozen (p := ⟨w.heap.size + 1, j, none⟩) (by dsimp only; omega)).trans (RF.out j)
 have LF : Hid (∀ j, w1.frozen? ⟨w.heap.size + 2, j, none⟩ = false) := fun j => (hb1.frozen (p := ⟨w.heap.size + 2, j, none⟩) (by dsimp only; omega)).trans (EF.out j)
 obtain ⟨g0, g1⟩ := K0.out.get2
 obtain ⟨r0, r1⟩ := K1.out.get2
 obtain ⟨e0, e1⟩ := K2.out.get2
 simp only [Nat.zero_add] at g1 r1 e1
 have f0 := KF.out 0
 have f1 := KF.out 1
 have f2 := LF.out 0
 have f3 := LF.out 1
 have z2 : w.heap.size + 2 < w1.heap.size := cell_lt e0
 have z1 : w.heap.size + 1 < w1.heap.size := by omega
 have z0 : w.heap.size < w1.heap.size := by omega
 obtain ⟨c, hc⟩ : ∃ c, c = (checkF ⟨gs, fs⟩).1 := ⟨_, rfl⟩
 obtain ⟨d, hd⟩ : ∃ d, d = (checkF ⟨gs, fs⟩).2 := ⟨_, rfl⟩
 have Hcd : Hid (checkF ⟨gs, fs⟩ = (c, d)) := by show _ = _; rw [hc, hd]
 rw [← hc, ← hd]
 have Hw1 : Hid (Below w.heap.size w w1) := HbW.out.trans (hb1.mono (by omega))
 have Hways : Hid (Ways w1) := hwW.below hb1
 clear hb1 hW hbW hc hd hwW hz1 hWs
 by_cases hok : c = 0 ∧ d = 0
 · obtain ⟨rfl, rfl⟩ := hok
   by_cases hlen : Cs.length = fs.length
   · have hq : (decide (Cs.length < fs.length) || decide (fs.length < Cs.length)) = false := ne_noN hlen
     have Hlen := hid hlen
     clear hlen
     go_wp2_with fail
     obtain ⟨W2, hW2⟩ : ∃ W2, W2 = w1.alloc (.cells #[.int .i64 0, .int .i64 0] 27) := ⟨_, rfl⟩
     have hb12 : Below w1.heap.size w1 W2 := by rw [hW2]; (repeat (first | exact Below.refl _ _ | refine Below.alloc ?_ (by first|omega|(simp<;>omega)) _ | refine Below.setCell ?_ (by first|omega|(simp<;>omega)) _ | refine below_drewN ?_ _ | refine Below.drew ?_))
     have hs2 : W2.heap.size = w1.heap.size + 1 := by rw [hW2]; simp
     rw [← hW2]
     have Hw2 : Hid (Below w.heap.size w W2) := Hw1.out.trans (hb12.mono (by omega))
     have Hways2 : Hid (Ways W2) := Hways.out.below hb12
     have K0 := hid (K0.out.later hb12)
     have K1 := hid (K1.out.later hb12)
     have K2 := hid (K2.out.later hb12)
     have KF : Hid (∀ j, W2.frozen? ⟨w.heap.size + 1, j, none⟩ = false) := fun j => (hb12.frozen (p := ⟨w.heap.size + 1, j, none⟩) z1).trans (KF.out j)
     have LF : Hid (∀ j, W2.frozen? ⟨w.heap.size + 2, j, none⟩ = false) := fun j => (hb12.frozen (p := ⟨w.heap.size + 2, j, none⟩) z2).trans (LF.out j)
     clear g0 g1 r0 r1 e0 e1 f0 f1 f2 f3 hW2 hb12
     obtain ⟨g0, g1⟩ := K0.out.get2
     obtain ⟨r0, r1⟩ := K1.out.get2
     obtain ⟨e0, e1⟩ := K2.out.get2
     simp only [Nat.zero_add] at g1 r1 e1
     have f0 := KF.out 0
     have f1 := KF.out 1
     have f2 := LF.out 0
     have f3 := LF.out 1
     have z2 : w.heap.size + 2 < W2.heap.size := cell_lt e0
     have z1 : w.heap.size + 1 < W2.heap.size := by omega
     have z0 : w.heap.size < W2.heap.size := by omega
     have Hs2 := hid hs2
     clear hs2
     go_loop [31] (fun i => ∃ k : Nat, k ≤ Cs.length ∧ i = .int .i64 k ∧ (∀ j, j < k → rowE fs Cs j = 0)) (fun i => Cs.length - (intOf i).toNat)
     case atStart => exact ⟨0, Nat.zero_le _, rfl, fun j hj => absurd hj (Nat.not_lt_zero _)⟩
     case round =>
      obtain ⟨k, hk, rfl, hall⟩ := hrel
      have Hall := hid hall
      clear hall
      by_cases hkl : k < Cs.length
      · have hkf : k < fs.length := by have := Hlen.out; omega
        obtain ⟨b, off, ra, rc, rfl, d1, -⟩ := rows_at (HC.out.later rRow_mono Hw2.out) hkl
        obtain ⟨fb, foff, xa, xc, rfl, hcs, -, -, -⟩ := func_at (Hf.out.later rFunc_mono Hw2.out) hkf
        obtain ⟨-, -, -, d2⟩ := hcs.get4
        have zb : b < W2.heap.size := cell_lt d1
        have zf : fb < W2.heap.size := cell_lt d2
        have hc1 : Cs[k].length ≤ 1048576 := Hcm.out _ (List.getElem_mem hkl)
        have hx1 : fs[k].blocks.length ≤ 1048576 := (Hsm.out k _ (List.getElem?_eq_getElem hkf)).2
        clear hcs
        by_cases he : Cs[k].length = fs[k].blocks.length
        · have hq2 : (decide (Cs[k].length < fs[k].blocks.length) || decide (fs[k].blocks.length < Cs[k].length)) = false := ne_noN he
          have Hr : Hid (rowE fs Cs k = 0) := (rowE_zero hkf hkl).2 he
          clear he
          go_wp2_with fail
          go_round
          case rel => exact ⟨k + 1, by omega, by go_num, ext_lt Hall.out Hr.out⟩
          case measure => simp [intOf]; omega
        · have hq2 : (decide (Cs[k].length < fs[k].blocks.length) || decide (fs[k].blocks.length < Cs[k].length)) = true := ne_yesN he
          have Hr : Hid (fitsF ⟨gs, fs⟩ Cs = (9, ((k : Nat) : Int))) := fitsF_row Hcd.out Hlen.out hkl Hall.out (fun e => he ((rowE_zero hkf hkl).1 e))
          clear he
          go_wp2_with fail
          have q := four (.slice none 0 0) (.slice none 0 0) (.int .i64 9) (.int .i64 ((k : Nat) : Int)) (B := w.heap.size + 1) (C := w.heap.size + 1 + 1) (by omega) r0 r1 e0 e1
          have q' := four' (.slice none 0 0) (.slice none 0 0) (.int .i64 9) (.int .i64 ((k : Nat) : Int)) (B := w.heap.size + 1) (C := w.heap.size + 1 + 1) (by omega) r0 r1 e0 e1
          refine bodyPost_ret (res_unit4 rfl rfl rfl (c := 9) (a := ((k : Nat) : Int)) (g := .slice none 0 0) (f := .slice none 0 0) ?_ ?_ ?_ ?_) rfl ⟨?_, .inl ⟨9, ((k : Nat) : Int), Hr.out, by omega, rfl⟩⟩
          · first | with_reducible exact q.1 | with_reducible exact cell_al q.1 | with_reducible exact q'.1 | with_reducible exact cell_al q'.1
          · first | with_reducible exact q.2.1 | with_reducible exact cell_al q.2.1 | with_reducible exact q'.2.1 | with_reducible exact cell_al q'.2.1
          · first | with_reducible exact q.2.2.1 | with_reducible exact cell_al q.2.2.1 | with_reducible exact q'.2.2.1 | with_reducible exact cell_al q'.2.2.1
          · first | with_reducible exact q.2.2.2 | with_reducible exact cell_al q.2.2.2 | with_reducible exact q'.2.2.2 | with_reducible exact cell_al q'.2.2.2
          · have h := Hw2.out; first | with_reducible exact below_four h (Nat.le_succ _) (by omega) _ _ _ _ | with_reducible exact below_al (below_four h (Nat.le_succ _) (by omega) _ _ _ _) _ | with_reducible exact below_four h (by omega) (Nat.le_succ _) _ _ _ _ | with_reducible exact below_al (below_four h (by omega) (Nat.le_succ _) _ _ _ _) _
      · obtain rfl : k = Cs.length := by omega
        have Hr : Hid (fitsF ⟨gs, fs⟩ Cs = (0, 0)) := fitsF_ok Hcd.out Hlen.out Hall.out
        obtain ⟨HsG, HsF⟩ := checkF_small (u := ⟨gs, fs⟩) Hcd.out
        go_wp2_with fail
        refine (copy_any (S := S) _ _ _ _ gs fs _ (Hg.out.later rGlobal_mono Hw2.out) (Hf.out.later rFunc_mono Hw2.out) hgl hfl HsG HsF).mono ?_
        rintro e w3 ⟨gv, fv, A, rfl, hA1, hA2, hgv, hfv, hb3⟩
        have hn0 : 0 < fs.length := checkF_pos (u := ⟨gs, fs⟩) Hcd.out
        obtain ⟨xss, hrow, hlim, -⟩ := id hfv
        rcases hrow.2 with ⟨-, hbad⟩ | ⟨R, cap, cur, rfl, hR1, hR2, hR3, hR4, hR5, -⟩
        · omega
        have hRlt : R < w3.heap.size := hlim R rfl
        obtain ⟨ga2, gc2, rfl⟩ := hgv.shape
        have Hgv := hid hgv
        have Hfv := hid hfv
        have q1 := cell_later' g1 hb3
        have z03 : w.heap.size < w3.heap.size := cell_lt q1
        clear hrow hlim hgv hfv
        go_wp2_with fail
        obtain ⟨W6, hW6⟩ : ∃ W6, W6 = w3.alloc (.cells #[.slice ga2 gs.length gc2, .slice (some ⟨R, 0, none⟩) fs.length cap] 25) := ⟨_, rfl⟩
        have hs6 : W6.heap.size = w3.heap.size + 1 := by rw [hW6]; simp
        have hb26 : Below W2.heap.size W2 W6 := by rw [hW6]; (have hz0 := (hb3).size; have hy0 := hz0; (try simp at hy0); repeat (first | exact Below.refl _ _ | refine Below.trans ?_ ((hb3).mono (by first|omega|(simp<;>omega))) | refine Below.alloc ?_ (by first|omega|(simp<;>omega)) _ | refine Below.setCell ?_ (by first|omega|(simp<;>omega)) _ | refine below_drewN ?_ _ | refine Below.drew ?_))
        have BU : CellsAt W6 w3.heap.size 0 [.slice ga2 gs.length gc2, .slice (some ⟨R, 0, none⟩) fs.length cap] := by
         intro j u hj; rw [hW6, Nat.zero_add, World.cell?_alloc_new]; simpa using hj
        have hst6 : RSt w W6 W6 R cap (fun j => byF (fs.getD j noFunc) (Cs.getD j [])) 0 := by
         refine ⟨Hw2.out.trans (hb26.mono (by omega)), Nat.le_refl _, fun _ _ _ => rfl, ⟨cur, ?_, hR5⟩, fun j hj => absurd hj (Nat.not_lt_zero _)⟩
         rw [hW6, Below.heap_alloc _ _ _ hRlt]; exact hR2
        have hk6 : ∀ b, b < w3.heap.size → W6.heap[b]? = w3.heap[b]? := fun b hb => by rw [hW6, Below.heap_alloc _ _ _ hb]
        have hz23 : W2.heap.size ≤ w3.heap.size := hb3.size
        have hzU : w3.heap.size ≠ R := by omega
        have hRw : W2.heap.size + 3 ≤ R := by omega
        have HR3 := hid hR3
        have HR4 : Hid (cap ≤ 9223372036854775807) := by have h := hR4; unfold maxLen at h; exact h
        have HgA : Hid (SlAt (iv (W2.heap.size + 3) A) W6 3 rGlobal (.slice ga2 gs.length gc2) gs) := (Hgv.out.kept (w' := W6) rGlobal_mono (fun b h1 h2 => hk6 b (by omega))).toSl rGlobal_mono (by decide)
        have HAR : Hid (A ≤ R) := hR1
        rw [← hW6]
        have Hst6 := hid hst6
        have HBU := hid BU
        have Hs6 := hid hs6
        have Hb26 := hid hb26
        clear hW6 hst6 BU hs6 hb26 hb3 hR1 hR2 hR3 hR4 hR5 hk6 hA1 g0 g1 r0 r1 e0 e1 f0 f1 f2 f3 q1
        go_loopw [55] (fun i wr => ∃ (k : Nat), k ≤ fs.length ∧ i = .int .i64 k ∧ RSt w W6 wr R cap (fun j => byF (fs.getD j noFunc) (Cs.getD j [])) k) (fun i _ => fs.length - (intOf i).toNat)
        case atStart => exact ⟨0, Nat.zero_le _, rfl, Hst6.out⟩
        case round =>
         obtain ⟨k, hk, rfl, hs⟩ := hrel
         have Hs := hid hs
         have z26 : W2.heap.size ≤ W6.heap.size := Hb26.out.size
         have g0 : wr.cell? ⟨w.heap.size, 0, none⟩ = some (.slice ga gs.length gc) := hs.cell (cell_later' K0.out.get2.1 Hb26.out) (by omega)
         have g1 : wr.cell? ⟨w.heap.size, 1, none⟩ = some (.slice fa fs.length fc) := hs.cell (cell_later' (by have h := K0.out.get2.2; rw [Nat.zero_add] at h; exact h) Hb26.out) (by omega)
         have u0 : wr.cell? ⟨w3.heap.size, 0, none⟩ = some (.slice ga2 gs.length gc2) := hs.cell HBU.out.get2.1 hzU
         have u1 : wr.cell? ⟨w3.heap.size, 1, none⟩ = some (.slice (some ⟨R, 0, none⟩) fs.length cap) := hs.cell (by have h := HBU.out.get2.2; rw [Nat.zero_add] at h; exact h) hzU
         have zr0 : w.heap.size < wr.heap.size := cell_lt g0
         have zr3 : w3.heap.size < wr.heap.size := cell_lt u0
         by_cases hkl : k < fs.length
         · have hkC : k < Cs.length := by have := Hlen.out; omega
           obtain ⟨b, off, ra, rc, rfl, d1, hrowk⟩ := rows_at (HC.out.later rRow_mono hs.below) hkC
           obtain ⟨fb, foff, xa, xc, rfl, hcs, hxb, hi1, hi2⟩ := func_at (Hf.out.later rFunc_mono hs.below) hkl
           obtain ⟨c0, c1, c2, c3⟩ := hcs.get4
           have zb : b < wr.heap.size := cell_lt d1
           have zf : fb < wr.heap.size := cell_lt c0
           have hlk : Cs[k].length = fs[k].blocks.length := (rowE_zero hkl hkC).1 (Hall.out k hkC)
           obtain ⟨hh, hbd⟩ := checkF_at (u := ⟨gs, fs⟩) Hcd.out (List.getElem?_eq_getElem hkl)
           have hsmf := HsF _ (List.getElem_mem hkl)
           obtain ⟨n, hn⟩ : ∃ n, fs[k].blocks.length = n := ⟨_, rfl⟩
           have Hlk : Hid (Cs[k].length = n) := by show _ = _; rw [hlk, hn]
           have hn1 : 0 < n := by have h := headE_ok hh; omega
           have hn40 : n ≤ 40 := by have h := headE_ok hh; omega
           rw [hlk, hn] at d1 hrowk
           rw [hn] at c3 hxb
           have Hn := hid hn
           have Hxb := hid hxb
           have Hrowk := hid hrowk
           have Hh := hid hh
           have Hbd := hid hbd
           have Hsmf := hid hsmf
           have Hi1 := hid hi1
           have Hi2 := hid hi2
           clear hs hcs hxb hrowk hn hlk hh hbd hsmf hi1 hi2
           go_wp2_with fail
           obtain ⟨WA, hWA⟩ : ∃ WA, WA = wr.alloc (.cells #[.string fs[k].name, .int .i64 fs[k].params, .int .i64 fs[k].regs, .slice xa n xc] 38) := ⟨_, rfl⟩
           have hbA : Below wr.heap.size wr WA := by rw [hWA]; (repeat (first | exact Below.refl _ _ | refine Below.alloc ?_ (by first|omega|(simp<;>omega)) _ | refine Below.setCell ?_ (by first|omega|(simp<;>omega)) _ | refine below_drewN ?_ _ | refine Below.drew ?_))
           have hcA : CellsAt WA wr.heap.size 0 [.string fs[k].name, .int .i64 fs[k].params, .int .i64 fs[k].regs, .slice xa n xc] := by
            intro j u hj; rw [hWA, Nat.zero_add, World.cell?_alloc_new]; simpa using hj
           have hwA : Below w.heap.size w WA := Hs.out.below.trans (hbA.mono Hs.out.below.size)
           try rw [← hWA]
           refine (Ahead_ok (S := S) _ _ _ _ gs fs k WA (Hg.out.later rGlobal_mono hwA) (Hf.out.later rFunc_mono hwA) (Hw.out.below hwA) hgl hfl Hsm.out Hcd.out hkl).mono ?_
           rintro e w4 ⟨aa, ac, rfl, hv4, hb4⟩
           rw [Hn.out] at hv4 ⊢
           have hb04 : Below wr.heap.size wr w4 := hbA.trans (hb4.mono hbA.size)
           have a0 := hcA.later hb4
           have zA : wr.heap.size < WA.heap.size := cell_lt hcA.get4.1
           have zA4 : WA.heap.size ≤ w4.heap.size := hb4.size
           have Hv4 := hid hv4
           obtain ⟨m0, m1, m2, m3⟩ := a0.get4
           simp only [Nat.zero_add] at m1 m2 m3
           have p0 := cell_later' u0 hb04
           have p1 := cell_later' u1 hb04
           have p2 := cell_later' d1 hb04
           have zb4 : b < w4.heap.size := cell_lt p2
           have zU4 : w3.heap.size < w4.heap.size := cell_lt p0
           have zF4 : wr.heap.size < w4.heap.size := cell_lt m0
           have H04 := hid hb04
           clear hb04 hbA hcA hWA a0 hv4 hb4 g0 g1 u0 u1 c0 c1 c2 c3 d1
           go_wp2_with fail
           obtain ⟨W5, hW5⟩ : ∃ W5, W5 = w4.alloc (.cells #[.int .i64 0, .int .i64 0] 27) := ⟨_, rfl⟩
           have hb45 : Below w4.heap.size w4 W5 := by rw [hW5]; (repeat (first | exact Below.refl _ _ | refine Below.alloc ?_ (by first|omega|(simp<;>omega)) _ | refine Below.setCell ?_ (by first|omega|(simp<;>omega)) _ | refine below_drewN ?_ _ | refine Below.drew ?_))
           try rw [← hW5]
           have n0 := cell_later' m0 hb45
           have n1 := cell_later' m1 hb45
           have n2 := cell_later' m2 hb45
           have n3 := cell_later' m3 hb45
           have v0 := cell_later' p0 hb45
           have v1 := cell_later' p1 hb45
           have v2 := cell_later' p2 hb45
           have zb5 : b < W5.heap.size := cell_lt v2
           have zU5 : w3.heap.size < W5.heap.size := cell_lt v0
           have zF5 : wr.heap.size < W5.heap.size := cell_lt n0
           have Hb05 : Hid (Below wr.heap.size wr W5) := H04.out.trans (hb45.mono H04.out.size)
           have Hb45 := hid hb45
           have hRo : R < wr.heap.size := by have := Hs.out.size; have := Hs6.out; omega
           clear hW5 hb45 m0 m1 m2 m3 p0 p1 p2 zb4 zU4 zF4
           have hto : ∀ (i : Nat) (x : DBlock), fs[k].blocks[i]? = some x → ∀ t ∈ x.fin.to, 0 ≤ t ∧ t < (fs[k].blocks.length : Int) := fun i x hx t ht => by
            have he := (bodyE_zero.1 Hbd.out).1 i (List.getElem?_eq_some_iff.1 hx).1
            unfold endsE at he
            rw [hx] at he
            have := (endE_iff.1 he).2.2.1 t ht
            omega
           have Hto := hid hto
           have Hxb5 : Hid (SlAt S W5 6 rBlock (.slice xa n xc) fs[k].blocks) := Hxb.out.later rBlock_mono Hb05.out
           have Hrk5 : Hid (SlAt S' W5 1 rInt (.slice ra n rc) Cs[k]) := Hrowk.out.later rInt_mono Hb05.out
           have Hgd : Hid (byF (fs.getD k noFunc) (Cs.getD k []) = byF fs[k] Cs[k]) := by
            show _ = _
            rw [List.getD_eq_getElem?_getD, List.getD_eq_getElem?_getD, List.getElem?_eq_getElem hkl, List.getElem?_eq_getElem hkC]; rfl
           clear hto
           go_region_law
            (first
              | (go_simp; go_at_call 46; refine (lay_any' (S := S) (S' := S') _ _ _ xa xc fs[k].blocks ra rc Cs[k] n W5.drew (by rw [Hn.out]; exact Hxb5.out.later rBlock_mono (Below.refl _ _).drew) (by rw [Hlk.out]; exact Hrk5.out.later rInt_mono (Below.refl _ _).drew) hn1 (by omega) Hn.out Hlk.out Hto.out).mono ?_; rintro e w7 ⟨lv, rfl, hlv, hb7⟩
                 have hb57 : Below W5.heap.size W5 w7 := (Below.refl W5.heap.size W5).drew.trans hb7
                 have Hb57 := hid hb57
                 have Hlv := hid hlv
                 obtain ⟨lva, lvc, hlve⟩ := sl_len hlv
                 rw [List.length_map, (lay_perm Hbd.out (by rw [Hn.out]; exact hn1) (cntOf Cs[k])).1.len, Hn.out] at hlve
                 subst hlve
                 have s0 := cell_later' n0 hb57
                 have s1 := cell_later' n1 hb57
                 have s2 := cell_later' n2 hb57
                 have s3 := cell_later' n3 hb57
                 have t0 := cell_later' v0 hb57
                 have t1 := cell_later' v1 hb57
                 have zU7 : w3.heap.size < w7.heap.size := cell_lt t0
                 have zF7 : wr.heap.size < w7.heap.size := cell_lt s0
                 clear hb57 hlv hb7)
              | (go_simp; go_at_call 45; refine (turn_of (S := S) (fs := fs) fs[k] Cs[k] _ Hh.out Hbd.out Hsmf.out _ _ _ n Hn.out xa xc aa ac _ w7 (Hxb5.out.later rBlock_mono Hb57.out) ((Hv4.out.later rRow_mono Hb45.out).later rRow_mono Hb57.out) Hlv.out).mono ?_; rintro e w8 ⟨ta, tc, rfl, htv, hb8⟩
                 have hb08 : Below wr.heap.size wr w8 := Hb05.out.trans ((Hb57.out.trans (hb8.mono Hb57.out.size)).mono Hb05.out.size)
                 have Hs8 := hid (Hs.out.later hb08 hRo)
                 have r1 := cell_later' t1 hb8
                 have zU8 : w3.heap.size < w8.heap.size := cell_lt r1
                 obtain ⟨cur8, hr8, hsz8⟩ := Hs8.out.row
                 have hkc : k < cap := by have := HR3.out; omega
                 have cR : ∀ j, j < 4 → ∃ u, w8.cell? ⟨R, k * 4 + j, none⟩ = some u := fun j hj => ⟨_, (cell_row hr8).trans (Array.getElem?_eq_getElem (by omega))⟩
                 have fR : ∀ j, w8.frozen? ⟨R, j, none⟩ = false := fun j => by simp [World.frozen?, hr8]
                 have y0 := fR (k * 4)
                 have y1 := fR (k * 4 + 1)
                 have y2 := fR (k * 4 + 2)
                 have y3 := fR (k * 4 + 3)
                 obtain ⟨o0, c0⟩ := cR 0 (by omega)
                 obtain ⟨o1, c1⟩ := cR 1 (by omega)
                 obtain ⟨o2, c2⟩ := cR 2 (by omega)
                 obtain ⟨o3, c3⟩ := cR 3 (by omega)
                 rw [Nat.add_zero] at c0
                 have zR8 : R < w8.heap.size := cell_lt c0
                 have Hnx : Hid (RSt w W6 ((((w8.setCell ⟨R, k * 4, none⟩ (.string fs[k].name)).setCell ⟨R, k * 4 + 1, none⟩ (.int .i64 fs[k].params)).setCell ⟨R, k * 4 + 2, none⟩ (.int .i64 fs[k].regs)).setCell ⟨R, k * 4 + 3, none⟩ (.slice ta n tc)) R cap (fun j => byF (fs.getD j noFunc) (Cs.getD j [])) (k + 1)) := by
                  refine Hs8.out.next (by omega) (by have := Hs6.out; omega) hkc _ _ _ _ ?_
                  show rFunc _ _ _ (byF (fs.getD k noFunc) (Cs.getD k []))
                  rw [Hgd.out]
                  exact ⟨_, rfl, htv.mono rBlock_mono (fun b hb => ⟨by have := hb.1; have := Hb57.out.size; have := Hb05.out.size; have := Hs.out.size; omega, hb.2⟩) (Stays.refl _ _), Hi1.out, Hi2.out⟩
                 clear s0 s1 s2 s3 t0 t1 cR fR hr8 hsz8 hb08 hb8 htv))
           all_goals
            go_wp2_with fail
            go_roundw
            case rel => exact ⟨k + 1, by omega, by go_num, Hnx.out⟩
            case measure => simp [intOf]; omega
         · have hkn : k = fs.length := by omega
           have Hsn : Hid (RSt w W6 wr R cap (fun j => byF (fs.getD j noFunc) (Cs.getD j [])) fs.length) := by have h := Hs.out; rw [hkn] at h; exact h
           have hz1R : w.heap.size + 1 ≠ R := by omega
           have hz2R : w.heap.size + 2 ≠ R := by omega
           have hk1 := hs.keep (w.heap.size + 1) (by omega) hz1R
           have hk2 := hs.keep (w.heap.size + 2) (by omega) hz2R
           have KR := cellsK (K1.out.later Hb26.out) hk1
           have KE := cellsK (K2.out.later Hb26.out) hk2
           have f0 : wr.frozen? ⟨w.heap.size + 1, 0, none⟩ = false := by
            rw [World.frozen?_of_block (w := W6) (a := ⟨w.heap.size + 1, 0, none⟩) hk1, Hb26.out.frozen (p := ⟨w.heap.size + 1, 0, none⟩) z1]; exact KF.out 0
           have f1 : wr.frozen? ⟨w.heap.size + 1, 1, none⟩ = false := by
            rw [World.frozen?_of_block (w := W6) (a := ⟨w.heap.size + 1, 1, none⟩) hk1, Hb26.out.frozen (p := ⟨w.heap.size + 1, 1, none⟩) z1]; exact KF.out 1
           have f2 : wr.frozen? ⟨w.heap.size + 2, 0, none⟩ = false := by
            rw [World.frozen?_of_block (w := W6) (a := ⟨w.heap.size + 2, 0, none⟩) hk2, Hb26.out.frozen (p := ⟨w.heap.size + 2, 0, none⟩) z2]; exact LF.out 0
           have f3 : wr.frozen? ⟨w.heap.size + 2, 1, none⟩ = false := by
            rw [World.frozen?_of_block (w := W6) (a := ⟨w.heap.size + 2, 1, none⟩) hk2, Hb26.out.frozen (p := ⟨w.heap.size + 2, 1, none⟩) z2]; exact LF.out 1
           obtain ⟨r0, r1⟩ := KR.get2
           obtain ⟨e0, e1⟩ := KE.get2
           simp only [Nat.zero_add] at r1 e1
           have zr1 : w.heap.size + 1 < wr.heap.size := cell_lt r0
           have zr2 : w.heap.size + 2 < wr.heap.size := cell_lt e0
           have hgr : SlAt (iv (w.heap.size + 3) wr.heap.size) wr 3 rGlobal (.slice ga2 gs.length gc2) gs := by
            have hz := hs.size
            have hA := HAR.out
            refine HgA.out.mono rGlobal_mono (fun b hb => ⟨by have := hb.1; omega, by have := hb.2; omega⟩) (stays_at fun b hb _ => hs.keep b (by have := hb.2; omega) (by have := hb.2; omega))
           have hfr : SlAt (iv (w.heap.size + 3) wr.heap.size) wr 4 rFunc (.slice (some ⟨R, 0, none⟩) fs.length cap) (byL fs Cs) :=
            Hsn.out.sl HR3.out HR4.out (by omega) (by have := Hs6.out; omega) (byL_len fs Cs) (fun j f hj => by
             have hjl : j < fs.length := by rw [← byL_len fs Cs]; exact (List.getElem?_eq_some_iff.1 hj).1
             unfold byL at hj
             rw [List.getElem?_map, List.getElem?_range hjl] at hj
             exact (Option.some.inj hj).symm)
           have Hgr := hid hgr
           have Hfr := hid hfr
           have hbwr : Below w.heap.size w wr := hs.below
           have Hbwr := hid hbwr
           clear hs KR KE hk1 hk2 hgr hfr hbwr hkn g0 g1 zr0
           go_wp2_with fail
           have q := four (.slice ga2 gs.length gc2) (.slice (some ⟨R, 0, none⟩) fs.length cap) (.int .i64 0) (.int .i64 0) (B := w.heap.size + 1) (C := w.heap.size + 1 + 1) (by omega) r0 r1 e0 e1
           have q' := four' (.slice ga2 gs.length gc2) (.slice (some ⟨R, 0, none⟩) fs.length cap) (.int .i64 0) (.int .i64 0) (B := w.heap.size + 1) (C := w.heap.size + 1 + 1) (by omega) r0 r1 e0 e1
           have p := fun u0 u1 v0 v1 => sl_four (base := w.heap.size) (B := w.heap.size + 1) (C := w.heap.size + 1 + 1) rGlobal_mono Hgr.out (by omega) (by omega) (by omega) u0 u1 v0 v1
           have p' := fun u0 u1 v0 v1 => sl_four (base := w.heap.size) (C := w.heap.size + 1) (B := w.heap.size + 1 + 1) rGlobal_mono Hgr.out (by omega) (by omega) (by omega) u0 u1 v0 v1
           have t := fun u0 u1 v0 v1 => sl_four (base := w.heap.size) (B := w.heap.size + 1) (C := w.heap.size + 1 + 1) rFunc_mono Hfr.out (by omega) (by omega) (by omega) u0 u1 v0 v1
           have t' := fun u0 u1 v0 v1 => sl_four (base := w.heap.size) (C := w.heap.size + 1) (B := w.heap.size + 1 + 1) rFunc_mono Hfr.out (by omega) (by omega) (by omega) u0 u1 v0 v1
           refine bodyPost_ret (res_unit4 rfl rfl rfl (c := 0) (a := 0) (g := .slice ga2 gs.length gc2) (f := .slice (some ⟨R, 0, none⟩) fs.length cap) ?_ ?_ ?_ ?_) rfl ⟨?_, .inr ⟨Hr.out, ga2, gc2, _, cap, rfl, ?_, ?_⟩⟩
           · first | with_reducible exact q.1 | with_reducible exact cell_al q.1 | with_reducible exact q'.1 | with_reducible exact cell_al q'.1
           · first | with_reducible exact q.2.1 | with_reducible exact cell_al q.2.1 | with_reducible exact q'.2.1 | with_reducible exact cell_al q'.2.1
           · first | with_reducible exact q.2.2.1 | with_reducible exact cell_al q.2.2.1 | with_reducible exact q'.2.2.1 | with_reducible exact cell_al q'.2.2.1
           · first | with_reducible exact q.2.2.2 | with_reducible exact cell_al q.2.2.2 | with_reducible exact q'.2.2.2 | with_reducible exact cell_al q'.2.2.2
           · have h := Hbwr.out; first | with_reducible exact below_four h (Nat.le_succ _) (by omega) _ _ _ _ | with_reducible exact below_al (below_four h (Nat.le_succ _) (by omega) _ _ _ _) _ | with_reducible exact below_four h (by omega) (Nat.le_succ _) _ _ _ _ | with_reducible exact below_al (below_four h (by omega) (Nat.le_succ _) _ _ _ _) _
           · first | with_reducible exact p _ _ _ _ | with_reducible exact sl_al rGlobal_mono (p _ _ _ _) _ | with_reducible exact p' _ _ _ _ | with_reducible exact sl_al rGlobal_mono (p' _ _ _ _) _
           · first | with_reducible exact t _ _ _ _ | with_reducible exact sl_al rFunc_mono (t _ _ _ _) _ | with_reducible exact t' _ _ _ _ | with_reducible exact sl_al rFunc_mono (t' _ _ _ _) _
   · have hq : (decide (Cs.length < fs.length) || decide (fs.length < Cs.length)) = true := ne_yesN hlen
     have Hr : Hid (fitsF ⟨gs, fs⟩ Cs = (9, -1)) := fitsF_size Hcd.out hlen
     clear hlen
     go_wp2_with fail
     have q := four (.slice none 0 0) (.slice none 0 0) (.int .i64 9) (.int .i64 (-1)) (B := w.heap.size + 1) (C := w.heap.size + 1 + 1) (by omega) r0 r1 e0 e1
     have q' := four' (.slice none 0 0) (.slice none 0 0) (.int .i64 9) (.int .i64 (-1)) (B := w.heap.size + 1) (C := w.heap.size + 1 + 1) (by omega) r0 r1 e0 e1
     refine bodyPost_ret (res_unit4 rfl rfl rfl (c := 9) (a := (-1)) (g := .slice none 0 0) (f := .slice none 0 0) ?_ ?_ ?_ ?_) rfl ⟨?_, .inl ⟨9, (-1), Hr.out, by omega, rfl⟩⟩
     · first | with_reducible exact q.1 | with_reducible exact cell_al q.1 | with_reducible exact q'.1 | with_reducible exact cell_al q'.1
     · first | with_reducible exact q.2.1 | with_reducible exact cell_al q.2.1 | with_reducible exact q'.2.1 | with_reducible exact cell_al q'.2.1
     · first | with_reducible exact q.2.2.1 | with_reducible exact cell_al q.2.2.1 | with_reducible exact q'.2.2.1 | with_reducible exact cell_al q'.2.2.1
     · first | with_reducible exact q.2.2.2 | with_reducible exact cell_al q.2.2.2 | with_reducible exact q'.2.2.2 | with_reducible exact cell_al q'.2.2.2
     · have h := Hw1.out; first | with_reducible exact below_four h (Nat.le_succ _) (by omega) _ _ _ _ | with_reducible exact below_al (below_four h (Nat.le_succ _) (by omega) _ _ _ _) _ | with_reducible exact below_four h (by omega) (Nat.le_succ _) _ _ _ _ | with_reducible exact below_al (below_four h (by omega) (Nat.le_succ _) _ _ _ _) _
 · have hq : ((decide (c < 0) || decide (0 < c)) || (decide (d < 0) || decide (0 < d))) = true := by
    rw [Bool.eq_iff_iff]; simp; omega
   have Hr : Hid (fitsF ⟨gs, fs⟩ Cs = (c, d)) := by show _ = _; rw [fitsF_check (fun e => hok (by rw [Hcd.out] at e; exact ⟨congrArg Prod.fst e, congrArg Prod.snd e⟩)), Hcd.out]
   have Hok := hid hok
   clear hok
   go_wp2_with fail
   go_big_region
   all_goals go_wp2_with fail
   all_goals (
    have q := four (.slice none 0 0) (.slice none 0 0) (.int .i64 c) (.int .i64 d) (B := w.heap.size + 1) (C := w.heap.size + 1 + 1) (by omega) r0 r1 e0 e1
    have q' := four' (.slice none 0 0) (.slice none 0 0) (.int .i64 c) (.int .i64 d) (B := w.heap.size + 1) (C := w.heap.size + 1 + 1) (by omega) r0 r1 e0 e1
    refine bodyPost_ret (res_unit4 rfl rfl rfl (c := c) (a := d) (g := .slice none 0 0) (f := .slice none 0 0) ?_ ?_ ?_ ?_) rfl ⟨?_, .inl ⟨c, d, Hr.out, Hok.out, rfl⟩⟩
    · first | with_reducible exact cell_dr (cell_al q.1) | with_reducible exact cell_dr (cell_al q'.1)
    · first | with_reducible exact cell_dr (cell_al q.2.1) | with_reducible exact cell_dr (cell_al q'.2.1)
    · first | with_reducible exact cell_dr (cell_al q.2.2.1) | with_reducible exact cell_dr (cell_al q'.2.2.1)
    · first | with_reducible exact cell_dr (cell_al q.2.2.2) | with_reducible exact cell_dr (cell_al q'.2.2.2)
    · have h := Hw1.out; first | with_reducible exact (below_al (below_four h (Nat.le_succ _) (by omega) _ _ _ _) _).drew | with_reducible exact (below_al (below_four h (by omega) (Nat.le_succ _) _ _ _ _) _).drew)

end Go.Proofs.YtnkogppgacappaaGreatDoor
