/- weigh.By, plainly: what it answers. What code.Check leaves: small units, functions whose blocks may be laid. A row of structs that is written one by one. WeighRest, plainly: laid twice it lies as laid once. -/
import Derived.Test.YtaehkcnankijfaaDoorRest0
import Derived.Test.YtaehkcnankijfaaDoorHotW
import Derived.Test.YtaehkcnankijfaaDoorTurnT
import Derived.Test.YtaehkcnankijfaaDoorCopy
namespace Go.Proofs.YtaehkcnankijfaaDoor
open Go.RowKit

def rowE (fs : List DFunc) (Cs : List (List Int)) (k : Nat) : Int := if (Cs.getD k []).length = (fs.getD k noFunc).blocks.length then 0 else 9
/-- Are there as many counts as blocks? The fault that there is. -/
def fitsF (u : DUnit) (Cs : List (List Int)) : Int × Int :=
  if checkF u ≠ (0, 0) then checkF u
  else if Cs.length ≠ u.funcs.length then (9, -1)
  else if posF (rowE u.funcs Cs) Cs.length < Cs.length then (9, ((posF (rowE u.funcs Cs) Cs.length : Nat) : Int))
  else (0, 0)
def byF (f : DFunc) (C : List Int) : DFunc := turnF f (layF f.blocks (cntOf C))
def byL (fs : List DFunc) (Cs : List (List Int)) : List DFunc := (List.range fs.length).map fun k => byF (fs.getD k noFunc) (Cs.getD k [])

theorem fitsF_check {u : DUnit} {Cs : List (List Int)} (h : checkF u ≠ (0, 0)) : fitsF u Cs = checkF u := by unfold fitsF; rw [if_pos h]
theorem fitsF_size {u : DUnit} {Cs : List (List Int)} (h : checkF u = (0, 0)) (hl : Cs.length ≠ u.funcs.length) : fitsF u Cs = (9, -1) := by unfold fitsF; rw [if_neg (by simp [h]), if_pos hl]
theorem fitsF_row {u : DUnit} {Cs : List (List Int)} (h : checkF u = (0, 0)) (hl : Cs.length = u.funcs.length) {k : Nat} (hk : k < Cs.length) (h0 : ∀ j, j < k → rowE u.funcs Cs j = 0) (hk0 : rowE u.funcs Cs k ≠ 0) : fitsF u Cs = (9, ((k : Nat) : Int)) := by
  unfold fitsF
  rw [if_neg (by simp [h]), if_neg (by simp [hl]), posF_at h0 hk hk0, if_pos hk]
theorem fitsF_ok {u : DUnit} {Cs : List (List Int)} (h : checkF u = (0, 0)) (hl : Cs.length = u.funcs.length) (h0 : ∀ j, j < Cs.length → rowE u.funcs Cs j = 0) : fitsF u Cs = (0, 0) := by
  unfold fitsF
  rw [if_neg (by simp [h]), if_neg (by simp [hl]), posF_all h0, if_neg (Nat.lt_irrefl _)]
theorem rowE_zero {fs : List DFunc} {Cs : List (List Int)} {k : Nat} (h1 : k < fs.length) (h2 : k < Cs.length) : rowE fs Cs k = 0 ↔ Cs[k].length = fs[k].blocks.length := by
  unfold rowE
  rw [List.getD_eq_getElem?_getD, List.getD_eq_getElem?_getD, List.getElem?_eq_getElem h1, List.getElem?_eq_getElem h2, Option.getD_some, Option.getD_some]
  split <;> simp_all
theorem byL_len (fs : List DFunc) (Cs : List (List Int)) : (byL fs Cs).length = fs.length := by unfold byL; simp
theorem byL_at {fs : List DFunc} {Cs : List (List Int)} {k : Nat} (h1 : k < fs.length) (h2 : k < Cs.length) : (byL fs Cs)[k]? = some (byF fs[k] Cs[k]) := by
  unfold byL
  rw [List.getElem?_map, List.getElem?_range h1]
  simp only [Option.map_some, List.getD_eq_getElem?_getD, List.getElem?_eq_getElem h1, List.getElem?_eq_getElem h2, Option.getD_some]

/-- What the functions of a unit in its form keep: an order that weigh.lay gives. -/
theorem lay_perm {fs : List DFunc} {f : DFunc} (h : bodyE fs f = 0) (hn : 0 < f.blocks.length) (c : Nat → Int) : Perm (layF f.blocks c) f.blocks.length ∧ (layF f.blocks c)[0]? = some 0 ∧ OrdAt f.blocks c (layF f.blocks c) := by
  have hf := body_flow h
  have hT := targets_lt (bs := f.blocks) (fun k x hx t ht => by
    obtain ⟨hk, rfl⟩ := List.getElem?_eq_some_iff.1 hx
    exact hf.tgt k hk t (by rw [List.getD_eq_getElem?_getD, List.getElem?_eq_getElem hk]; exact ht))
  obtain ⟨hO, hl, hall⟩ := layF_once (bs := f.blocks) (c := c) hn hT
  refine ⟨⟨hl, hO.lt, fun z hz => hadB_mem.1 (hall z hz), ?_⟩, hO.head, hO⟩
  rw [List.nodup_iff_pairwise_ne, List.pairwise_iff_getElem]
  intro i j hi hj hij he
  have := hO.inj hT hi hj he
  omega

end Go.Proofs.YtaehkcnankijfaaDoor

namespace Go.Proofs.YtaehkcnankijfaaDoor
open Go.RowKit

theorem checkF_pos {u : DUnit} (h : checkF u = (0, 0)) : 0 < u.funcs.length := by
  rcases Nat.eq_zero_or_pos u.funcs.length with h0 | h0
  · exfalso
    obtain ⟨h1, h2, h3, h4, h5⟩ := checkF_ok (u := u) (by rw [h])
    unfold checkF at h
    rw [if_neg (by omega), posF_all (fun j _ => h3 j), posF_all (fun j _ => h4 j), posF_all (fun j _ => h5 j)] at h
    simp only [Nat.lt_irrefl, if_false] at h
    have h6 : u.funcs = [] := List.length_eq_zero_iff.1 h0
    rw [h6] at h
    unfold lastE idxMain at h
    simp at h
  · exact h0
/-- The facts of one function of a unit in its form. -/
theorem checkF_at {u : DUnit} (h : checkF u = (0, 0)) {k : Nat} {f : DFunc} (hf : u.funcs[k]? = some f) :
    headE (fNames u.globals u.funcs k) f = 0 ∧ bodyE u.funcs f = 0 := by
  obtain ⟨-, -, -, h2, h3⟩ := checkF_ok (u := u) (by rw [h])
  have g2 := h2 k
  have g3 := h3 k
  unfold headsE at g2
  unfold bodiesE at g3
  rw [hf] at g2 g3
  exact ⟨g2, g3⟩
theorem manyOf_mem {l : List DBlock} {x : DBlock} (h : x ∈ l) : x.phis.length + x.list.length ≤ manyOf l := by
  unfold manyOf
  induction l with
  | nil => cases h
  | cons a l ih =>
    rw [List.map_cons, List.sum_cons]
    rcases List.mem_cons.1 h with rfl | h
    · omega
    · have := ih h; omega
theorem insE_args {fs : List DFunc} {regs : Int} {x : DIns} (h : insE fs regs x = 0) : x.args.length = 0 ∨ ∃ f ∈ fs, (x.args.length : Int) = f.params := by
  unfold insE at h
  by_cases h1 : ¬ (1 ≤ x.op ∧ x.op ≤ 22)
  · rw [if_pos h1] at h; omega
  rw [if_neg h1] at h
  by_cases h2 : formBad x = true
  · rw [if_pos h2] at h; omega
  rw [if_neg h2] at h
  by_cases h3 : (shpD x.op = true ∧ ¬ (x.op = 20 ∧ x.dst = -1)) ∧ dstE regs x.dst ≠ 0
  · rw [if_pos h3] at h; omega
  rw [if_neg h3] at h
  by_cases hop : x.op = 20
  · right
    unfold firstE at h
    by_cases a1 : valE regs x.a ≠ 0
    · rw [if_pos a1] at h; exact absurd h a1
    rw [if_neg a1] at h
    by_cases a2 : valE regs x.b ≠ 0
    · rw [if_pos a2] at h; exact absurd h a2
    rw [if_neg a2] at h
    unfold callE at h
    rw [if_neg (by simpa using hop)] at h
    by_cases b1 : ¬ (0 ≤ x.fn ∧ x.fn ≤ (fs.length : Int) - 1)
    · rw [if_pos b1] at h; omega
    rw [if_neg b1] at h
    by_cases b2 : (x.args.length : Int) ≠ (fs.getD x.fn.toNat ⟨ByteArray.empty, 0, 0, []⟩).params
    · rw [if_pos b2] at h; omega
    have hk : x.fn.toNat < fs.length := by omega
    rw [List.getD_eq_getElem?_getD, List.getElem?_eq_getElem hk, Option.getD_some] at b2
    exact ⟨_, List.getElem_mem hk, by omega⟩
  · left
    unfold formBad at h2
    simp only [Bool.or_eq_true, Bool.and_eq_true, decide_eq_true_eq, not_or, not_and] at h2
    have := (h2.2 hop).2
    omega
theorem checkF_small {u : DUnit} (h : checkF u = (0, 0)) : (∀ g ∈ u.globals, g.init.length ≤ 1048576) ∧ ∀ f ∈ u.funcs, SmallF f := by
  obtain ⟨-, -, h1, -, -⟩ := checkF_ok (u := u) (by rw [h])
  have hpar : ∀ f ∈ u.funcs, f.params ≤ 6 := fun f hf => by
    obtain ⟨i, hi, rfl⟩ := List.getElem_of_mem hf
    exact (headE_ok (checkF_at h (List.getElem?_eq_getElem hi)).1).2.2.2.1
  refine ⟨fun g hg => ?_, fun f hf => ?_⟩
  · obtain ⟨i, hi, rfl⟩ := List.getElem_of_mem hg
    have g1 := h1 i
    unfold globE at g1
    rw [List.getElem?_eq_getElem hi] at g1
    have := globErr_ok g1
    omega
  · obtain ⟨i, hi, rfl⟩ := List.getElem_of_mem hf
    obtain ⟨hh, hb⟩ := checkF_at h (List.getElem?_eq_getElem hi)
    obtain ⟨-, -, -, -, -, -, -, h40, hm⟩ := headE_ok hh
    refine ⟨by omega, fun x hx => ?_⟩
    have hmx := manyOf_mem hx
    obtain ⟨j, hj, rfl⟩ := List.getElem_of_mem hx
    obtain ⟨e1, e2⟩ := bodyE_zero.1 hb
    have he := e1 j hj
    unfold endsE at he
    rw [List.getElem?_eq_getElem hj] at he
    have he' := endE_iff.1 he
    obtain ⟨hph, hin⟩ := (blockE_zero (List.getElem?_eq_getElem hj)).1 (e2 j hj)
    refine ⟨by omega, by omega, by omega, fun p hp => ?_, fun x hx => ?_⟩
    · have h3 := phiE_iff.1 (hph p hp)
      rw [aheadF_getD hj] at h3
      rw [h3.2.2.1]
      have := predsOf_len j u.funcs[i].blocks 0 (fun x hx => by
        obtain ⟨j', hj', rfl⟩ := List.getElem_of_mem hx
        have he := e1 j' hj'
        unfold endsE at he
        rw [List.getElem?_eq_getElem hj'] at he
        have := endE_iff.1 he
        omega)
      omega
    · rcases insE_args (hin x hx) with h4 | ⟨f, hf, h4⟩
      · omega
      · have := hpar f hf; omega

/-- Four cells of a row written in a row. -/
theorem row_set4 {w : World} {R o : Nat} {cur : Array Value} {T : TypeId} (u0 u1 u2 u3 : Value) (h : w.heap[R]? = some (.cells cur T (0, 0))) (ho : o + 4 ≤ cur.size) :
    ∃ cur', (((((w.setCell ⟨R, o, none⟩ u0).setCell ⟨R, o + 1, none⟩ u1).setCell ⟨R, o + 2, none⟩ u2).setCell ⟨R, o + 3, none⟩ u3).heap[R]? = some (.cells cur' T (0, 0))) ∧ cur'.size = cur.size ∧
      CellsAt ((((w.setCell ⟨R, o, none⟩ u0).setCell ⟨R, o + 1, none⟩ u1).setCell ⟨R, o + 2, none⟩ u2).setCell ⟨R, o + 3, none⟩ u3) R o [u0, u1, u2, u3] ∧
      ∀ j, (j < o ∨ o + 4 ≤ j) → ((((w.setCell ⟨R, o, none⟩ u0).setCell ⟨R, o + 1, none⟩ u1).setCell ⟨R, o + 2, none⟩ u2).setCell ⟨R, o + 3, none⟩ u3).cell? ⟨R, j, none⟩ = w.cell? ⟨R, j, none⟩ := by
  have h1 := heap_set_row (i := o) h u0
  have h2 := heap_set_row (i := o + 1) h1 u1
  have h3 := heap_set_row (i := o + 2) h2 u2
  have h4 := heap_set_row (i := o + 3) h3 u3
  refine ⟨_, h4, by simp, fun j v hj => ?_, fun j hj => ?_⟩
  · rw [cell_row h4]
    have hj6 : j < 4 := by have := (List.getElem?_eq_some_iff.1 hj).1; simpa using this
    simp only [Array.getElem?_setIfInBounds, Array.size_setIfInBounds]
    match j, hj with
    | 0, hj => cases hj; simp; omega
    | 1, hj => cases hj; simp; omega
    | 2, hj => cases hj; simp; omega
    | 3, hj => cases hj; simp; omega
    | k + 4, hj => simp at hj
  · rw [cell_row h4, cell_row h]
    simp only [Array.getElem?_setIfInBounds, Array.size_setIfInBounds]
    rw [if_neg (by omega), if_neg (by omega), if_neg (by omega), if_neg (by omega)]

/-- Between two rounds of a loop that writes a row's functions one by one. -/
structure RSt (w W6 wr : World) (R cap : Nat) (L : Nat → DFunc) (k : Nat) : Prop where
  below : Below w.heap.size w wr
  size : W6.heap.size ≤ wr.heap.size
  keep : ∀ b, b < W6.heap.size → b ≠ R → wr.heap[b]? = W6.heap[b]?
  row : ∃ cur, wr.heap[R]? = some (.cells cur 35 (0, 0)) ∧ cur.size = cap * 4
  done : ∀ (j : Nat), j < k → ∃ cs, cs.length = 4 ∧ CellsAt wr R (j * 4) cs ∧ rFunc (iv W6.heap.size wr.heap.size) wr cs (L j)
section
variable {w W6 wo wr : World} {R cap : Nat} {L : Nat → DFunc} {k : Nat}
theorem RSt.cell (h : RSt w W6 wr R cap L k) {b o : Nat} {v : Value} (hc : W6.cell? ⟨b, o, none⟩ = some v) (hb : b ≠ R) : wr.cell? ⟨b, o, none⟩ = some v := by
  rw [World.cell?_of_block (w := W6) (a := ⟨b, o, none⟩) (h.keep b (cell_lt hc) hb)]; exact hc
theorem RSt.later (h : RSt w W6 wo R cap L k) (hb : Below wo.heap.size wo wr) (hR : R < wo.heap.size) : RSt w W6 wr R cap L k := by
  refine ⟨h.below.trans (hb.mono h.below.size), Nat.le_trans h.size hb.size, fun b h1 h2 => ?_, ?_, fun j h1 => ?_⟩
  · rw [hb.block b (Nat.lt_of_lt_of_le h1 h.size), h.keep b h1 h2]
  · obtain ⟨cur, h1, h2⟩ := h.row
    exact ⟨cur, by rw [hb.block R hR]; exact h1, h2⟩
  · obtain ⟨cs, h3, h4, h5⟩ := h.done j h1
    exact ⟨cs, h3, h4.later hb, rFunc_mono.out _ _ _ _ _ _ (fun b h => ⟨h.1, Nat.lt_of_lt_of_le h.2 hb.size⟩) (Stays.below' hb) h5⟩
theorem RSt.next (h : RSt w W6 wr R cap L k) (hw : w.heap.size ≤ R) (hR : R < W6.heap.size) (hk : k < cap) (u0 u1 u2 u3 : Value)
    (hx : rFunc (iv W6.heap.size wr.heap.size) wr [u0, u1, u2, u3] (L k)) :
    RSt w W6 ((((wr.setCell ⟨R, k * 4, none⟩ u0).setCell ⟨R, k * 4 + 1, none⟩ u1).setCell ⟨R, k * 4 + 2, none⟩ u2).setCell ⟨R, k * 4 + 3, none⟩ u3) R cap L (k + 1) := by
  obtain ⟨cur, hc1, hc2⟩ := h.row
  obtain ⟨cur', r1, r2, r3, r4⟩ := row_set4 (o := k * 4) u0 u1 u2 u3 hc1 (by omega)
  have hsz : ((((wr.setCell ⟨R, k * 4, none⟩ u0).setCell ⟨R, k * 4 + 1, none⟩ u1).setCell ⟨R, k * 4 + 2, none⟩ u2).setCell ⟨R, k * 4 + 3, none⟩ u3).heap.size = wr.heap.size := by simp [World.setCell]
  have hk' : ∀ b, b ≠ R → ((((wr.setCell ⟨R, k * 4, none⟩ u0).setCell ⟨R, k * 4 + 1, none⟩ u1).setCell ⟨R, k * 4 + 2, none⟩ u2).setCell ⟨R, k * 4 + 3, none⟩ u3).heap[b]? = wr.heap[b]? := fun b hb => by
    iterate 4 rw [Below.heap_setCell _ _ _ _ (by dsimp only; exact hb)]
  have hbel : Below w.heap.size w ((((wr.setCell ⟨R, k * 4, none⟩ u0).setCell ⟨R, k * 4 + 1, none⟩ u1).setCell ⟨R, k * 4 + 2, none⟩ u2).setCell ⟨R, k * 4 + 3, none⟩ u3) :=
    (((h.below.setCell (p := ⟨R, k * 4, none⟩) hw _).setCell (p := ⟨R, k * 4 + 1, none⟩) hw _).setCell (p := ⟨R, k * 4 + 2, none⟩) hw _).setCell (p := ⟨R, k * 4 + 3, none⟩) hw _
  generalize ((((wr.setCell ⟨R, k * 4, none⟩ u0).setCell ⟨R, k * 4 + 1, none⟩ u1).setCell ⟨R, k * 4 + 2, none⟩ u2).setCell ⟨R, k * 4 + 3, none⟩ u3) = WN at *
  have hst : Stays (iv W6.heap.size wr.heap.size) wr WN := stays_at fun b hb _ => hk' b (by have := hb.1; omega)
  refine ⟨hbel, by rw [hsz]; exact h.size, fun b h1 h2 => by rw [hk' b h2, h.keep b h1 h2], ⟨cur', r1, by rw [r2, hc2]⟩, fun j h1 => ?_⟩
  rw [hsz]
  by_cases hjk : j = k
  · subst hjk
    exact ⟨_, rfl, r3, rFunc_mono.out _ _ _ _ _ _ (fun _ h => h) hst hx⟩
  · obtain ⟨cs, h3, h4, h5⟩ := h.done j (by omega)
    refine ⟨cs, h3, fun i u hu => ?_, rFunc_mono.out _ _ _ _ _ _ (fun _ h => h) hst h5⟩
    have hi : i < 4 := by rw [← h3]; exact (List.getElem?_eq_some_iff.1 hu).1
    rw [r4 _ (by omega)]
    exact h4 i u hu
theorem RSt.sl {n : Nat} (h : RSt w W6 wr R cap L n) {c : Nat} (hc : n ≤ c) (hm : c ≤ 9223372036854775807) {lo : Nat} (hw : lo ≤ R) (hR : R < W6.heap.size) {l : List DFunc} (hl : l.length = n) (hL : ∀ (j : Nat) (f : DFunc), l[j]? = some f → f = L j) : SlAt (iv lo wr.heap.size) wr 4 rFunc (.slice (some ⟨R, 0, none⟩) n c) l := by
  refine ⟨_, c, by rw [hl], by rw [hl]; exact hc, hm, fun _ => ⟨R, 0, rfl, ⟨hw, Nat.lt_of_lt_of_le hR h.size⟩, fun i x hx => ?_⟩⟩
  have hi : i < n := by rw [← hl]; exact (List.getElem?_eq_some_iff.1 hx).1
  obtain ⟨cs, h3, h4, h5⟩ := h.done i hi
  rw [← hL i x hx] at h5
  exact ⟨cs, rFunc_mono.out _ _ _ _ _ _ (fun b h => ⟨by have := h.1; omega, h.2⟩) (Stays.refl _ _) h5, h3, by rw [Nat.zero_add]; exact h4⟩
end
end Go.Proofs.YtaehkcnankijfaaDoor

namespace Go.Proofs.YtaehkcnankijfaaDoor
open Go.RowKit

def nowRow (f : DFunc) (C : List Int) : List Int := (layF f.blocks (cntOf C)).map (cntOf C)
/-- The first k rows of the counts in their new places. -/
def nowL (fs : List DFunc) (Cs : List (List Int)) (k : Nat) : List (List Int) := (List.range k).map fun k => nowRow (fs.getD k noFunc) (Cs.getD k [])

theorem nowL_succ (fs : List DFunc) (Cs : List (List Int)) (k : Nat) : nowL fs Cs (k + 1) = nowL fs Cs k ++ [nowRow (fs.getD k noFunc) (Cs.getD k [])] := by
  unfold nowL; rw [List.range_succ, List.map_append]; rfl
theorem nowL_len (fs : List DFunc) (Cs : List (List Int)) (k : Nat) : (nowL fs Cs k).length = k := by unfold nowL; simp
theorem nowL_getD {fs : List DFunc} {Cs : List (List Int)} {n k : Nat} (hk : k < n) : (nowL fs Cs n).getD k [] = nowRow (fs.getD k noFunc) (Cs.getD k []) := by
  unfold nowL
  rw [List.getD_eq_getElem?_getD, List.getElem?_map, List.getElem?_range hk]; rfl
theorem byL_getD {fs : List DFunc} {Cs : List (List Int)} {k : Nat} (hk : k < fs.length) : (byL fs Cs).getD k noFunc = byF (fs.getD k noFunc) (Cs.getD k []) := by
  unfold byL
  rw [List.getD_eq_getElem?_getD, List.getElem?_map, List.getElem?_range hk]; rfl
theorem fitsF_inv {u : DUnit} {Cs : List (List Int)} (h : fitsF u Cs = (0, 0)) : checkF u = (0, 0) ∧ Cs.length = u.funcs.length ∧ ∀ k, k < Cs.length → rowE u.funcs Cs k = 0 := by
  unfold fitsF at h
  by_cases h1 : checkF u ≠ (0, 0)
  · rw [if_pos h1] at h; exact absurd h h1
  rw [if_neg h1] at h
  by_cases h2 : Cs.length ≠ u.funcs.length
  · rw [if_pos h2] at h; exact absurd (congrArg Prod.fst h) (by decide)
  rw [if_neg h2] at h
  by_cases h3 : posF (rowE u.funcs Cs) Cs.length < Cs.length
  · rw [if_pos h3] at h; exact absurd (congrArg Prod.fst h) (show ¬ (9 : Int) = 0 by decide)
  exact ⟨Classical.not_not.1 h1, Classical.not_not.1 h2, posF_inv h3⟩
theorem fitsF_code {u : DUnit} {Cs : List (List Int)} (h : (fitsF u Cs).1 = 0) : fitsF u Cs = (0, 0) := by
  unfold fitsF at h ⊢
  by_cases h1 : checkF u ≠ (0, 0)
  · rw [if_pos h1] at h; exact absurd (checkF_zero h) h1
  rw [if_neg h1] at h ⊢
  by_cases h2 : Cs.length ≠ u.funcs.length
  · rw [if_pos h2] at h; exact absurd h (by decide)
  rw [if_neg h2] at h ⊢
  by_cases h3 : posF (rowE u.funcs Cs) Cs.length < Cs.length
  · rw [if_pos h3] at h; exact absurd h (show ¬ (9 : Int) = 0 by decide)
  rw [if_neg h3]

theorem byF_rest {fs : List DFunc} {f : DFunc} {C : List Int} (hb : bodyE fs f = 0) (hn : 0 < f.blocks.length) : byF (byF f C) (nowRow f C) = byF f C := by
  obtain ⟨hp, h0, hO⟩ := lay_perm hb hn (cntOf C)
  have hf := body_flow hb
  have e : layF (byF f C).blocks (cntOf (nowRow f C)) = List.range f.blocks.length := by
    refine layF_turn (bs := f.blocks) hf hn hp (fun i hi => ?_) hO
    show (List.map (cntOf C) _).getD i 0 = _
    rw [List.getD_eq_getElem?_getD, List.getElem?_map, List.getElem?_eq_getElem hi]; rfl
  show turnF (byF f C) _ = _
  rw [e]
  show (⟨f.name, f.params, f.regs, turnL (turnL f.blocks _) _⟩ : DFunc) = ⟨f.name, f.params, f.regs, _⟩
  rw [turnL_range (hf.turn hp)]

/-- Laid again by the same counts in their new places, all lies as it did. -/
theorem rest_plain {gs : List DGlobal} {fs : List DFunc} {Cs : List (List Int)} (h : fitsF ⟨gs, fs⟩ Cs = (0, 0)) :
    fitsF ⟨gs, byL fs Cs⟩ (nowL fs Cs fs.length) = (0, 0) ∧ byL (byL fs Cs) (nowL fs Cs fs.length) = byL fs Cs := by
  obtain ⟨h1, h2, h3⟩ := fitsF_inv h
  dsimp only at h2 h3
  have hg : ∀ k (f : DFunc), fs[k]? = some f → fs.getD k noFunc = f := fun k f hf => by rw [List.getD_eq_getElem?_getD, hf]; rfl
  have hpos : ∀ k (f : DFunc), fs[k]? = some f → bodyE fs f = 0 ∧ 0 < f.blocks.length := fun k f hf => by
    obtain ⟨hh, hb⟩ := checkF_at (u := ⟨gs, fs⟩) h1 hf
    obtain ⟨-, -, -, -, -, -, g1, -, -⟩ := headE_ok hh
    exact ⟨hb, by omega⟩
  have hck : checkF ⟨gs, byL fs Cs⟩ = (0, 0) := by
    rw [checkF_turn (fs := fs) (by rw [h1]) (byL_len fs Cs) (fun k f hf => ?_), h1]
    obtain ⟨hk, he⟩ := List.getElem?_eq_some_iff.1 hf
    obtain ⟨hb, hn⟩ := hpos k f hf
    obtain ⟨hp, h0, -⟩ := lay_perm hb hn (cntOf (Cs.getD k []))
    refine ⟨layF f.blocks (cntOf (Cs.getD k [])), ?_, hp, h0⟩
    unfold byL
    rw [List.getElem?_map, List.getElem?_range hk, Option.map_some, hg k f hf]
    rfl
  refine ⟨fitsF_ok hck (by rw [nowL_len]; exact (byL_len fs Cs).symm) (fun k hk => ?_), ?_⟩
  · rw [nowL_len] at hk
    unfold rowE
    dsimp only
    rw [nowL_getD hk, byL_getD hk]
    refine if_pos ?_
    show (nowRow _ _).length = (turnL _ _).length
    rw [turnL_len]
    unfold nowRow
    rw [List.length_map]
  · refine List.ext_getElem? fun k => ?_
    by_cases hk : k < fs.length
    · have hk2 : k < (byL fs Cs).length := by rw [byL_len]; exact hk
      have e1 : (byL (byL fs Cs) (nowL fs Cs fs.length))[k]? = some (byF ((byL fs Cs).getD k noFunc) ((nowL fs Cs fs.length).getD k [])) := by
        show ((List.range _).map _)[k]? = _
        rw [List.getElem?_map, List.getElem?_range hk2]; rfl
      have e2 : (byL fs Cs)[k]? = some (byF (fs.getD k noFunc) (Cs.getD k [])) := by
        unfold byL
        rw [List.getElem?_map, List.getElem?_range hk]; rfl
      obtain ⟨hb, hn⟩ := hpos k _ (List.getElem?_eq_getElem hk)
      rw [e1, e2, byL_getD hk, nowL_getD hk, hg k _ (List.getElem?_eq_getElem hk), byF_rest hb hn]
    · rw [List.getElem?_eq_none (by rw [byL_len, byL_len]; omega), List.getElem?_eq_none (by rw [byL_len]; omega)]

end Go.Proofs.YtaehkcnankijfaaDoor
