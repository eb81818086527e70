/- A function with its blocks in another order, plainly. turn's copy of a block: its merges, as far as their sources are laid anew. turn's great loop: the state between two blocks, and a block's storing. The cells of objects just made. A unit and a fault handed back: two boxes of two cells written. -/
import Derived.Test.YtnkogppgacappaaGreatDoorPHotW
import Derived.Test.YtnkogppgacappaaGreatDoorPRefA
import Derived.Test.YtnkogppgacappaaGreatDoorPBack
import Derived.Test.YtnkogppgacappaaGreatDoorPCloneR
import Derived.Test.YtnkogppgacappaaGreatDoorPClone
namespace Go.Proofs.YtnkogppgacappaaGreatDoor
open Go.RowKit

def placeOf (ord : List Nat) (x : Nat) : Nat := ord.idxOf x
def pickAt (ord : List Nat) (n : Nat) (fr : List Int) (src : List DVal) (j : Nat) : List DVal := if placeOf ord (fr.getD j 0).toNat = n then (match src[j]? with | some v => [v] | none => []) else []
def pickI (ord : List Nat) (n : Nat) (fr : List Int) (src : List DVal) (i : Nat) : List DVal := (List.range i).flatMap (pickAt ord n fr src)
def srcF (ord : List Nat) (fr : List Int) (src : List DVal) (n : Nat) : List DVal := (List.range n).flatMap (fun n' => pickI ord n' fr src fr.length)
def turnPhi (ord : List Nat) (fr : List Int) (p : DPhi) : DPhi := ⟨p.dst, srcF ord fr p.src ord.length⟩
def turnX (ord : List Nat) (fr : List Int) (x : DBlock) : DBlock := ⟨x.phis.map (turnPhi ord fr), x.list, ⟨x.fin.kind, x.fin.on, x.fin.to.map (fun t => ((placeOf ord t.toNat : Nat) : Int))⟩⟩
def noBlock : DBlock := ⟨[], [], ⟨0, ⟨false, 0⟩, []⟩⟩
def turnL (bs : List DBlock) (ord : List Nat) : List DBlock := ord.map (fun b => turnX ord (predsOf bs 0 b) (bs.getD b noBlock))
theorem pickI_succ (ord : List Nat) (n : Nat) (fr : List Int) (src : List DVal) (i : Nat) : pickI ord n fr src (i + 1) = pickI ord n fr src i ++ pickAt ord n fr src i := by
 unfold pickI; rw [List.range_succ, List.flatMap_append]; simp
theorem srcF_succ (ord : List Nat) (fr : List Int) (src : List DVal) (n : Nat) : srcF ord fr src (n + 1) = srcF ord fr src n ++ pickI ord n fr src fr.length := by
 unfold srcF; rw [List.range_succ, List.flatMap_append]; simp
theorem pickAt_yes {ord : List Nat} {n : Nat} {fr : List Int} {src : List DVal} {j : Nat} (h : placeOf ord (fr.getD j 0).toNat = n) (hj : j < src.length) : pickAt ord n fr src j = [src[j]] := by
 unfold pickAt; rw [if_pos h, List.getElem?_eq_getElem hj]
theorem pickAt_no {ord : List Nat} {n : Nat} {fr : List Int} {src : List DVal} {j : Nat} (h : placeOf ord (fr.getD j 0).toNat ≠ n) : pickAt ord n fr src j = [] := by
 unfold pickAt; rw [if_neg h]
theorem pickI_len (ord : List Nat) (n : Nat) (fr : List Int) (src : List DVal) : ∀ i, (pickI ord n fr src i).length ≤ i := by
 intro i
 induction i with
 | zero => simp [pickI]
 | succ i ih =>
   rw [pickI_succ, List.length_append]
   have : (pickAt ord n fr src i).length ≤ 1 := by
    unfold pickAt
    split
    · split <;> simp
    · simp
   omega
theorem srcF_len (ord : List Nat) (fr : List Int) (src : List DVal) : ∀ n, (srcF ord fr src n).length ≤ n * fr.length := by
 intro n
 induction n with
 | zero => simp [srcF]
 | succ n ih =>
   rw [srcF_succ, List.length_append, Nat.add_mul]
   have := pickI_len ord n fr src fr.length
   omega
theorem atF_step' {r : List Nat} (hinj : ∀ i j (hi : i < r.length) (hj : j < r.length), r[i] = r[j] → i = j) {k : Nat} (hk : k < r.length) (x : Nat) : atF r (k + 1) x = if x = r[k] then k else atF r k x := by
 unfold atF
 rw [List.take_succ_eq_append_getElem hk, hadB_snoc]
 by_cases hx : x = r[k]
 · subst hx
   have hm : r[k] ∈ r := List.getElem_mem _
   have hl : r.idxOf r[k] < r.length := List.idxOf_lt_length_iff.2 hm
   have := hinj _ _ hl hk (List.getElem_idxOf hl)
   rw [if_pos (by simp), if_pos rfl, this]
 · rw [if_neg hx, show (x == r[k]) = false by simpa using hx, Bool.or_false]
theorem atF_place {r : List Nat} {x : Nat} (h : x ∈ r) : atF r r.length x = placeOf r x := by
 unfold atF placeOf
 rw [List.take_length, if_pos (hadB_mem.2 h)]

end Go.Proofs.YtnkogppgacappaaGreatDoor

namespace Go.Proofs.YtnkogppgacappaaGreatDoor
open Go.RowKit

theorem OwnIn.row {α : Type} {a b : Nat} {w : World} {e : TypeId} {sz : Nat} {r : Rp α} {v : Value} {l : List α} (h : OwnIn a b w e sz r v l) : ∀ T, v.ownBlock = some T → (a ≤ T ∧ T < b) ∧ (∃ c, v = .slice (some ⟨T, 0, none⟩) l.length c) ∧ ∀ j, w.frozen? ⟨T, j, none⟩ = false := by
 intro T hT
 obtain ⟨xss, h1, hb, -⟩ := h
 rcases h1.2 with ⟨rfl, -⟩ | ⟨g, cap, cur, rfl, hg, hgg, -⟩
 · cases hT
 · cases hT
   exact ⟨⟨hg, hb g rfl⟩, ⟨cap, rfl⟩, fun j => by simp [World.frozen?, hgg]⟩

structure PhSt (W8 wi : World) (pv : Value) (phis : List DPhi) (ord : List Nat) (fr : List Int) (p : Nat) : Prop where
 grow : W8.grownBy wi pv.ownBlock
 new : ∀ P, pv.ownBlock = some P → ∀ j (h : j < phis.length), j < p → ∃ v, CellsAt wi P (j * 2) [.int .i64 phis[j].dst, v] ∧ SlAt (iv W8.heap.size wi.heap.size) wi 2 rVal v (srcF ord fr phis[j].src ord.length)
 old : ∀ P, pv.ownBlock = some P → ∀ o, p * 2 ≤ o → wi.cell? ⟨P, o, none⟩ = W8.cell? ⟨P, o, none⟩
 free : ∀ P j, pv.ownBlock = some P → wi.frozen? ⟨P, j, none⟩ = false
theorem PhSt.start {W8 : World} {pv : Value} {phis : List DPhi} {ord : List Nat} {fr : List Int} (h : ∀ P j, pv.ownBlock = some P → W8.frozen? ⟨P, j, none⟩ = false) : PhSt W8 W8 pv phis ord fr 0 :=
 ⟨⟨rfl, rfl, rfl, Nat.le_refl _, fun _ _ _ => rfl⟩, fun _ _ _ _ h => absurd h (Nat.not_lt_zero _), fun _ _ _ _ => rfl, h⟩
section
variable {W8 wi wj : World} {pv : Value} {phis : List DPhi} {ord : List Nat} {fr : List Int} {p : Nat}
theorem PhSt.later (h : PhSt W8 wi pv phis ord fr p) (hb : Below wi.heap.size wi wj) (hP : ∀ P, pv.ownBlock = some P → P < W8.heap.size) : PhSt W8 wj pv phis ord fr p := by
 have hs := h.grow.size
 refine ⟨⟨hb.os.trans h.grow.os, hb.tape.trans h.grow.tape, hb.output.trans h.grow.output, Nat.le_trans hs hb.size, fun k hk hne => by rw [hb.block k (by omega), h.grow.block k hk hne]⟩, fun P hPP j hj hjp => ?_, fun P hPP o ho => ?_, fun P j hPP => ?_⟩
 · obtain ⟨v, h1, h2⟩ := h.new P hPP j hj hjp
   exact ⟨v, h1.later hb, (h2.later rVal_mono hb).mono rVal_mono (fun b hb' => ⟨hb'.1, Nat.lt_of_lt_of_le hb'.2 hb.size⟩) (Stays.refl _ _)⟩
 · rw [World.cell?_of_block (w := wi) (a := ⟨P, o, none⟩) (hb.block P (by have := hP P hPP; omega)), h.old P hPP o ho]
 · rw [World.frozen?_of_block (w := wi) (a := ⟨P, j, none⟩) (hb.block P (by have := hP P hPP; omega)), h.free P j hPP]
theorem PhSt.next (h : PhSt W8 wi pv phis ord fr p) (hp : p < phis.length) {P : Nat} (hPP : pv.ownBlock = some P) (hP : P < W8.heap.size) {u v : Value}
 (h0 : W8.cell? ⟨P, p * 2, none⟩ = some (.int .i64 phis[p].dst)) (h1 : W8.cell? ⟨P, p * 2 + 1, none⟩ = some u) (hv : SlAt (iv W8.heap.size wi.heap.size) wi 2 rVal v (srcF ord fr phis[p].src ord.length)) :
 PhSt W8 (wi.setCell ⟨P, p * 2 + 1, none⟩ v) pv phis ord fr (p + 1) := by
 have g1 := (h.old P hPP (p * 2 + 1) (by omega)).trans h1
 have g0 := (h.old P hPP (p * 2) (by omega)).trans h0
 have hsz : (wi.setCell ⟨P, p * 2 + 1, none⟩ v).heap.size = wi.heap.size := by simp [World.setCell]
 have hst : Stays (iv W8.heap.size wi.heap.size) wi (wi.setCell ⟨P, p * 2 + 1, none⟩ v) := stays_at fun b hb _ => Below.heap_setCell _ _ _ _ (by have := hb.1; dsimp only; omega)
 refine ⟨⟨h.grow.os, h.grow.tape, h.grow.output, by rw [hsz]; exact h.grow.size, fun b hb hne => ?_⟩, fun P' hP' j hj hjp => ?_, fun P' hP' o ho => ?_, fun P' j hP' => by simp; exact h.free P' j hP'⟩
 · rw [Below.heap_setCell _ _ _ _ (fun e => hne (by rw [hPP]; exact congrArg some e)), h.grow.block b hb hne]
 · rw [hPP] at hP'
   cases hP'
   rw [hsz]
   by_cases hjq : j = p
   · subst hjq
     refine ⟨v, fun i x hx => ?_, hv.mono rVal_mono (fun _ h => h) hst⟩
     rw [cell_set g1]
     match i, hx with
     | 0, hx => cases hx; rw [if_neg (by omega)]; exact g0
     | 1, hx => cases hx; rw [if_pos rfl]
     | i + 2, hx => simp at hx
   · obtain ⟨v', k1, k2⟩ := h.new P hPP j hj (by omega)
     refine ⟨v', fun i x hx => ?_, k2.mono rVal_mono (fun _ h => h) hst⟩
     have hi : i < 2 := by have := (List.getElem?_eq_some_iff.1 hx).1; simpa using this
     rw [cell_set g1, if_neg (by omega)]
     exact k1 i x hx
 · rw [hPP] at hP'
   cases hP'
   rw [cell_set g1, if_neg (by omega)]
   exact h.old P hPP o (by omega)
theorem PhSt.sl (h : PhSt W8 wi pv phis ord fr phis.length) {C : Nat} (hs : SlAt (iv C W8.heap.size) W8 2 rPhi pv phis) (hz : ∀ P, pv.ownBlock = some P → ∃ c, pv = .slice (some ⟨P, 0, none⟩) phis.length c) (hC : C ≤ W8.heap.size) :
 SlAt (iv C wi.heap.size) wi 2 rPhi pv (phis.map (turnPhi ord fr)) := by
 have hsz := h.grow.size
 obtain ⟨ao, c, hv, h1, h2, h3⟩ := hs
 refine ⟨ao, c, by rw [List.length_map]; exact hv, by rw [List.length_map]; exact h1, h2, fun hne => ?_⟩
 obtain ⟨b, off, rfl, hS, hc⟩ := h3 (fun e => hne (by rw [e]; rfl))
 have hPP : pv.ownBlock = some b := by rw [hv]; rfl
 obtain ⟨c', hz'⟩ := hz b hPP
 rw [hv] at hz'
 cases hz'
 refine ⟨b, 0, rfl, ⟨hS.1, Nat.lt_of_lt_of_le hS.2 hsz⟩, fun i x hx => ?_⟩
 rw [List.getElem?_map] at hx
 cases hq : phis[i]? with
 | none => rw [hq] at hx; cases hx
 | some q =>
   rw [hq] at hx
   cases hx
   obtain ⟨hi, rfl⟩ := List.getElem?_eq_some_iff.1 hq
   obtain ⟨v, k1, k2⟩ := h.new b hPP i hi hi
   obtain ⟨cs, hr, -, -⟩ := hc i _ hq
   obtain ⟨v0, -, -, hd⟩ := hr
   refine ⟨_, ⟨v, rfl, k2.mono rVal_mono (fun B hB => ⟨Nat.le_trans hC hB.1, hB.2⟩) (Stays.refl _ _), hd⟩, rfl, ?_⟩
   rw [Nat.zero_add]; exact k1
end

theorem OwnIn.at {α : Type} {a b : Nat} {w : World} {e : TypeId} {sz : Nat} {r : Rp α} {v : Value} {l : List α} (h : OwnIn a b w e sz r v l) {k : Nat} (hk : k < l.length) :
 ∃ T c cs, v = .slice (some ⟨T, 0, none⟩) l.length c ∧ (a ≤ T ∧ T < b) ∧ CellsAt w T (k * sz) cs ∧ r (fun j => a ≤ j ∧ j < b ∧ v.ownBlock ≠ some j) w cs l[k] := by
 obtain ⟨xss, h1, hb, h2, h3, h4⟩ := h
 rcases id h1.2 with ⟨rfl, hl⟩ | ⟨g, cap, cur, rfl, hg, hgg, hn, hm, hc, ht⟩
 · omega
 · have hi : k < xss.length := by omega
   have hcs := List.getElem?_eq_getElem hi
   refine ⟨g, cap, xss[k], rfl, ⟨hg, hb g rfl⟩, fun j u hj => ?_, h4 k _ _ hcs (List.getElem?_eq_getElem hk)⟩
   have hjs : j < sz := by rw [← h3 k _ hcs]; exact (List.getElem?_eq_some_iff.1 hj).1
   have hf := flat_at xss h3 k j _ hcs hjs
   rw [hj] at hf
   have hcell := h1.cells (g := g) rfl (k * sz + j) u hf
   rw [show (⟨g, 0, none⟩ : Addr).add (k * sz + j) = ⟨g, k * sz + j, none⟩ by unfold Addr.add; split <;> simp_all] at hcell
   exact hcell

structure ToSt (W7 wi : World) (tv : Value) (tos : List Int) (ord : List Nat) (t : Nat) : Prop where
 grow : W7.grownBy wi tv.ownBlock
 size : wi.heap.size = W7.heap.size
 cells : ∀ T, tv.ownBlock = some T → ∀ j (h : j < tos.length), wi.cell? ⟨T, j, none⟩ = some (.int .i64 (if j < t then ((placeOf ord (tos[j]'h).toNat : Nat) : Int) else tos[j]'h))
 free : ∀ T j, tv.ownBlock = some T → wi.frozen? ⟨T, j, none⟩ = false

theorem BlockIn.turned {lo : Nat} {w2 W7 W8 : World} {pv lv tv : Value} {y : DBlock} {ord : List Nat} (hbi : BlockIn lo w2.heap.size w2 pv lv tv y) (hb27 : Below w2.heap.size w2 W7) (hts : ToSt W7 W8 tv y.fin.to ord y.fin.to.length) (ho : ord.length ≤ 40) :
 ∃ a1 b1, (lo ≤ a1 ∧ b1 ≤ w2.heap.size) ∧ OwnIn a1 b1 W8 94 2 rPhi pv y.phis ∧
   SlAt (fun b => lo ≤ b ∧ b < w2.heap.size ∧ pv.ownBlock ≠ some b) W8 8 rIns lv y.list ∧
   SlAt (fun b => lo ≤ b ∧ b < w2.heap.size ∧ pv.ownBlock ≠ some b) W8 1 rInt tv (y.fin.to.map (fun t => ((placeOf ord t.toNat : Nat) : Int))) := by
 obtain ⟨a1, b1, a2, b2, a3, b3, k1, k2, k3, p12, p13, p23, o1, o2, o3⟩ := hbi
 have h3 := fun T hT => (o3.row T hT).1
 have kk : ∀ k, k < w2.heap.size → ¬ (a3 ≤ k ∧ k < b3) → W8.heap[k]? = w2.heap[k]? := fun k hk hn => by
  rw [hts.grow.block k (by have := hb27.size; omega) (fun e => hn (h3 k e.symm)), hb27.block k hk]
 have q1 := fun T hT => (o1.row T hT).1
 have e1 : ∀ b, ¬ (a1 ≤ b ∧ b < b1) → pv.ownBlock ≠ some b := fun b hn e => hn (q1 b e)
 refine ⟨a1, b1, ⟨k1.1, k1.2.2⟩, o1.kept rPhi_mono (fun k h1 h2 => kk k (by omega) (by unfold Apart at p13; omega)), ?_, ?_⟩
 · refine ((o2.kept (w' := W8) rIns_mono (fun k h1 h2 => kk k (by omega) (by unfold Apart at p23; omega))).toSl rIns_mono (by decide)).mono rIns_mono (fun b hb => ?_) (Stays.refl _ _)
   obtain ⟨hb1, hb2⟩ := hb
   exact ⟨by omega, by omega, e1 b (by unfold Apart at p12; omega)⟩
 · obtain ⟨ao, c, hv, n1, n2, -⟩ := o3.toSl rInt_mono (by decide)
   refine ⟨ao, c, by rw [List.length_map]; exact hv, by rw [List.length_map]; exact n1, n2, fun hne => ?_⟩
   have hl : 0 < y.fin.to.length := by
    have := List.length_pos_iff.2 hne
    rwa [List.length_map] at this
   obtain ⟨T, c', cs, hT, hT2, -⟩ := o3.at hl
   have hTT : tv.ownBlock = some T := by rw [hT]; rfl
   rw [hv] at hT
   cases hT
   refine ⟨T, 0, rfl, ⟨by omega, by omega, e1 T (by unfold Apart at p13; omega)⟩, fun i x hx => ?_⟩
   rw [List.getElem?_map] at hx
   cases hq : y.fin.to[i]? with
   | none => rw [hq] at hx; cases hx
   | some q =>
     rw [hq] at hx
     cases hx
     obtain ⟨hi, rfl⟩ := List.getElem?_eq_some_iff.1 hq
     have hc := hts.cells T hTT i hi
     rw [if_pos hi] at hc
     have hle : placeOf ord (y.fin.to[i]).toNat ≤ 40 := Nat.le_trans List.idxOf_le_length ho
     refine ⟨_, ⟨rfl, by dsimp only; omega, by dsimp only; omega⟩, rfl, fun j u hj => ?_⟩
     match j, hj with
     | 0, hj => cases hj; rw [Nat.zero_add, Nat.mul_one, Nat.add_zero]; exact hc
     | j + 1, hj => simp at hj

end Go.Proofs.YtnkogppgacappaaGreatDoor

namespace Go.Proofs.YtnkogppgacappaaGreatDoor
open Go.RowKit

theorem cellsK {w w' : World} {b o : Nat} {cs : List Value} (h : CellsAt w b o cs) (hk : w'.heap[b]? = w.heap[b]?) : CellsAt w' b o cs := fun j v hj => by
 rw [World.cell?_of_block (w := w) (a := ⟨b, o + j, none⟩) hk]; exact h j v hj
theorem heap_set_row {w : World} {b i : Nat} {cur : Array Value} {T : TypeId} {f : Nat × Nat} (h : w.heap[b]? = some (.cells cur T f)) (u : Value) : (w.setCell ⟨b, i, none⟩ u).heap[b]? = some (.cells (cur.setIfInBounds i u) T f) := by
 simp [World.setCell, Array.getElem?_modify, h]
theorem cell_row {w : World} {b i : Nat} {cur : Array Value} {T : TypeId} {f : Nat × Nat} (h : w.heap[b]? = some (.cells cur T f)) : w.cell? ⟨b, i, none⟩ = cur[i]? := by
 simp [World.cell?, h]
theorem row_set6 {w : World} {R o : Nat} {cur : Array Value} {T : TypeId} (u0 u1 u2 u3 u4 u5 : Value) (h : w.heap[R]? = some (.cells cur T (0, 0))) (ho : o + 6 ≤ cur.size) :
 ∃ cur', (((((((w.setCell ⟨R, o, none⟩ u0).setCell ⟨R, o + 1, none⟩ u1).setCell ⟨R, o + 2, none⟩ u2).setCell ⟨R, o + 3, none⟩ u3).setCell ⟨R, o + 4, none⟩ u4).setCell ⟨R, o + 5, none⟩ u5).heap[R]? = some (.cells cur' T (0, 0))) ∧ cur'.size = cur.size ∧
   CellsAt ((((((w.setCell ⟨R, o, none⟩ u0).setCell ⟨R, o + 1, none⟩ u1).setCell ⟨R, o + 2, none⟩ u2).setCell ⟨R, o + 3, none⟩ u3).setCell ⟨R, o + 4, none⟩ u4).setCell ⟨R, o + 5, none⟩ u5) R o [u0, u1, u2, u3, u4, u5] ∧
   ∀ j, (j < o ∨ o + 6 ≤ j) → ((((((w.setCell ⟨R, o, none⟩ u0).setCell ⟨R, o + 1, none⟩ u1).setCell ⟨R, o + 2, none⟩ u2).setCell ⟨R, o + 3, none⟩ u3).setCell ⟨R, o + 4, none⟩ u4).setCell ⟨R, o + 5, none⟩ u5).cell? ⟨R, j, none⟩ = w.cell? ⟨R, j, none⟩ := by
 have h1 := heap_set_row (i := o) h u0
 have h2 := heap_set_row (i := o + 1) h1 u1
 have h3 := heap_set_row (i := o + 2) h2 u2
 have h4 := heap_set_row (i := o + 3) h3 u3
 have h5 := heap_set_row (i := o + 4) h4 u4
 have h6 := heap_set_row (i := o + 5) h5 u5
 refine ⟨_, h6, by simp, fun j v hj => ?_, fun j hj => ?_⟩
 · rw [cell_row h6]
   have hj6 : j < 6 := by have := (List.getElem?_eq_some_iff.1 hj).1; simpa using this
   simp only [Array.getElem?_setIfInBounds, Array.size_setIfInBounds]
   match j, hj with
   | 0, hj => cases hj; simp; omega
   | 1, hj => cases hj; simp; omega
   | 2, hj => cases hj; simp; omega
   | 3, hj => cases hj; simp; omega
   | 4, hj => cases hj; simp; omega
   | 5, hj => cases hj; simp; omega
   | k + 6, hj => simp at hj
 · rw [cell_row h6, cell_row h]
   simp only [Array.getElem?_setIfInBounds, Array.size_setIfInBounds]
   rw [if_neg (by omega), if_neg (by omega), if_neg (by omega), if_neg (by omega), if_neg (by omega), if_neg (by omega)]

structure TSt (w W6 wr : World) (R cap : Nat) (bs : List DBlock) (ord : List Nat) (k : Nat) : Prop where
 below : Below w.heap.size w wr
 size : W6.heap.size ≤ wr.heap.size
 keep : ∀ b, b < W6.heap.size → b ≠ R → wr.heap[b]? = W6.heap[b]?
 row : ∃ cur, wr.heap[R]? = some (.cells cur 76 (0, 0)) ∧ cur.size = cap * 6
 done : ∀ (j b : Nat), j < k → ord[j]? = some b → ∃ cs, cs.length = 6 ∧ CellsAt wr R (j * 6) cs ∧ rBlock (iv W6.heap.size wr.heap.size) wr cs (turnX ord (predsOf bs 0 b) (bs.getD b noBlock))
section
variable {w W6 wo wr : World} {R cap : Nat} {bs : List DBlock} {ord : List Nat} {k : Nat}
theorem TSt.cell (h : TSt w W6 wr R cap bs ord k) {b o : Nat} {v : Value} (hc : W6.cell? ⟨b, o, none⟩ = some v) (hb : b ≠ R) : wr.cell? ⟨b, o, none⟩ = some v := by
 rw [World.cell?_of_block (w := W6) (a := ⟨b, o, none⟩) (h.keep b (cell_lt hc) hb)]; exact hc
theorem TSt.later (h : TSt w W6 wo R cap bs ord k) (hb : Below wo.heap.size wo wr) (hR : R < wo.heap.size) : TSt w W6 wr R cap bs ord k := by
 refine ⟨h.below.trans (hb.mono h.below.size), Nat.le_trans h.size hb.size, fun b h1 h2 => ?_, ?_, fun j b h1 h2 => ?_⟩
 · rw [hb.block b (Nat.lt_of_lt_of_le h1 h.size), h.keep b h1 h2]
 · obtain ⟨cur, h1, h2⟩ := h.row
   exact ⟨cur, by rw [hb.block R hR]; exact h1, h2⟩
 · obtain ⟨cs, h3, h4, h5⟩ := h.done j b h1 h2
   exact ⟨cs, h3, h4.later hb, rBlock_mono.out _ _ _ _ _ _ (fun b h => ⟨h.1, Nat.lt_of_lt_of_le h.2 hb.size⟩) (Stays.below' hb) h5⟩
theorem TSt.next (h : TSt w W6 wr R cap bs ord k) (hw : w.heap.size ≤ R) (hR : R < W6.heap.size) (hk : k < cap) {q : Nat} (hq : ord[k]? = some q) (u0 u1 u2 u3 u4 u5 : Value)
 (hx : rBlock (iv W6.heap.size wr.heap.size) wr [u0, u1, u2, u3, u4, u5] (turnX ord (predsOf bs 0 q) (bs.getD q noBlock))) :
 TSt w W6 ((((((wr.setCell ⟨R, k * 6, none⟩ u0).setCell ⟨R, k * 6 + 1, none⟩ u1).setCell ⟨R, k * 6 + 2, none⟩ u2).setCell ⟨R, k * 6 + 3, none⟩ u3).setCell ⟨R, k * 6 + 4, none⟩ u4).setCell ⟨R, k * 6 + 5, none⟩ u5) R cap bs ord (k + 1) := by
 obtain ⟨cur, hc1, hc2⟩ := h.row
 obtain ⟨cur', r1, r2, r3, r4⟩ := row_set6 (o := k * 6) u0 u1 u2 u3 u4 u5 hc1 (by omega)
 have hsz : ((((((wr.setCell ⟨R, k * 6, none⟩ u0).setCell ⟨R, k * 6 + 1, none⟩ u1).setCell ⟨R, k * 6 + 2, none⟩ u2).setCell ⟨R, k * 6 + 3, none⟩ u3).setCell ⟨R, k * 6 + 4, none⟩ u4).setCell ⟨R, k * 6 + 5, none⟩ u5).heap.size = wr.heap.size := by simp [World.setCell]
 have hk' : ∀ b, b ≠ R → ((((((wr.setCell ⟨R, k * 6, none⟩ u0).setCell ⟨R, k * 6 + 1, none⟩ u1).setCell ⟨R, k * 6 + 2, none⟩ u2).setCell ⟨R, k * 6 + 3, none⟩ u3).setCell ⟨R, k * 6 + 4, none⟩ u4).setCell ⟨R, k * 6 + 5, none⟩ u5).heap[b]? = wr.heap[b]? := fun b hb => by
  iterate 6 rw [Below.heap_setCell _ _ _ _ (by dsimp only; exact hb)]
 have hbel : Below w.heap.size w ((((((wr.setCell ⟨R, k * 6, none⟩ u0).setCell ⟨R, k * 6 + 1, none⟩ u1).setCell ⟨R, k * 6 + 2, none⟩ u2).setCell ⟨R, k * 6 + 3, none⟩ u3).setCell ⟨R, k * 6 + 4, none⟩ u4).setCell ⟨R, k * 6 + 5, none⟩ u5) :=
  (((((h.below.setCell (p := ⟨R, k * 6, none⟩) hw _).setCell (p := ⟨R, k * 6 + 1, none⟩) hw _).setCell (p := ⟨R, k * 6 + 2, none⟩) hw _).setCell (p := ⟨R, k * 6 + 3, none⟩) hw _).setCell (p := ⟨R, k * 6 + 4, none⟩) hw _).setCell (p := ⟨R, k * 6 + 5, none⟩) hw _
 generalize ((((((wr.setCell ⟨R, k * 6, none⟩ u0).setCell ⟨R, k * 6 + 1, none⟩ u1).setCell ⟨R, k * 6 + 2, none⟩ u2).setCell ⟨R, k * 6 + 3, none⟩ u3).setCell ⟨R, k * 6 + 4, none⟩ u4).setCell ⟨R, k * 6 + 5, none⟩ u5) = WN at *
 have hst : Stays (iv W6.heap.size wr.heap.size) wr WN := stays_at fun b hb _ => hk' b (by have := hb.1; omega)
 refine ⟨hbel, by rw [hsz]; exact h.size, fun b h1 h2 => by rw [hk' b h2, h.keep b h1 h2], ⟨cur', r1, by rw [r2, hc2]⟩, fun j b h1 h2 => ?_⟩
 rw [hsz]
 by_cases hjk : j = k
 · subst hjk
   rw [hq] at h2
   cases h2
   exact ⟨_, rfl, r3, rBlock_mono.out _ _ _ _ _ _ (fun _ h => h) hst hx⟩
 · obtain ⟨cs, h3, h4, h5⟩ := h.done j b (by omega) h2
   refine ⟨cs, h3, fun i u hu => ?_, rBlock_mono.out _ _ _ _ _ _ (fun _ h => h) hst h5⟩
   have hi : i < 6 := by rw [← h3]; exact (List.getElem?_eq_some_iff.1 hu).1
   rw [r4 _ (by omega)]
   exact h4 i u hu
theorem TSt.sl (h : TSt w W6 wr R cap bs ord ord.length) {c : Nat} (hc : ord.length ≤ c) (hm : c ≤ 9223372036854775807) {lo : Nat} (hw : lo ≤ R) (hR : R < W6.heap.size) : SlAt (iv lo wr.heap.size) wr 6 rBlock (.slice (some ⟨R, 0, none⟩) ord.length c) (turnL bs ord) := by
 have hl : (turnL bs ord).length = ord.length := by unfold turnL; simp
 refine ⟨_, c, by rw [hl], by rw [hl]; exact hc, hm, fun _ => ⟨R, 0, rfl, ⟨hw, Nat.lt_of_lt_of_le hR h.size⟩, fun i x hx => ?_⟩⟩
 have hi : i < ord.length := by rw [← hl]; exact (List.getElem?_eq_some_iff.1 hx).1
 obtain ⟨cs, h3, h4, h5⟩ := h.done i _ hi (List.getElem?_eq_getElem hi)
 unfold turnL at hx
 rw [List.getElem?_map, List.getElem?_eq_getElem hi] at hx
 cases hx
 exact ⟨cs, rBlock_mono.out _ _ _ _ _ _ (fun b h => ⟨by have := h.1; omega, h.2⟩) (Stays.refl _ _) h5, h3, by rw [Nat.zero_add]; exact h4⟩
end
end Go.Proofs.YtnkogppgacappaaGreatDoor

namespace Go.Proofs.YtnkogppgacappaaGreatDoor
open Go.RowKit

theorem heap_threeF (w : World) (a b c : Obj) : (((w.alloc a).alloc b).alloc c).heap.size = w.heap.size + 3 ∧ (((w.alloc a).alloc b).alloc c).heap[w.heap.size]? = some a ∧ (((w.alloc a).alloc b).alloc c).heap[w.heap.size + 1]? = some b ∧ (((w.alloc a).alloc b).alloc c).heap[w.heap.size + 1 + 1]? = some c := by
 have hs : ∀ (v : World) (o : Obj), (v.alloc o).heap.size = v.heap.size + 1 := fun v o => by simp
 have s1 := hs w a
 have s2 := hs (w.alloc a) b
 have s3 := hs ((w.alloc a).alloc b) c
 have e1 := heap_alloc_new w a
 have e2 := heap_alloc_new (w.alloc a) b
 have e3 := heap_alloc_new ((w.alloc a).alloc b) c
 rw [s1] at e2
 rw [s2, s1] at e3
 refine ⟨by omega, ?_, ?_, e3⟩
 · rw [Below.heap_alloc _ _ _ (by omega), Below.heap_alloc _ _ _ (by omega)]; exact e1
 · rw [Below.heap_alloc _ _ _ (by omega)]; exact e2
theorem cells_of {w : World} {b : Nat} {cs : List Value} {T : TypeId} {f : Nat × Nat} (h : w.heap[b]? = some (.cells cs.toArray T f)) : CellsAt w b 0 cs := fun j v hj => by
 rw [Nat.zero_add, cell_row h, List.getElem?_toArray]; exact hj
theorem thawed {w : World} {b : Nat} {cur : Array Value} {T : TypeId} (h : w.heap[b]? = some (.cells cur T (0, 0))) (i : Nat) : w.frozen? ⟨b, i, none⟩ = false := by simp [World.frozen?, h]
theorem two_cells (w : World) (a b : Obj) : ((w.alloc a).alloc b).heap.size = w.heap.size + 2 ∧ ((w.alloc a).alloc b).heap[w.heap.size]? = some a ∧ ((w.alloc a).alloc b).heap[w.heap.size + 1]? = some b := by
 have hs : ∀ (v : World) (o : Obj), (v.alloc o).heap.size = v.heap.size + 1 := fun v o => by simp
 have s1 := hs w a
 have s2 := hs (w.alloc a) b
 have e1 := heap_alloc_new w a
 have e2 := heap_alloc_new (w.alloc a) b
 rw [s1] at e2
 exact ⟨by omega, by rw [Below.heap_alloc _ _ _ (by omega)]; exact e1, e2⟩
theorem SlAt.live {α : Type} {r : Rp α} {S : Nat → Prop} {w : World} {sz : Nat} {v : Value} {l : List α} (h0 : 0 < sz) (hr : ∀ cs x, r S w cs x → r (fun b => S b ∧ b < w.heap.size) w cs x) (h : SlAt S w sz r v l) : SlAt (fun b => S b ∧ b < w.heap.size) w sz r v l := by
 obtain ⟨ao, c, h1, h2, h3, h4⟩ := h
 refine ⟨ao, c, h1, h2, h3, fun hne => ?_⟩
 obtain ⟨b, off, h5, h6, h7⟩ := h4 hne
 refine ⟨b, off, h5, ⟨h6, ?_⟩, fun i x hx => ?_⟩
 · cases l with
   | nil => exact absurd rfl hne
   | cons x l =>
     obtain ⟨cs, g1, g2, g3⟩ := h7 0 x rfl
     cases cs with
     | nil => simp at g2; omega
     | cons u cs => exact cell_lt (g3 0 u rfl)
 · obtain ⟨cs, g1, g2, g3⟩ := h7 i x hx
   exact ⟨cs, hr _ _ g1, g2, g3⟩
theorem live_row {S : Nat → Prop} {w : World} (cs : List Value) (x : List Int) (h : rRow S w cs x) : rRow (fun b => S b ∧ b < w.heap.size) w cs x := by
 obtain ⟨v, h1, h2⟩ := h
 exact ⟨v, h1, h2.live (by decide) fun _ _ h => h⟩

end Go.Proofs.YtnkogppgacappaaGreatDoor

namespace Go.Proofs.YtnkogppgacappaaGreatDoor
open Go.RowKit

def fourW (W : World) (UO UX : Nat) (u0 u1 c a : Value) : World := (((W.setCell ⟨UO, 0, none⟩ u0).setCell ⟨UO, 1, none⟩ u1).setCell ⟨UX, 0, none⟩ c).setCell ⟨UX, 1, none⟩ a
theorem four_cells {W : World} {UO UX : Nat} {o0 o1 x0 x1 : Value} (u0 u1 c a : Value) (hF : CellsAt W UO 0 [o0, o1]) (hX : CellsAt W UX 0 [x0, x1]) (hne : UO ≠ UX) :
 CellsAt (fourW W UO UX u0 u1 c a) UO 0 [u0, u1] ∧ CellsAt (fourW W UO UX u0 u1 c a) UX 0 [c, a] := by
 unfold fourW
 have q4 := set2 (u0 := u0) (u1 := u1) hF
 obtain ⟨W4, hW4⟩ : ∃ W4, W4 = (W.setCell ⟨UO, 0, none⟩ u0).setCell ⟨UO, 1, none⟩ u1 := ⟨_, rfl⟩
 have hX4 : CellsAt W4 UX 0 [x0, x1] := fun j v hj => by
  rw [hW4, cell_set_ne _ (Ne.symm hne), cell_set_ne _ (Ne.symm hne)]; exact hX j v hj
 rw [← hW4] at q4 ⊢
 have q2 := set2 (u0 := c) (u1 := a) hX4
 exact ⟨fun j v hj => by rw [cell_set_ne _ hne, cell_set_ne _ hne]; exact q4 j v hj, q2⟩
theorem below_fourW {B : Nat} {w W : World} {UO UX : Nat} {u0 u1 c a : Value} (h : Below B w W) (hF : B ≤ UO) (hX : B ≤ UX) : Below B w (fourW W UO UX u0 u1 c a) :=
 (((h.setCell (p := ⟨UO, 0, none⟩) hF _).setCell (p := ⟨UO, 1, none⟩) hF _).setCell (p := ⟨UX, 0, none⟩) hX _).setCell (p := ⟨UX, 1, none⟩) hX _
theorem four_heap {W : World} {UO UX : Nat} {u0 u1 c a : Value} {b : Nat} (h1 : b ≠ UO) (h2 : b ≠ UX) : (fourW W UO UX u0 u1 c a).heap[b]? = W.heap[b]? := by
 unfold fourW
 rw [Below.heap_setCell _ _ _ _ (by dsimp only; exact h2), Below.heap_setCell _ _ _ _ (by dsimp only; exact h2), Below.heap_setCell _ _ _ _ (by dsimp only; exact h1), Below.heap_setCell _ _ _ _ (by dsimp only; exact h1)]
theorem unit_res {fn : Func} (hfn : fn.results = #[.cell 2 25, .cell 3 27]) {tmps : Array Value} {W : World} {UO UX : Nat} {u0 u1 c a : Value}
 (h4 : tmps.getD 2 undef = .pointer (some ⟨UO, 0, none⟩)) (h5 : tmps.getD 3 undef = .pointer (some ⟨UX, 0, none⟩)) (hF : CellsAt W UO 0 [u0, u1]) (hX : CellsAt W UX 0 [c, a]) :
 (results fn tmps).run Tryz.prog W = .ok (.tuple #[.agg #[u0, u1], .agg #[c, a]]) W := by
 obtain ⟨a0, a1⟩ := hF.get2
 obtain ⟨b0, b1⟩ := hX.get2
 simp only [Array.getD_eq_getD_getElem?] at h4 h5
 simp [results, hfn, h4, h5, go_sem, a0, a1, b0, b1]

end Go.Proofs.YtnkogppgacappaaGreatDoor
