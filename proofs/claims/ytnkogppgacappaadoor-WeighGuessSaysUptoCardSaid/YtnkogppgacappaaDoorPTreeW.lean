/- dom.TreeOf. -/
import Derived.Test.YtnkogppgacappaaDoorPGPost
import Derived.Test.YtnkogppgacappaaDoorPGAhd
import Derived.Test.YtnkogppgacappaaDoorPMeet
import Derived.Test.YtnkogppgacappaaDoorPRepI
namespace Go.Proofs.YtnkogppgacappaaDoor
open Go.RowKit

/-- A row of numbers that a function tells. -/
def rowV (n : Nat) (f : Nat → Int) : Array Value := ((List.range n).map fun x => Value.int .i64 (f x)).toArray
theorem rowV_at {n : Nat} {f : Nat → Int} {x : Nat} (h : x < n) : (rowV n f)[x]? = some (.int .i64 (f x)) := by
  unfold rowV
  rw [List.getElem?_toArray, List.getElem?_map, List.getElem?_range h]; rfl
theorem rowV_size (n : Nat) (f : Nat → Int) : (rowV n f).size = n := by unfold rowV; simp
theorem rowV_set {n : Nat} {f : Nat → Int} {c : Nat} (b : Int) : (rowV n f).setIfInBounds c (.int .i64 b) = rowV n (updF f c b) := by
  apply Array.ext_getElem?
  intro i
  rw [Array.getElem?_setIfInBounds]
  rcases Nat.lt_or_ge i n with h | h
  · by_cases hc : c = i
    · subst hc
      rw [if_pos rfl, if_pos (by rw [rowV_size]; exact h), rowV_at h, updF_self]
    · rw [if_neg hc, rowV_at h, rowV_at h, updF_ne _ _ (Ne.symm hc)]
  · have e : ∀ f : Nat → Int, (rowV n f)[i]? = none := fun f => Array.getElem?_eq_none (by rw [rowV_size]; exact h)
    by_cases hc : c = i
    · subst hc
      rw [if_pos rfl, if_neg (by rw [rowV_size]; omega), e]
    · rw [if_neg hc, e, e]
theorem rowV_congr {n : Nat} {f g : Nat → Int} (h : ∀ x, x < n → f x = g x) : rowV n f = rowV n g := by
  unfold rowV
  congr 1
  exact List.map_congr_left fun x hx => by rw [h x (List.mem_range.1 hx)]
theorem rowV_sl {W : World} {g n : Nat} {f : Nat → Int} (h : W.heap[g]? = some (.cells (rowV n f) 3 (0, 0))) (hf : ∀ x, x < n → I64 (f x)) (hn : n ≤ 1048576) : SlAt (fun b => b = g) W 1 rInt (.slice (some ⟨g, 0, none⟩) n n) ((List.range n).map f) := by
  have hl : ((List.range n).map f).length = n := by simp
  refine ⟨_, n, by rw [hl], by omega, by omega, fun _ => ⟨g, 0, rfl, rfl, fun i x hx => ?_⟩⟩
  rw [List.getElem?_map] at hx
  have hi : i < n := by
    rcases Nat.lt_or_ge i n with h | h
    · exact h
    · rw [List.getElem?_eq_none (by simpa using h)] at hx; cases hx
  rw [List.getElem?_range hi] at hx
  cases hx
  refine ⟨_, ⟨rfl, hf i hi⟩, rfl, fun j u hj => ?_⟩
  match j, hj with
  | 0, hj =>
    cases hj
    rw [cell_row h]
    simpa using rowV_at hi
  | j + 1, hj => simp at hj
theorem rowV_getD {n : Nat} {f : Nat → Int} {x : Nat} (h : x < n) : ((List.range n).map f).getD x 0 = f x := by
  rw [List.getD_eq_getElem?_getD, List.getElem?_map, List.getElem?_range h]; rfl

/-- Two rows of the call's own that are written; all else of an earlier world is kept. -/
structure TrSt (w W0 W : World) (AT UP n : Nat) (a u : Nat → Int) : Prop where
  size : W0.heap.size ≤ W.heap.size
  keep : ∀ b, b < W0.heap.size → b ≠ AT → b ≠ UP → W.heap[b]? = W0.heap[b]?
  env : W.os = W0.os ∧ W.tape = W0.tape ∧ W.output = W0.output
  rowA : W.heap[AT]? = some (.cells (rowV n a) 3 (0, 0))
  rowU : W.heap[UP]? = some (.cells (rowV n u) 3 (0, 0))
  old : Below w.heap.size w W0
  lo : w.heap.size ≤ AT ∧ w.heap.size ≤ UP ∧ AT < W0.heap.size ∧ UP < W0.heap.size ∧ AT ≠ UP
section
variable {w W0 W W' : World} {AT UP n : Nat} {a u : Nat → Int}
theorem TrSt.below (h : TrSt w W0 W AT UP n a u) : Below w.heap.size w W := by
  have hz := h.old.size
  have hl := h.lo
  exact ⟨h.env.1.trans h.old.os, h.env.2.1.trans h.old.tape, h.env.2.2.trans h.old.output, Nat.le_trans hz h.size, fun k hk => (h.keep k (by omega) (by omega) (by omega)).trans (h.old.block k hk)⟩
theorem TrSt.later (h : TrSt w W0 W AT UP n a u) (hb : Below W.heap.size W W') : TrSt w W0 W' AT UP n a u := by
  have hz := h.size
  have hl := h.lo
  exact ⟨Nat.le_trans hz hb.size, fun b h1 h2 h3 => (hb.block b (by omega)).trans (h.keep b h1 h2 h3), ⟨hb.os.trans h.env.1, hb.tape.trans h.env.2.1, hb.output.trans h.env.2.2⟩, (hb.block AT (by omega)).trans h.rowA, (hb.block UP (by omega)).trans h.rowU, h.old, h.lo⟩
theorem TrSt.anew (h : TrSt w W0 W AT UP n a u) : TrSt w W W AT UP n a u := by
  have hz := h.size
  have hl := h.lo
  exact ⟨Nat.le_refl _, fun _ _ _ _ => rfl, ⟨rfl, rfl, rfl⟩, h.rowA, h.rowU, h.below, by omega⟩
theorem TrSt.setA (h : TrSt w W0 W AT UP n a u) (c : Nat) (b : Int) : TrSt w W0 (W.setCell ⟨AT, c, none⟩ (.int .i64 b)) AT UP n (updF a c b) u := by
  have hl := h.lo
  refine ⟨by simpa [World.setCell] using h.size, fun k h1 h2 h3 => ?_, h.env, ?_, ?_, h.old, h.lo⟩
  · rw [Below.heap_setCell _ _ _ _ (by dsimp only; exact h2)]; exact h.keep k h1 h2 h3
  · rw [heap_set_row h.rowA, rowV_set]
  · rw [Below.heap_setCell _ _ _ _ (by dsimp only; omega)]; exact h.rowU
theorem TrSt.setU (h : TrSt w W0 W AT UP n a u) (c : Nat) (b : Int) : TrSt w W0 (W.setCell ⟨UP, c, none⟩ (.int .i64 b)) AT UP n a (updF u c b) := by
  have hl := h.lo
  refine ⟨by simpa [World.setCell] using h.size, fun k h1 h2 h3 => ?_, h.env, ?_, ?_, h.old, h.lo⟩
  · rw [Below.heap_setCell _ _ _ _ (by dsimp only; exact h3)]; exact h.keep k h1 h2 h3
  · rw [Below.heap_setCell _ _ _ _ (by dsimp only; omega)]; exact h.rowA
  · rw [heap_set_row h.rowU, rowV_set]
theorem TrSt.congr (h : TrSt w W0 W AT UP n a u) {a' : Nat → Int} (he : ∀ x, x < n → a x = a' x) : TrSt w W0 W AT UP n a' u :=
  ⟨h.size, h.keep, h.env, by rw [← rowV_congr he]; exact h.rowA, h.rowU, h.old, h.lo⟩
theorem TrSt.atU (h : TrSt w W0 W AT UP n a u) {x : Nat} (hx : x < n) : W.cell? ⟨UP, x, none⟩ = some (.int .i64 (u x)) := by rw [cell_row h.rowU, rowV_at hx]
theorem TrSt.fzA (h : TrSt w W0 W AT UP n a u) (x : Nat) : W.frozen? ⟨AT, x, none⟩ = false := by simp [World.frozen?, h.rowA]
theorem TrSt.atA (h : TrSt w W0 W AT UP n a u) {x : Nat} (hx : x < n) : W.cell? ⟨AT, x, none⟩ = some (.int .i64 (a x)) := by rw [cell_row h.rowA, rowV_at hx]
theorem TrSt.fzU (h : TrSt w W0 W AT UP n a u) (x : Nat) : W.frozen? ⟨UP, x, none⟩ = false := by simp [World.frozen?, h.rowU]
theorem TrSt.cell (h : TrSt w W0 W AT UP n a u) {b o : Nat} {v : Value} (hc : W0.cell? ⟨b, o, none⟩ = some v) (h1 : b ≠ AT) (h2 : b ≠ UP) : W.cell? ⟨b, o, none⟩ = some v := by
  rw [World.cell?_of_block (w := W0) (a := ⟨b, o, none⟩) (h.keep b (cell_lt hc) h1 h2)]; exact hc
theorem TrSt.sl {α : Type} {r : Rp α} (hr : r.Mono) {S : Nat → Prop} {sz : Nat} {v : Value} {l : List α} (h : TrSt w W0 W AT UP n a u) (hS : ∀ b, S b → b ≠ AT ∧ b ≠ UP) (hs : SlAt S W0 sz r v l) : SlAt S W sz r v l :=
  hs.mono hr (fun _ h => h) (stays_at fun b hb hl => h.keep b hl (hS b hb).1 (hS b hb).2)
end
/-- The tree, read off the row. -/
def upW (UP : Nat) (W : World) : Nat → Int := fun x => match W.cell? ⟨UP, x, none⟩ with | some v => intOf v | none => 0
theorem TrSt.upW {w W0 W : World} {AT UP n : Nat} {a u : Nat → Int} (h : TrSt w W0 W AT UP n a u) (ps : Nat → Nat) : muF n ps (upW UP W) = muF n ps u := by
  have e : ∀ x, x < n → weightF n ps (Go.Proofs.YtnkogppgacappaaDoor.upW UP W) x = weightF n ps u x := fun x hx => by
    unfold weightF Go.Proofs.YtnkogppgacappaaDoor.upW
    rw [h.atU hx]; rfl
  exact Nat.le_antisymm (sumF_le n fun x hx => Nat.le_of_eq (e x hx)) (sumF_le n fun x hx => Nat.le_of_eq (e x hx).symm)

theorem ordL_len (bs : List DBlock) : (ordL bs).length = (ordN bs).length := by unfold ordN; simp
theorem ordL_get {bs : List DBlock} (h : ToOk bs) {k : Nat} (hk : k < (ordN bs).length) : ∃ h' : k < (ordL bs).length, (ordL bs)[k] = ((ordN bs)[k] : Int) := by
  have hl : k < (ordL bs).length := by rw [ordL_len]; exact hk
  refine ⟨hl, ?_⟩
  have hm : (ordL bs)[k] ∈ postF bs := List.mem_reverse.1 (List.getElem_mem hl)
  have h0 := ((post_facts h).1 _ hm).1
  have h2 : (ordN bs)[k]? = some ((ordL bs)[k]).toNat := by
    unfold ordN
    rw [List.getElem?_map, List.getElem?_eq_getElem hl]; rfl
  rw [List.getElem?_eq_getElem hk] at h2
  have h3 := Option.some.inj h2
  omega
theorem ahdF_get {bs : List DBlock} {b j : Nat} (hj : j < (predsOf bs 0 b).length) : ∃ q : Nat, (predsOf bs 0 b)[j] = (q : Int) ∧ q < bs.length ∧ (ahdF bs b).drop j = q :: (ahdF bs b).drop (j + 1) := by
  have hm := predsOf_mem (List.getElem_mem hj)
  obtain ⟨q, hq⟩ := Int.eq_ofNat_of_zero_le hm.1
  refine ⟨q, hq, by omega, ?_⟩
  unfold ahdF
  rw [List.drop_eq_getElem_cons (by simpa using hj), List.getElem_map, hq]
  rfl
theorem ahdF_len (bs : List DBlock) (b : Nat) : (ahdF bs b).length = (predsOf bs 0 b).length := by unfold ahdF; simp

/-- Between two rounds: the tree, and whether there is one more. -/
structure OutS (n : Nat) (bs : List DBlock) (more : Bool) (up : Nat → Int) : Prop where
  go : more = true → DSt n (ordN bs) (psF bs) (ahdF bs) (fpF bs) 1 up ∧ (∀ x, -1 ≤ up x) ∧ ∃ f, muF n (psF bs) up < f ∧ treeR (psF bs) (ahdF bs) (ordN bs).tail f up = restF bs
  stop : more = false → up = restF bs
theorem OutS.start {bs : List DBlock} (h : ToOk bs) : OutS bs.length bs true up0 :=
  ⟨fun _ => ⟨DSt.start (post_rpo h) (psF_zero h), fun x => by unfold up0; split <;> omega, _, Nat.lt_succ_self _, rfl⟩, fun h => by cases h⟩
def moreN (v : Value) : Nat := match v with | .bool true => 1 | _ => 0
/-- Behind a round. -/
theorem OutS.next {n : Nat} {bs : List DBlock} {up u : Nat → Int} {m : Bool} (ho : Rpo n (ordN bs) (psF bs) (ahdF bs) (fpF bs)) (h : OutS n bs true up) (hp : PSt n (ordN bs) (psF bs) (ahdF bs) (fpF bs) up (ordN bs).length (u, m)) (he : (u, m) = passF (psF bs) (ahdF bs) (ordN bs).tail (up, false)) :
    OutS n bs m u ∧ 2 * muF n (psF bs) u + moreN (.bool m) < 2 * muF n (psF bs) up + 1 := by
  obtain ⟨-, -, f, hf, hr⟩ := h.go rfl
  obtain ⟨f', rfl⟩ : ∃ f', f = f' + 1 := ⟨f - 1, by omega⟩
  rw [treeR, ← he] at hr
  cases m with
  | true =>
    have hlt := hp.lt rfl
    dsimp only at hlt hr
    rw [if_pos rfl] at hr
    exact ⟨⟨fun _ => ⟨hp.d.again ho, hp.low, f', by omega, hr⟩, fun h => by cases h⟩, by simp only [moreN]; omega⟩
  | false =>
    have hle := hp.le
    dsimp only at hle hr
    rw [if_neg (by simp)] at hr
    exact ⟨⟨fun h => (by cases h), fun _ => hr⟩, by simp only [moreN]; omega⟩
theorem sl_tail {S : Nat → Prop} {w : World} {b off n c : Nat} {l : List Int} (h : SlAt S w 1 rInt (.slice (some ⟨b, off, none⟩) n c) l) (hn : 0 < n) : SlAt S w 1 rInt (.slice (some ⟨b, off + 1, none⟩) (n - 1) (c - 1)) l.tail := by
  obtain ⟨ao, c', e, h1, h2, h3⟩ := h
  cases e
  have hl : l.tail.length = l.length - 1 := by simp
  refine ⟨_, _, by rw [hl], by rw [hl]; omega, by omega, fun _ => ?_⟩
  obtain ⟨b', off', e, h4, h5⟩ := h3 (fun e => by rw [e] at hn; simp at hn)
  cases e
  refine ⟨b, off + 1, rfl, h4, fun i x hx => ?_⟩
  have hx2 : l[i + 1]? = some x := by
    cases l with
    | nil => simp at hx
    | cons a l => simpa using hx
  obtain ⟨cs, g1, g2, g3⟩ := h5 (i + 1) x hx2
  exact ⟨cs, g1, g2, by rw [show off + 1 + i * 1 = off + (i + 1) * 1 by omega]; exact g3⟩
theorem psF_le {bs : List DBlock} (h : ToOk bs) (x : Nat) : psF bs x ≤ bs.length := by
  have h1 := ordN_le h
  unfold psF atF
  split
  · have := List.idxOf_le_length (a := x) (l := ordN bs); omega
  · omega

set_option maxRecDepth 100000 in
set_option maxHeartbeats 4000000 in
theorem treeOf_any {S : Nat → Prop} (nm : ByteArray) (p r : Int) (ba : Option Addr) (n bc : Nat) (bs : List DBlock) (w : World) (hb : SlAt S w 6 rBlock (.slice ba n bc) bs) (hS : ∀ b, S b → b < w.heap.size) (hbn : bs.length = n) (hn : n ≤ 1048576) (hto : ToOk bs) :
    Calls Tryd.prog 28 #[.agg #[.string nm, .int .i64 p, .int .i64 r, .slice ba n bc]] w fun e w' =>
      ∃ g, e = .returned (.slice (some ⟨g, 0, none⟩) n n) ∧ w.heap.size ≤ g ∧ SlAt (fun b => b = g) w' 1 rInt (.slice (some ⟨g, 0, none⟩) n n) (treeF bs) ∧ Below w.heap.size w w' := by
  have Hb := hid hb
  have Hbn := hid hbn
  have Hto := hid hto
  have HS := hid hS
  have Ho := hid (post_rpo hto)
  have hn0 : 0 < n := by rw [← hbn]; exact hto.pos
  obtain ⟨L, hL⟩ : ∃ L, L = (ordL bs).length := ⟨_, rfl⟩
  have HL := hid hL
  have hL0 : 0 < L := by rw [hL, ordL_len]; exact (ordN_head hto).1
  have hLn : L ≤ n := by rw [hL, ordL_len, ← hbn]; exact ordN_le hto
  clear hb hbn hto hS hL
  have hmk := run_make_row' (P := Tryd.prog) 26 3 (.int .i64 0) 8 Tryd.underlying26 infoIntR rfl .i64 .i64 n (by omega) (by omega)
  go_enter Tryd.func28, Tryd.ntmps28
  go_wp2_with (first
    | (go_at_call 52; refine (orderOf_any (S := S) nm p r ba n bc bs _ (Hb.out.later rBlock_mono (by (repeat (first | exact Below.refl _ _ | refine Below.alloc ?_ (by first | omega | (simp <;> omega)) _ | refine Below.setCell ?_ (by first | omega | (simp <;> omega)) _ | refine below_drewN ?_ _ | refine Below.drew ?_)))) (fun b hb => by have := HS.out b hb; simp; omega) Hbn.out hn Hto.out).mono ?_; rintro e w1 ⟨v, rfl, hv, hb1⟩
       obtain ⟨oa, oc, hov⟩ := hv.shape
       subst hov
       rw [← HL.out] at hv ⊢
       have hcF : CellsAt w1 w.heap.size 0 [.string nm, .int .i64 p, .int .i64 r, .slice ba n bc] := CellsAt.later (.cons (by simp) (.cons (by simp) (.cons (by simp) (.cons (by simp) (.nil _ _ _))))) hb1
       have hcF3 := hcF.get4.2.2.2
       have z1 : w.heap.size < w1.heap.size := cell_lt hcF3
       have hb1' : Below w.heap.size w w1 := by (repeat (first | exact Below.refl _ _ | exact (hb1).mono (by first | omega | (simp <;> omega) | (have hh := (hb1).size; (try simp at hh); omega) | (have hh := (hb1).size; (try simp at hh); (try simp); omega)) | refine Below.trans ?_ ((hb1).mono (by first | omega | (simp <;> omega) | (have hh := (hb1).size; (try simp at hh); omega) | (have hh := (hb1).size; (try simp at hh); (try simp); omega))) | refine Below.alloc ?_ (by first | omega | (simp <;> omega) | (have hh := (hb1).size; (try simp at hh); omega) | (have hh := (hb1).size; (try simp at hh); (try simp); omega)) _ | refine Below.setCell ?_ (by first | omega | (simp <;> omega) | (have hh := (hb1).size; (try simp at hh); omega) | (have hh := (hb1).size; (try simp at hh); (try simp); omega)) _ | refine below_drewN ?_ _ | refine Below.drew ?_))
       have Hb1 := hid hb1'
       have Hv := hid hv
       clear hv hb1 hb1'))
  refine (repeatInts_any _ _ (-1) n hn _ (new_cells _ [.int .i64 (-1)] 3 (by simp) 0 _ rfl)).mono ?_
  rintro e w2 ⟨UP, rfl, hUP, hrow, hb2⟩
  obtain ⟨AT, hAT⟩ : ∃ AT, AT = w1.heap.size := ⟨_, rfl⟩
  rw [← hAT]
  have hz2 : w1.heap.size + 2 ≤ w2.heap.size := by have := hb2.size; simpa using this
  have hUP2 : w1.heap.size + 2 ≤ UP := by simpa using hUP
  have hUPs : UP < w2.heap.size := (Array.getElem?_eq_some_iff.1 hrow).1
  have hwb : Below w1.heap.size w1 w2 := by (repeat (first | exact Below.refl _ _ | exact (hb2).mono (by first | omega | (simp <;> omega) | (have hh := (hb2).size; (try simp at hh); omega) | (have hh := (hb2).size; (try simp at hh); (try simp); omega)) | refine Below.trans ?_ ((hb2).mono (by first | omega | (simp <;> omega) | (have hh := (hb2).size; (try simp at hh); omega) | (have hh := (hb2).size; (try simp at hh); (try simp); omega))) | refine Below.alloc ?_ (by first | omega | (simp <;> omega) | (have hh := (hb2).size; (try simp at hh); omega) | (have hh := (hb2).size; (try simp at hh); (try simp); omega)) _ | refine Below.setCell ?_ (by first | omega | (simp <;> omega) | (have hh := (hb2).size; (try simp at hh); omega) | (have hh := (hb2).size; (try simp at hh); (try simp); omega)) _ | refine below_drewN ?_ _ | refine Below.drew ?_))
  have hst : TrSt w w2 w2 AT UP n (fun _ => 0) (fun _ => -1) := by
    refine ⟨Nat.le_refl _, fun _ _ _ _ => rfl, ⟨rfl, rfl, rfl⟩, ?_, ?_, Hb1.out.trans (hwb.mono Hb1.out.size), ?_⟩
    · rw [hb2.block AT (by simp; omega), Below.heap_alloc _ _ _ (by simp; omega), hAT, heap_alloc_new, madeCells_rep]
      unfold rowV
      rw [List.map_const']
      simp
    · rw [hrow]
      unfold rowV
      rw [List.map_const']
      simp
    · have := Hb1.out.size; omega
  have Hst := hid hst
  have hv2 := Hv.out.sl
  have Hv2 := hid ((hv2.later rInt_mono hwb).mono rInt_mono (S' := fun b => b ≠ AT ∧ b ≠ UP) (fun b hb => by have := hb.2; omega) (Stays.refl _ _))
  have hcF2 := hcF.later hwb
  have HcF2 := hid hcF2
  have hATl : w.heap.size ≤ AT := by have := Hb1.out.size; omega
  have hFA : w.heap.size < AT := by omega
  have hFU : w.heap.size < UP := by omega
  clear hb2 hrow hwb hst hmk hv2 hcF hcF2 hUP hAT hUPs hcF3
  go_wp2_with fail
  go_loopw [28] (fun i wr => ∃ k : Nat, k ≤ L ∧ i = .int .i64 k ∧ TrSt w w2 wr AT UP n (fun x => ((atF (ordN bs) k x : Nat) : Int)) (fun _ => -1)) (fun i _ => L - (intOf i).toNat)
  case atStart => exact ⟨0, Nat.zero_le _, rfl, Hst.out.congr (fun x _ => by simp [atF, hadB])⟩
  case round =>
    obtain ⟨k, hk, rfl, htr⟩ := hrel
    have Htr := hid htr
    by_cases hkl : k < L
    · have hkN : k < (ordN bs).length := by rw [← ordL_len, ← HL.out]; exact hkl
      obtain ⟨hkO, he⟩ := ordL_get Hto.out hkN
      obtain ⟨ob, ooff, rfl, c0⟩ := int_at (htr.sl rInt_mono (fun b hb => hb) Hv2.out) hkO
      obtain ⟨q, hq⟩ : ∃ q, q = (ordN bs)[k] := ⟨_, rfl⟩
      rw [he, ← hq] at c0
      have hqn : q < n := by rw [hq, ← Hbn.out]; exact ordN_lt Hto.out (List.getElem_mem _)
      have c1 := htr.atA hqn
      have f1 := htr.fzA q
      have zA : AT < wr.heap.size := cell_lt c1
      have zo : ob < wr.heap.size := cell_lt c0
      have Hstep : Hid (∀ x, atF (ordN bs) (k + 1) x = if x = q then k else atF (ordN bs) k x) := fun x => by
        rw [atF_step' (fun i j hi hj e => ordN_inj Hto.out hi hj e) hkN, hq]
      clear htr he hq
      go_wp2_with fail
      go_roundw
      case rel => exact ⟨k + 1, by omega, by go_num, (Htr.out.setA q (k : Int)).congr (fun x _ => by rw [Hstep.out]; unfold updF; split <;> rfl)⟩
      case measure => simp [intOf]; omega
    · obtain rfl : k = L := by omega
      have Hta : Hid (TrSt w w2 wr AT UP n (fun x => (psF bs x : Int)) (fun _ => -1)) := htr.congr (fun x _ => by
        unfold psF
        rw [HL.out, ordL_len])
      have c1 := htr.atU (x := 0) hn0
      have f1 := htr.fzU 0
      have zU : UP < wr.heap.size := cell_lt c1
      clear htr Htr
      have Htu : Hid (TrSt w w2 (wr.setCell ⟨UP, 0, none⟩ (.int .i64 0)) AT UP n (fun x => (psF bs x : Int)) up0) := Hta.out.setU 0 0
      obtain ⟨b0, b1, b2, b3⟩ := HcF2.out.get4
      have b0 := Hta.out.cell b0 (by omega) (by omega)
      have b1 := Hta.out.cell b1 (by omega) (by omega)
      have b2 := Hta.out.cell b2 (by omega) (by omega)
      have b3 := Hta.out.cell b3 (by omega) (by omega)
      have zF : w.heap.size < wr.heap.size := cell_lt b0
      have hag := gahead_any (S := S) nm p r ba bc bs (wr.setCell ⟨UP, 0, none⟩ (.int .i64 0)) (by rw [Hbn.out]; exact Hb.out.later rBlock_mono Htu.out.below) (by rw [Hbn.out]; exact hn) Hto.out.tgt
      rw [Hbn.out] at hag
      have Hag := hid hag
      clear hag
      go_wp2_with (first
        | (go_at_call 29; refine (Hag.out).mono ?_; rintro e w5 ⟨v, rfl, hv5, hb5⟩
           obtain ⟨va, vc, hve, hvm⟩ := hv5.val
           subst hve
           rw [show (aheadF bs).length = n by unfold aheadF; simp [Hbn.out]] at hv5 ⊢
           have Hv5 := hid hv5
           have Hb5 := hid hb5
           clear hv5 hb5 hvm))
      have HtT : Hid (TrSt w w5 w5 AT UP n (fun x => (psF bs x : Int)) up0) := (Htu.out.later Hb5.out).anew
      have Hv3 : Hid (SlAt (fun b => b ≠ AT ∧ b ≠ UP) w5 1 rInt (.slice oa k oc) (ordL bs)) := (Htu.out.sl rInt_mono (fun b hb => hb) Hv2.out).later rInt_mono Hb5.out
      have HvA : Hid (SlAt (fun b => b ≠ AT ∧ b ≠ UP) w5 1 rRow (.slice va n vc) (aheadF bs)) := Hv5.out.mono rRow_mono (fun b hb => by
        have h1 : (wr.setCell ⟨UP, 0, none⟩ (.int .i64 0)).heap.size ≤ b := hb
        have h2 := Htu.out.size
        have h3 := Htu.out.lo
        omega) (Stays.refl _ _)
      have Ho' : Hid (Rpo n (ordN bs) (psF bs) (ahdF bs) (fpF bs)) := by have h := Ho.out; rw [Hbn.out] at h; exact h
      have Hs0 : Hid (OutS n bs true up0) := by have h := OutS.start Hto.out; rw [Hbn.out] at h; exact h
      clear b0 b1 b2 b3 zF c1 f1 zU Hag Hta Htu Hst Hv2 Hv5 Hb5 hkl HcF2 Hb hz2 hUP2 Hv Hb1
      obtain ⟨ob, ooff, hoa, -⟩ := int_at Hv3.out (t := 0) (by rw [← HL.out]; exact hL0)
      subst hoa
      have hkc : k ≤ oc := by
        obtain ⟨_, _, e, h1, -⟩ := Hv3.out
        cases e
        rw [HL.out]; exact h1
      go_loopw [9] (fun s9 wr => ∃ (more : Bool) (up : Nat → Int), s9 = .bool more ∧ TrSt w w5 wr AT UP n (fun x => (psF bs x : Int)) up ∧ OutS n bs more up) (fun s9 wr => 2 * muF n (psF bs) (upW UP wr) + moreN s9)
      case atStart => exact ⟨true, up0, rfl, HtT.out, Hs0.out⟩
      case round =>
        obtain ⟨more, up, rfl, htr, hos⟩ := hrel
        have Htr := hid htr
        have Hos := hid hos
        cases more with
        | false =>
          have c1 := htr.atU (x := 0) hn0
          have f1 := htr.fzU 0
          have zU : UP < wr.heap.size := cell_lt c1
          have Hup := hid (hos.stop rfl)
          clear htr hos
          go_wp2_with fail
          go_ret
          have hfin := Htr.out.setU 0 (-1)
          rw [Hup.out] at hfin
          have hr := rest_ok Hto.out
          refine ⟨UP, rfl, by omega, ?_, hfin.below⟩
          have h := rowV_sl hfin.rowU (fun x hx => by
            unfold updF I64
            have h1 := hr.low x
            split
            · omega
            · rcases Int.lt_or_le (restF bs x) 0 with h2 | h2
              · omega
              · have h3 := hr.d.tree.lt _ (hr.d.tree.next x h2)
                have := Hbn.out
                omega) hn
          unfold treeF
          rw [Hbn.out]
          exact h
        | true =>
          obtain ⟨wo, hwo⟩ : ∃ wo : World, wo = wr := ⟨_, rfl⟩
          subst hwo
          clear htr hos
          by_cases hoc : oc = 1
          · have hk1 : k = 1 := by omega
            subst hk1
            subst hoc
            have hlN : (ordN bs).length = 1 := by rw [← ordL_len, ← HL.out]
            have Hnx : Hid (OutS n bs false up ∧ 2 * muF n (psF bs) up + moreN (.bool false) < 2 * muF n (psF bs) up + 1) := by
              have hg := Hos.out.go rfl
              refine OutS.next Ho'.out Hos.out ?_ ?_
              · rw [hlN]; exact PSt.zero hg.1 hg.2.1
              · have : (ordN bs).tail = [] := List.length_eq_zero_iff.1 (by rw [List.length_tail, hlN])
                rw [this]; rfl
            clear hlN
            go_wp2_with fail
            go_loopw [9, 46] (fun s9 s46 wr => s9 = .bool false ∧ s46 = .int .i64 0 ∧ wr = wo) (fun _ _ _ => 0)
            case atStart => exact ⟨rfl, rfl, rfl⟩
            case round =>
              obtain ⟨rfl, rfl, rfl⟩ := hrel
              go_wp2_with fail
              go_roundw
              case rel => exact ⟨false, up, rfl, Htr.out, Hnx.out.1⟩
              case measure =>
                rw [Htr.out.upW]
                exact Hnx.out.2
          · have Hv4 : Hid (SlAt (fun b => b ≠ AT ∧ b ≠ UP) w5 1 rInt (.slice (some ⟨ob, ooff + 1, none⟩) (k - 1) (oc - 1)) (ordL bs).tail) := sl_tail Hv3.out hL0
            obtain ⟨T, hT⟩ : ∃ T, T = k - 1 := ⟨_, rfl⟩
            have HT : Hid ((ordN bs).length = T + 1 ∧ (ordL bs).tail.length = T) := by
              have h1 := HL.out
              have h2 := ordL_len bs
              refine ⟨by omega, by rw [List.length_tail]; omega⟩
            rw [← hT] at Hv4
            have hTn : T < n := by omega
            go_wp2_with fail
            rw [← hT]
            clear hT Hv3
            go_loopw [9, 46] (fun s9 s46 wi => ∃ (j : Nat) (m : Bool) (u : Nat → Int), j ≤ T ∧ s9 = .bool m ∧ s46 = .int .i64 j ∧ TrSt w w5 wi AT UP n (fun x => (psF bs x : Int)) u ∧ PSt n (ordN bs) (psF bs) (ahdF bs) (fpF bs) up (j + 1) (u, m) ∧ passF (psF bs) (ahdF bs) ((ordN bs).drop (j + 1)) (u, m) = passF (psF bs) (ahdF bs) (ordN bs).tail (up, false)) (fun _ s46 _ => T - (intOf s46).toNat)
            case atStart =>
              have hg := Hos.out.go rfl
              exact ⟨0, false, up, Nat.zero_le _, rfl, rfl, Htr.out, PSt.zero hg.1 hg.2.1, by rw [List.drop_one]⟩
            case round =>
              obtain ⟨j, m, u, hj, rfl, rfl, htr, hps, hpf⟩ := hrel
              have Htr2 := hid htr
              have Hps := hid hps
              have Hpf := hid hpf
              clear htr hps hpf
              by_cases hjT : j < T
              · have hjN : j + 1 < (ordN bs).length := by rw [HT.out.1]; omega
                obtain ⟨hkO, he⟩ := ordL_get Hto.out hjN
                have hjt : j < (ordL bs).tail.length := by rw [HT.out.2]; exact hjT
                obtain ⟨ob2, off2, e0, c0⟩ := int_at (Htr2.out.sl rInt_mono (fun b hb => hb) Hv4.out) hjt
                cases e0
                obtain ⟨q, hq⟩ : ∃ q, q = (ordN bs)[j + 1] := ⟨_, rfl⟩
                rw [List.getElem_tail, he, ← hq] at c0
                have hqn : q < n := by rw [hq, ← Hbn.out]; exact ordN_lt Hto.out (List.getElem_mem _)
                have hql : q < (aheadF bs).length := by unfold aheadF; simpa [Hbn.out] using hqn
                obtain ⟨rb, roff, cs, rfl, -, ⟨rv, rfl, hrow⟩, -, hcs⟩ := (Htr2.out.sl rRow_mono (fun b hb => hb) HvA.out).get hql
                have hrq : (aheadF bs)[q] = predsOf bs 0 q := by
                  have h := aheadF_getD (bs := bs) (k := q) (by rw [Hbn.out]; exact hqn)
                  rw [List.getD_eq_getElem?_getD, List.getElem?_eq_getElem hql] at h
                  exact h
                rw [hrq] at hrow
                obtain ⟨ra, rc, hrv, hRm⟩ := hrow.val
                subst hrv
                have d0 := hcs.get1
                obtain ⟨R, hR⟩ : ∃ R, R = (predsOf bs 0 q).length := ⟨_, rfl⟩
                rw [← hR] at d0 hrow hRm
                have HR := hid hR
                have Hrow := hid hrow
                have Hq := hid hq
                have zo : ob < wr.heap.size := cell_lt c0
                have zr : rb < wr.heap.size := cell_lt d0
                rw [Nat.mul_one] at d0
                clear hcs hrow hR hrq hq he hjt
                go_wp2_with fail
                clear c0 d0
                obtain ⟨wi, hwi⟩ : ∃ wi : World, wi = wr := ⟨_, rfl⟩
                subst hwi
                go_loopw [12, 55] (fun s12 s55 wj => ∃ (i : Nat) (best : Int), i ≤ R ∧ s12 = .int .i64 best ∧ s55 = .int .i64 i ∧ (0 ≤ best → 0 ≤ u best.toNat) ∧ -1 ≤ best ∧ bestF (psF bs) u best ((ahdF bs q).drop i) = bestF (psF bs) u (-1) (ahdF bs q) ∧ Below wi.heap.size wi wj) (fun _ s55 _ => R - (intOf s55).toNat)
                case atStart => exact ⟨0, -1, Nat.zero_le _, rfl, rfl, fun h => by omega, by omega, rfl, Below.refl _ _⟩
                case round =>
                  obtain ⟨i, best, hi, rfl, rfl, hb0, hb1, hbf, hbw⟩ := hrel
                  have Hb0 := hid hb0
                  have Hbf := hid hbf
                  have Hbw := hid hbw
                  clear hb0 hbf hbw
                  have Htr3 : Hid (TrSt w w5 wr AT UP n (fun x => (psF bs x : Int)) u) := Htr2.out.later Hbw.out
                  by_cases hiR : i < R
                  · have hil : i < (predsOf bs 0 q).length := by rw [← HR.out]; exact hiR
                    obtain ⟨p', hp', hpn', hdr⟩ := ahdF_get hil
                    rw [Hbn.out] at hpn'
                    obtain ⟨ib, ioff, rfl, c0⟩ := int_at (Hrow.out.later rInt_mono Hbw.out) hil
                    rw [hp'] at c0
                    have c1 := Htr3.out.atU hpn'
                    obtain ⟨x, hx⟩ : ∃ x, u p' = x := ⟨_, rfl⟩
                    rw [hx] at c1
                    have zi : ib < wr.heap.size := cell_lt c0
                    have zU : UP < wr.heap.size := cell_lt c1
                    have Hst : Hid (bestF (psF bs) u (oneF (psF bs) u best p') ((ahdF bs q).drop (i + 1)) = bestF (psF bs) u (-1) (ahdF bs q)) := by
                      have h := Hbf.out
                      rw [hdr] at h
                      exact h
                    have Hx := hid hx
                    clear hx hdr hp' hil
                    by_cases hx0 : x < 0
                    · have q1 : decide (x < 0) = true := decide_eq_true hx0
                      have Hone : Hid (oneF (psF bs) u best p' = best) := by show _ = _; unfold oneF; rw [Hx.out, if_pos hx0]
                      go_wp2_with fail
                      go_roundw
                      case rel => exact ⟨i + 1, best, by omega, rfl, by go_num, Hb0.out, hb1, by rw [← Hst.out, Hone.out], Hbw.out⟩
                      case measure => simp [intOf]; omega
                    · have q1 : decide (x < 0) = false := decide_eq_false hx0
                      by_cases hbe : best < 0
                      · have q2 : decide (best < 0) = true := decide_eq_true hbe
                        have Hone : Hid (oneF (psF bs) u best p' = (p' : Int)) := by show _ = _; unfold oneF; rw [Hx.out, if_neg hx0, if_pos hbe]
                        go_wp2_with fail
                        go_roundw
                        case rel => exact ⟨i + 1, p', by omega, rfl, by go_num, fun _ => by rw [Int.toNat_natCast, Hx.out]; omega, by omega, by rw [← Hst.out, Hone.out], Hbw.out⟩
                        case measure => simp [intOf]; omega
                      · have q2 : decide (best < 0) = false := decide_eq_false hbe
                        obtain ⟨c, rfl⟩ := Int.eq_ofNat_of_zero_le (by omega : 0 ≤ best)
                        have hdt : DTree n (psF bs) u := Hps.out.d.tree
                        have hcp : 0 ≤ u c := by have h := Hb0.out (by omega); rw [Int.toNat_natCast] at h; exact h
                        have Hone : Hid (oneF (psF bs) u (c : Int) p' = ((mtF (psF bs) u c p' : Nat) : Int)) := by show _ = _; unfold oneF; rw [Hx.out, if_neg hx0, if_neg hbe, Int.toNat_natCast]
                        have Hmt : Hid (0 ≤ u (mtF (psF bs) u c p')) := by
                          obtain ⟨m1, -, -⟩ := meetF_spec hdt _ c p' hcp (by rw [Hx.out]; omega) (Nat.lt_succ_self _)
                          exact (m1.pr hdt hcp).1
                        have hmeet := meet_any (S := fun b => b = UP) (S' := fun b => b = AT) (some ⟨UP, 0, none⟩) (some ⟨AT, 0, none⟩) n n n ((List.range n).map u) ((List.range n).map fun x => (psF bs x : Int)) (psF bs) u c p' wr
                          (rowV_sl Htr3.out.rowU (fun y hy => by
                            unfold I64
                            have h1 := Hps.out.low y
                            dsimp only at h1
                            rcases Int.lt_or_le (u y) 0 with h2 | h2
                            · omega
                            · have h3 := hdt.lt _ (hdt.next y h2)
                              omega) hn)
                          (rowV_sl Htr3.out.rowA (fun y hy => by unfold I64; have := psF_le Hto.out y; have := Hbn.out; omega) hn)
                          (by simp) (by simp) hn (fun y hy => rowV_getD hy) (fun y hy _ => rowV_getD hy) hdt hcp (by rw [Hx.out]; omega)
                        have Hmeet := hid hmeet
                        clear hmeet hdt hcp hbe
                        go_wp2_with (first
                          | (go_at_call 54; refine (Hmeet.out).mono ?_; rintro e w7 ⟨rfl, hb7⟩
                             have Hb7 := hid hb7
                             clear hb7))
                        go_roundw
                        case rel => exact ⟨i + 1, _, by omega, rfl, by go_num, fun _ => by rw [Int.toNat_natCast]; exact Hmt.out, by omega, by rw [← Hst.out, Hone.out], Hbw.out.trans (Hb7.out.mono Hbw.out.size)⟩
                        case measure => simp [intOf]; omega
                  · have hiR' : i = R := by omega
                    have Hbest : Hid (best = bestF (psF bs) u (-1) (ahdF bs q)) := by
                      have h := Hbf.out
                      rw [hiR', HR.out, ← ahdF_len, List.drop_length] at h
                      exact h
                    have Hnx : Hid (PSt n (ordN bs) (psF bs) (ahdF bs) (fpF bs) up (j + 1 + 1) (stepF (psF bs) (ahdF bs) (u, m) q)) := by
                      have h := Hps.out.next Ho'.out (by omega) hjN
                      rw [← Hq.out] at h
                      exact h
                    have Hpn : Hid (passF (psF bs) (ahdF bs) ((ordN bs).drop (j + 1 + 1)) (stepF (psF bs) (ahdF bs) (u, m) q) = passF (psF bs) (ahdF bs) (ordN bs).tail (up, false)) := by
                      have h := Hpf.out
                      rw [List.drop_eq_getElem_cons hjN, ← Hq.out] at h
                      exact h
                    have c1 := Htr3.out.atU hqn
                    have f1 := Htr3.out.fzU q
                    have zU : UP < wr.heap.size := cell_lt c1
                    obtain ⟨x, hx⟩ : ∃ x, u q = x := ⟨_, rfl⟩
                    rw [hx] at c1
                    by_cases hxb : x = best
                    · have q1 : (decide (x < best) || decide (best < x)) = false := ne_no hxb
                      have Hstep : Hid (stepF (psF bs) (ahdF bs) (u, m) q = (u, m)) := by
                        show _ = _
                        unfold stepF
                        dsimp only
                        rw [if_neg (by rw [hx, ← Hbest.out]; exact fun h => h hxb)]
                      clear hxb hx
                      go_wp2_with fail
                      go_roundw
                      case rel => exact ⟨j + 1, m, u, by omega, rfl, by go_num, Htr3.out, by rw [← Hstep.out]; exact Hnx.out, by rw [← Hstep.out]; exact Hpn.out⟩
                      case measure => simp [intOf]; omega
                    · have q1 : (decide (x < best) || decide (best < x)) = true := ne_yes hxb
                      have Hstep : Hid (stepF (psF bs) (ahdF bs) (u, m) q = (updF u q best, true)) := by
                        show _ = _
                        unfold stepF
                        dsimp only
                        rw [if_pos (by rw [hx, ← Hbest.out]; exact hxb), ← Hbest.out]
                      clear hxb hx
                      go_wp2_with fail
                      go_roundw
                      case rel => exact ⟨j + 1, true, updF u q best, by omega, rfl, by go_num, Htr3.out.setU q best, by rw [← Hstep.out]; exact Hnx.out, by rw [← Hstep.out]; exact Hpn.out⟩
                      case measure => simp [intOf]; omega
              · have hjT' : j = T := by omega
                subst hjT'
                have Hnx : Hid (OutS n bs m u ∧ 2 * muF n (psF bs) u + moreN (.bool m) < 2 * muF n (psF bs) up + 1) := by
                  refine OutS.next Ho'.out Hos.out ?_ ?_
                  · rw [HT.out.1]; exact Hps.out
                  · have h := Hpf.out
                    rw [List.drop_of_length_le (by rw [HT.out.1]; exact Nat.le_refl _)] at h
                    exact h
                go_wp2_with fail
                go_roundw
                case rel => exact ⟨m, u, rfl, Htr2.out, Hnx.out.1⟩
                case measure =>
                  rw [Htr.out.upW, Htr2.out.upW]
                  exact Hnx.out.2

end Go.Proofs.YtnkogppgacappaaDoor
