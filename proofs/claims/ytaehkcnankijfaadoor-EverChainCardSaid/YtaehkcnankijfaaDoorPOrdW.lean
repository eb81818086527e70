/- calls.rings. calls.Order's test: may a function go next? (Its closures, and slices.ContainsFunc of ints with one of them.) -/
import Derived.Test.YtaehkcnankijfaaDoorPReachW
import Derived.BigQuiet
import Derived.Deep.QuietTactic
namespace Go.Proofs.YtaehkcnankijfaaDoor
open Go.RowKit

/-- A world in which, of what was there, only one row is turned. -/
structure RowSt (w0 W : World) (XB : Nat) (e : TypeId) (cs : List Value) : Prop where
  size : w0.heap.size ≤ W.heap.size
  keep : ∀ b, b < w0.heap.size → b ≠ XB → W.heap[b]? = w0.heap[b]?
  env : W.os = w0.os ∧ W.tape = w0.tape ∧ W.output = w0.output
  row : W.heap[XB]? = some (.cells cs.toArray e (0, 0))
section
variable {w0 W W' : World} {XB : Nat} {e : TypeId} {cs : List Value}
theorem RowSt.cellOf (h : RowSt w0 W XB e cs) {b o : Nat} {u : Value} (hc : w0.cell? ⟨b, o, none⟩ = some u) (h2 : b ≠ XB) : W.cell? ⟨b, o, none⟩ = some u := by
  rw [World.cell?_of_block (w := w0) (a := ⟨b, o, none⟩) (h.keep b (cell_lt hc) h2)]; exact hc
theorem RowSt.at (h : RowSt w0 W XB e cs) {i : Nat} {u : Value} (hi : cs[i]? = some u) : W.cell? ⟨XB, i, none⟩ = some u := by
  rw [cell_row h.row, List.getElem?_toArray]; exact hi
theorem RowSt.fz (h : RowSt w0 W XB e cs) (i : Nat) : W.frozen? ⟨XB, i, none⟩ = false := by simp [World.frozen?, h.row]
theorem RowSt.lt (h : RowSt w0 W XB e cs) : XB < W.heap.size := (Array.getElem?_eq_some_iff.1 h.row).1
theorem RowSt.set (h : RowSt w0 W XB e cs) (i : Nat) (u : Value) : RowSt w0 (W.setCell ⟨XB, i, none⟩ u) XB e (cs.set i u) :=
  ⟨by simpa [World.setCell] using h.size, fun b h1 h2 => by rw [Below.heap_setCell _ _ _ _ (by dsimp only; exact h2)]; exact h.keep b h1 h2, h.env, by rw [heap_set_row h.row]; simp⟩
theorem RowSt.later (h : RowSt w0 W XB e cs) (hb : Below W.heap.size W W') : RowSt w0 W' XB e cs :=
  ⟨Nat.le_trans h.size hb.size, fun b h1 h2 => (hb.block b (Nat.lt_of_lt_of_le h1 h.size)).trans (h.keep b h1 h2), ⟨hb.os.trans h.env.1, hb.tape.trans h.env.2.1, hb.output.trans h.env.2.2⟩, (hb.block XB h.lt).trans h.row⟩
theorem RowSt.below {w : World} (h : RowSt w0 W XB e cs) (hb : Below w.heap.size w w0) (h1 : w.heap.size ≤ XB) : Below w.heap.size w W := by
  have hz := hb.size
  exact ⟨h.env.1.trans hb.os, h.env.2.1.trans hb.tape, h.env.2.2.trans hb.output, Nat.le_trans hz h.size, fun k hk => (h.keep k (by omega) (by omega)).trans (hb.block k hk)⟩
theorem RowSt.sl {α : Type} {r : Rp α} (hr : r.Mono) {S : Nat → Prop} {sz : Nat} {v : Value} {l : List α} (h : RowSt w0 W XB e cs) (hS : ∀ b, S b → b ≠ XB) (hs : SlAt S w0 sz r v l) : SlAt S W sz r v l :=
  hs.mono hr (fun _ h => h) (stays_at fun b hb hl => h.keep b hl (hS b hb))
end
theorem row_ints {W : World} {base XB n : Nat} {L : List Int} (hL : L.length = n) (hn : n ≤ 1048576) (h : W.heap[XB]? = some (.cells (L.map (Value.int .i64)).toArray 3 (0, 0))) (hb : base ≤ XB) (hi : ∀ x ∈ L, I64 x) : OwnInts base W (.slice (some ⟨XB, 0, none⟩) n n) L := by
  subst hL
  exact ⟨⟨by simp, .inr ⟨XB, L.length, _, rfl, hb, h, Nat.le_refl _, by unfold maxLen; omega, by simp, by rw [Nat.mul_one, show L.length = (L.map (Value.int .i64)).length by simp]; exact List.take_length⟩⟩, hi⟩

/-- The last one found from above. -/
def topF (p : Nat → Bool) (n : Nat) : Nat → Nat
  | 0 => 0
  | d + 1 => if p (n - 1 - d) = true then n - 1 - d else topF p n d
theorem topF_spec {p : Nat → Bool} {n : Nat} : ∀ (d : Nat), d ≤ n → (∃ z, n - d ≤ z ∧ z < n ∧ p z = true) → p (topF p n d) = true ∧ topF p n d < n ∧ ∀ z, n - d ≤ z → z < topF p n d → p z = false
  | 0, _, ⟨z, h1, h2, _⟩ => by omega
  | d + 1, hd, ⟨z, h1, h2, h3⟩ => by
    rw [topF]
    cases hp : p (n - 1 - d) with
    | true =>
      rw [if_pos rfl]
      exact ⟨hp, by omega, fun z hz1 hz2 => by omega⟩
    | false =>
      rw [if_neg (by simp)]
      have hz : z ≠ n - 1 - d := fun e => by rw [e, hp] at h3; cases h3
      obtain ⟨i1, i2, i3⟩ := topF_spec (p := p) (n := n) d (by omega) ⟨z, by omega, h2, h3⟩
      refine ⟨i1, i2, fun y hy1 hy2 => ?_⟩
      by_cases e : y = n - 1 - d
      · rw [e]; exact hp
      · exact i3 y (by omega) hy2
theorem topF_ring {a : Nat → Nat → Bool} {R : Nat → Nat → Bool} {n k : Nat} (hR : ∀ k x, R k x = true ↔ Reach a k x) (hk : k < n) : topF (fun x => R k x && R x k) n n = ringF R n k := by
  have hkk : R k k = true := (hR k k).2 (.refl _)
  obtain ⟨h1, h2, h3⟩ := topF_spec (p := fun x => R k x && R x k) (n := n) n (Nat.le_refl _) ⟨k, by omega, hk, by simp [hkk]⟩
  exact (ring_at h2 h1 (fun j hj => h3 j (by omega) hj)).symm
/-- Who reaches whom, as the program's rows tell it. -/
def rOf (G : List (List Int)) (n k x : Nat) : Bool := (reachF G n k).getD x true
theorem rOf_via {a : Nat → Nat → Bool} {n : Nat} {G : List (List Int)} (hG : GraphOk a n G) (ha : ∀ k x, a k x = true → x < n) {k x : Nat} (hk : k < n) (hx : x < n) : rOf G n k x = viaF a n k x := by
  rw [Bool.eq_iff_iff]
  unfold rOf
  rw [reachF_iff hG ha hk hx, viaF_reach ha]
theorem topF_congr {p q : Nat → Bool} {n : Nat} (h : ∀ z, z < n → p z = q z) : ∀ d, d ≤ n → topF p n d = topF q n d
  | 0, _ => rfl
  | d + 1, hd => by
    rw [topF, topF, h _ (by omega), topF_congr h d (by omega)]
def ringsF (a : Nat → Nat → Bool) (n : Nat) : List Int := (List.range n).map fun k => (ringF (viaF a n) n k : Int)

def ringRow (a : Nat → Nat → Bool) (n k : Nat) : List Int := (List.range n).map fun i => if i < k then (ringF (viaF a n) n i : Int) else 0
theorem ringRow_len (a : Nat → Nat → Bool) (n k : Nat) : (ringRow a n k).length = n := by simp [ringRow]
theorem ringRow_at (a : Nat → Nat → Bool) (n k : Nat) {i : Nat} (h : i < n) : (ringRow a n k)[i]? = some (if i < k then (ringF (viaF a n) n i : Int) else 0) := by
  unfold ringRow
  rw [List.getElem?_map, List.getElem?_range h]; rfl
theorem ringRow_zero (a : Nat → Nat → Bool) {n k : Nat} (h : k < n) : (ringRow a n k).set k ((0 : Nat) : Int) = ringRow a n k := by
  apply List.ext_getElem?
  intro i
  rw [List.getElem?_set, ringRow_len]
  by_cases e : k = i
  · subst e
    rw [if_pos rfl, if_pos h, ringRow_at a n k h, if_neg (Nat.lt_irrefl _)]; rfl
  · rw [if_neg e]
theorem ringRow_succ (a : Nat → Nat → Bool) {n k : Nat} (h : k < n) : (ringRow a n k).set k (ringF (viaF a n) n k : Int) = ringRow a n (k + 1) := by
  apply List.ext_getElem?
  intro i
  rw [List.getElem?_set, ringRow_len]
  by_cases e : k = i
  · subst e
    rw [if_pos rfl, if_pos h, ringRow_at a n _ h, if_pos (Nat.lt_succ_self _)]
  · rw [if_neg e]
    by_cases hi : i < n
    · rw [ringRow_at a n _ hi, ringRow_at a n _ hi]
      by_cases h1 : i < k
      · rw [if_pos h1, if_pos (by omega)]
      · rw [if_neg h1, if_neg (by omega)]
    · rw [List.getElem?_eq_none (by rw [ringRow_len]; omega), List.getElem?_eq_none (by rw [ringRow_len]; omega)]
theorem ringRow_all (a : Nat → Nat → Bool) (n : Nat) : ringRow a n n = ringsF a n := by
  unfold ringRow ringsF
  apply List.map_congr_left
  intro i hi
  rw [if_pos (List.mem_range.1 hi)]
theorem ringRow_first (a : Nat → Nat → Bool) (n : Nat) : ringRow a n 0 = List.replicate n 0 := by
  unfold ringRow
  apply List.ext_getElem?
  intro i
  rw [List.getElem?_replicate]
  by_cases h : i < n
  · rw [List.getElem?_map, List.getElem?_range h, if_pos h]; rfl
  · rw [List.getElem?_eq_none (by simp; omega), if_neg h]
theorem ringF_lt {R : Nat → Nat → Bool} {n k : Nat} : ringF R n k ≤ n := by
  unfold ringF
  cases h : (List.range n).find? fun x => R k x && R x k with
  | none => exact Nat.zero_le _
  | some z => exact Nat.le_of_lt (List.mem_range.1 (List.mem_of_find?_eq_some h))
theorem rings_wf {a : Nat → Nat → Bool} {n : Nat} (hn : n ≤ 1048576) : ∀ x ∈ ringsF a n, I64 x := by
  intro x hx
  obtain ⟨k, -, rfl⟩ := List.mem_map.1 hx
  have := ringF_lt (R := viaF a n) (n := n) (k := k)
  unfold I64
  omega

/-- The rows gathered so far. -/
structure AllSt (w W : World) (AB n : Nat) (G : List (List Int)) (j : Nat) (bs : List Nat) : Prop where
  len : bs.length = j
  old : Below w.heap.size w W
  row : W.heap[AB]? = some (.cells ((bs.map fun o => Value.slice (some ⟨o, 0, none⟩) n n) ++ List.replicate (n - j) (Value.slice none 0 0)).toArray 39 (0, 0))
  tab : ∀ (i : Nat) (o : Nat), bs[i]? = some o → AB < o ∧ W.heap[o]? = some (.cells ((reachF G n i).map Value.bool).toArray 4 (0, 0))
theorem AllSt.push {w W W' : World} {AB n : Nat} {G : List (List Int)} {j : Nat} {bs : List Nat} {OB : Nat} (h : AllSt w W AB n G j bs) (hj : j < n) (hAB : w.heap.size ≤ AB) (hb : Below W.heap.size W W') (hO : W.heap.size ≤ OB) (hr : W'.heap[OB]? = some (.cells ((reachF G n j).map Value.bool).toArray 4 (0, 0))) :
    AllSt w (W'.setCell ⟨AB, j, none⟩ (.slice (some ⟨OB, 0, none⟩) n n)) AB n G (j + 1) (bs ++ [OB]) := by
  have hAl : AB < W.heap.size := (Array.getElem?_eq_some_iff.1 h.row).1
  have h2 : Below w.heap.size w W' := h.old.trans (hb.mono h.old.size)
  refine ⟨by simp [h.len], h2.setCell (by dsimp only; exact hAB) _, ?_, fun i o hi => ?_⟩
  · rw [heap_set_row ((hb.block AB hAl).trans h.row)]
    congr 2
    simp only [List.setIfInBounds_toArray]
    congr 1
    have hlen := h.len
    rw [List.set_append_right _ _ (by simp [hlen]), List.map_append, List.append_assoc]
    congr 1
    simp only [List.length_map, hlen, Nat.sub_self]
    obtain ⟨m, hm⟩ : ∃ m, n - j = m + 1 := ⟨n - j - 1, by omega⟩
    rw [hm, show n - (j + 1) = m by omega, List.replicate_succ]
    rfl
  · rw [List.getElem?_append] at hi
    by_cases hl : i < bs.length
    · rw [if_pos hl] at hi
      obtain ⟨h3, h4⟩ := h.tab i o hi
      have hol : o < W.heap.size := (Array.getElem?_eq_some_iff.1 h4).1
      exact ⟨h3, by rw [Below.heap_setCell _ _ _ _ (by dsimp only; omega)]; exact (hb.block o hol).trans h4⟩
    · rw [if_neg hl] at hi
      have hij : i - bs.length = 0 := by
        have := (List.getElem?_eq_some_iff.1 hi).1
        simp at this
        omega
      rw [hij] at hi
      have ho : OB = o := by simpa using hi
      subst ho
      have : i = j := by have := h.len; omega
      subst this
      exact ⟨by omega, by rw [Below.heap_setCell _ _ _ _ (by dsimp only; omega)]; exact hr⟩
theorem infoBools : (Tryd.prog.info? 39).map (fun i => (i.zero, i.size, i.bytes)) = some (some (.slice none 0 0), 1, 24) := by kernel_rfl

set_option maxRecDepth 100000 in
set_option maxHeartbeats 4000000 in
theorem rings_any {S : Nat → Prop} (ga : Option Addr) (gc n : Nat) (G : List (List Int)) (a : Nat → Nat → Bool) (w : World) (hG : GraphOk a n G) (ha : ∀ k x, a k x = true → x < n) (hg : SlAt S w 1 rRow (.slice ga n gc) G) (hS : ∀ b, S b → b < w.heap.size) (hn : n ≤ 1048576) (hl : ∀ l ∈ G, l.length ≤ 1048576) :
    Calls Tryd.prog 110 #[.slice ga n gc] w fun e w' => ∃ v, e = .returned v ∧ OwnInts w.heap.size w' v (ringsF a n) ∧ Below w.heap.size w w' := by
  have Hg := hid hg
  have HS := hid hS
  have HG := hid hG
  have Ha := hid ha
  have Hl := hid hl
  clear hg hS hG ha hl
  have hmk := run_make_row' (P := Tryd.prog) 207 39 (.slice none 0 0) 24 Tryd.underlying207 infoBools rfl .i64 .i64 n (by omega) (by omega)
  have hmi := run_make_row' (P := Tryd.prog) 26 3 (.int .i64 0) 8 Tryd.underlying26 infoInt' rfl .i64 .i64 n (by omega) (by omega)
  have Hmi := hid hmi
  clear hmi
  go_enter Tryd.func110, Tryd.ntmps110
  go_wp2_with fail
  obtain ⟨W, hW⟩ : ∃ W, W = w.alloc (.cells (madeCells #[.slice none 0 0] n) 39) := ⟨_, rfl⟩
  have hbW : Below w.heap.size w W := by rw [hW]; (repeat (first | exact Below.refl _ _ | refine Below.alloc ?_ (by first | omega | (simp <;> omega)) _ | refine Below.setCell ?_ (by first | omega | (simp <;> omega)) _ | refine below_drewN ?_ _ | refine Below.drew ?_))
  have h0 : AllSt w W w.heap.size n G 0 [] := ⟨rfl, hbW, by rw [hW, heap_alloc_new, madeCells_rep]; rfl, fun i o h => by simp at h⟩
  obtain ⟨AB, hAB⟩ : ∃ AB, AB = w.heap.size := ⟨_, rfl⟩
  rw [← hW]
  have H0 := hid h0
  rw [← hAB] at H0 ⊢
  have HAB := hid hAB
  clear hW h0 hbW hmk hAB
  go_loopw [13] (fun s13 wr => ∃ (j : Nat) (bs : List Nat), j ≤ n ∧ s13 = .int .i64 (j : Int) ∧ AllSt w wr AB n G j bs) (fun s13 _ => n - (intOf s13).toNat)
  case atStart => exact ⟨0, [], Nat.zero_le _, rfl, H0.out⟩
  case round =>
    obtain ⟨j, bs, hj, rfl, hst⟩ := hrel
    have Hst := hid hst
    by_cases hjn : j < n
    · have Hcall := hid (reach_any (S := S) ga gc n G a j wr HG.out (Hg.out.later rRow_mono hst.old) (fun b hb => Nat.lt_of_lt_of_le (HS.out b hb) hst.old.size) hn Hl.out hjn)
      have a0 : wr.cell? ⟨AB, j, none⟩ = some (.slice none 0 0) := by
        rw [cell_row hst.row, List.getElem?_toArray, List.getElem?_append_right (by simp [hst.len]), List.getElem?_replicate, if_pos (by simp [hst.len]; omega)]
      have f0 : wr.frozen? ⟨AB, j, none⟩ = false := by simp [World.frozen?, hst.row]
      have zA : AB < wr.heap.size := cell_lt a0
      clear hst H0
      go_wp2_with (go_at_call 146; (with_reducible refine Hcall.out.mono ?_); rintro e w2 ⟨OB, rfl, hO, hr, hb2⟩; have a1 := cell_later' a0 hb2; have f1 := (hb2.frozen (p := ⟨AB, j, none⟩) zA).trans f0; have Hp := hid (Hst.out.push hjn (by rw [HAB.out]; exact Nat.le_refl _) hb2 hO hr); clear hr hb2)
      go_roundw
      case rel => exact ⟨j + 1, _, by omega, by go_num, Hp.out⟩
      case measure => simp [intOf]; omega
    · have hjn' : j = n := by omega
      have hfin : AllSt w wr AB n G n bs := by
        have h := hst
        rw [hjn'] at h
        exact h
      have hmi := Hmi.out
      rw [hjn']
      clear hst H0 hjn Hst hjn' hj
      go_wp2_with fail
      clear hmi
      obtain ⟨V, hV⟩ : ∃ V, V = wr.alloc (.cells (madeCells #[.int .i64 0] n) 3) := ⟨_, rfl⟩
      obtain ⟨XB, hXB⟩ : ∃ XB, XB = wr.heap.size := ⟨_, rfl⟩
      have hbV : Below wr.heap.size wr V := by rw [hV]; (repeat (first | exact Below.refl _ _ | refine Below.alloc ?_ (by first | omega | (simp <;> omega)) _ | refine Below.setCell ?_ (by first | omega | (simp <;> omega)) _ | refine below_drewN ?_ _ | refine Below.drew ?_))
      have hst0 : RowSt V V XB 3 ((ringRow a n 0).map (Value.int .i64)) := ⟨Nat.le_refl _, fun _ _ _ => rfl, ⟨rfl, rfl, rfl⟩, by rw [hV, hXB, heap_alloc_new, madeCells_rep, ringRow_first, List.map_replicate]⟩
      have Hst0 := hid hst0
      have hAl : AB < wr.heap.size := (Array.getElem?_eq_some_iff.1 hfin.row).1
      have HT : Hid (∀ i, i < n → ∃ o, V.cell? ⟨AB, i, none⟩ = some (.slice (some ⟨o, 0, none⟩) n n) ∧ o ≠ XB ∧ ∀ x, x < n → V.cell? ⟨o, x, none⟩ = some (.bool (rOf G n i x))) := by
        intro i hi
        have hlen := hfin.len
        obtain ⟨o, ho⟩ : ∃ o, bs[i]? = some o := ⟨_, List.getElem?_eq_getElem (by omega)⟩
        obtain ⟨h1, h2⟩ := hfin.tab i o ho
        have hol : o < wr.heap.size := (Array.getElem?_eq_some_iff.1 h2).1
        refine ⟨o, ?_, by omega, fun x hx => ?_⟩
        · rw [cell_row ((hbV.block AB hAl).trans hfin.row), List.getElem?_toArray, List.getElem?_append_left (by simp [hlen]; omega), List.getElem?_map, ho]; rfl
        · rw [cell_row ((hbV.block o hol).trans h2), List.getElem?_toArray, List.getElem?_map]
          unfold rOf
          rw [List.getD_eq_getElem?_getD, List.getElem?_eq_getElem (by rw [reachF_len HG.out hi]; exact hx)]; rfl
      have hAX : AB ≠ XB := by omega
      have HbV : Hid (Below w.heap.size w V) := hfin.old.trans (hbV.mono hfin.old.size)
      have hwX : w.heap.size ≤ XB := by have := hfin.old.size; omega
      have hXV : XB < V.heap.size := hst0.lt
      rw [← hV, ← hXB]
      clear hV hXB hbV hst0 hAl hfin
      go_loopw [28] (fun s28 wq => ∃ k : Nat, k ≤ n ∧ s28 = .int .i64 (k : Int) ∧ RowSt V wq XB 3 ((ringRow a n k).map (Value.int .i64))) (fun s28 _ => n - (intOf s28).toNat)
      case atStart => exact ⟨0, Nat.zero_le _, rfl, Hst0.out⟩
      case round =>
        obtain ⟨k, hk, rfl, hsk⟩ := hrel
        have Hsk := hid hsk
        by_cases hkn : k < n
        · obtain ⟨wo, hwo⟩ : ∃ wo : World, wo = wr := ⟨_, rfl⟩
          have Hd0 : Hid (RowSt V wr XB 3 (((ringRow a n k).set k ((topF (fun z => rOf G n k z && rOf G n z k) n 0 : Nat) : Int)).map (Value.int .i64))) := by
            show RowSt _ _ _ _ _
            rw [show topF (fun z => rOf G n k z && rOf G n z k) n 0 = 0 from rfl, ringRow_zero a hkn]
            exact hsk
          clear hsk Hst0
          go_wp2_with fail
          go_loopw [7] (fun s7 wi => ∃ d : Nat, d ≤ n ∧ s7 = .int .i64 ((n : Int) - 1 - (d : Int)) ∧ RowSt V wi XB 3 (((ringRow a n k).set k ((topF (fun z => rOf G n k z && rOf G n z k) n d : Nat) : Int)).map (Value.int .i64))) (fun s7 _ => (intOf s7 + 1).toNat)
          case atStart => exact ⟨0, Nat.zero_le _, by go_num, Hd0.out⟩
          case round =>
            obtain ⟨d, hd, rfl, hsd⟩ := hrel
            have Hsd := hid hsd
            by_cases hdn : d < n
            · obtain ⟨x, hx⟩ : ∃ x, x = n - 1 - d := ⟨_, rfl⟩
              have hxi : (n : Int) - 1 - (d : Int) = (x : Int) := by omega
              have hxn : x < n := by omega
              obtain ⟨o1, a1, o1X, t1⟩ := HT.out k hkn
              obtain ⟨o2, a2, o2X, t2⟩ := HT.out x hxn
              have a1 := hsd.cellOf a1 hAX
              have a2 := hsd.cellOf a2 hAX
              have b1 := hsd.cellOf (t1 x hxn) o1X
              have b2 := hsd.cellOf (t2 k hkn) o2X
              have f0 := hsd.fz k
              have x0 : wr.cell? ⟨XB, k, none⟩ = some (.int .i64 (topF (fun z => rOf G n k z && rOf G n z k) n d : Nat)) := hsd.at (by rw [List.getElem?_map, List.getElem?_set, if_pos rfl, if_pos (by rw [ringRow_len]; exact hkn)]; rfl)
              have hset := hsd.set k (.int .i64 (x : Int))
              rw [← List.map_set, List.set_set] at hset
              have Htop : Hid (topF (fun z => rOf G n k z && rOf G n z k) n (d + 1) = if (rOf G n k x && rOf G n x k) = true then x else topF (fun z => rOf G n k z && rOf G n z k) n d) := by show _ = _; rw [topF, ← hx]
              have Hset := hid hset
              rw [hxi]
              obtain ⟨cur, hcur⟩ : ∃ cur, cur = topF (fun z => rOf G n k z && rOf G n z k) n d := ⟨_, rfl⟩
              rw [← hcur] at x0 Hsd Htop
              have Hx : Hid (x = n - 1 - d) := hx
              clear hsd hset t1 t2 hx hcur hxi Hd0
              cases p1 : rOf G n k x with
              | false =>
                rw [p1] at b1 Htop
                have Ht : Hid (topF (fun z => rOf G n k z && rOf G n z k) n (d + 1) = cur) := by show _ = _; rw [Htop.out]; rfl
                clear p1
                go_wp2_with fail
                go_roundw
                case rel => exact ⟨d + 1, by omega, by have := Hx.out; go_num, by rw [Ht.out]; exact Hsd.out⟩
                case measure => have := Hx.out; first | (simp [intOf]; done) | (simp [intOf]; omega)
              | true =>
                cases p2 : rOf G n x k with
                | false =>
                  rw [p1] at b1
                  rw [p2] at b2
                  rw [p1, p2] at Htop
                  have Ht : Hid (topF (fun z => rOf G n k z && rOf G n z k) n (d + 1) = cur) := by show _ = _; rw [Htop.out]; rfl
                  clear p1 p2
                  go_wp2_with fail
                  go_roundw
                  case rel => exact ⟨d + 1, by omega, by have := Hx.out; go_num, by rw [Ht.out]; exact Hsd.out⟩
                  case measure => have := Hx.out; first | (simp [intOf]; done) | (simp [intOf]; omega)
                | true =>
                  rw [p1] at b1
                  rw [p2] at b2
                  rw [p1, p2] at Htop
                  have Ht : Hid (topF (fun z => rOf G n k z && rOf G n z k) n (d + 1) = x) := by show _ = _; rw [Htop.out]; rfl
                  clear p1 p2
                  go_wp2_with fail
                  go_roundw
                  case rel => exact ⟨d + 1, by omega, by have := Hx.out; go_num, by rw [Ht.out]; exact Hset.out⟩
                  case measure => have := Hx.out; first | (simp [intOf]; done) | (simp [intOf]; omega)
            · have hdn' : d = n := by omega
              have Hdn := hid hdn'
              have Hnx : Hid (RowSt V wr XB 3 ((ringRow a n (k + 1)).map (Value.int .i64))) := by
                have h := hsd
                rw [hdn', topF_congr (q := fun z => viaF a n k z && viaF a n z k) (fun z hz => by rw [rOf_via HG.out Ha.out hkn hz, rOf_via HG.out Ha.out hz hkn]) n (Nat.le_refl _), topF_ring (fun k x => viaF_reach Ha.out) hkn, ringRow_succ a hkn] at h
                exact h
              clear hsd Hd0
              rw [hdn']
              clear hdn'
              go_wp2_with fail
              go_roundw
              case rel => exact ⟨k + 1, by omega, by go_num, Hnx.out⟩
              case measure => simp [intOf]; omega
        · have hkn' : k = n := by omega
          have Hfin : Hid (RowSt V wr XB 3 ((ringsF a n).map (Value.int .i64))) := by
            have h := hsk
            rw [hkn', ringRow_all] at h
            exact h
          rw [hkn']
          clear hsk Hst0 Hsk hkn hkn' hk
          go_wp2_with fail
          go_ret
          exact ⟨_, rfl, row_ints (by simp [ringsF]) hn Hfin.out.row hwX (rings_wf hn), Hfin.out.below HbV.out hwX⟩

end Go.Proofs.YtaehkcnankijfaaDoor

namespace Go.Proofs.YtaehkcnankijfaaDoor
open Go.RowKit

/-- What the closures of calls.Order see. -/
structure OrdEnv (W : World) (TC RC TB : Nat) (s : List Bool) (ra : Option Addr) (rc : Nat) (rs : List Int) : Prop where
  cT : W.cell? ⟨TC, 0, none⟩ = some (.slice (some ⟨TB, 0, none⟩) s.length s.length)
  row : W.heap[TB]? = some (.cells (s.map Value.bool).toArray 4 (0, 0))
  cR : W.cell? ⟨RC, 0, none⟩ = some (.slice ra s.length rc)
  sl : SlAt (fun _ => True) W 1 rInt (.slice ra s.length rc) rs
  len : rs.length = s.length
section
variable {W W' : World} {TC RC TB : Nat} {s : List Bool} {ra : Option Addr} {rc : Nat} {rs : List Int}
theorem OrdEnv.later (h : OrdEnv W TC RC TB s ra rc rs) (hb : Below W.heap.size W W') : OrdEnv W' TC RC TB s ra rc rs :=
  ⟨cell_later' h.cT hb, (hb.block TB (Array.getElem?_eq_some_iff.1 h.row).1).trans h.row, cell_later' h.cR hb, h.sl.later rInt_mono hb, h.len⟩
theorem OrdEnv.told (h : OrdEnv W TC RC TB s ra rc rs) {i : Nat} (hi : i < s.length) : W.cell? ⟨TB, i, none⟩ = some (.bool (s.getD i true)) := by
  rw [cell_row h.row, List.getElem?_toArray, List.getElem?_map, List.getD_eq_getElem?_getD, List.getElem?_eq_getElem hi]; rfl
theorem OrdEnv.ring (h : OrdEnv W TC RC TB s ra rc rs) {i : Nat} (hi : i < s.length) : ∃ b off, ra = some ⟨b, off, none⟩ ∧ W.cell? ⟨b, off + i, none⟩ = some (.int .i64 (rs.getD i 0)) := by
  obtain ⟨b, off, ha, hc⟩ := int_at9 h.sl (t := i) (by rw [h.len]; exact hi)
  exact ⟨b, off, ha, by rw [hc, List.getD_eq_getElem?_getD, List.getElem?_eq_getElem (by rw [h.len]; exact hi)]; rfl⟩
end
/-- Does it keep another one waiting? -/
def waitF (s : List Bool) (rs : List Int) (k : Nat) (x : Int) : Bool := !(s.getD x.toNat true) && decide (rs.getD x.toNat 0 ≠ rs.getD k 0)

set_option maxRecDepth 100000 in
set_option maxHeartbeats 1000000 in
theorem ordIn_any (TC RC TB KC n : Nat) (s : List Bool) (ra : Option Addr) (rc : Nat) (rs : List Int) (k x : Nat) (W : World) (h : OrdEnv W TC RC TB s ra rc rs) (hn : s.length = n) (_hn2 : n ≤ 1048576) (hk : k < n) (hx : x < n) (hK : W.cell? ⟨KC, 0, none⟩ = some (.int .i64 (k : Int))) :
    Calls Tryd.prog 113 #[.int .i64 (x : Int), .pointer (some ⟨TC, 0, none⟩), .pointer (some ⟨RC, 0, none⟩), .pointer (some ⟨KC, 0, none⟩)] W fun e w' => e = .returned (.bool (waitF s rs k (x : Int))) ∧ Below W.heap.size W w' := by
  obtain ⟨rb, roff, rfl, rx⟩ := h.ring (i := x) (by omega)
  obtain ⟨rb', roff', hae, rk⟩ := h.ring (i := k) (by omega)
  cases hae
  have c0 := h.cT
  have c1 := h.cR
  have c2 := h.told (i := x) (by omega)
  rw [hn] at c0 c1
  have Hw : Hid (waitF s rs k (x : Int) = (!(s.getD x true) && decide (rs.getD x 0 ≠ rs.getD k 0))) := by show _ = _; unfold waitF; rw [Int.toNat_natCast]
  have i0 : (0 : Int) ≤ (x : Int) := by omega
  have i1 : (x : Int) < (n : Int) := by omega
  have i2 : (0 : Int) ≤ (k : Int) := by omega
  have i3 : (k : Int) < (n : Int) := by omega
  obtain ⟨vx, hvx⟩ : ∃ vx, vx = rs.getD x 0 := ⟨_, rfl⟩
  obtain ⟨vk, hvk⟩ : ∃ vk, vk = rs.getD k 0 := ⟨_, rfl⟩
  rw [← hvx] at rx Hw
  rw [← hvk] at rk Hw
  cases hs : s.getD x true with
  | true =>
    rw [hs] at c2 Hw
    clear h hvx hvk hs
    go_enter Tryd.func113, Tryd.ntmps113
    go_wp2_with fail
    go_quiet (fail)
    go_wp2_with fail
    go_ret
    exact ⟨ret_bool (by rw [Hw.out]; rfl), by (repeat (first | exact Below.refl _ _ | refine Below.alloc ?_ (by first | omega | (simp <;> omega)) _ | refine Below.setCell ?_ (by first | omega | (simp <;> omega)) _ | refine below_drewN ?_ _ | refine Below.drew ?_))⟩
  | false =>
    rw [hs] at c2 Hw
    by_cases he : vx = vk
    · have q0 : (decide (vx < vk) || decide (vk < vx)) = false := ne_no he
      have Hr : Hid (waitF s rs k (x : Int) = false) := by show _ = _; rw [Hw.out]; simp [he]
      clear h hvx hvk hs he
      go_enter Tryd.func113, Tryd.ntmps113
      go_wp2_with fail
      go_quiet (fail)
      go_wp2_with fail
      go_ret
      exact ⟨ret_bool (by rw [Hr.out]), by (repeat (first | exact Below.refl _ _ | refine Below.alloc ?_ (by first | omega | (simp <;> omega)) _ | refine Below.setCell ?_ (by first | omega | (simp <;> omega)) _ | refine below_drewN ?_ _ | refine Below.drew ?_))⟩
    · have q0 : (decide (vx < vk) || decide (vk < vx)) = true := ne_yes he
      have Hr : Hid (waitF s rs k (x : Int) = true) := by show _ = _; rw [Hw.out]; simp [he]
      clear h hvx hvk hs he
      go_enter Tryd.func113, Tryd.ntmps113
      go_wp2_with fail
      go_quiet (fail)
      go_wp2_with fail
      go_ret
      exact ⟨ret_bool (by rw [Hr.out]), by (repeat (first | exact Below.refl _ _ | refine Below.alloc ?_ (by first | omega | (simp <;> omega)) _ | refine Below.setCell ?_ (by first | omega | (simp <;> omega)) _ | refine below_drewN ?_ _ | refine Below.drew ?_))⟩

def idxWait (s : List Bool) (rs : List Int) (k : Nat) (l : List Int) : Int := match l.findIdx? (waitF s rs k) with | some j => j | none => -1
set_option maxRecDepth 100000 in
set_option maxHeartbeats 1000000 in
theorem indexWait_any {S : Nat → Prop} (TC RC TB KC n : Nat) (s : List Bool) (ra : Option Addr) (rc : Nat) (rs : List Int) (k : Nat) (ao : Option Addr) (m c : Nat) (l : List Int) (W : World) (h : OrdEnv W TC RC TB s ra rc rs) (hn : s.length = n) (hn2 : n ≤ 1048576) (hk : k < n) (hl : ∀ x ∈ l, 0 ≤ x ∧ x < (n : Int)) (hs : SlAt S W 1 rInt (.slice ao m c) l) (hm : l.length = m) (hm2 : m ≤ 1048576) (hK : W.cell? ⟨KC, 0, none⟩ = some (.int .i64 (k : Int))) :
    Calls Tryd.prog 147 #[.slice ao m c, .func (.func 113) #[] #[.pointer (some ⟨TC, 0, none⟩), .pointer (some ⟨RC, 0, none⟩), .pointer (some ⟨KC, 0, none⟩)]] W fun e w' => e = .returned (.int .i64 (idxWait s rs k l)) ∧ Below W.heap.size W w' := by
  have Hs := hid hs
  have Hm := hid hm
  have Hl := hid hl
  have Hcl : Hid (∀ (V : World) (x : Nat), Below W.heap.size W V → x < n → Calls Tryd.prog 113 #[.int .i64 (x : Int), .pointer (some ⟨TC, 0, none⟩), .pointer (some ⟨RC, 0, none⟩), .pointer (some ⟨KC, 0, none⟩)] V fun e w' => e = .returned (.bool (waitF s rs k (x : Int))) ∧ Below V.heap.size V w') := fun V x hV hx => ordIn_any TC RC TB KC n s ra rc rs k x V (h.later hV) hn hn2 hk hx (cell_later' hK hV)
  clear hs hm hl h hK
  go_enter Tryd.func147, Tryd.ntmps147
  go_wp2_with fail
  go_loopw [8] (fun i wr => ∃ j : Nat, j ≤ m ∧ i = .int .i64 (j : Int) ∧ Below W.heap.size W wr ∧ ∀ j', j' < j → ∀ x, l[j']? = some x → waitF s rs k x = false) (fun i _ => m - (intOf i).toNat)
  case atStart => exact ⟨0, Nat.zero_le _, rfl, Below.refl _ _, fun j hj => by omega⟩
  case round =>
    obtain ⟨j, hj, rfl, hbw, hall⟩ := hrel
    have H := hid hall
    have Hbw := hid hbw
    clear hall
    by_cases hlt : j < m
    · have hlt' : j < l.length := by rw [Hm.out]; exact hlt
      obtain ⟨b, off, rfl, hcell⟩ := int_at (Hs.out.later rInt_mono hbw) hlt'
      obtain ⟨x0, hx0⟩ := Int.eq_ofNat_of_zero_le (Hl.out _ (List.getElem_mem hlt')).1
      have hxn : x0 < n := by have := (Hl.out _ (List.getElem_mem hlt')).2; omega
      rw [hx0] at hcell
      have Hx : Hid (l[j]? = some (x0 : Int)) := by show _ = _; rw [List.getElem?_eq_getElem hlt', hx0]
      have zb : b < wr.heap.size := cell_lt hcell
      have Hc := hid (Hcl.out wr x0 hbw hxn)
      clear hx0 hlt' hbw
      obtain ⟨bv, hbv⟩ : ∃ bv, bv = waitF s rs k (x0 : Int) := ⟨_, rfl⟩
      rw [← hbv] at Hc
      cases bv with
      | true =>
        have Hi : Hid (idxWait s rs k l = j) := by show _ = _; unfold idxWait; rw [idx_some Hx.out hbv.symm H.out]
        clear hbv
        go_wp2_with (go_at_call 113; ((with_reducible refine Hc.out.mono ?_); rintro e w2 ⟨rfl, hb2⟩; have Hb2 := hid hb2; clear hb2))
        go_ret
        exact ⟨ret_int Hi.out.symm, Hbw.out.trans (Hb2.out.mono Hbw.out.size)⟩
      | false =>
        have He := hid hbv.symm
        clear hbv
        go_wp2_with (go_at_call 113; ((with_reducible refine Hc.out.mono ?_); rintro e w2 ⟨rfl, hb2⟩; have Hb2 := hid hb2; clear hb2))
        go_roundw
        case rel => exact ⟨j + 1, by omega, by go_num, Hbw.out.trans (Hb2.out.mono Hbw.out.size), ext_lt H.out (fun y hy => by rw [Hx.out] at hy; cases hy; exact He.out)⟩
        case measure => simp [intOf]; omega
    · have Hi : Hid (idxWait s rs k l = -1) := by
        show _ = _
        unfold idxWait
        rw [idx_none (fun i x hx => H.out i (by have := (List.getElem?_eq_some_iff.1 hx).1; have := Hm.out; omega) x hx)]
      clear hbw
      go_wp2_with fail
      go_ret
      exact ⟨ret_int Hi.out.symm, Hbw.out⟩
theorem idxWait_any (s : List Bool) (rs : List Int) (k : Nat) (l : List Int) : decide (0 ≤ idxWait s rs k l) = l.any (waitF s rs k) := by
  unfold idxWait
  rw [Bool.eq_iff_iff, decide_eq_true_eq]
  cases h : l.findIdx? (waitF s rs k) with
  | none =>
    rw [List.findIdx?_eq_none_iff] at h
    simp only [List.any_eq_true]
    refine ⟨fun e => by omega, fun ⟨x, hx, h2⟩ => ?_⟩
    rw [h x hx] at h2; cases h2
  | some j =>
    rw [List.findIdx?_eq_some_iff_getElem] at h
    obtain ⟨h1, h2, -⟩ := h
    simp only [List.any_eq_true]
    exact ⟨fun _ => ⟨_, List.getElem_mem h1, h2⟩, fun _ => by omega⟩
set_option maxRecDepth 100000 in
set_option maxHeartbeats 1000000 in
theorem containsWait_any {S : Nat → Prop} (TC RC TB KC n : Nat) (s : List Bool) (ra : Option Addr) (rc : Nat) (rs : List Int) (k : Nat) (ao : Option Addr) (m c : Nat) (l : List Int) (W : World) (h : OrdEnv W TC RC TB s ra rc rs) (hn : s.length = n) (hn2 : n ≤ 1048576) (hk : k < n) (hl : ∀ x ∈ l, 0 ≤ x ∧ x < (n : Int)) (hs : SlAt S W 1 rInt (.slice ao m c) l) (hm : l.length = m) (hm2 : m ≤ 1048576) (hK : W.cell? ⟨KC, 0, none⟩ = some (.int .i64 (k : Int))) :
    Calls Tryd.prog 112 #[.slice ao m c, .func (.func 113) #[] #[.pointer (some ⟨TC, 0, none⟩), .pointer (some ⟨RC, 0, none⟩), .pointer (some ⟨KC, 0, none⟩)]] W fun e w' => e = .returned (.bool (l.any (waitF s rs k))) ∧ Below W.heap.size W w' := by
  have Hc := hid (indexWait_any (S := S) TC RC TB KC n s ra rc rs k ao m c l W h hn hn2 hk hl hs hm hm2 hK)
  have Ha := hid (idxWait_any s rs k l)
  clear h hl hs hm hK
  go_enter Tryd.func112, Tryd.ntmps112
  go_wp2_with (go_at_call 147; ((with_reducible refine Hc.out.mono ?_); rintro e w2 ⟨rfl, hb2⟩; have Hb2 := hid hb2; clear hb2))
  go_ret
  exact ⟨ret_bool (by first | exact Ha.out | (rw [← Ha.out])), Hb2.out⟩

theorem ready_wait {a : Nat → Nat → Bool} {n : Nat} {G : List (List Int)} (hG : GraphOk a n G) {s : List Bool} (_hs : s.length = n) {k : Nat} (hk : k < n) : readyF a (ringF (viaF a n) n) n s k = (!(s.getD k true) && !((G.getD k []).any (waitF s (ringsF a n) k))) := by
  have hr : ∀ i, i < n → (ringsF a n).getD i 0 = (ringF (viaF a n) n i : Int) := fun i hi => by
    unfold ringsF
    rw [List.getD_eq_getElem?_getD, List.getElem?_map, List.getElem?_range hi]; rfl
  rw [Bool.eq_iff_iff, ready_iff, Bool.and_eq_true, Bool.not_eq_true', Bool.not_eq_true', List.any_eq_false]
  refine and_congr Iff.rfl ⟨fun h x hx => ?_, fun h x hx h1 h2 => ?_⟩
  · obtain ⟨h0, h1⟩ := hG.range k x hx
    obtain ⟨q, rfl⟩ := Int.eq_ofNat_of_zero_le h0
    have hq : q < n := by omega
    have hak := (hG.mem k q hk hq).1 hx
    unfold waitF
    rw [Int.toNat_natCast, hr q hq, hr k hk]
    cases hs2 : s.getD q true with
    | true => simp
    | false => have := h q hq hak hs2; simp [this]
  · have := h (x : Int) ((hG.mem k x hk hx).2 h1)
    unfold waitF at this
    rw [Int.toNat_natCast, hr x hx, hr k hk, h2] at this
    have h3 : ¬ ((ringF (viaF a n) n x : Int) ≠ (ringF (viaF a n) n k : Int)) := by simpa using this
    have := Classical.not_not.1 h3
    omega

set_option maxRecDepth 100000 in
set_option maxHeartbeats 1000000 in
theorem ready_any {S : Nat → Prop} (TC GC RC TB n : Nat) (s : List Bool) (ra : Option Addr) (rc : Nat) (a : Nat → Nat → Bool) (ga : Option Addr) (gc : Nat) (G : List (List Int)) (k : Nat) (W : World) (h : OrdEnv W TC RC TB s ra rc (ringsF a n)) (hn : s.length = n) (hn2 : n ≤ 1048576) (hk : k < n) (hG : GraphOk a n G)
    (cG : W.cell? ⟨GC, 0, none⟩ = some (.slice ga n gc)) (hg : SlAt S W 1 rRow (.slice ga n gc) G) (hl : ∀ l ∈ G, l.length ≤ 1048576) :
    Calls Tryd.prog 111 #[.int .i64 (k : Int), .pointer (some ⟨TC, 0, none⟩), .pointer (some ⟨GC, 0, none⟩), .pointer (some ⟨RC, 0, none⟩)] W fun e w' => e = .returned (.bool (readyF a (ringF (viaF a n) n) n s k)) ∧ Below W.heap.size W w' := by
  have hkG : k < G.length := by rw [hG.len]; exact hk
  obtain ⟨rb, roff, rra, rrc, hrae, r0, hrow⟩ := rows_at hg hkG
  subst hrae
  obtain ⟨l, hle⟩ : ∃ l, l = G.getD k [] := ⟨_, rfl⟩
  have hgk : G[k] = l := by rw [hle, List.getD_eq_getElem?_getD, List.getElem?_eq_getElem hkG]; rfl
  rw [hgk] at r0 hrow
  have hll : l.length ≤ 1048576 := hl l (by rw [← hgk]; exact List.getElem_mem _)
  have hrg := hG.range k
  rw [← hle] at hrg
  have Hrd : Hid (readyF a (ringF (viaF a n) n) n s k = (!(s.getD k true) && !(l.any (waitF s (ringsF a n) k)))) := by show _ = _; rw [ready_wait hG hn hk, hle]
  obtain ⟨W1, hW1⟩ : ∃ W1, W1 = W.alloc (.cells #[.int .i64 (k : Int)] 3) := ⟨_, rfl⟩
  have hb1 : Below W.heap.size W W1 := by rw [hW1]; (repeat (first | exact Below.refl _ _ | refine Below.alloc ?_ (by first | omega | (simp <;> omega)) _ | refine Below.setCell ?_ (by first | omega | (simp <;> omega)) _ | refine below_drewN ?_ _ | refine Below.drew ?_))
  have hK : W1.cell? ⟨W.heap.size, 0, none⟩ = some (.int .i64 (k : Int)) := by rw [hW1]; simp
  have h1 := h.later hb1
  have c0 := h1.cT
  have c2 := h1.told (i := k) (by omega)
  rw [hn] at c0
  have cG1 := cell_later' cG hb1
  have r1 := cell_later' r0 hb1
  have Hc := hid (containsWait_any (S := S) TC RC TB W.heap.size n s ra rc (ringsF a n) k rra l.length rrc l W1 h1 hn hn2 hk hrg (hrow.later rInt_mono hb1) rfl hll hK)
  have HW1 := hid hW1
  have Hb1 := hid hb1
  have zr : rb < W1.heap.size := cell_lt r1
  have zt := cell_lt c0
  clear h h1 hle hgk hrow r0 hrg hW1 hb1 hg hG hl hkG cG
  go_enter Tryd.func111, Tryd.ntmps111
  go_upto_region 1 with (fail)
  rw [← HW1.out]
  cases hs : s.getD k true with
  | true =>
    rw [hs] at c2 Hrd
    clear hs
    go_wp2_with fail
    go_ret
    exact ⟨ret_bool (by rw [Hrd.out]; rfl), Hb1.out⟩
  | false =>
    rw [hs] at c2 Hrd
    obtain ⟨bv, hbv⟩ : ∃ bv, bv = l.any (waitF s (ringsF a n) k) := ⟨_, rfl⟩
    rw [← hbv] at Hc Hrd
    clear hs hbv
    go_wp2_with (go_at_call 112; ((with_reducible refine Hc.out.mono ?_); rintro e w2 ⟨rfl, hb2⟩; have Hb2 := hid hb2; clear hb2))
    go_ret
    exact ⟨ret_bool (by rw [Hrd.out]; cases bv <;> rfl), Hb1.out.trans (Hb2.out.mono Hb1.out.size)⟩

end Go.Proofs.YtaehkcnankijfaaDoor
