/- turneryref5.CallsTable: who reaches whom. -/
import Derived.Test.YtaehkcnankijfaaDoorPCompP
import Derived.Test.YtaehkcnankijfaaDoorPWar0
import Derived.Test.YtaehkcnankijfaaDoorPOrdW
namespace Go.Proofs.YtaehkcnankijfaaDoor
open Go.RowKit

/-- A row of Booleans of which the first x are written. -/
def rowUp (f : Nat → Bool) (n x : Nat) : List Bool := (List.range n).map fun j => if j < x then f j else false
def rowT (T : Nat → Nat → Bool) (n i : Nat) : List Bool := (List.range n).map (T i)
theorem rowUp_first (f : Nat → Bool) (n : Nat) : rowUp f n 0 = List.replicate n false := by
  unfold rowUp
  apply List.ext_getElem?
  intro i
  rw [List.getElem?_replicate]
  by_cases h : i < n
  · rw [List.getElem?_map, List.getElem?_range h, if_pos h]; rfl
  · rw [List.getElem?_eq_none (by simp; omega), if_neg h]
theorem rowUp_set (f : Nat → Bool) {n x : Nat} (hx : x < n) : (rowUp f n x).set x (f x) = rowUp f n (x + 1) := by
  unfold rowUp
  apply List.ext_getElem?
  intro i
  rw [List.getElem?_set]
  by_cases e : x = i
  · subst e
    rw [if_pos rfl, if_pos (by simpa using hx), List.getElem?_map, List.getElem?_range hx]
    simp
  · rw [if_neg e]
    by_cases h : i < n
    · rw [List.getElem?_map, List.getElem?_map, List.getElem?_range h]
      show some (if i < x then f i else false) = some (if i < x + 1 then f i else false)
      by_cases h1 : i < x
      · rw [if_pos h1, if_pos (by omega)]
      · rw [if_neg h1, if_neg (by omega)]
    · rw [List.getElem?_eq_none (by simp; omega), List.getElem?_eq_none (by simp; omega)]
theorem rowUp_all (f : Nat → Bool) (n : Nat) : rowUp f n n = (List.range n).map f := by
  unfold rowUp
  apply List.map_congr_left
  intro i hi
  rw [if_pos (List.mem_range.1 hi)]
theorem rowUp_len (f : Nat → Bool) (n x : Nat) : (rowUp f n x).length = n := by simp [rowUp]
theorem rowT_at (T : Nat → Nat → Bool) {n i x : Nat} (hx : x < n) : ((rowT T n i).map Value.bool)[x]? = some (.bool (T i x)) := by
  unfold rowT
  rw [List.getElem?_map, List.getElem?_map, List.getElem?_range hx]; rfl
theorem rowT_set (T : Nat → Nat → Bool) {n k x : Nat} (hx : x < n) : ((rowT T n k).map Value.bool).set x (.bool true) = (rowT (setT T k x) n k).map Value.bool := by
  apply List.ext_getElem?
  intro i
  rw [List.getElem?_set]
  by_cases e : x = i
  · subst e
    rw [if_pos rfl, if_pos (by simpa [rowT] using hx), rowT_at _ hx]
    simp [setT]
  · rw [if_neg e]
    by_cases h : i < n
    · rw [rowT_at _ h, rowT_at _ h]
      unfold setT
      rw [if_neg (fun h => e h.2.symm)]
    · rw [List.getElem?_eq_none (by simp [rowT]; omega), List.getElem?_eq_none (by simp [rowT]; omega)]
theorem rowT_other (T : Nat → Nat → Bool) {n k x i : Nat} (h : i ≠ k) : rowT (setT T k x) n i = rowT T n i := by
  unfold rowT
  apply List.map_congr_left
  intro j _
  unfold setT
  rw [if_neg (fun e => h e.1)]

/-- A row's place. -/
def rPtr (n : Nat) : Rp Nat := fun _ _ cs o => cs = [.slice (some ⟨o, 0, none⟩) n n]
theorem rPtr_mono (n : Nat) : (rPtr n).Mono := ⟨fun _ _ _ _ _ _ _ _ h => h⟩
/-- A table of rows: of what was there only the rows are turned. -/
structure TabW (w0 W : World) (os : List Nat) (n : Nat) (T : Nat → Nat → Bool) : Prop where
  size : w0.heap.size ≤ W.heap.size
  keep : ∀ b, b < w0.heap.size → b ∉ os → W.heap[b]? = w0.heap[b]?
  env : W.os = w0.os ∧ W.tape = w0.tape ∧ W.output = w0.output
  tab : ∀ (i o : Nat), os[i]? = some o → W.heap[o]? = some (.cells ((rowT T n i).map Value.bool).toArray 4 (0, 0))
section
variable {w0 W : World} {os : List Nat} {n : Nat} {T : Nat → Nat → Bool}
theorem TabW.cell (h : TabW w0 W os n T) {i o x : Nat} (hi : os[i]? = some o) (hx : x < n) : W.cell? ⟨o, x, none⟩ = some (.bool (T i x)) := by
  rw [cell_row (h.tab i o hi), List.getElem?_toArray]; exact rowT_at T hx
theorem TabW.fz (h : TabW w0 W os n T) {i o : Nat} (hi : os[i]? = some o) (x : Nat) : W.frozen? ⟨o, x, none⟩ = false := by simp [World.frozen?, h.tab i o hi]
theorem TabW.set (h : TabW w0 W os n T) (hnd : os.Nodup) {k o x : Nat} (hk : os[k]? = some o) (hx : x < n) : TabW w0 (W.setCell ⟨o, x, none⟩ (.bool true)) os n (setT T k x) := by
  refine ⟨by simpa [World.setCell] using h.size, fun b h1 h2 => ?_, h.env, fun i o' hi => ?_⟩
  · rw [Below.heap_setCell _ _ _ _ (by dsimp only; intro e; subst e; exact h2 (List.mem_of_getElem? hk))]; exact h.keep b h1 h2
  · by_cases e : i = k
    · subst e
      rw [hk] at hi
      cases hi
      rw [heap_set_row (h.tab i o hk), List.setIfInBounds_toArray, rowT_set T hx]
    · have hne : o' ≠ o := fun e2 => by
        subst e2
        obtain ⟨h1, h1'⟩ := List.getElem?_eq_some_iff.1 hi
        obtain ⟨h2, h2'⟩ := List.getElem?_eq_some_iff.1 hk
        rcases Nat.lt_or_ge i k with h3 | h3
        · exact List.pairwise_iff_getElem.1 hnd i k h1 h2 h3 (h1'.trans h2'.symm)
        · exact List.pairwise_iff_getElem.1 hnd k i h2 h1 (by omega) (h2'.trans h1'.symm)
      rw [Below.heap_setCell _ _ _ _ (by dsimp only; exact hne), rowT_other T e]
      exact h.tab i o' hi
end
/-- The table that the document makes. -/
structure TabV (base : Nat) (W : World) (v : Value) (os : List Nat) (n : Nat) (T : Nat → Nat → Bool) : Prop where
  sl : SlAt (fun b => base ≤ b ∧ b ∉ os) W 1 (rPtr n) v os
  len : os.length = n
  tab : ∀ (i o : Nat), os[i]? = some o → W.heap[o]? = some (.cells ((rowT T n i).map Value.bool).toArray 4 (0, 0))
/-- The rows so far. -/
structure TabB (w0 W : World) (v : Value) (os : List Nat) (n k : Nat) (T : Nat → Nat → Bool) : Prop where
  own : Own w0.heap.size W 39 1 (rPtr n) v os
  len : os.length = k
  old : Below w0.heap.size w0 W
  nodup : os.Nodup
  tab : ∀ (i o : Nat), os[i]? = some o → w0.heap.size ≤ o ∧ W.heap[o]? = some (.cells ((rowT T n i).map Value.bool).toArray 4 (0, 0))
theorem TabB.later {w0 W W' : World} {v : Value} {os : List Nat} {n k : Nat} {T : Nat → Nat → Bool} (h : TabB w0 W v os n k T) (hb : Below W.heap.size W W') : TabB w0 W' v os n k T :=
  ⟨h.own.later (rPtr_mono n) hb, h.len, h.old.trans (hb.mono h.old.size), h.nodup, fun i o hi => ⟨(h.tab i o hi).1, (hb.block o (Array.getElem?_eq_some_iff.1 (h.tab i o hi).2).1).trans (h.tab i o hi).2⟩⟩
theorem TabB.apart {w0 W : World} {v : Value} {os : List Nat} {n k : Nat} {T : Nat → Nat → Bool} (h : TabB w0 W v os n k T) : ∀ o ∈ os, v.ownBlock ≠ some o := by
  intro o ho e
  obtain ⟨i, hi⟩ := List.getElem?_of_mem ho
  have ht := (h.tab i o hi).2
  obtain ⟨xss, h1, -⟩ := h.own
  rcases h1.2 with ⟨rfl, -⟩ | ⟨g, cap, cur, rfl, -, hh, -⟩
  · cases e
  · cases e
    rw [ht] at hh
    injection hh with hh
    injection hh with _ hh
    exact absurd hh (by decide)
theorem own_ptr_kept {base : Nat} {W W' : World} {e : TypeId} {n : Nat} {v : Value} {os : List Nat} {row : Option Nat} (h : Own base W e 1 (rPtr n) v os) (hg : W.grownBy W' row) (hne : v.ownBlock = none ∨ v.ownBlock ≠ row) : Own base W' e 1 (rPtr n) v os := by
  obtain ⟨xss, h1, h2, h3, h4⟩ := h
  exact ⟨xss, h1.kept hg hne, h2, h3, fun i cs x hi hx => h4 i cs x hi hx⟩
theorem RowSt.grownBy {w0 W : World} {XB : Nat} {e : TypeId} {cs : List Value} (h : RowSt w0 W XB e cs) : w0.grownBy W (some XB) :=
  ⟨h.env.1, h.env.2.1, h.env.2.2, h.size, fun k hk hne => h.keep k hk (fun e => hne (by rw [e]))⟩
theorem TabB.push {w0 V wr w6 : World} {v v6 : Value} {os : List Nat} {n k OB : Nat} {T : Nat → Nat → Bool} {c : Obj} (h : TabB w0 V v os n k T) (hs : RowSt V wr OB 4 ((rowT T n k).map Value.bool)) (hO : ∀ o ∈ os, o ≠ OB) (hOb : w0.heap.size ≤ OB) (hvO : v.ownBlock ≠ some OB)
    (hg : (wr.alloc c).grownBy w6 v.ownBlock) (hown : Own w0.heap.size w6 39 1 (rPtr n) v6 (os ++ [OB])) : TabB w0 w6 v6 (os ++ [OB]) n (k + 1) T := by
  have hz : (wr.alloc c).heap.size = wr.heap.size + 1 := by simp
  have hrow : ∀ {o : Nat} {ob : Obj}, wr.heap[o]? = some ob → v.ownBlock ≠ some o → w6.heap[o]? = some ob := fun {o ob} ho hne => by
    have hlt : o < wr.heap.size := (Array.getElem?_eq_some_iff.1 ho).1
    rw [hg.block o (by omega) (fun e => hne e.symm), Below.heap_alloc _ _ _ hlt]; exact ho
  refine ⟨hown, by simp [h.len], ?_, ?_, fun i o hi => ?_⟩
  · refine Below.grown ((hs.below h.old hOb).alloc (Nat.le_trans h.old.size hs.size) _) hg (Nat.le_trans (Nat.le_trans h.old.size hs.size) (by omega)) (fun g e => (h.own.lt g e).1)
  · exact List.nodup_append.2 ⟨h.nodup, by simp, fun x hx y hy e => by
      rw [List.mem_singleton] at hy
      subst hy
      exact hO x hx e⟩
  · rw [List.getElem?_append] at hi
    by_cases hl : i < os.length
    · rw [if_pos hl] at hi
      obtain ⟨h1, h2⟩ := h.tab i o hi
      exact ⟨h1, hrow ((hs.keep o (Array.getElem?_eq_some_iff.1 h2).1 (hO o (List.mem_of_getElem? hi))).trans h2) (h.apart o (List.mem_of_getElem? hi))⟩
    · rw [if_neg hl] at hi
      have hi0 : i - os.length = 0 := by
        have := (List.getElem?_eq_some_iff.1 hi).1
        simp at this
        omega
      rw [hi0] at hi
      have ho : OB = o := by simpa using hi
      subst ho
      have hik : i = k := by have := h.len; omega
      subst hik
      exact ⟨hOb, hrow hs.row hvO⟩
theorem infoBls : (Tryd.prog.info? 39).map (fun i => (i.zero, i.size, i.bytes)) = some (some (.slice none 0 0), 1, 24) := by kernel_rfl

set_option maxRecDepth 100000 in
set_option maxHeartbeats 4000000 in
theorem callsTable_any {S : Nat → Prop} (gv : Value) (ga : Option Addr) (gn gc : Nat) (hgv : gv = .slice ga gn gc) (fa : Option Addr) (fc n : Nat) (fs : List DFunc) (w : World) (hf : SlAt S w 4 rFunc (.slice fa n fc) fs) (hS : ∀ b, S b → b < w.heap.size) (hn : fs.length = n) (hn1 : n ≤ 1048576) (ha : ∀ k x, callB fs k x = true → x < n)
    (hsm : ∀ k, k < n → (fs.getD k noFunc).blocks.length ≤ 1048576 ∧ ∀ b ∈ (fs.getD k noFunc).blocks, b.list.length ≤ 1048576) :
    Calls Tryd.prog 149 #[.agg #[gv, .slice fa n fc]] w fun e w' => ∃ a c os, e = .returned (.slice a n c) ∧ TabV w.heap.size w' (.slice a n c) os n (viaF (callB fs) n) ∧ Below w.heap.size w w' := by
  subst hgv
  have Hn := hid hn
  have Ha := hid ha
  have Hsm := hid hsm
  obtain ⟨il, hil, hlz0, hlz1, hlz2⟩ := info_parts infoBls
  have hmk := run_make_row' (P := Tryd.prog) 39 4 (.bool false) 1 Tryd.underlying39 infoBool rfl .i64 .i64 n (by omega) (by omega)
  obtain ⟨W, hW⟩ : ∃ W, W = w.alloc (.cells #[.slice ga gn gc, .slice fa n fc] 25) := ⟨_, rfl⟩
  have hbW : Below w.heap.size w W := by rw [hW]; (repeat (first | exact Below.refl _ _ | refine Below.alloc ?_ (by first | omega | (simp <;> omega)) _ | refine Below.setCell ?_ (by first | omega | (simp <;> omega)) _ | refine below_drewN ?_ _ | refine Below.drew ?_))
  have hWs : W.heap.size = w.heap.size + 1 := by rw [hW]; simp
  have u0 : W.cell? ⟨w.heap.size, 0, none⟩ = some (.slice ga gn gc) := by rw [hW]; simp
  have u1 : W.cell? ⟨w.heap.size, 1, none⟩ = some (.slice fa n fc) := by rw [hW]; simp
  have U0 := hid u0
  have U1 := hid u1
  have HW := hid hW
  have HbW := hid hbW
  have HWs := hid hWs
  have Hf := hid (hf.later rFunc_mono hbW)
  have Hmk := hid hmk
  have HS := hid hS
  clear hS hf hn ha hsm hW hbW hWs u0 hmk
  go_enter Tryd.func149, Tryd.ntmps149
  go_upto_region 1 with (fail)
  rw [← HW.out]
  obtain ⟨UB, hUB⟩ : ∃ UB, UB = w.heap.size := ⟨_, rfl⟩
  rw [← hUB] at u1 U0 U1 ⊢
  have HUB := hid hUB
  have zU : UB < W.heap.size := cell_lt u1
  clear hUB
  go_wp2_with fail
  clear u1
  have HUS : Hid (∀ b, S b → b < UB + 1) := fun b hb => by have := HS.out b hb; have := HUB.out; omega
  obtain ⟨D, hD⟩ : ∃ D : Nat → Nat → Bool, D = fun p q => decide (p = q) || callB fs p q := ⟨_, rfl⟩
  have HD := hid hD
  clear hD
  go_loopw [4, 5] (fun s4 s5 wr => ∃ (k : Nat) (v : Value) (os : List Nat), v = s4 ∧ k ≤ n ∧ s5 = .int .i64 (k : Int) ∧ TabB W wr v os n k D) (fun _ s5 _ => n - (intOf s5).toNat)
  case atStart => exact ⟨0, _, [], rfl, Nat.zero_le _, rfl, Own.nil _ _ _ _ _, rfl, Below.refl _ _, List.nodup_nil, fun i o h => by simp at h⟩
  case round =>
    obtain ⟨k, v, os, rfl, hk, rfl, hst⟩ := hrel
    have Hst := hid hst
    have zW := hst.old.size
    have HUr := hid (cell_later' U1.out hst.old)
    by_cases hkn : k < n
    · have hmk := Hmk.out
      clear hst
      go_wp2_with fail
      obtain ⟨V, hV⟩ : ∃ V, V = wr.alloc (.cells (madeCells #[.bool false] n) 4) := ⟨_, rfl⟩
      obtain ⟨OB, hOB⟩ : ∃ OB, OB = wr.heap.size := ⟨_, rfl⟩
      have hbV : Below wr.heap.size wr V := by rw [hV]; (repeat (first | exact Below.refl _ _ | refine Below.alloc ?_ (by first | omega | (simp <;> omega)) _ | refine Below.setCell ?_ (by first | omega | (simp <;> omega)) _ | refine below_drewN ?_ _ | refine Below.drew ?_))
      have hst0 : RowSt V V OB 4 ((rowUp (D k) n 0).map Value.bool) := ⟨Nat.le_refl _, fun _ _ _ => rfl, ⟨rfl, rfl, rfl⟩, by rw [hV, hOB, heap_alloc_new, madeCells_rep, rowUp_first, List.map_replicate]⟩
      have Hst0 := hid hst0
      have HbV := hid hbV
      have HstV := hid (Hst.out.later hbV)
      have HOB := hid hOB
      have zO := hst0.lt
      rw [← hV, ← hOB]
      clear hmk hV hst0 hbV hOB
      go_loopw [7] (fun s7 wi => ∃ x : Nat, x ≤ n ∧ s7 = .int .i64 (x : Int) ∧ RowSt V wi OB 4 ((rowUp (D k) n x).map Value.bool)) (fun s7 _ => n - (intOf s7).toNat)
      case atStart => exact ⟨0, Nat.zero_le _, rfl, Hst0.out⟩
      case round =>
        obtain ⟨x, hx, rfl, hsx⟩ := hrel
        have Hsx := hid hsx
        by_cases hxn : x < n
        · have hUO : UB ≠ OB := by have := HOB.out; omega
          have u0 := hsx.cellOf (cell_later' U0.out HstV.out.old) hUO
          have u1 := hsx.cellOf (cell_later' U1.out HstV.out.old) hUO
          have r0 : wr.cell? ⟨OB, x, none⟩ = some (.bool ((rowUp (D k) n x)[x]'(by rw [rowUp_len]; exact hxn))) := hsx.at (by rw [List.getElem?_map, List.getElem?_eq_getElem (by rw [rowUp_len]; exact hxn)]; rfl)
          obtain ⟨rv, hrv⟩ : ∃ rv, rv = (rowUp (D k) n x)[x]'(by rw [rowUp_len]; exact hxn) := ⟨_, rfl⟩
          rw [← hrv] at r0
          have f0 := hsx.fz x
          have zUr : UB < wr.heap.size := cell_lt u0
          have zOr : OB < wr.heap.size := cell_lt r0
          have i0 : (0 : Int) ≤ (x : Int) := by omega
          have i1 : (x : Int) < (n : Int) := by omega
          have hset := fun (b : Bool) (hb : b = D k x) (w4 : World) (h4 : Below wr.heap.size wr w4) => (by
            have h := (hsx.later h4).set x (.bool b)
            rw [← List.map_set, hb, rowUp_set (D k) hxn] at h
            rw [hb]
            exact h : RowSt V (w4.setCell ⟨OB, x, none⟩ (.bool b)) OB 4 ((rowUp (D k) n (x + 1)).map Value.bool))
          have Hset := hid hset
          clear hsx hset hrv
          by_cases hkx : k = x
          · have q0 : (decide (k ≤ x) && decide (x ≤ k)) = true := eq_yesN hkx
            have Hd : Hid (true = D k x) := by show _ = _; rw [HD.out]; simp [hkx]
            clear hkx
            go_wp2_with fail
            go_roundw
            case rel => exact ⟨x + 1, by omega, by go_num, Hset.out true Hd.out _ (Below.refl _ _)⟩
            case measure => simp [intOf]; omega
          · have q0 : (decide (k ≤ x) && decide (x ≤ k)) = false := eq_noN hkx
            obtain ⟨cb, hcb⟩ : ∃ cb, cb = callB fs k x := ⟨_, rfl⟩
            have Hd : Hid (cb = D k x) := by show _ = _; rw [HD.out, hcb]; simp [hkx]
            have hone := callsOne_any (S := S) (.slice ga gn gc) ga gn gc rfl fa fc fs k x wr (by rw [Hn.out]; exact Hsx.out.sl rFunc_mono (fun b hb => by have := HUS.out b hb; have := HOB.out; omega) (Hf.out.later rFunc_mono HstV.out.old)) (by rw [Hn.out]; exact hkn) (by omega) (Hsm.out k hkn)
            rw [← hcb, Hn.out] at hone
            have Hone := hid hone
            clear hkx hcb hone
            go_wp2_with (go_at_call 117; ((with_reducible refine Hone.out.mono ?_); rintro e w4 ⟨rfl, hb4⟩; have r0 := cell_later' r0 hb4; have f0 := (hb4.frozen (p := ⟨OB, x, none⟩) zOr).trans f0; have zOr := cell_lt r0; have Hs4 := hid (Hset.out cb Hd.out w4 hb4); clear hb4))
            go_roundw
            case rel => exact ⟨x + 1, by omega, by go_num, Hs4.out⟩
            case measure => simp [intOf]; omega
        · have hxn' : x = n := by omega
          have hfull : RowSt V wr OB 4 ((rowT D n k).map Value.bool) := by
            have h := hsx
            rw [hxn', rowUp_all] at h
            exact h
          have hvO : v.ownBlock ≠ some OB := fun e => by have := (Hst.out.own.lt OB e).2; have := HOB.out; omega
          have hO : ∀ o ∈ os, o ≠ OB := fun o ho e => by
            obtain ⟨i, hi⟩ := List.getElem?_of_mem ho
            have := (Array.getElem?_eq_some_iff.1 (Hst.out.tab i o hi).2).1
            have := HOB.out
            omega
          have hown := own_ptr_kept HstV.out.own hfull.grownBy (.inr hvO)
          have Hfull := hid hfull
          have HvO := hid hvO
          have HO := hid hO
          have Hown := hid hown
          have hz1 := hfull.size
          clear hfull hvO hO hown hsx hxn
          rw [hxn']
          clear hxn'
          go_wp2_with (at_builtin; refine wpList_append_Own rfl _ _ 207 rfl W.heap.size 39 il _ 1 24 Tryd.underlying207 hil hlz0 hlz1 hlz2 rfl (by decide) (rPtr_mono n) v os rfl ?_ ⟨wr.heap.size, 0, none⟩ 1 [.slice (some ⟨OB, 0, none⟩) n n] OB rfl rfl ?_ ?_ ?_ ?_ (by decide) ?_ ?_)
          · exact Hown.out.later (rPtr_mono n) (by (repeat (first | exact Below.refl _ _ | refine Below.alloc ?_ (by first | omega | (simp <;> omega)) _ | refine Below.setCell ?_ (by first | omega | (simp <;> omega)) _ | refine below_drewN ?_ _ | refine Below.drew ?_)))
          · exact new_cells _ _ _ rfl
          · intro u hu; simp at hu; subst hu; rfl
          · rfl
          · have := Hst.out.len; omega
          · have := HbV.out.size; simp; omega
          · intro v2 w6 hown2 hg2 g2 cap2 hv2
            have Hpush := hid (HstV.out.push Hfull.out HO.out (by have := HOB.out; omega) HvO.out hg2 hown2)
            clear hown2 hg2
            subst hv2
            go_wp2_with fail
            go_roundw
            case rel => exact ⟨k + 1, _, _, rfl, by omega, by go_num, Hpush.out⟩
            case measure => simp [intOf]; omega
    · have hkn' : k = n := by omega
      have Hdone := hid hst
      rw [hkn'] at Hdone
      rw [hkn']
      clear hst Hst hkn hkn' hk
      obtain ⟨W2, hW2⟩ : ∃ W2 : World, W2 = wr := ⟨_, rfl⟩
      subst hW2
      obtain ⟨a, c, hvs⟩ := Hdone.out.own.shape
      rw [Hdone.out.len] at hvs
      subst hvs
      have hsl : SlAt (fun b => w.heap.size ≤ b ∧ b ∉ os) W2 1 (rPtr n) (.slice a n c) os := by
        have hap := Hdone.out.apart
        have hz := HbW.out.size
        rcases id Hdone.out.own with ⟨xss, h1, -⟩
        have h2 := Hdone.out.own.toSl (rPtr_mono n) (by decide)
        obtain ⟨ao, c', e1, e2, e3, e4⟩ := h2
        refine ⟨ao, c', e1, e2, e3, fun hne => ?_⟩
        obtain ⟨b, off, hab, hb, h5⟩ := e4 hne
        refine ⟨b, off, hab, ⟨by have := hb.1; omega, fun hm => ?_⟩, h5⟩
        rcases h1.2 with ⟨hv0, hl0⟩ | ⟨g, cap, cur, hv, -⟩
        · exact hne (List.length_eq_zero_iff.1 hl0)
        · rw [hv] at e1
          injection e1 with e1 _ _
          rw [hab] at e1
          injection e1 with e1
          injection e1 with e1 _
          refine hap b hm ?_
          rw [hv, e1]; rfl
      have hT0 : TabW W2 W2 os n D := ⟨Nat.le_refl _, fun _ _ _ => rfl, ⟨rfl, rfl, rfl⟩, fun i o hi => (Hdone.out.tab i o hi).2⟩
      have hwar : WarIn (callB fs) n 0 0 0 D := WarIn.start (fun p q _ _ => by rw [HD.out])
      have HT0 := hid hT0
      have Hwar := hid hwar
      have Hsl := hid hsl
      have Hlen := hid Hdone.out.len
      have Hnd := hid Hdone.out.nodup
      have HW2 : Hid (Below w.heap.size w W2) := HbW.out.trans (Hdone.out.old.mono HbW.out.size)
      have Hge : Hid (∀ o ∈ os, w.heap.size ≤ o) := fun o ho => by
        obtain ⟨i, hi⟩ := List.getElem?_of_mem ho
        have := (Hdone.out.tab i o hi).1
        have := HbW.out.size
        omega
      have Hfin : Hid (∀ (wr : World) (T : Nat → Nat → Bool), TabW W2 wr os n T → Below w.heap.size w wr) := fun wr T h => ⟨h.env.1.trans HW2.out.os, h.env.2.1.trans HW2.out.tape, h.env.2.2.trans HW2.out.output, Nat.le_trans HW2.out.size h.size, fun k hk => (h.keep k (by have := HW2.out.size; omega) (fun hm => by have := Hge.out k hm; omega)).trans (HW2.out.block k hk)⟩
      have Hrd : Hid (∀ (wr : World) (T : Nat → Nat → Bool), TabW W2 wr os n T → ∀ i, i < n → ∃ b off o, a = some ⟨b, off, none⟩ ∧ os[i]? = some o ∧ wr.cell? ⟨b, off + i, none⟩ = some (.slice (some ⟨o, 0, none⟩) n n) ∧ b < wr.heap.size) := fun wr T h i hi => by
        have hil : i < os.length := by rw [Hlen.out]; exact hi
        obtain ⟨b, off, cs, hab, hS, hr, -, hcs⟩ := Hsl.out.get hil
        have hr' : cs = [.slice (some ⟨os[i], 0, none⟩) n n] := hr
        rw [hr'] at hcs
        have hc := hcs.get1
        rw [Nat.mul_one] at hc
        have hc2 : wr.cell? ⟨b, off + i, none⟩ = some (.slice (some ⟨os[i], 0, none⟩) n n) := by
          rw [World.cell?_of_block (w := W2) (a := ⟨b, off + i, none⟩) (h.keep b (cell_lt hc) hS.2)]; exact hc
        exact ⟨b, off, os[i], hab, List.getElem?_eq_getElem hil, hc2, cell_lt hc2⟩
      clear hT0 hwar hsl Hdone HD HUr
      go_wp2_with fail
      go_loopw [8] (fun s8 wr => ∃ (m : Nat) (T : Nat → Nat → Bool), m ≤ n ∧ s8 = .int .i64 (m : Int) ∧ TabW W2 wr os n T ∧ WarIn (callB fs) n m 0 0 T) (fun s8 _ => n - (intOf s8).toNat)
      case atStart => exact ⟨0, D, Nat.zero_le _, rfl, HT0.out, Hwar.out⟩
      case round =>
        obtain ⟨m, T, hm, rfl, ht, hw⟩ := hrel
        have Ht := hid ht
        have Hw := hid hw
        clear ht hw HT0 Hwar
        by_cases hmn : m < n
        · go_wp2_with fail
          go_loopw [9] (fun s9 wr => ∃ (k : Nat) (T : Nat → Nat → Bool), k ≤ n ∧ s9 = .int .i64 (k : Int) ∧ TabW W2 wr os n T ∧ WarIn (callB fs) n m k 0 T) (fun s9 _ => n - (intOf s9).toNat)
          case atStart => exact ⟨0, T, Nat.zero_le _, rfl, Ht.out, Hw.out⟩
          case round =>
            obtain ⟨k, T, hk, rfl, ht, hw⟩ := hrel
            have Ht2 := hid ht
            have Hw2 := hid hw
            clear ht hw Ht Hw
            by_cases hkn : k < n
            · go_wp2_with fail
              go_loopw [10] (fun s10 wr => ∃ (x : Nat) (T : Nat → Nat → Bool), x ≤ n ∧ s10 = .int .i64 (x : Int) ∧ TabW W2 wr os n T ∧ WarIn (callB fs) n m k x T) (fun s10 _ => n - (intOf s10).toNat)
              case atStart => exact ⟨0, T, Nat.zero_le _, rfl, Ht2.out, Hw2.out⟩
              case round =>
                obtain ⟨x, T, hx, rfl, ht, hw⟩ := hrel
                have Ht3 := hid ht
                have Hw3 := hid hw
                by_cases hxn : x < n
                · obtain ⟨b, off, ok, rfl, hok, r0, zb⟩ := Hrd.out wr T ht k hkn
                  obtain ⟨b', off', om, hbe, hom, r1, -⟩ := Hrd.out wr T ht m hmn
                  cases hbe
                  have t0 := ht.cell hok hmn
                  have t1 := ht.cell hom hxn
                  have tk := ht.cell hok hxn
                  have f0 := ht.fz hok x
                  have Hok := hid hok
                  have hstep := hw.step hmn hkn hxn
                  have Hstep := hid hstep
                  have zk : ok < wr.heap.size := cell_lt t0
                  have zm : om < wr.heap.size := cell_lt t1
                  obtain ⟨tv, htv⟩ : ∃ tv, tv = T k x := ⟨_, rfl⟩
                  rw [← htv] at tk
                  have i0 : (0 : Int) ≤ (k : Int) := by omega
                  have i1 : (k : Int) < (n : Int) := by omega
                  have i2 : (0 : Int) ≤ (m : Int) := by omega
                  have i3 : (m : Int) < (n : Int) := by omega
                  have i4 : (0 : Int) ≤ (x : Int) := by omega
                  have i5 : (x : Int) < (n : Int) := by omega
                  clear ht hw Ht2 Hw2 hok hom hstep htv
                  cases h1 : T k m with
                  | false =>
                    rw [h1] at t0 Hstep
                    clear h1
                    go_wp2_with fail
                    go_roundw
                    case rel => exact ⟨x + 1, T, by omega, by go_num, Ht3.out, Hstep.out⟩
                    case measure => simp [intOf]; omega
                  | true =>
                    cases h2 : T m x with
                    | false =>
                      rw [h1] at t0 Hstep
                      rw [h2] at t1 Hstep
                      clear h1 h2
                      go_wp2_with fail
                      go_roundw
                      case rel => exact ⟨x + 1, T, by omega, by go_num, Ht3.out, Hstep.out⟩
                      case measure => simp [intOf]; omega
                    | true =>
                      rw [h1] at t0 Hstep
                      rw [h2] at t1 Hstep
                      clear h1 h2
                      go_wp2_with fail
                      go_roundw
                      case rel => exact ⟨x + 1, setT T k x, by omega, by go_num, Ht3.out.set Hnd.out Hok.out hxn, Hstep.out⟩
                      case measure => simp [intOf]; omega
                · have hxn' : x = n := by omega
                  rw [hxn'] at Hw3
                  rw [hxn']
                  clear ht hw hxn hxn' Ht2 Hw2
                  go_wp2_with fail
                  go_roundw
                  case rel => exact ⟨k + 1, T, by omega, by go_num, Ht3.out, Hw3.out.row⟩
                  case measure => simp [intOf]; omega
            · have hkn' : k = n := by omega
              rw [hkn'] at Hw2
              rw [hkn']
              clear hkn hkn'
              go_wp2_with fail
              go_roundw
              case rel => exact ⟨m + 1, T, by omega, by go_num, Ht2.out, Hw2.out.more⟩
              case measure => simp [intOf]; omega
        · have hmn' : m = n := by omega
          rw [hmn'] at Hw
          rw [hmn']
          clear hmn hmn'
          go_wp2_with fail
          go_ret
          have hb := Hfin.out wr T Ht.out
          refine ⟨a, c, os, rfl, ⟨?_, Hlen.out, fun i o hi => ?_⟩, hb⟩
          · exact Hsl.out.mono (rPtr_mono n) (fun _ h => h) (stays_at fun b hb hl => Ht.out.keep b hl hb.2)
          · rw [Ht.out.tab i o hi]
            have hin : i < n := by have := (List.getElem?_eq_some_iff.1 hi).1; have := Hlen.out; omega
            congr 3
            unfold rowT
            refine congrArg (List.map Value.bool) ?_
            apply List.map_congr_left
            intro j hj
            exact Hw.out.whole Ha.out hin (List.mem_range.1 hj)

end Go.Proofs.YtaehkcnankijfaaDoor
