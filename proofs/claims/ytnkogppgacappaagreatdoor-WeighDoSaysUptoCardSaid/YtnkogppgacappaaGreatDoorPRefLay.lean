/- The contract of the reference turneryref6.WeighLay. -/
import Derived.Test.YtnkogppgacappaaGreatDoorPHasInt
namespace Go.Proofs.YtnkogppgacappaaGreatDoor
open Go.RowKit

/-- Between two rounds of the reference's great loop. -/
structure RefSt (w wr : World) (H n : Nat) (ba : Option Addr) (bc : Nat) (v : Value) (pre : List Nat) : Prop where
  had : wr.rowIs H 4 n (fun b => .bool (hadB pre b))
  own : wr.ownsRow (H + 1) 3 1 v pre.length (pre.map natV)
  below : Below w.heap.size w wr
  box : wr.cell? ⟨w.heap.size, 3, none⟩ = some (.slice ba n bc)
  lt : ∀ b ∈ pre, b < n
  gH : w.heap.size < H
theorem RefSt.next {w wr w1 : World} {H n : Nat} {ba : Option Addr} {bc : Nat} {v v' : Value} {pre : List Nat} {b : Nat} (h : RefSt w wr H n ba bc v pre) (hb : b < n) (ob : Obj)
    (hown' : w1.ownsRow (H + 1) 3 1 v' (pre.length + 1) (pre.map natV ++ [natV b])) (hgrow : (wr.alloc ob).grownBy w1 v.ownBlock) : RefSt w (w1.setCell ⟨H, b, none⟩ (.bool true)) H n ba bc v' (pre ++ [b]) := by
  have hL : ∀ q, v.ownBlock = some q → H + 1 ≤ q := fun q hq => (h.own.lt q hq).1
  have hsz : ∀ k, k < wr.heap.size → k ≤ H → w1.heap[k]? = wr.heap[k]? := fun k hk h1 => by
    rw [hgrow.block k (by simp; omega) (fun e => by have := hL k e.symm; omega), Below.heap_alloc _ _ _ hk]
  have hN := cell_lt h.box
  have hH := h.had.lt
  have g := h.gH
  refine ⟨?_, ?_, ?_, ?_, ?_, g⟩
  · refine ((h.had.of_block (hsz H hH (Nat.le_refl _))).set b (.bool true)).congr (fun y hy => ?_)
    show (if y = b then Value.bool true else Value.bool (hadB pre y)) = Value.bool (hadB (pre ++ [b]) y)
    rw [hadB_snoc pre b y]
    by_cases hyb : y = b
    · rw [if_pos hyb, hyb, beq_self_eq_true, Bool.or_true]
    · rw [if_neg hyb, show (y == b) = false by simpa using hyb, Bool.or_false]
  · rw [List.length_append, List.map_append]
    exact ownsRow_setCell_below hown' (by simp) _
  · exact (((h.below.alloc (by omega) _).grown hgrow (by simp; omega) (fun q hq => by have := hL q hq; omega))).setCell (p := ⟨H, b, none⟩) (by dsimp only; omega) _
  · rw [World.cell?_of_block (w := w1) (a := ⟨w.heap.size, 3, none⟩) (Below.heap_setCell _ _ _ _ (show w.heap.size ≠ H by omega)), World.cell?_of_block (w := wr) (a := ⟨w.heap.size, 3, none⟩) (hsz _ hN (show w.heap.size ≤ H by omega))]; exact h.box
  · intro y hy
    rcases List.mem_append.1 hy with hy | hy
    · exact h.lt y hy
    · rw [List.mem_singleton] at hy; subst hy; exact hb

theorem RefSt.mid {w wr w1 : World} {H n : Nat} {ba : Option Addr} {bc : Nat} {v : Value} {pre : List Nat} {b : Nat} (h : RefSt w wr H n ba bc v pre) (hb : b < n) (ob : Obj) (hgrow : (wr.alloc ob).grownBy w1 v.ownBlock) :
    w1.cell? ⟨H, b, none⟩ = some (.bool (hadB pre b)) ∧ w1.frozen? ⟨H, b, none⟩ = false ∧ w1.cell? ⟨w.heap.size, 3, none⟩ = some (.slice ba n bc) ∧ Below w.heap.size w w1 := by
  have hL : ∀ q, v.ownBlock = some q → H + 1 ≤ q := fun q hq => (h.own.lt q hq).1
  have hsz : ∀ k, k < wr.heap.size → k ≤ H → w1.heap[k]? = wr.heap[k]? := fun k hk h1 => by
    rw [hgrow.block k (by simp; omega) (fun e => by have := hL k e.symm; omega), Below.heap_alloc _ _ _ hk]
  have hN := cell_lt h.box
  have hH := h.had.lt
  have g := h.gH
  have hr := h.had.of_block (hsz H hH (Nat.le_refl _))
  refine ⟨hr.cell hb, hr.frozen b, ?_, (h.below.alloc (by omega) _).grown hgrow (by simp; omega) (fun q hq => by have := hL q hq; omega)⟩
  rw [World.cell?_of_block (w := wr) (a := ⟨w.heap.size, 3, none⟩) (hsz _ hN (show w.heap.size ≤ H by omega))]; exact h.box
theorem RefSt.drewN {w wr : World} {H n : Nat} {ba : Option Addr} {bc : Nat} {v : Value} {pre : List Nat} (h : RefSt w wr H n ba bc v pre) (q : Nat) : RefSt w (wr.drewN q) H n ba bc v pre :=
  ⟨h.had, h.own, below_drewN h.below q, h.box, h.lt, h.gH⟩

theorem lay_fin {bs : List DBlock} {c : Nat → Int} {out : List Nat} {f : Nat} (hT : ∀ y ∈ targets bs (out.getLastD 0), y < bs.length) (hf : left out bs.length ≤ f) (hrun : layRun bs c f out = layF bs c) :
    (layNext bs c out = none → layF bs c = out) ∧ ∀ y, layNext bs c out = some y → y < bs.length ∧ hadB out y = false ∧ ∃ f', left (out ++ [y]) bs.length ≤ f' ∧ layRun bs c f' (out ++ [y]) = layF bs c := by
  refine ⟨fun h => ?_, fun y h => ?_⟩
  · rw [layRun_none h] at hrun; exact hrun.symm
  · have h1 : y < bs.length ∧ hadB out y = false := by
      have h0 := h
      unfold layNext at h0
      split at h0
      · rename_i b hb
        cases h0
        exact ⟨hT _ (pick_mem _ _ _ _ hb).1, (pick_mem _ _ _ _ hb).2⟩
      · exact ⟨by simpa using (pick_mem _ _ _ _ h0).1, (pick_mem _ _ _ _ h0).2⟩
    have h2 := left_lt h1.1 h1.2
    obtain ⟨f', rfl⟩ : ∃ f', f = f' + 1 := ⟨f - 1, by omega⟩
    rw [layRun_some h] at hrun
    exact ⟨h1.1, h1.2, f', by omega, hrun⟩
theorem left_zero {out : List Nat} {n : Nat} {c : Nat → Int} (h : left out n = 0) : pick c (hadB out) (List.range n) = none :=
  (pick_none _ _ _).2 (fun y hy => by
    by_cases hyh : hadB out y = true
    · exact hyh
    · have := left_lt (out := out) (n := n) (b := y) (by simpa using hy) (by simpa using hyh)
      omega)

set_option maxRecDepth 100000 in
set_option maxHeartbeats 4000000 in
theorem refLay_any {S S' : Nat → Prop} (nm : ByteArray) (p r : Int) (ba : Option Addr) (bc : Nat) (bs : List DBlock) (ca : Option Addr) (cc : Nat) (C : List Int) (w : World) (hb : SlAt S w 6 rBlock (.slice ba bs.length bc) bs) (hC : SlAt S' w 1 rInt (.slice ca C.length cc) C)
    (hn0 : 0 < bs.length) (hn : bs.length ≤ 1048576) (hCl : C.length = bs.length) (hto : ∀ (k : Nat) (x : DBlock), bs[k]? = some x → ∀ t ∈ x.fin.to, 0 ≤ t ∧ t < (bs.length : Int)) :
    Calls Tryz.prog 33 #[.agg #[.string nm, .int .i64 p, .int .i64 r, .slice ba bs.length bc], .slice ca C.length cc] w fun e w' =>
      ∃ v, e = .returned v ∧ SlAt (fun b => w.heap.size ≤ b) w' 1 rInt v ((layF bs (cntOf C)).map fun b : Nat => (b : Int)) ∧ Below w.heap.size w w' := by
  have Hb := hid hb
  have HC := hid hC
  have Hto := hid hto
  have HCl := hid hCl
  clear hb hC hto hCl
  obtain ⟨i0, hi, hz0, hz1, hz2⟩ := info_parts infoInt
  have hmk := run_make_row' (P := Tryz.prog) 66 4 (.bool false) 1 Tryz.underlying66 infoBool rfl .i64 .i64 bs.length (by omega) (by omega)
  go_enter Tryz.func33, Tryz.ntmps33
  go_wp2_with fail
  obtain ⟨W3, hW3⟩ : ∃ W3, W3 = (w.alloc (.cells #[.string nm, .int .i64 p, .int .i64 r, .slice ba bs.length bc] 38)).alloc (.cells (madeCells #[.bool false] bs.length) 4) := ⟨_, rfl⟩
  have hst : RefSt w W3 (w.heap.size + 1) bs.length ba bc (.slice none 0 0) [] := by
    rw [hW3]
    refine ⟨?_, World.ownsRow_nil _ _ _ _, ?_, ?_, fun b hb => by simp at hb, by omega⟩
    · have h1 := World.rowIs_made (w.alloc (.cells #[.string nm, .int .i64 p, .int .i64 r, .slice ba bs.length bc] 38)) (.bool false) bs.length 4
      rw [show (w.alloc (.cells #[.string nm, .int .i64 p, .int .i64 r, .slice ba bs.length bc] 38)).heap.size = w.heap.size + 1 by simp] at h1
      exact h1.congr (fun b hb => by simp [hadB])
    · (repeat (first | exact Below.refl _ _ | refine Below.alloc ?_ (by first | omega | (simp <;> omega)) _ | refine Below.setCell ?_ (by first | omega | (simp <;> omega)) _ | refine below_drewN ?_ _ | refine Below.drew ?_))
    · rw [World.cell?_alloc_past _ _ _ (by simp)]; simp
  rw [← hW3]
  have Hst := hid hst
  obtain ⟨H, hH⟩ : ∃ H, H = w.heap.size + 1 := ⟨_, rfl⟩
  rw [← hH] at Hst ⊢
  clear hst hW3 hH
  go_loopg [7, 8] (left [] bs.length) (fun g v7 v8 wr => ∃ (pre : List Nat) (bo : Option Nat) (v : Value), v = v7 ∧ v8 = .int .i64 (optInt bo) ∧ RefSt w wr H bs.length ba bc v pre ∧ g = left pre bs.length ∧ pre.length + left pre bs.length ≤ bs.length ∧
    (bo = none → layF bs (cntOf C) = pre) ∧ (∀ b, bo = some b → b < bs.length ∧ hadB pre b = false ∧ ∃ f, left (pre ++ [b]) bs.length ≤ f ∧ layRun bs (cntOf C) f (pre ++ [b]) = layF bs (cntOf C)))
  case atStart =>
    refine ⟨[], some 0, _, rfl, rfl, Hst.out, rfl, ?_, (fun h => (by cases h)), fun b hb => ?_⟩
    · have h2 := cnt_bound (fun b => !hadB [] b) bs.length
      unfold left; simp only [List.length_nil] at *; omega
    · cases hb
      exact ⟨hn0, rfl, bs.length, cnt_bound _ _, rfl⟩
  case round =>
    obtain ⟨pre, bo, v, rfl, rfl, hs, hg, hlen, hnone, hsome⟩ := hrel
    have Hs := hid hs
    have Hg := hid hg
    have Hlen := hid hlen
    have Hnone := hid hnone
    have Hsome := hid hsome
    clear hs hg hlen hnone hsome
    cases bo with
    | none =>
      simp only [optInt]
      have hr : Hid (layF bs (cntOf C) = pre) := Hnone.out rfl
      go_wp2_with fail
      go_ret
      refine ⟨_, rfl, ?_, Hs.out.below⟩
      rw [hr.out]
      have h : wr.ownsRow (H + 1) 3 1 v (pre.map fun b : Nat => (b : Int)).length ((pre.map fun b : Nat => (b : Int)).map (Value.int .i64)) := by
        rw [show (pre.map fun b : Nat => (b : Int)).length = pre.length by simp, show (pre.map fun b : Nat => (b : Int)).map (Value.int .i64) = pre.map natV by rw [List.map_map]; rfl]; exact Hs.out.own
      refine (own_ints h (fun y hy => ?_)).mono rInt_mono (fun b hb => by have := Hs.out.gH; omega) (Stays.refl _ _)
      obtain ⟨z, hz, rfl⟩ := List.mem_map.1 hy
      have := Hs.out.lt z hz
      unfold I64; omega
    | some b =>
      simp only [optInt]
      obtain ⟨hbn, hbh, f, hf, hrun⟩ := Hsome.out b rfl
      have Hrun := hid hrun
      have Hf := hid hf
      have Hbh := hid hbh
      have e3 := Hs.out.box
      have u1 := Hs.out.had.cell hbn
      have u2 := Hs.out.had.frozen b
      have z0 : H < wr.heap.size := Hs.out.had.lt
      have z1 : w.heap.size < wr.heap.size := cell_lt e3
      have z2 := Hs.out.gH
      have Hol : Hid (pre.length + 1 ≤ 1048576) := by have := Hlen.out; have h3 := left_lt hbn hbh; show _ ≤ _; omega
      clear hrun hf hbh
      go_wp2_with (at_builtin; refine wpList_append_own_at _ rfl _ _ 33 rfl (H + 1) 3 i0 (.int .i64 0) 1 8 Tryz.underlying33 hi hz0 hz1 hz2 rfl (by decide) v _ _ rfl (Hs.out.own.alloc _) ⟨wr.heap.size, 0, none⟩ 1 1 [natV b] rfl rfl (cell_one_new _ _ _) ?_ ?_ ?_ ?_ ?_)
      · intro u hu; simp at hu; subst hu; rfl
      · have := Hol.out; (try simp); unfold maxLen; omega
      · have := Hol.out; (try simp); omega
      · (try simp); omega
      · intro v' w1 hown hgrow hnil hblk
        have hs2 := Hs.out.next hbn _ hown hgrow
        have Hs2 := hid hs2
        obtain ⟨m1, m2, m3, m4⟩ := Hs.out.mid hbn _ hgrow
        obtain ⟨o, ocap, rfl, -, -⟩ := own_shape hown
        have y0 : H < w1.heap.size := cell_lt m1
        have y1 : w.heap.size < w1.heap.size := cell_lt m3
        obtain ⟨bb, boff, cs, rfl, -, hx, -, hcs⟩ := Hb.out.get hbn
        obtain ⟨pa, pc, la, lc, ta, tc, rfl, -, -, hts, -, -, htm, -, -⟩ := hx.opens
        have hcs0 := hcs.get6.2.2.2.2.2
        have hbb : bb < w.heap.size := cell_lt hcs0
        obtain ⟨d0, d1, d2, d3, d4, d5⟩ := (hcs.later m4).get6
        have Hts := hid hts
        clear hown hgrow hnil hblk hs2 m4 hcs hx hts d0 d1 d2 d3 d4 hcs0 u1 u2 e3
        go_wp2_with fail
        obtain ⟨w4, hw4⟩ : ∃ w4, w4 = w1.setCell ⟨H, b, none⟩ (.bool true) := ⟨_, rfl⟩
        rw [← hw4] at Hs2 ⊢
        clear hw4 m1 m2 m3 y0 y1
        obtain ⟨T, hT⟩ : ∃ T, T = targets bs b := ⟨_, rfl⟩
        have hTe : targets bs b = bs[b].fin.to.map Int.toNat := by unfold targets; rw [List.getElem?_eq_getElem hbn]
        have HT := hid (hT.trans hTe)
        have HT0 := hid hT
        have HTlt : Hid (∀ b ∈ T, b < bs.length) := fun b hb => by
          rw [HT.out] at hb
          obtain ⟨z, hz, rfl⟩ := List.mem_map.1 hb
          have := Hto.out b _ (List.getElem?_eq_getElem hbn) z hz
          omega
        clear hT hTe d5
        go_loopw [8, 10] (fun v8 i wi => ∃ (j : Nat) (q : Nat), j ≤ bs[b].fin.to.length ∧ i = .int .i64 j ∧ v8 = .int .i64 (optInt (pick (cntOf C) (hadB (pre ++ [b])) (T.take j))) ∧ w4.drewN q = wi) (fun _ i _ => bs[b].fin.to.length - (intOf i).toNat)
        case atStart => exact ⟨0, 0, Nat.zero_le _, rfl, rfl, rfl⟩
        case round =>
          obtain ⟨j, q, hj, rfl, rfl, rfl⟩ := hrel
          have hs := Hs2.out
          by_cases hjl : j < bs[b].fin.to.length
          · obtain ⟨b2, off2, cs, rfl, -, ⟨rfl, -⟩, -, hcs⟩ := (Hts.out.later rInt_mono hs.below).get hjl
            have t0 := hcs.get1
            rw [Nat.mul_one] at t0
            have htk := Hto.out b _ (List.getElem?_eq_getElem hbn) bs[b].fin.to[j] (List.getElem_mem hjl)
            obtain ⟨t, ht⟩ := Int.eq_ofNat_of_zero_le htk.1
            have htn : t < bs.length := by omega
            rw [ht] at t0
            have htT : Hid (T[j]? = some t) := by show _ = _; rw [HT.out, List.getElem?_map, List.getElem?_eq_getElem hjl, ht]; rfl
            have Ht := hid ht
            have hstep : Hid (pick (cntOf C) (hadB (pre ++ [b])) (T.take (j + 1)) = pickStep (cntOf C) (hadB (pre ++ [b])) (pick (cntOf C) (hadB (pre ++ [b])) (T.take j)) t) := by
              obtain ⟨h1, h2⟩ := List.getElem?_eq_some_iff.1 htT.out
              show _ = _
              rw [pick_take _ _ _ _ h1, h2]
            have u0 : w4.cell? ⟨H, t, none⟩ = some (.bool (hadB (pre ++ [b]) t)) := hs.had.cell htn
            have HCw := hid (HC.out.later rInt_mono hs.below)
            obtain ⟨cb, coff, rfl, y0⟩ := cnt_at HCw.out (t := t) (by rw [HCl.out]; exact htn)
            obtain ⟨out, hout⟩ : ∃ out, out = pre ++ [b] := ⟨_, rfl⟩
            rw [← hout] at u0 hstep ⊢
            have hbestlt : Hid (∀ y, pick (cntOf C) (hadB out) (T.take j) = some y → y < bs.length) := fun y hy => HTlt.out y (List.mem_of_mem_take (pick_mem _ _ _ y hy).1)
            generalize hbe : pick (cntOf C) (hadB out) (T.take j) = best at *
            have Hbe := hid hbe
            have Hout := hid hout
            clear hs hcs htk ht hout hbe
            by_cases hh : hadB out t = true
            · have Hn : Hid (pickStep (cntOf C) (hadB out) best t = best) := by
                show _ = _
                unfold pickStep; cases best <;> simp [hh]
              cases best with
              | none =>
                have hq : (decide ((-1 : Int) < 0)) = true := by decide
                simp only [optInt]
                go_wp2_with fail
                go_quiet (fail)
                go_wp2_with fail
                go_roundw
                case rel => exact ⟨j + 1, _, by omega, by go_num, by rw [hstep.out, Hn.out], rfl⟩
                case measure => simp [intOf]; omega
              | some b8 =>
                have hq : (decide ((b8 : Int) < 0)) = false := decide_eq_false (by omega)
                simp only [optInt]
                go_wp2_with fail
                go_quiet (fail)
                go_wp2_with fail
                go_roundw
                case rel => exact ⟨j + 1, _, by omega, by go_num, by rw [hstep.out, Hn.out], rfl⟩
                case measure => simp [intOf]; omega
            · have hh0 : hadB out t = false := by simpa using hh
              clear hh
              cases best with
              | none =>
                have Hn : Hid (pickStep (cntOf C) (hadB out) none t = some t) := by
                  show _ = _
                  unfold pickStep; simp [hh0]
                have hq : (decide ((-1 : Int) < 0)) = true := by decide
                simp only [optInt]
                go_wp2_with fail
                go_quiet (fail)
                go_wp2_with fail
                go_roundw
                case rel => exact ⟨j + 1, _, by omega, by go_num, by rw [hstep.out, Hn.out] <;> rfl, rfl⟩
                case measure => simp [intOf]; omega
              | some b3 =>
                obtain ⟨cb', coff', hcab, z0⟩ := cnt_at HCw.out (t := b3) (by rw [HCl.out]; exact hbestlt.out b3 rfl)
                cases hcab
                have hbl3 := hbestlt.out b3 rfl
                have htC : t < C.length := by rw [HCl.out]; exact htn
                have hbC : b3 < C.length := by rw [HCl.out]; exact hbl3
                have htC2 : (t : Int) < (C.length : Int) := by omega
                have hbC2 : (b3 : Int) < (C.length : Int) := by omega
                have hq : (decide ((b3 : Int) < 0)) = false := decide_eq_false (by omega)
                by_cases hcmp : cntOf C b3 < cntOf C t
                · have Hn : Hid (pickStep (cntOf C) (hadB out) (some b3) t = some t) := by
                    show _ = _
                    unfold pickStep; simp [hh0, hcmp]
                  have hq2 : decide (cntOf C b3 < cntOf C t) = true := decide_eq_true hcmp
                  simp only [optInt]
                  go_wp2_with fail
                  go_quiet (fail)
                  go_wp2_with fail
                  go_roundw
                  case rel => exact ⟨j + 1, _, by omega, by go_num, by rw [hstep.out, Hn.out] <;> rfl, rfl⟩
                  case measure => simp [intOf]; omega
                · have Hn : Hid (pickStep (cntOf C) (hadB out) (some b3) t = some b3) := by
                    show _ = _
                    unfold pickStep; simp [hcmp]
                  have hq2 : decide (cntOf C b3 < cntOf C t) = false := decide_eq_false hcmp
                  simp only [optInt]
                  go_wp2_with fail
                  go_quiet (fail)
                  go_wp2_with fail
                  go_roundw
                  case rel => exact ⟨j + 1, _, by omega, by go_num, by rw [hstep.out, Hn.out] <;> rfl, rfl⟩
                  case measure => simp [intOf]; omega
          · have hTl : T.take j = T := List.take_of_length_le (by rw [HT.out, List.length_map]; omega)
            rw [hTl]
            obtain ⟨bt, hbt⟩ : ∃ bt, bt = pick (cntOf C) (hadB (pre ++ [b])) T := ⟨_, rfl⟩
            rw [← hbt]
            have Hbt := hid hbt
            obtain ⟨out, hout⟩ : ∃ out, out = pre ++ [b] := ⟨_, rfl⟩
            have Hout := hid hout
            have hlast : out.getLastD 0 = b := by rw [hout, List.getLastD_eq_getLast?, List.getLast?_concat, Option.getD_some]
            have Hfin := hid (lay_fin (bs := bs) (c := cntOf C) (out := out) (f := f) (by rw [hlast, ← HT0.out]; exact HTlt.out) (by rw [hout]; exact Hf.out) (by rw [hout]; exact Hrun.out))
            have hnext1 : Hid (∀ y, bt = some y → layNext bs (cntOf C) out = some y) := fun y hy => by
              unfold layNext
              rw [hlast, ← HT0.out, hout, ← Hbt.out, hy]
            have hnext2 : Hid (bt = none → layNext bs (cntOf C) out = pick (cntOf C) (hadB out) (List.range bs.length)) := fun hy => by
              unfold layNext
              rw [hlast, ← HT0.out, hout, ← Hbt.out, hy]
            clear hTl hs hbt hout hlast
            go_wp2_with fail
            obtain ⟨wd, hwd⟩ : ∃ wd, wd = w4.drewN q := ⟨_, rfl⟩
            have Hs4 := hid (Hs2.out.drewN q)
            rw [← hwd] at Hs4 ⊢
            clear hwd
            cases bt with
            | some y0 =>
              have hy0 : y0 ∈ T := (pick_mem _ _ _ y0 Hbt.out.symm).1
              have hin : (y0 : Int) ∈ bs[b].fin.to := by
                rw [HT.out] at hy0
                obtain ⟨z, hz, hzy⟩ := List.mem_map.1 hy0
                have := Hto.out b _ (List.getElem?_eq_getElem hbn) z hz
                rw [← hzy, Int.toNat_of_nonneg this.1]; exact hz
              have hdin : decide ((y0 : Int) ∈ bs[b].fin.to) = true := decide_eq_true hin
              have Hdin := hid hdin
              clear hy0 hin hdin
              have hq : (decide ((y0 : Int) < 0)) = false := decide_eq_false (by omega)
              simp only [optInt]
              go_loopw [8, 11] (fun v8 i wi => ∃ (k : Nat), k ≤ bs.length ∧ i = .int .i64 k ∧ v8 = .int .i64 (y0 : Int) ∧ wd = wi) (fun _ i _ => bs.length - (intOf i).toNat)
              case atStart => exact ⟨0, Nat.zero_le _, rfl, rfl, rfl⟩
              case round =>
                obtain ⟨k, hk, rfl, rfl, rfl⟩ := hrel
                have hol := Hol.out
                by_cases hkl : k < bs.length ∧ pre.length + 1 < bs.length
                · obtain ⟨hk1, hk2⟩ := hkl
                  have c1 : wd.cell? ⟨H, k, none⟩ = some (.bool (hadB (pre ++ [b]) k)) := Hs4.out.had.cell hk1
                  have y0' : H < wd.heap.size := cell_lt c1
                  generalize hadB (pre ++ [b]) k = hb9 at c1
                  have hin := Hdin.out
                  cases hb9
                  · go_wp2_with (first | (go_at_call 62; ((with_reducible refine (weighIn_any (S := S) _ _ _ _ _ (Hts.out.later rInt_mono Hs4.out.below) htm).mono ?_); rintro e w' ⟨rfl, rfl⟩)))
                    go_roundw
                    case rel => exact ⟨k + 1, by omega, by go_num, rfl, trivial⟩
                    case measure => simp [intOf]; omega
                  · go_wp2_with fail
                    go_roundw
                    case rel => exact ⟨k + 1, by omega, by go_num, rfl, trivial⟩
                    case measure => simp [intOf]; omega
                · have hleave : Hid (layNext bs (cntOf C) out = some y0) := hnext1.out y0 rfl
                  have hl := left_lt hbn Hbh.out
                  by_cases hkn : k < bs.length
                  · have hk2 : ¬ pre.length + 1 < bs.length := fun h => hkl ⟨hkn, h⟩
                    go_wp2_with fail
                    go_roundg (left (pre ++ [b]) bs.length)
                    case measure => rw [Hg.out]; exact hl
                    case rel =>
                      refine ⟨pre ++ [b], some y0, _, rfl, rfl, Hs4.out, rfl, ?_, (fun h => (by cases h)), fun z hz => ?_⟩
                      · have := Hlen.out; simp only [List.length_append, List.length_singleton]; omega
                      · cases hz; rw [← Hout.out]; exact Hfin.out.2 y0 hleave.out
                  · go_wp2_with fail
                    go_roundg (left (pre ++ [b]) bs.length)
                    case measure => rw [Hg.out]; exact hl
                    case rel =>
                      refine ⟨pre ++ [b], some y0, _, rfl, rfl, Hs4.out, rfl, ?_, (fun h => (by cases h)), fun z hz => ?_⟩
                      · have := Hlen.out; simp only [List.length_append, List.length_singleton]; omega
                      · cases hz; rw [← Hout.out]; exact Hfin.out.2 y0 hleave.out
            | none =>
              have Hnot : Hid (∀ y, hadB out y = false → decide ((y : Int) ∈ bs[b].fin.to) = false) := fun y hy => decide_eq_false (fun hin => by
                have h := (pick_none _ _ _).1 Hbt.out.symm y (by rw [HT.out]; exact List.mem_map.2 ⟨(y : Int), hin, Int.toNat_natCast y⟩)
                rw [← Hout.out, hy] at h; cases h)
              go_loopw [8, 11] (fun v8 i wi => ∃ (k q : Nat), k ≤ bs.length ∧ i = .int .i64 k ∧ v8 = .int .i64 (optInt (pick (cntOf C) (hadB out) (List.range k))) ∧ wd.drewN q = wi) (fun _ i _ => bs.length - (intOf i).toNat)
              case atStart => exact ⟨0, 0, Nat.zero_le _, rfl, rfl, rfl⟩
              case round =>
                obtain ⟨k, q, hk, rfl, rfl, rfl⟩ := hrel
                have hol := Hol.out
                by_cases hkl : k < bs.length ∧ pre.length + 1 < bs.length
                · obtain ⟨hk1, hk2⟩ := hkl
                  have c1 : wd.cell? ⟨H, k, none⟩ = some (.bool (hadB out k)) := by rw [Hout.out]; exact Hs4.out.had.cell hk1
                  have y0' : H < wd.heap.size := cell_lt c1
                  have Hstep : Hid (pick (cntOf C) (hadB out) (List.range (k + 1)) = pickStep (cntOf C) (hadB out) (pick (cntOf C) (hadB out) (List.range k)) k) := by
                    show _ = _
                    rw [List.range_succ, pick_snoc]
                  have Hblt : Hid (∀ y, pick (cntOf C) (hadB out) (List.range k) = some y → y < bs.length ∧ hadB out y = false) := fun y hy => by
                    have h := pick_mem _ _ _ y hy
                    exact ⟨by have := h.1; simp at this; omega, h.2⟩
                  generalize hbe : pick (cntOf C) (hadB out) (List.range k) = best at *
                  clear hbe
                  by_cases hh : hadB out k = true
                  · rw [hh] at c1
                    have Hn : Hid (pickStep (cntOf C) (hadB out) best k = best) := by
                      show _ = _
                      unfold pickStep; cases best <;> simp [hh]
                    clear hh
                    go_wp2_with fail
                    go_roundw
                    case rel => exact ⟨k + 1, _, by omega, by go_num, by rw [Hstep.out, Hn.out] <;> rfl, rfl⟩
                    case measure => simp [intOf]; omega
                  · have hh0 : hadB out k = false := by simpa using hh
                    rw [hh0] at c1
                    have HCw := hid (HC.out.later rInt_mono Hs4.out.below)
                    obtain ⟨cb, coff, rfl, z0⟩ := cnt_at HCw.out (t := k) (by rw [HCl.out]; exact hk1)
                    have hkC : k < C.length := by rw [HCl.out]; exact hk1
                    clear hh
                    cases best with
                    | none =>
                      have Hn : Hid (pickStep (cntOf C) (hadB out) none k = some k) := by
                        show _ = _
                        unfold pickStep; simp [hh0]
                      have hq : (decide ((-1 : Int) < 0)) = true := by decide
                      clear hh0
                      simp only [optInt]
                      go_wp2_with fail
                      go_quiet (fail)
                      go_wp2_with fail
                      go_roundw
                      case rel => exact ⟨k + 1, _, by omega, by go_num, by rw [Hstep.out, Hn.out] <;> rfl, rfl⟩
                      case measure => simp [intOf]; omega
                    | some b3 =>
                      obtain ⟨hb3, hb3h⟩ := Hblt.out b3 rfl
                      obtain ⟨cb', coff', hcab, z3⟩ := cnt_at HCw.out (t := b3) (by rw [HCl.out]; exact hb3)
                      cases hcab
                      have hbC : b3 < C.length := by rw [HCl.out]; exact hb3
                      have hq : (decide ((b3 : Int) < 0)) = false := decide_eq_false (by omega)
                      have hin := Hnot.out b3 hb3h
                      by_cases hcmp : cntOf C b3 < cntOf C k
                      · have Hn : Hid (pickStep (cntOf C) (hadB out) (some b3) k = some k) := by
                          show _ = _
                          unfold pickStep; simp [hh0, hcmp]
                        have hq2 : decide (cntOf C b3 < cntOf C k) = true := decide_eq_true hcmp
                        clear hh0 hb3h
                        simp only [optInt]
                        go_wp2_with (first | (go_at_call 62; ((with_reducible refine (weighIn_any (S := S) _ _ _ _ _ (Hts.out.later rInt_mono ?_) htm).mono ?_); have h := Hs4.out.below; (repeat (first | exact Below.refl _ _ | exact (h).mono (by first | omega | (simp <;> omega) | (have hh := (h).size; (try simp at hh); omega) | (have hh := (h).size; (try simp at hh); (try simp); omega)) | refine Below.trans ?_ ((h).mono (by first | omega | (simp <;> omega) | (have hh := (h).size; (try simp at hh); omega) | (have hh := (h).size; (try simp at hh); (try simp); omega))) | refine Below.alloc ?_ (by first | omega | (simp <;> omega) | (have hh := (h).size; (try simp at hh); omega) | (have hh := (h).size; (try simp at hh); (try simp); omega)) _ | refine Below.setCell ?_ (by first | omega | (simp <;> omega) | (have hh := (h).size; (try simp at hh); omega) | (have hh := (h).size; (try simp at hh); (try simp); omega)) _ | refine below_drewN ?_ _ | refine Below.drew ?_)); rintro e w' ⟨rfl, rfl⟩)))
                        go_quiet (fail)
                        go_wp2_with fail
                        go_roundw
                        case rel => exact ⟨k + 1, _, by omega, by go_num, by rw [Hstep.out, Hn.out] <;> rfl, rfl⟩
                        case measure => simp [intOf]; omega
                      · have Hn : Hid (pickStep (cntOf C) (hadB out) (some b3) k = some b3) := by
                          show _ = _
                          unfold pickStep; simp [hcmp]
                        have hq2 : decide (cntOf C b3 < cntOf C k) = false := decide_eq_false hcmp
                        clear hh0 hb3h
                        simp only [optInt]
                        go_wp2_with (first | (go_at_call 62; ((with_reducible refine (weighIn_any (S := S) _ _ _ _ _ (Hts.out.later rInt_mono ?_) htm).mono ?_); have h := Hs4.out.below; (repeat (first | exact Below.refl _ _ | exact (h).mono (by first | omega | (simp <;> omega) | (have hh := (h).size; (try simp at hh); omega) | (have hh := (h).size; (try simp at hh); (try simp); omega)) | refine Below.trans ?_ ((h).mono (by first | omega | (simp <;> omega) | (have hh := (h).size; (try simp at hh); omega) | (have hh := (h).size; (try simp at hh); (try simp); omega))) | refine Below.alloc ?_ (by first | omega | (simp <;> omega) | (have hh := (h).size; (try simp at hh); omega) | (have hh := (h).size; (try simp at hh); (try simp); omega)) _ | refine Below.setCell ?_ (by first | omega | (simp <;> omega) | (have hh := (h).size; (try simp at hh); omega) | (have hh := (h).size; (try simp at hh); (try simp); omega)) _ | refine below_drewN ?_ _ | refine Below.drew ?_)); rintro e w' ⟨rfl, rfl⟩)))
                        go_quiet (fail)
                        go_wp2_with fail
                        go_roundw
                        case rel => exact ⟨k + 1, _, by omega, by go_num, by rw [Hstep.out, Hn.out] <;> rfl, rfl⟩
                        case measure => simp [intOf]; omega
                · have hl := left_lt hbn Hbh.out
                  have hleave : Hid (layNext bs (cntOf C) out = pick (cntOf C) (hadB out) (List.range k)) := by
                    show _ = _
                    rw [hnext2.out rfl]
                    by_cases hkn : k < bs.length
                    · have hz : left out bs.length = 0 := by rw [Hout.out]; have := Hlen.out; omega
                      have h1 := left_zero (c := cntOf C) hz
                      rw [h1]
                      exact ((pick_none _ _ _).2 (fun y hy => (pick_none _ _ _).1 h1 y (by simp at hy ⊢; omega))).symm
                    · rw [show k = bs.length by omega]
                  by_cases hkn : k < bs.length
                  · have hk2 : ¬ pre.length + 1 < bs.length := fun h => hkl ⟨hkn, h⟩
                    go_wp2_with fail
                    go_roundg (left (pre ++ [b]) bs.length)
                    case measure => rw [Hg.out]; exact hl
                    case rel =>
                      refine ⟨pre ++ [b], pick (cntOf C) (hadB out) (List.range k), _, rfl, rfl, Hs4.out.drewN _, rfl, ?_, fun h => ?_, fun z hz => ?_⟩
                      · have := Hlen.out; simp only [List.length_append, List.length_singleton]; omega
                      · rw [← Hout.out]; exact Hfin.out.1 (hleave.out.trans h)
                      · rw [← Hout.out]; exact Hfin.out.2 z (hleave.out.trans hz)
                  · go_wp2_with fail
                    go_roundg (left (pre ++ [b]) bs.length)
                    case measure => rw [Hg.out]; exact hl
                    case rel =>
                      refine ⟨pre ++ [b], pick (cntOf C) (hadB out) (List.range k), _, rfl, rfl, Hs4.out.drewN _, rfl, ?_, fun h => ?_, fun z hz => ?_⟩
                      · have := Hlen.out; simp only [List.length_append, List.length_singleton]; omega
                      · rw [← Hout.out]; exact Hfin.out.1 (hleave.out.trans h)
                      · rw [← Hout.out]; exact Hfin.out.2 z (hleave.out.trans hz)

end Go.Proofs.YtnkogppgacappaaGreatDoor
