/- ever.comes: what a value comes to behind so many instructions of a block (it calls itself). turneryref6.everComes. -/
import Derived.Test.YtaehkcnankijfaaDoorPEvWrB
import Derived.Test.YtaehkcnankijfaaDoorPRefRi
import Derived.Test.YtaehkcnankijfaaDoorPPair
import Derived.Deep.RegionWith
import Derived.BigRegion
namespace Go.Proofs.YtaehkcnankijfaaDoor
open Go.RowKit

theorem res_told {fn : Func} (hfn : fn.results = #[.cell 10 66]) {tmps : Array Value} {b : Nat} (ht : tmps.getD 10 undef = .pointer (some ⟨b, 0, none⟩)) {x y : Int} {W : World}
    (h0 : W.cell? ⟨b, 0, none⟩ = some (.int .i64 x)) (h1 : W.cell? ⟨b, 1, none⟩ = some (.int .i64 y)) : (results fn tmps).run Tryd.prog W = .ok (.agg #[.int .i64 x, .int .i64 y]) W := by
  simp only [Array.getD_eq_getD_getElem?] at ht
  simp [results, hfn, ht, go_sem, h0, h1]
theorem ret_told {t : Told} {a b : Int} (h : t = (a, b)) : Ending.returned (.agg #[.int .i64 a, .int .i64 b]) = .returned (.agg #[.int .i64 t.1, .int .i64 t.2]) := by rw [h]
/-- What is known fits the calls of a block. -/
def CallsFit (l : List DIns) (kn : List Told) : Prop := ∀ y ∈ l, y.op = 20 → (0 ≤ y.fn ∧ y.fn < (kn.length : Int)) ∧ ((kn.getD y.fn.toNat (0, 0)).1 = 2 → 0 ≤ (kn.getD y.fn.toNat (0, 0)).2 ∧ (kn.getD y.fn.toNat (0, 0)).2 < (y.args.length : Int))

set_option maxRecDepth 100000 in
set_option maxHeartbeats 4000000 in
theorem comes_any {S S' : Nat → Prop} (nm : ByteArray) (f : DFunc) (ba : Option Addr) (bc bn b : Nat) (x : DBlock) (ka : Option Addr) (kc kl : Nat) (kn : List Told)
    (hbn : f.blocks.length = bn) (hbn1 : bn ≤ 1048576) (hb : b < bn) (hx : f.blocks[b]? = some x) (hl1 : x.list.length ≤ 1048576) (hsm : ∀ y ∈ f.blocks, y.phis.length ≤ 1048576 ∧ y.list.length ≤ 1048576)
    (hfit : CallsFit x.list kn) (hkl : kn.length = kl) (_hkl1 : kl ≤ 1048576) :
    ∀ (n : Nat) (v : DVal) (w : World), n ≤ x.list.length → SlAt S w 6 rBlock (.slice ba bn bc) f.blocks → SlAt S' w 2 rPair (.slice ka kl kc) kn →
      Calls Tryd.prog 114 #[.agg #[.string nm, .int .i64 f.params, .int .i64 f.regs, .slice ba bn bc], .int .i64 (b : Int), .int .i64 (n : Int), .agg #[.bool v.reg, .int .i64 v.n], .slice ka kl kc] w fun e w' =>
        e = .returned (.agg #[.int .i64 (comesF f x.list kn n v).1, .int .i64 (comesF f x.list kn n v).2]) ∧ Below w.heap.size w w' := by
  have Hbn := hid hbn
  have Hx := hid hx
  have Hsm := hid hsm
  have Hfit := hid hfit
  have Hkl := hid hkl
  clear hbn hx hsm hfit hkl
  intro n
  induction n using Nat.strongRecOn with
  | _ n ih =>
    intro v w hn hbs hkn
    have Ih := hid ih
    obtain ⟨rg, hrg⟩ : ∃ rg, rg = v.reg := ⟨_, rfl⟩
    obtain ⟨vn, hvn⟩ : ∃ vn, vn = v.n := ⟨_, rfl⟩
    have Hrg := hid hrg
    have Hvn := hid hvn
    rw [← hrg, ← hvn]
    obtain ⟨pr, hpr⟩ : ∃ pr, pr = f.params := ⟨_, rfl⟩
    obtain ⟨rs, hrs⟩ : ∃ rs, rs = f.regs := ⟨_, rfl⟩
    have Hpr := hid hpr
    have Hrs := hid hrs
    rw [← hpr, ← hrs]
    obtain ⟨W, hW⟩ : ∃ W, W = ((w.alloc (.cells #[.string nm, .int .i64 pr, .int .i64 rs, .slice ba bn bc] 35)).alloc (.cells #[.bool rg, .int .i64 vn] 41)).alloc (.cells #[.int .i64 0, .int .i64 0] 66) := ⟨_, rfl⟩
    have hb0 : Below w.heap.size w W := by rw [hW]; (repeat (first | exact Below.refl _ _ | refine Below.alloc ?_ (by first | omega | (simp <;> omega)) _ | refine Below.setCell ?_ (by first | omega | (simp <;> omega)) _ | refine below_drewN ?_ _ | refine Below.drew ?_))
    obtain ⟨zW, hF1, hV1, hR1⟩ : W.heap.size = w.heap.size + 3 ∧ W.heap[w.heap.size]? = _ ∧ W.heap[w.heap.size + 1]? = _ ∧ W.heap[w.heap.size + 1 + 1]? = _ := by rw [hW]; exact heap_three' _ _ _ _
    obtain ⟨FB, hFB⟩ : ∃ FB, FB = w.heap.size := ⟨_, rfl⟩
    have HFB := hid hFB
    rw [← hFB] at hF1 hV1 hR1
    have c0 : W.cell? ⟨FB, 0, none⟩ = some (.string nm) := by rw [cell_row hF1]; rfl
    have c1 : W.cell? ⟨FB, 1, none⟩ = some (.int .i64 pr) := by rw [cell_row hF1]; rfl
    have c2 : W.cell? ⟨FB, 2, none⟩ = some (.int .i64 rs) := by rw [cell_row hF1]; rfl
    have c3 : W.cell? ⟨FB, 3, none⟩ = some (.slice ba bn bc) := by rw [cell_row hF1]; rfl
    have v0 : W.cell? ⟨FB + 1, 0, none⟩ = some (.bool rg) := by rw [cell_row hV1]; rfl
    have v1 : W.cell? ⟨FB + 1, 1, none⟩ = some (.int .i64 vn) := by rw [cell_row hV1]; rfl
    have r0 : W.cell? ⟨FB + 1 + 1, 0, none⟩ = some (.int .i64 0) := by rw [cell_row hR1]; rfl
    have r1 : W.cell? ⟨FB + 1 + 1, 1, none⟩ = some (.int .i64 0) := by rw [cell_row hR1]; rfl
    have f0 : W.frozen? ⟨FB + 1 + 1, 0, none⟩ = false := by simp [World.frozen?, hR1]
    have f1 : W.frozen? ⟨FB + 1 + 1, 1, none⟩ = false := by simp [World.frozen?, hR1]
    have zF : FB + 1 + 1 < W.heap.size := cell_lt r0
    have HW := hid hW
    have Hb0 := hid hb0
    have Hbs := hid (hbs.later rBlock_mono hb0)
    have Hkn := hid (hkn.later rPair_mono hb0)
    clear hbs hkn hb0 hW ih hF1 hV1 hR1 zW hrg hvn hpr hrs hFB
    go_enter Tryd.func114, Tryd.ntmps114
    go_upto_region 1 with (fail)
    rw [← HFB.out, ← HW.out]
    cases rg with
    | false =>
      have Hr : Hid (comesF f x.list kn n v = (1, vn)) := by
        show _ = _
        have e := Hrg.out
        cases n with
        | zero => rw [comesF, startF, if_pos e.symm, Hvn.out]
        | succ n => rw [comesF, if_pos e.symm, Hvn.out]
      go_wp2_with fail
      have q := set_two (w := W) (u := .int .i64 1) (v := .int .i64 vn) r0 r1
      refine bodyPost_ret (res_told rfl rfl q.1 q.2) rfl ⟨ret_told Hr.out, ?_⟩
      exact (Hb0.out.setCell (p := ⟨FB + 1 + 1, 0, none⟩) (by dsimp only; rw [HFB.out]; omega) _).setCell (p := ⟨FB + 1 + 1, 1, none⟩) (by dsimp only; rw [HFB.out]; omega) _
    | true =>
      have Hvreg : Hid (v.reg = true) := Hrg.out.symm
      obtain ⟨xb, xoff, pa, pc, la, lc, ta, tc, hbae, hcb, -, hli, -, -, -⟩ := block_at Hbs.out (k := b) (by rw [Hbn.out]; exact hb)
      subst hbae
      have hxe : f.blocks[b]'(by rw [Hbn.out]; exact hb) = x := by
        have h := Hx.out
        rw [List.getElem?_eq_getElem (by rw [Hbn.out]; exact hb)] at h
        exact Option.some.inj h
      rw [hxe] at hcb hli
      obtain ⟨d0, d1, d2, d3, d4, d5⟩ := hcb.get6
      obtain ⟨ln, hln⟩ : ∃ ln, ln = x.list.length := ⟨_, rfl⟩
      obtain ⟨pn, hpn⟩ : ∃ pn, pn = x.phis.length := ⟨_, rfl⟩
      obtain ⟨tn, htn⟩ : ∃ tn, tn = x.fin.to.length := ⟨_, rfl⟩
      obtain ⟨kd, hkd⟩ : ∃ kd, kd = x.fin.kind := ⟨_, rfl⟩
      obtain ⟨er, her⟩ : ∃ er, er = x.fin.on.reg := ⟨_, rfl⟩
      obtain ⟨en, hen⟩ : ∃ en, en = x.fin.on.n := ⟨_, rfl⟩
      rw [← hpn] at d0
      rw [← hln] at d1 hn hl1
      rw [← hkd] at d2
      rw [← her] at d3
      rw [← hen] at d4
      rw [← htn] at d5
      have Hli := hid hli
      have Hln := hid hln
      have zx : xb < W.heap.size := cell_lt d0
      obtain ⟨W2, hW2⟩ : ∃ W2, W2 = W.alloc (.cells #[.slice pa pn pc, .slice la ln lc, .int .i64 kd, .bool er, .int .i64 en, .slice ta tn tc] 47) := ⟨_, rfl⟩
      have hb2 : Below W.heap.size W W2 := by rw [hW2]; (repeat (first | exact Below.refl _ _ | refine Below.alloc ?_ (by first | omega | (simp <;> omega)) _ | refine Below.setCell ?_ (by first | omega | (simp <;> omega)) _ | refine below_drewN ?_ _ | refine Below.drew ?_))
      have x1 : W2.cell? ⟨W.heap.size, 1, none⟩ = some (.slice la ln lc) := by rw [hW2]; simp
      obtain ⟨XB, hXB⟩ : ∃ XB, XB = W.heap.size := ⟨_, rfl⟩
      have HXB := hid hXB
      rw [← hXB] at x1
      have HW2 := hid hW2
      have Hb2 := hid hb2
      clear hcb hli hln hpn htn hkd her hen hxe hW2 hb2 hXB
      go_wp2_with fail
      rw [← HXB.out, ← HW2.out]
      have C0 := hid (cell_later' c0 Hb2.out)
      have C1 := hid (cell_later' c1 Hb2.out)
      have C2 := hid (cell_later' c2 Hb2.out)
      have C3 := hid (cell_later' c3 Hb2.out)
      have V1 := hid (cell_later' v1 Hb2.out)
      have R0 := hid (cell_later' r0 Hb2.out)
      have R1 := hid (cell_later' r1 Hb2.out)
      have F0 := hid ((Hb2.out.frozen (p := ⟨FB + 1 + 1, 0, none⟩) zF).trans f0)
      have F1 := hid ((Hb2.out.frozen (p := ⟨FB + 1 + 1, 1, none⟩) zF).trans f1)
      have X1 := hid x1
      have zF2 : FB + 1 + 1 < W2.heap.size := cell_lt R0.out
      have zX2 : XB < W2.heap.size := cell_lt x1
      have Hw2 : Hid (Below w.heap.size w W2) := Hb0.out.trans (Hb2.out.mono Hb0.out.size)
      clear c0 c1 c2 c3 v0 v1 r0 r1 f0 f1 x1 d0 d1 d2 d3 d4 d5
      go_loopw [12] (fun s12 wr => ∃ j : Nat, j ≤ n ∧ s12 = .int .i64 ((j : Int) - 1) ∧ comesF f x.list kn n v = comesF f x.list kn j v ∧ Below W2.heap.size W2 wr) (fun s12 _ => (intOf s12 + 1).toNat)
      case atStart => exact ⟨n, Nat.le_refl _, rfl, rfl, Below.refl _ _⟩
      case round =>
        obtain ⟨j', hj, rfl, hcf, hbr⟩ := hrel
        have Hcf := hid hcf
        have Hbr := hid hbr
        have Hwr : Hid (Below w.heap.size w wr) := Hw2.out.trans (hbr.mono Hw2.out.size)
        have c0 := cell_later' C0.out hbr
        have c1 := cell_later' C1.out hbr
        have c2 := cell_later' C2.out hbr
        have c3 := cell_later' C3.out hbr
        have v1 := cell_later' V1.out hbr
        have r0 := cell_later' R0.out hbr
        have r1 := cell_later' R1.out hbr
        have f0 := (hbr.frozen (p := ⟨FB + 1 + 1, 0, none⟩) zF2).trans F0.out
        have f1 := (hbr.frozen (p := ⟨FB + 1 + 1, 1, none⟩) zF2).trans F1.out
        have x1 := cell_later' X1.out hbr
        have zr := hbr.size
        have zA0 : FB < wr.heap.size := cell_lt c0
        have zA1 : FB + 1 < wr.heap.size := cell_lt v1
        have zA2 : FB + 1 + 1 < wr.heap.size := cell_lt r0
        have zA3 : XB < wr.heap.size := cell_lt x1
        clear hcf hbr
        cases j' with
        | zero =>
          have e0 : ((0 : Nat) : Int) - 1 = -1 := by omega
          rw [e0]
          have Hcf0 : Hid (comesF f x.list kn n v = startF f v) := by show _ = _; rw [Hcf.out, comesF]
          have hbs3 : SlAt S wr 6 rBlock (.slice (some ⟨xb, xoff, none⟩) bn bc) f.blocks := Hbs.out.later rBlock_mono (Hb2.out.trans (Hbr.out.mono Hb2.out.size))
          have hcw := everWritesP_any (S := S) nm f (some ⟨xb, xoff, none⟩) bc bn vn wr hbs3 Hbn.out hbn1 Hsm.out
          rw [← Hpr.out] at hcw
          obtain ⟨rs2, hrs2⟩ : ∃ rs2, rs2 = f.regs := ⟨_, rfl⟩
          have hrs3 : rs = rs2 := by rw [hrs2]; exact Hrs.out
          rw [← hrs2, ← hrs3] at hcw
          have Hcw := hid hcw
          clear hbs3 hcw hrs2 hrs3 hj
          by_cases hlt : vn < pr
          · have q0 : decide (vn < pr) = true := decide_eq_true hlt
            obtain ⟨wb, hwb⟩ : ∃ wb, wb = writesB f vn := ⟨_, rfl⟩
            rw [← hwb] at Hcw
            have Hwb := hid hwb
            have Hlt := hid hlt
            clear hwb hlt
            cases wb with
            | true =>
              have Hr : Hid (comesF f x.list kn n v = (0, 0)) := by
                show _ = _
                rw [Hcf0.out, startF, if_neg (by rw [Hvreg.out]; simp), if_neg (fun h => by rw [← Hvn.out, ← Hwb.out] at h; cases h.2)]
              go_wp2_with (go_at_call 148; ((with_reducible refine Hcw.out.mono ?_); rintro e w4 ⟨rfl, hb4⟩; have r0 := cell_later' r0 hb4; have r1 := cell_later' r1 hb4; have f0 := (hb4.frozen (p := ⟨FB + 1 + 1, 0, none⟩) (Nat.lt_of_lt_of_le zF2 zr)).trans f0; have f1 := (hb4.frozen (p := ⟨FB + 1 + 1, 1, none⟩) (Nat.lt_of_lt_of_le zF2 zr)).trans f1; have zF4 := cell_lt r0; have Hw4 := hid (Hwr.out.trans (hb4.mono Hwr.out.size)); clear hb4))
              have q := set_two (w := w4) (u := .int .i64 0) (v := .int .i64 0) r0 r1
              refine bodyPost_ret (res_told rfl rfl q.1 q.2) rfl ⟨ret_told Hr.out, ?_⟩
              exact (Hw4.out.setCell (p := ⟨FB + 1 + 1, 0, none⟩) (by dsimp only; rw [HFB.out]; omega) _).setCell (p := ⟨FB + 1 + 1, 1, none⟩) (by dsimp only; rw [HFB.out]; omega) _
            | false =>
              have Hr : Hid (comesF f x.list kn n v = (2, vn)) := by
                show _ = _
                rw [Hcf0.out, startF, if_neg (by rw [Hvreg.out]; simp), if_pos ⟨by rw [← Hvn.out, ← Hpr.out]; exact Hlt.out, by rw [← Hvn.out, ← Hwb.out]⟩, Hvn.out]
              go_wp2_with (go_at_call 148; ((with_reducible refine Hcw.out.mono ?_); rintro e w4 ⟨rfl, hb4⟩; have r0 := cell_later' r0 hb4; have r1 := cell_later' r1 hb4; have v1 := cell_later' v1 hb4; have f0 := (hb4.frozen (p := ⟨FB + 1 + 1, 0, none⟩) (Nat.lt_of_lt_of_le zF2 zr)).trans f0; have f1 := (hb4.frozen (p := ⟨FB + 1 + 1, 1, none⟩) (Nat.lt_of_lt_of_le zF2 zr)).trans f1; have zF4 := cell_lt r0; have Hw4 := hid (Hwr.out.trans (hb4.mono Hwr.out.size)); clear hb4))
              have q := set_two (w := w4) (u := .int .i64 2) (v := .int .i64 vn) r0 r1
              refine bodyPost_ret (res_told rfl rfl q.1 q.2) rfl ⟨ret_told Hr.out, ?_⟩
              exact (Hw4.out.setCell (p := ⟨FB + 1 + 1, 0, none⟩) (by dsimp only; rw [HFB.out]; omega) _).setCell (p := ⟨FB + 1 + 1, 1, none⟩) (by dsimp only; rw [HFB.out]; omega) _
          · have q0 : decide (vn < pr) = false := decide_eq_false hlt
            have Hr : Hid (comesF f x.list kn n v = (0, 0)) := by
              show _ = _
              rw [Hcf0.out, startF, if_neg (by rw [Hvreg.out]; simp), if_neg (fun h => hlt (by rw [Hvn.out, Hpr.out]; exact h.1))]
            clear hlt
            go_wp2_with fail
            have q := set_two (w := wr) (u := .int .i64 0) (v := .int .i64 0) r0 r1
            refine bodyPost_ret (res_told rfl rfl q.1 q.2) rfl ⟨ret_told Hr.out, ?_⟩
            exact (Hwr.out.setCell (p := ⟨FB + 1 + 1, 0, none⟩) (by dsimp only; rw [HFB.out]; omega) _).setCell (p := ⟨FB + 1 + 1, 1, none⟩) (by dsimp only; rw [HFB.out]; omega) _
        | succ j =>
          have e0 : ((j + 1 : Nat) : Int) - 1 = (j : Int) := by omega
          rw [e0]
          have hjl : j < x.list.length := by rw [← Hln.out]; omega
          have hjn : j < n := by omega
          have hjl2 : j < ln := by omega
          have HbWr : Hid (Below W.heap.size W wr) := Hb2.out.trans (Hbr.out.mono Hb2.out.size)
          obtain ⟨ib, ioff, ra, rc, hiae, hci, hia, hI⟩ := ins_at (Hli.out.later rIns_mono HbWr.out) (k := j) hjl
          subst hiae
          obtain ⟨y, hy⟩ : ∃ y, y = x.list[j]'hjl := ⟨_, rfl⟩
          rw [← hy] at hci hia hI
          have hyg : x.list.getD j noIns = y := by rw [hy, List.getD_eq_getElem?_getD, List.getElem?_eq_getElem hjl]; rfl
          have hym : y ∈ x.list := by rw [hy]; exact List.getElem_mem _
          have hyf := Hfit.out y hym
          obtain ⟨op, hop⟩ : ∃ op, op = y.op := ⟨_, rfl⟩
          obtain ⟨ds, hds⟩ : ∃ ds, ds = y.dst := ⟨_, rfl⟩
          obtain ⟨ar, har⟩ : ∃ ar, ar = y.a.reg := ⟨_, rfl⟩
          obtain ⟨an, han⟩ : ∃ an, an = y.a.n := ⟨_, rfl⟩
          obtain ⟨br, hbr'⟩ : ∃ br, br = y.b.reg := ⟨_, rfl⟩
          obtain ⟨bn', hbn'⟩ : ∃ bn', bn' = y.b.n := ⟨_, rfl⟩
          obtain ⟨fn, hfn⟩ : ∃ fn, fn = y.fn := ⟨_, rfl⟩
          obtain ⟨al, hal⟩ : ∃ al, al = y.args.length := ⟨_, rfl⟩
          have hya : y.a = ⟨ar, an⟩ := by rw [har, han]
          obtain ⟨i0, i1, i2, i3, i4, i5, i6, i7⟩ := hci.get8
          rw [← hop] at i0 hyf
          rw [← hds] at i1
          rw [← har] at i2
          rw [← han] at i3
          rw [← hbr'] at i4
          rw [← hbn'] at i5
          rw [← hfn] at i6 hyf
          rw [← hal] at i7 hyf hia
          have zi : ib < wr.heap.size := cell_lt i0
          have Hyf := hid hyf
          have Hia := hid hia
          have Hal := hid hal
          have Hcf1 : Hid (comesF f x.list kn n v = if ds ≠ vn then comesF f x.list kn j v else if op = 1 then comesF f x.list kn j ⟨ar, an⟩ else if op = 20 then
              (if (kn.getD fn.toNat (0, 0)).1 = 1 then kn.getD fn.toNat (0, 0) else if (kn.getD fn.toNat (0, 0)).1 = 2 then comesF f x.list kn j (y.args.getD (kn.getD fn.toNat (0, 0)).2.toNat ⟨false, 0⟩) else (0, 0)) else (0, 0)) := by
            show _ = _
            rw [Hcf.out, comesF, if_neg (by rw [Hvreg.out]; simp), hyg, ← hop, ← hds, ← hfn, hya, ← Hvn.out]
          have Hrec : Hid (∀ (u : DVal) (V : World), Below W.heap.size W V → Calls Tryd.prog 114 #[.agg #[.string nm, .int .i64 pr, .int .i64 rs, .slice (some ⟨xb, xoff, none⟩) bn bc], .int .i64 (b : Int), .int .i64 (j : Int), .agg #[.bool u.reg, .int .i64 u.n], .slice ka kl kc] V fun e w' =>
              e = .returned (.agg #[.int .i64 (comesF f x.list kn j u).1, .int .i64 (comesF f x.list kn j u).2]) ∧ Below V.heap.size V w') := fun u V hV => by
            have h := Ih.out j hjn u V (by omega) (Hbs.out.later rBlock_mono hV) (Hkn.out.later rPair_mono hV)
            rw [← Hpr.out, ← Hrs.out] at h
            exact h
          clear hci hia hI hy hyg hym hyf hop hds har han hbr' hbn' hfn hal hya hjl
          by_cases hd : ds = vn
          · have q0 : (decide (ds < vn) || decide (vn < ds)) = false := ne_no hd
            have Hcf2 : Hid (comesF f x.list kn n v = if op = 1 then comesF f x.list kn j ⟨ar, an⟩ else if op = 20 then
              (if (kn.getD fn.toNat (0, 0)).1 = 1 then kn.getD fn.toNat (0, 0) else if (kn.getD fn.toNat (0, 0)).1 = 2 then comesF f x.list kn j (y.args.getD (kn.getD fn.toNat (0, 0)).2.toNat ⟨false, 0⟩) else (0, 0)) else (0, 0)) := by
              show _ = _
              rw [Hcf1.out, if_neg (fun h => h hd)]
            clear hd Hcf1 Hcf
            have hlater : ∀ V w4 : World, Below wr.heap.size wr V → Below V.heap.size V w4 → w4.cell? ⟨FB + 1 + 1, 0, none⟩ = some (.int .i64 0) ∧ w4.cell? ⟨FB + 1 + 1, 1, none⟩ = some (.int .i64 0) ∧ w4.frozen? ⟨FB + 1 + 1, 0, none⟩ = false ∧ w4.frozen? ⟨FB + 1 + 1, 1, none⟩ = false ∧ FB + 1 + 1 < w4.heap.size ∧ Below w.heap.size w w4 := fun V w4 h1 h2 => by
              have h3 := h1.trans (h2.mono h1.size)
              exact ⟨cell_later' r0 h3, cell_later' r1 h3, (h3.frozen (p := ⟨FB + 1 + 1, 0, none⟩) (Nat.lt_of_lt_of_le zF2 zr)).trans f0, (h3.frozen (p := ⟨FB + 1 + 1, 1, none⟩) (Nat.lt_of_lt_of_le zF2 zr)).trans f1, cell_lt (cell_later' r0 h3), Hwr.out.trans (h3.mono Hwr.out.size)⟩
            have Hlater := hid hlater
            clear hlater
            by_cases h1 : op = 1
            · have q1 : (decide (op ≤ 1) && decide (1 ≤ op)) = true := eq_yes h1
              obtain ⟨p1, hp1⟩ : ∃ p1, p1 = (comesF f x.list kn j ⟨ar, an⟩).1 := ⟨_, rfl⟩
              obtain ⟨p2, hp2⟩ : ∃ p2, p2 = (comesF f x.list kn j ⟨ar, an⟩).2 := ⟨_, rfl⟩
              have Hr : Hid (comesF f x.list kn n v = (p1, p2)) := by show _ = _; rw [Hcf2.out, if_pos h1, hp1, hp2]
              have Hc : Hid (∀ V, Below W.heap.size W V → Calls Tryd.prog 114 #[.agg #[.string nm, .int .i64 pr, .int .i64 rs, .slice (some ⟨xb, xoff, none⟩) bn bc], .int .i64 (b : Int), .int .i64 (j : Int), .agg #[.bool ar, .int .i64 an], .slice ka kl kc] V fun e w' => e = .returned (.agg #[.int .i64 p1, .int .i64 p2]) ∧ Below V.heap.size V w') := fun V hV => by
                rw [hp1, hp2]; exact Hrec.out ⟨ar, an⟩ V hV
              clear h1 hp1 hp2
              go_wp2_with (go_at_call 114; (with_reducible refine (Hc.out _ ?_).mono ?_); (have h := HbWr.out; (repeat (first | exact Below.refl _ _ | exact (h).mono (by first | omega | (simp <;> omega) | (have hh := (h).size; (try simp at hh); omega) | (have hh := (h).size; (try simp at hh); (try simp); omega)) | refine Below.trans ?_ ((h).mono (by first | omega | (simp <;> omega) | (have hh := (h).size; (try simp at hh); omega) | (have hh := (h).size; (try simp at hh); (try simp); omega))) | refine Below.alloc ?_ (by first | omega | (simp <;> omega) | (have hh := (h).size; (try simp at hh); omega) | (have hh := (h).size; (try simp at hh); (try simp); omega)) _ | refine Below.setCell ?_ (by first | omega | (simp <;> omega) | (have hh := (h).size; (try simp at hh); omega) | (have hh := (h).size; (try simp at hh); (try simp); omega)) _ | refine below_drewN ?_ _ | refine Below.drew ?_))); rintro e w4 ⟨rfl, hb4⟩; obtain ⟨r0, r1, f0, f1, zF4, hw4⟩ := Hlater.out _ w4 (by (repeat (first | exact Below.refl _ _ | refine Below.alloc ?_ (by first | omega | (simp <;> omega)) _ | refine Below.setCell ?_ (by first | omega | (simp <;> omega)) _ | refine below_drewN ?_ _ | refine Below.drew ?_))) hb4; have Hw4 := hid hw4; clear hb4 hw4)
              have q := set_two (w := w4) (u := .int .i64 p1) (v := .int .i64 p2) r0 r1
              refine bodyPost_ret (res_told rfl rfl q.1 q.2) rfl ⟨ret_told Hr.out, ?_⟩
              exact (Hw4.out.setCell (p := ⟨FB + 1 + 1, 0, none⟩) (by dsimp only; rw [HFB.out]; omega) _).setCell (p := ⟨FB + 1 + 1, 1, none⟩) (by dsimp only; rw [HFB.out]; omega) _
            · have q1 : (decide (op ≤ 1) && decide (1 ≤ op)) = false := eq_no h1
              by_cases h20 : op = 20
              · have q2 : (decide (op ≤ 20) && decide (20 ≤ op)) = true := eq_yes h20
                obtain ⟨⟨hf0, hf1⟩, hf2⟩ := Hyf.out h20
                obtain ⟨fnn, rfl⟩ := Int.eq_ofNat_of_zero_le hf0
                have hfk : fnn < kn.length := by omega
                have hfk2 : fnn < kl := by rw [← Hkl.out]; exact hfk
                obtain ⟨kb, koff, cs, hka, -, hrp, -, hcs⟩ := (Hkn.out.later rPair_mono HbWr.out).get hfk
                subst hka
                obtain ⟨t1, ht1⟩ : ∃ t1, t1 = (kn[fnn]).1 := ⟨_, rfl⟩
                obtain ⟨t2, ht2⟩ : ∃ t2, t2 = (kn[fnn]).2 := ⟨_, rfl⟩
                have hrp' : cs = [.int .i64 t1, .int .i64 t2] := by rw [ht1, ht2]; exact hrp
                subst hrp'
                obtain ⟨k0, k1⟩ := hcs.get2
                have htt : kn.getD (fnn : Int).toNat (0, 0) = (t1, t2) := by rw [Int.toNat_natCast, List.getD_eq_getElem?_getD, List.getElem?_eq_getElem hfk, ht1, ht2]; rfl
                rw [htt] at hf2
                dsimp only at hf2
                have zk : kb < wr.heap.size := cell_lt k0
                have Hcf3 : Hid (comesF f x.list kn n v = if t1 = 1 then (t1, t2) else if t1 = 2 then comesF f x.list kn j (y.args.getD t2.toNat ⟨false, 0⟩) else (0, 0)) := by
                  show _ = _
                  rw [Hcf2.out, if_neg h1, if_pos h20, htt]
                clear h1 h20 Hcf2 Hyf hcs hrp ht1 ht2 htt hf1 hf0 hfk
                by_cases ht1 : t1 = 1
                · have q3 : (decide (t1 ≤ 1) && decide (1 ≤ t1)) = true := eq_yes ht1
                  have Hr : Hid (comesF f x.list kn n v = (t1, t2)) := by show _ = _; rw [Hcf3.out, if_pos ht1]
                  clear ht1 hf2
                  go_wp2_with fail
                  refine bodyPost_ret (res_told rfl rfl (cell_later' (set_two r0 r1).1 (by (repeat (first | exact Below.refl _ _ | refine Below.alloc ?_ (by first | omega | (simp <;> omega)) _ | refine Below.setCell ?_ (by first | omega | (simp <;> omega)) _ | refine below_drewN ?_ _ | refine Below.drew ?_)))) (cell_later' (set_two r0 r1).2 (by (repeat (first | exact Below.refl _ _ | refine Below.alloc ?_ (by first | omega | (simp <;> omega)) _ | refine Below.setCell ?_ (by first | omega | (simp <;> omega)) _ | refine below_drewN ?_ _ | refine Below.drew ?_))))) rfl ⟨ret_told Hr.out, ?_⟩
                  have h := Hwr.out
                  have hFB := HFB.out
                  (repeat (first | exact Below.refl _ _ | exact (h).mono (by first | omega | (simp <;> omega) | (have hh := (h).size; (try simp at hh); omega) | (have hh := (h).size; (try simp at hh); (try simp); omega)) | refine Below.trans ?_ ((h).mono (by first | omega | (simp <;> omega) | (have hh := (h).size; (try simp at hh); omega) | (have hh := (h).size; (try simp at hh); (try simp); omega))) | refine Below.alloc ?_ (by first | omega | (simp <;> omega) | (have hh := (h).size; (try simp at hh); omega) | (have hh := (h).size; (try simp at hh); (try simp); omega)) _ | refine Below.setCell ?_ (by first | omega | (simp <;> omega) | (have hh := (h).size; (try simp at hh); omega) | (have hh := (h).size; (try simp at hh); (try simp); omega)) _ | refine below_drewN ?_ _ | refine Below.drew ?_))
                · have q3 : (decide (t1 ≤ 1) && decide (1 ≤ t1)) = false := eq_no ht1
                  by_cases ht2 : t1 = 2
                  · obtain ⟨hg0, hg1⟩ := hf2 ht2
                    obtain ⟨m, rfl⟩ := Int.eq_ofNat_of_zero_le hg0
                    have hml : m < y.args.length := by rw [← Hal.out]; omega
                    have hml2 : m < al := by omega
                    obtain ⟨ab, aoff, cs, haa, -, hrv, -, hcs⟩ := Hia.out.get hml
                    subst haa
                    obtain ⟨ur, hur⟩ : ∃ ur, ur = (y.args[m]).reg := ⟨_, rfl⟩
                    obtain ⟨un, hun⟩ : ∃ un, un = (y.args[m]).n := ⟨_, rfl⟩
                    obtain ⟨hrv1, -⟩ := hrv
                    rw [← hur, ← hun] at hrv1
                    subst hrv1
                    obtain ⟨g0, g1⟩ := hcs.get2
                    have za : ab < wr.heap.size := cell_lt g0
                    have q4 : (decide (t1 ≤ 2) && decide (2 ≤ t1)) = true := eq_yes ht2
                    have hge : y.args.getD (m : Int).toNat ⟨false, 0⟩ = ⟨ur, un⟩ := by rw [Int.toNat_natCast, List.getD_eq_getElem?_getD, List.getElem?_eq_getElem hml, hur, hun]; rfl
                    obtain ⟨p1, hp1⟩ : ∃ p1, p1 = (comesF f x.list kn j ⟨ur, un⟩).1 := ⟨_, rfl⟩
                    obtain ⟨p2, hp2⟩ : ∃ p2, p2 = (comesF f x.list kn j ⟨ur, un⟩).2 := ⟨_, rfl⟩
                    have Hr : Hid (comesF f x.list kn n v = (p1, p2)) := by show _ = _; rw [Hcf3.out, if_neg ht1, if_pos ht2, hge, hp1, hp2]
                    have Hc : Hid (∀ V, Below W.heap.size W V → Calls Tryd.prog 114 #[.agg #[.string nm, .int .i64 pr, .int .i64 rs, .slice (some ⟨xb, xoff, none⟩) bn bc], .int .i64 (b : Int), .int .i64 (j : Int), .agg #[.bool ur, .int .i64 un], .slice (some ⟨kb, koff, none⟩) kl kc] V fun e w' => e = .returned (.agg #[.int .i64 p1, .int .i64 p2]) ∧ Below V.heap.size V w') := fun V hV => by
                      rw [hp1, hp2]; exact Hrec.out ⟨ur, un⟩ V hV
                    clear ht1 ht2 hf2 hcs hur hun hge hp1 hp2 hg0 hg1 hml Hcf3
                    go_wp2_with fail
                    go_region_with (first | (go_at_call 114; (with_reducible refine (Hc.out _ ?_).mono ?_); (have h := HbWr.out; (repeat (first | exact Below.refl _ _ | exact (h).mono (by first | omega | (simp <;> omega) | (have hh := (h).size; (try simp at hh); omega) | (have hh := (h).size; (try simp at hh); (try simp); omega)) | refine Below.trans ?_ ((h).mono (by first | omega | (simp <;> omega) | (have hh := (h).size; (try simp at hh); omega) | (have hh := (h).size; (try simp at hh); (try simp); omega))) | refine Below.alloc ?_ (by first | omega | (simp <;> omega) | (have hh := (h).size; (try simp at hh); omega) | (have hh := (h).size; (try simp at hh); (try simp); omega)) _ | refine Below.setCell ?_ (by first | omega | (simp <;> omega) | (have hh := (h).size; (try simp at hh); omega) | (have hh := (h).size; (try simp at hh); (try simp); omega)) _ | refine below_drewN ?_ _ | refine Below.drew ?_))); rintro e w4 ⟨rfl, hb4⟩; obtain ⟨r0, r1, f0, f1, zF4, hw4⟩ := Hlater.out _ w4 (by (repeat (first | exact Below.refl _ _ | refine Below.alloc ?_ (by first | omega | (simp <;> omega)) _ | refine Below.setCell ?_ (by first | omega | (simp <;> omega)) _ | refine below_drewN ?_ _ | refine Below.drew ?_))) hb4; have Hw4 := hid hw4; clear hb4 hw4))
                    all_goals go_wp2_with fail
                    all_goals
                      have q := set_two (w := w4) (u := .int .i64 p1) (v := .int .i64 p2) r0 r1
                      refine bodyPost_ret (res_told rfl rfl q.1 q.2) rfl ⟨ret_told Hr.out, ?_⟩
                      exact (Hw4.out.setCell (p := ⟨FB + 1 + 1, 0, none⟩) (by dsimp only; rw [HFB.out]; omega) _).setCell (p := ⟨FB + 1 + 1, 1, none⟩) (by dsimp only; rw [HFB.out]; omega) _
                  · have q4 : (decide (t1 ≤ 2) && decide (2 ≤ t1)) = false := eq_no ht2
                    have Hr : Hid (comesF f x.list kn n v = (0, 0)) := by show _ = _; rw [Hcf3.out, if_neg ht1, if_neg ht2]
                    clear ht1 ht2 hf2 Hcf3
                    go_wp2_with fail
                    refine bodyPost_ret (res_told rfl rfl (cell_later' (set_two r0 r1).1 (by (repeat (first | exact Below.refl _ _ | refine Below.alloc ?_ (by first | omega | (simp <;> omega)) _ | refine Below.setCell ?_ (by first | omega | (simp <;> omega)) _ | refine below_drewN ?_ _ | refine Below.drew ?_)))) (cell_later' (set_two r0 r1).2 (by (repeat (first | exact Below.refl _ _ | refine Below.alloc ?_ (by first | omega | (simp <;> omega)) _ | refine Below.setCell ?_ (by first | omega | (simp <;> omega)) _ | refine below_drewN ?_ _ | refine Below.drew ?_))))) rfl ⟨ret_told Hr.out, ?_⟩
                    have h := Hwr.out
                    have hFB := HFB.out
                    (repeat (first | exact Below.refl _ _ | exact (h).mono (by first | omega | (simp <;> omega) | (have hh := (h).size; (try simp at hh); omega) | (have hh := (h).size; (try simp at hh); (try simp); omega)) | refine Below.trans ?_ ((h).mono (by first | omega | (simp <;> omega) | (have hh := (h).size; (try simp at hh); omega) | (have hh := (h).size; (try simp at hh); (try simp); omega))) | refine Below.alloc ?_ (by first | omega | (simp <;> omega) | (have hh := (h).size; (try simp at hh); omega) | (have hh := (h).size; (try simp at hh); (try simp); omega)) _ | refine Below.setCell ?_ (by first | omega | (simp <;> omega) | (have hh := (h).size; (try simp at hh); omega) | (have hh := (h).size; (try simp at hh); (try simp); omega)) _ | refine below_drewN ?_ _ | refine Below.drew ?_))
              · have q2 : (decide (op ≤ 20) && decide (20 ≤ op)) = false := eq_no h20
                have Hr : Hid (comesF f x.list kn n v = (0, 0)) := by show _ = _; rw [Hcf2.out, if_neg h1, if_neg h20]
                clear h1 h20
                go_wp2_with fail
                refine bodyPost_ret (res_told rfl rfl (cell_later' (set_two r0 r1).1 (by (repeat (first | exact Below.refl _ _ | refine Below.alloc ?_ (by first | omega | (simp <;> omega)) _ | refine Below.setCell ?_ (by first | omega | (simp <;> omega)) _ | refine below_drewN ?_ _ | refine Below.drew ?_)))) (cell_later' (set_two r0 r1).2 (by (repeat (first | exact Below.refl _ _ | refine Below.alloc ?_ (by first | omega | (simp <;> omega)) _ | refine Below.setCell ?_ (by first | omega | (simp <;> omega)) _ | refine below_drewN ?_ _ | refine Below.drew ?_))))) rfl ⟨ret_told Hr.out, ?_⟩
                have h := Hwr.out
                have hFB := HFB.out
                (repeat (first | exact Below.refl _ _ | exact (h).mono (by first | omega | (simp <;> omega) | (have hh := (h).size; (try simp at hh); omega) | (have hh := (h).size; (try simp at hh); (try simp); omega)) | refine Below.trans ?_ ((h).mono (by first | omega | (simp <;> omega) | (have hh := (h).size; (try simp at hh); omega) | (have hh := (h).size; (try simp at hh); (try simp); omega))) | refine Below.alloc ?_ (by first | omega | (simp <;> omega) | (have hh := (h).size; (try simp at hh); omega) | (have hh := (h).size; (try simp at hh); (try simp); omega)) _ | refine Below.setCell ?_ (by first | omega | (simp <;> omega) | (have hh := (h).size; (try simp at hh); omega) | (have hh := (h).size; (try simp at hh); (try simp); omega)) _ | refine below_drewN ?_ _ | refine Below.drew ?_))
          · have q0 : (decide (ds < vn) || decide (vn < ds)) = true := ne_yes hd
            have Hcf2 : Hid (comesF f x.list kn n v = comesF f x.list kn j v) := by show _ = _; rw [Hcf1.out, if_pos hd]
            clear hd Hcf1 Hcf
            go_wp2_with fail
            go_roundw
            case rel => exact ⟨j, by omega, rfl, Hcf2.out, by have h := Hbr.out; (repeat (first | exact Below.refl _ _ | exact (h).mono (by first | omega | (simp <;> omega) | (have hh := (h).size; (try simp at hh); omega) | (have hh := (h).size; (try simp at hh); (try simp); omega)) | refine Below.trans ?_ ((h).mono (by first | omega | (simp <;> omega) | (have hh := (h).size; (try simp at hh); omega) | (have hh := (h).size; (try simp at hh); (try simp); omega))) | refine Below.alloc ?_ (by first | omega | (simp <;> omega) | (have hh := (h).size; (try simp at hh); omega) | (have hh := (h).size; (try simp at hh); (try simp); omega)) _ | refine Below.setCell ?_ (by first | omega | (simp <;> omega) | (have hh := (h).size; (try simp at hh); omega) | (have hh := (h).size; (try simp at hh); (try simp); omega)) _ | refine below_drewN ?_ _ | refine Below.drew ?_))⟩
            case measure => first | (simp [intOf]; done) | (simp [intOf]; omega)

end Go.Proofs.YtaehkcnankijfaaDoor

namespace Go.Proofs.YtaehkcnankijfaaDoor
open Go.RowKit

theorem comes_num (f : DFunc) (l : List DIns) (kn : List Told) (x : Int) : ∀ n, comesF f l kn n ⟨false, x⟩ = (1, x)
  | 0 => by rw [comesF, startF, if_pos rfl]
  | n + 1 => by rw [comesF, if_pos rfl]
theorem comes_const {f : DFunc} {l : List DIns} {kn : List Told} {u : DVal} (h : u.reg = false) (n : Nat) : comesF f l kn n u = (1, u.n) := by
  obtain ⟨r, x⟩ := u
  cases h
  exact comes_num f l kn x n
theorem ret_two {t : Told} {a b : Int} (h : t = (a, b)) : Ending.returned (.tuple #[.int .i64 a, .int .i64 b]) = .returned (.tuple #[.int .i64 t.1, .int .i64 t.2]) := by rw [h]

set_option maxRecDepth 100000 in
set_option maxHeartbeats 4000000 in
theorem everComes_any {S : Nat → Prop} (nm : ByteArray) (f : DFunc) (ba : Option Addr) (bc bn b : Nat) (x : DBlock) (KB NB kl : Nat) (kn : List Told)
    (hbn : f.blocks.length = bn) (hbn1 : bn ≤ 1048576) (hb : b < bn) (hx : f.blocks[b]? = some x) (hl1 : x.list.length ≤ 1048576) (hsm : ∀ y ∈ f.blocks, y.phis.length ≤ 1048576 ∧ y.list.length ≤ 1048576)
    (hfit : CallsFit x.list kn) (hkl : kn.length = kl) (_hkl1 : kl ≤ 1048576) (v : DVal) (w : World) (hbs : SlAt S w 6 rBlock (.slice ba bn bc) f.blocks) (hS : ∀ b, S b → b < w.heap.size)
    (hK : ∀ i, i < kl → w.cell? ⟨KB, i, none⟩ = some (.int .i64 (kn.getD i (0, 0)).1)) (hN : ∀ i, i < kl → w.cell? ⟨NB, i, none⟩ = some (.int .i64 (kn.getD i (0, 0)).2)) :
    Calls Tryd.prog 70 #[.agg #[.string nm, .int .i64 f.params, .int .i64 f.regs, .slice ba bn bc], .int .i64 (b : Int), .int .i64 (x.list.length : Int), .agg #[.bool v.reg, .int .i64 v.n], .slice (some ⟨KB, 0, none⟩) kl kl, .slice (some ⟨NB, 0, none⟩) kl kl] w fun e w' =>
      e = .returned (.tuple #[.int .i64 (comesF f x.list kn x.list.length v).1, .int .i64 (comesF f x.list kn x.list.length v).2]) ∧ Below w.heap.size w w' := by
  have Hbn := hid hbn
  have Hsm := hid hsm
  have Hfit := hid hfit
  have Hkl := hid hkl
  obtain ⟨xb, xoff, pa, pc, la, lc, ta, tc, hbae, hcb, -, hli, -, -, -⟩ := block_at hbs (k := b) (by rw [hbn]; exact hb)
  subst hbae
  have hxe : f.blocks[b]'(by rw [hbn]; exact hb) = x := by
    have h := hx
    rw [List.getElem?_eq_getElem (by rw [hbn]; exact hb)] at h
    exact Option.some.inj h
  rw [hxe] at hcb hli
  obtain ⟨-, d1, -, -, -, -⟩ := hcb.get6
  obtain ⟨rg, hrg⟩ : ∃ rg, rg = v.reg := ⟨_, rfl⟩
  obtain ⟨vn, hvn⟩ : ∃ vn, vn = v.n := ⟨_, rfl⟩
  have Hv : Hid (v = ⟨rg, vn⟩) := by show _ = _; rw [hrg, hvn]
  rw [← hrg, ← hvn]
  obtain ⟨pr, hpr⟩ : ∃ pr, pr = f.params := ⟨_, rfl⟩
  obtain ⟨rs, hrs⟩ : ∃ rs, rs = f.regs := ⟨_, rfl⟩
  have Hpr := hid hpr
  have Hrs := hid hrs
  rw [← hpr, ← hrs]
  obtain ⟨ln, hln⟩ : ∃ ln, ln = x.list.length := ⟨_, rfl⟩
  have Hln := hid hln
  rw [← hln] at d1 hl1 ⊢
  obtain ⟨W, hW⟩ : ∃ W, W = (w.alloc (.cells #[.string nm, .int .i64 pr, .int .i64 rs, .slice (some ⟨xb, xoff, none⟩) bn bc] 35)).alloc (.cells #[.bool rg, .int .i64 vn] 41) := ⟨_, rfl⟩
  have hb0 : Below w.heap.size w W := by rw [hW]; (repeat (first | exact Below.refl _ _ | refine Below.alloc ?_ (by first | omega | (simp <;> omega)) _ | refine Below.setCell ?_ (by first | omega | (simp <;> omega)) _ | refine below_drewN ?_ _ | refine Below.drew ?_))
  have hWs : W.heap.size = w.heap.size + 2 := by rw [hW]; simp
  obtain ⟨FB, hFB⟩ : ∃ FB, FB = w.heap.size := ⟨_, rfl⟩
  have c0 : W.cell? ⟨FB, 0, none⟩ = some (.string nm) := by rw [hW, hFB]; simp
  have c1 : W.cell? ⟨FB, 1, none⟩ = some (.int .i64 pr) := by rw [hW, hFB]; simp
  have c2 : W.cell? ⟨FB, 2, none⟩ = some (.int .i64 rs) := by rw [hW, hFB]; simp
  have c3 : W.cell? ⟨FB, 3, none⟩ = some (.slice (some ⟨xb, xoff, none⟩) bn bc) := by rw [hW, hFB]; simp
  have hrow : W.heap[FB + 1]? = some (.cells [.bool rg, .int .i64 vn].toArray 41 (0, 0)) := by
    have h := heap_alloc_new (w.alloc (.cells #[.string nm, .int .i64 pr, .int .i64 rs, .slice (some ⟨xb, xoff, none⟩) bn bc] 35)) (.cells #[.bool rg, .int .i64 vn] 41)
    rw [show (w.alloc (.cells #[.string nm, .int .i64 pr, .int .i64 rs, .slice (some ⟨xb, xoff, none⟩) bn bc] 35)).heap.size = w.heap.size + 1 by simp] at h
    rw [hW, hFB]
    exact h
  have Hst0 : Hid (RowSt W W (FB + 1) 41 [.bool rg, .int .i64 vn]) := ⟨Nat.le_refl _, fun _ _ _ => rfl, ⟨rfl, rfl, rfl⟩, hrow⟩
  have d1 := cell_later' d1 hb0
  have C0 := hid c0
  have C1 := hid c1
  have C2 := hid c2
  have C3 := hid c3
  have HK := hid (fun i hi => cell_later' (hK i hi) hb0)
  have HN := hid (fun i hi => cell_later' (hN i hi) hb0)
  have HKz : Hid (∀ i, i < kl → KB < FB ∧ NB < FB) := fun i hi => by rw [hFB]; exact ⟨cell_lt (hK i hi), cell_lt (hN i hi)⟩
  have Hbs := hid (hbs.later rBlock_mono hb0)
  have Hli := hid (hli.later rIns_mono hb0)
  have HSF : Hid (∀ b, S b → b ≠ FB + 1) := fun b hb => by have := hS b hb; omega
  have HW := hid hW
  have Hb0 := hid hb0
  have HFB := hid hFB
  have zF : FB + 1 < W.heap.size := by omega
  have zx : xb < W.heap.size := cell_lt d1
  have hxF : xb < FB := by have h := cell_lt (CellsAt.get6 hcb).1; omega
  clear hbn hx hsm hfit hkl hcb hli hrg hvn hpr hrs hln hbs hK hN hW hb0 hFB hrow hS hxe hWs c0 c1 c2
  go_enter Tryd.func70, Tryd.ntmps70
  go_upto_region 1 with (fail)
  rw [← HFB.out, ← HW.out]
  go_wp2_with fail
  clear d1 c3
  go_loopw [15] (fun s15 wr => ∃ (j : Nat) (u : DVal), j ≤ ln ∧ s15 = .int .i64 ((j : Int) - 1) ∧ comesF f x.list kn ln v = comesF f x.list kn j u ∧ RowSt W wr (FB + 1) 41 [.bool u.reg, .int .i64 u.n]) (fun s15 _ => (intOf s15 + 1).toNat)
  case atStart => exact ⟨ln, v, Nat.le_refl _, rfl, rfl, by rw [Hv.out]; exact Hst0.out⟩
  case round =>
    obtain ⟨j', u, hj, rfl, hcf, hst⟩ := hrel
    have Hcf := hid hcf
    have Hst := hid hst
    have v0 : wr.cell? ⟨FB + 1, 0, none⟩ = some (.bool u.reg) := hst.at rfl
    have v1 : wr.cell? ⟨FB + 1, 1, none⟩ = some (.int .i64 u.n) := hst.at rfl
    have c0 := hst.cellOf C0.out (by omega)
    have c1 := hst.cellOf C1.out (by omega)
    have c2 := hst.cellOf C2.out (by omega)
    have c3 := hst.cellOf C3.out (by omega)
    have f0 := hst.fz 0
    have f1 := hst.fz 1
    have zr0 : FB < wr.heap.size := cell_lt c0
    have zr1 : FB + 1 < wr.heap.size := cell_lt v0
    have Hbel : Hid (Below w.heap.size w wr) := hst.below Hb0.out (by have := HFB.out; omega)
    obtain ⟨ur, hur⟩ : ∃ ur, ur = u.reg := ⟨_, rfl⟩
    obtain ⟨un, hun⟩ : ∃ un, un = u.n := ⟨_, rfl⟩
    have Hur := hid hur
    have Hun := hid hun
    rw [← hur] at v0
    rw [← hun] at v1
    clear hcf hst hur hun
    cases ur with
    | false =>
      have Hr : Hid (comesF f x.list kn ln v = (1, un)) := by show _ = _; rw [Hcf.out, comes_const Hur.out.symm, Hun.out]
      cases j' with
      | zero =>
        have e0 : ((0 : Nat) : Int) - 1 = -1 := by omega
        rw [e0]
        clear e0 hj
        go_wp2_with fail
        go_region
        go_wp2_with fail
        go_ret2
        exact ⟨ret_two Hr.out, by have h := Hbel.out; (repeat (first | exact Below.refl _ _ | exact (h).mono (by first | omega | (simp <;> omega) | (have hh := (h).size; (try simp at hh); omega) | (have hh := (h).size; (try simp at hh); (try simp); omega)) | refine Below.trans ?_ ((h).mono (by first | omega | (simp <;> omega) | (have hh := (h).size; (try simp at hh); omega) | (have hh := (h).size; (try simp at hh); (try simp); omega))) | refine Below.alloc ?_ (by first | omega | (simp <;> omega) | (have hh := (h).size; (try simp at hh); omega) | (have hh := (h).size; (try simp at hh); (try simp); omega)) _ | refine Below.setCell ?_ (by first | omega | (simp <;> omega) | (have hh := (h).size; (try simp at hh); omega) | (have hh := (h).size; (try simp at hh); (try simp); omega)) _ | refine below_drewN ?_ _ | refine Below.drew ?_))⟩
      | succ j =>
        have e0 : ((j + 1 : Nat) : Int) - 1 = (j : Int) := by omega
        rw [e0]
        clear e0 hj
        go_wp2_with fail
        go_region
        go_wp2_with fail
        go_ret2
        exact ⟨ret_two Hr.out, by have h := Hbel.out; (repeat (first | exact Below.refl _ _ | exact (h).mono (by first | omega | (simp <;> omega) | (have hh := (h).size; (try simp at hh); omega) | (have hh := (h).size; (try simp at hh); (try simp); omega)) | refine Below.trans ?_ ((h).mono (by first | omega | (simp <;> omega) | (have hh := (h).size; (try simp at hh); omega) | (have hh := (h).size; (try simp at hh); (try simp); omega))) | refine Below.alloc ?_ (by first | omega | (simp <;> omega) | (have hh := (h).size; (try simp at hh); omega) | (have hh := (h).size; (try simp at hh); (try simp); omega)) _ | refine Below.setCell ?_ (by first | omega | (simp <;> omega) | (have hh := (h).size; (try simp at hh); omega) | (have hh := (h).size; (try simp at hh); (try simp); omega)) _ | refine below_drewN ?_ _ | refine Below.drew ?_))⟩
    | true =>
      cases j' with
      | zero =>
        have e0 : ((0 : Nat) : Int) - 1 = -1 := by omega
        rw [e0]
        have Hr0 : Hid (comesF f x.list kn ln v = if un < pr ∧ writesB f un = false then (2, un) else (0, 0)) := by
          show _ = _
          rw [Hcf.out, comesF, startF, if_neg (by rw [← Hur.out]; simp), ← Hun.out, ← Hpr.out]
        clear e0 hj
        by_cases hlt : un < pr
        · have q0 : decide (un < pr) = true := decide_eq_true hlt
          have hcw := everWrites_any (S := S) nm f (some ⟨xb, xoff, none⟩) bc bn un wr (Hst.out.sl rBlock_mono HSF.out Hbs.out) Hbn.out hbn1 Hsm.out
          rw [← Hpr.out, ← Hrs.out] at hcw
          obtain ⟨wb, hwb⟩ : ∃ wb, wb = writesB f un := ⟨_, rfl⟩
          rw [← hwb] at hcw
          have Hcw := hid hcw
          cases wb with
          | true =>
            have Hr : Hid (comesF f x.list kn ln v = (0, 0)) := by show _ = _; rw [Hr0.out, if_neg (fun h => by rw [← hwb] at h; cases h.2)]
            clear hcw hwb hlt
            go_wp2_with (go_at_call 118; ((with_reducible refine Hcw.out.mono ?_); rintro e w4 ⟨rfl, hb4⟩; have Hw4 := hid (Hbel.out.trans (hb4.mono Hbel.out.size)); clear hb4))
            go_ret2
            exact ⟨ret_two Hr.out, Hw4.out⟩
          | false =>
            have Hr : Hid (comesF f x.list kn ln v = (2, un)) := by show _ = _; rw [Hr0.out, if_pos ⟨hlt, hwb.symm⟩]
            clear hcw hwb hlt
            go_wp2_with (go_at_call 118; ((with_reducible refine Hcw.out.mono ?_); rintro e w4 ⟨rfl, hb4⟩; have v1 := cell_later' v1 hb4; have zr1 := cell_lt v1; have Hw4 := hid (Hbel.out.trans (hb4.mono Hbel.out.size)); clear hb4))
            go_region
            go_wp2_with fail
            go_ret2
            exact ⟨ret_two Hr.out, by have h := Hw4.out; (repeat (first | exact Below.refl _ _ | exact (h).mono (by first | omega | (simp <;> omega) | (have hh := (h).size; (try simp at hh); omega) | (have hh := (h).size; (try simp at hh); (try simp); omega)) | refine Below.trans ?_ ((h).mono (by first | omega | (simp <;> omega) | (have hh := (h).size; (try simp at hh); omega) | (have hh := (h).size; (try simp at hh); (try simp); omega))) | refine Below.alloc ?_ (by first | omega | (simp <;> omega) | (have hh := (h).size; (try simp at hh); omega) | (have hh := (h).size; (try simp at hh); (try simp); omega)) _ | refine Below.setCell ?_ (by first | omega | (simp <;> omega) | (have hh := (h).size; (try simp at hh); omega) | (have hh := (h).size; (try simp at hh); (try simp); omega)) _ | refine below_drewN ?_ _ | refine Below.drew ?_))⟩
        · have q0 : decide (un < pr) = false := decide_eq_false hlt
          have Hr : Hid (comesF f x.list kn ln v = (0, 0)) := by show _ = _; rw [Hr0.out, if_neg (fun h => hlt h.1)]
          clear hlt
          go_wp2_with fail
          go_ret2
          exact ⟨ret_two Hr.out, Hbel.out⟩
      | succ j =>
        have e0 : ((j + 1 : Nat) : Int) - 1 = (j : Int) := by omega
        rw [e0]
        have hjl : j < x.list.length := by rw [← Hln.out]; omega
        have hjl2 : j < ln := by omega
        obtain ⟨ib, ioff, ra, rc, hiae, hci, hia, hI⟩ := ins_at (Hst.out.sl rIns_mono HSF.out Hli.out) (k := j) hjl
        subst hiae
        obtain ⟨y, hy⟩ : ∃ y, y = x.list[j]'hjl := ⟨_, rfl⟩
        rw [← hy] at hci hia hI
        have hyg : x.list.getD j noIns = y := by rw [hy, List.getD_eq_getElem?_getD, List.getElem?_eq_getElem hjl]; rfl
        have hym : y ∈ x.list := by rw [hy]; exact List.getElem_mem _
        have hyf := Hfit.out y hym
        obtain ⟨op, hop⟩ : ∃ op, op = y.op := ⟨_, rfl⟩
        obtain ⟨ds, hds⟩ : ∃ ds, ds = y.dst := ⟨_, rfl⟩
        obtain ⟨ar, har⟩ : ∃ ar, ar = y.a.reg := ⟨_, rfl⟩
        obtain ⟨an, han⟩ : ∃ an, an = y.a.n := ⟨_, rfl⟩
        obtain ⟨br, hbr'⟩ : ∃ br, br = y.b.reg := ⟨_, rfl⟩
        obtain ⟨bn', hbn'⟩ : ∃ bn', bn' = y.b.n := ⟨_, rfl⟩
        obtain ⟨fn, hfn⟩ : ∃ fn, fn = y.fn := ⟨_, rfl⟩
        obtain ⟨al, hal⟩ : ∃ al, al = y.args.length := ⟨_, rfl⟩
        have hya : y.a = ⟨ar, an⟩ := by rw [har, han]
        obtain ⟨i0, i1, i2, i3, i4, i5, i6, i7⟩ := hci.get8
        rw [← hop] at i0 hyf
        rw [← hds] at i1
        rw [← har] at i2
        rw [← han] at i3
        rw [← hbr'] at i4
        rw [← hbn'] at i5
        rw [← hfn] at i6 hyf
        rw [← hal] at i7 hyf hia
        have zi : ib < wr.heap.size := cell_lt i0
        have Hyf := hid hyf
        have Hia := hid hia
        have Hal := hid hal
        have Hcf1 : Hid (comesF f x.list kn ln v = if ds ≠ un then comesF f x.list kn j u else if op = 1 then comesF f x.list kn j ⟨ar, an⟩ else if op = 20 then
            (if (kn.getD fn.toNat (0, 0)).1 = 1 then kn.getD fn.toNat (0, 0) else if (kn.getD fn.toNat (0, 0)).1 = 2 then comesF f x.list kn j (y.args.getD (kn.getD fn.toNat (0, 0)).2.toNat ⟨false, 0⟩) else (0, 0)) else (0, 0)) := by
          show _ = _
          rw [Hcf.out, comesF, if_neg (by rw [← Hur.out]; simp), hyg, ← hop, ← hds, ← hfn, hya, ← Hun.out]
        have Hput : Hid (∀ (a : Bool) (b : Int) (o : Obj), RowSt W (((wr.setCell ⟨FB + 1, 0, none⟩ (.bool a)).setCell ⟨FB + 1, 1, none⟩ (.int .i64 b)).alloc o) (FB + 1) 41 [.bool a, .int .i64 b]) := fun a b o =>
          ((Hst.out.set 0 (.bool a)).set 1 (.int .i64 b)).later (by (repeat (first | exact Below.refl _ _ | refine Below.alloc ?_ (by first | omega | (simp <;> omega)) _ | refine Below.setCell ?_ (by first | omega | (simp <;> omega)) _ | refine below_drewN ?_ _ | refine Below.drew ?_)))
        clear hci hia hI hy hyg hym hyf hop hds har han hbr' hbn' hfn hal hya hjl e0
        by_cases hd : ds = un
        · have q0 : (decide (ds < un) || decide (un < ds)) = false := ne_no hd
          have Hcf2 : Hid (comesF f x.list kn ln v = if op = 1 then comesF f x.list kn j ⟨ar, an⟩ else if op = 20 then
            (if (kn.getD fn.toNat (0, 0)).1 = 1 then kn.getD fn.toNat (0, 0) else if (kn.getD fn.toNat (0, 0)).1 = 2 then comesF f x.list kn j (y.args.getD (kn.getD fn.toNat (0, 0)).2.toNat ⟨false, 0⟩) else (0, 0)) else (0, 0)) := by
            show _ = _
            rw [Hcf1.out, if_neg (fun h => h hd)]
          clear hd Hcf1 Hcf
          by_cases h1 : op = 1
          · have q1 : (decide (op ≤ 1) && decide (1 ≤ op)) = true := eq_yes h1
            have Hcf3 : Hid (comesF f x.list kn ln v = comesF f x.list kn j ⟨ar, an⟩) := by show _ = _; rw [Hcf2.out, if_pos h1]
            clear h1
            go_wp2_with fail
            go_roundw
            case rel => exact ⟨j, ⟨ar, an⟩, by omega, rfl, Hcf3.out, Hput.out ar an _⟩
            case measure => first | (simp [intOf]; done) | (simp [intOf]; omega)
          · have q1 : (decide (op ≤ 1) && decide (1 ≤ op)) = false := eq_no h1
            by_cases h20 : op = 20
            · have q2 : (decide (op ≤ 20) && decide (20 ≤ op)) = true := eq_yes h20
              obtain ⟨⟨hf0, hf1⟩, hf2⟩ := Hyf.out h20
              obtain ⟨fnn, rfl⟩ := Int.eq_ofNat_of_zero_le hf0
              have hfk : fnn < kl := by rw [← Hkl.out]; omega
              obtain ⟨t1, ht1⟩ : ∃ t1, t1 = (kn.getD fnn (0, 0)).1 := ⟨_, rfl⟩
              obtain ⟨t2, ht2⟩ : ∃ t2, t2 = (kn.getD fnn (0, 0)).2 := ⟨_, rfl⟩
              have k0 := Hst.out.cellOf (HK.out fnn hfk) (by have := (HKz.out fnn hfk).1; omega)
              have k1 := Hst.out.cellOf (HN.out fnn hfk) (by have := (HKz.out fnn hfk).2; omega)
              rw [← ht1] at k0
              rw [← ht2] at k1
              have htt : kn.getD (fnn : Int).toNat (0, 0) = (t1, t2) := by rw [Int.toNat_natCast, ht1, ht2]
              rw [htt] at hf2
              dsimp only at hf2
              have zk : KB < wr.heap.size := cell_lt k0
              have zn : NB < wr.heap.size := cell_lt k1
              have j0 : (0 : Int) ≤ (fnn : Int) := by omega
              have j1 : (fnn : Int) < (kl : Int) := by omega
              have Hcf3 : Hid (comesF f x.list kn ln v = if t1 = 1 then (t1, t2) else if t1 = 2 then comesF f x.list kn j (y.args.getD t2.toNat ⟨false, 0⟩) else (0, 0)) := by
                show _ = _
                rw [Hcf2.out, if_neg h1, if_pos h20, htt]
              clear h1 h20 Hcf2 Hyf ht1 ht2 htt hf1 hf0
              by_cases ht1 : t1 = 1
              · have q3 : (decide (t1 ≤ 1) && decide (1 ≤ t1)) = true := eq_yes ht1
                have Hr : Hid (comesF f x.list kn ln v = comesF f x.list kn j ⟨false, t2⟩) := by show _ = _; rw [Hcf3.out, if_pos ht1, comes_num, ht1]
                clear ht1 hf2
                go_wp2_with fail
                go_roundw
                case rel => exact ⟨j, ⟨false, t2⟩, by omega, rfl, Hr.out, Hput.out false t2 _⟩
                case measure => first | (simp [intOf]; done) | (simp [intOf]; omega)
              · have q3 : (decide (t1 ≤ 1) && decide (1 ≤ t1)) = false := eq_no ht1
                by_cases ht2 : t1 = 2
                · obtain ⟨hg0, hg1⟩ := hf2 ht2
                  obtain ⟨m, rfl⟩ := Int.eq_ofNat_of_zero_le hg0
                  have hml : m < y.args.length := by rw [← Hal.out]; omega
                  have hml2 : m < al := by omega
                  obtain ⟨ab, aoff, cs, haa, -, hrv, -, hcs⟩ := Hia.out.get hml
                  subst haa
                  obtain ⟨vr, hvr⟩ : ∃ vr, vr = (y.args[m]).reg := ⟨_, rfl⟩
                  obtain ⟨vn', hvn'⟩ : ∃ vn', vn' = (y.args[m]).n := ⟨_, rfl⟩
                  obtain ⟨hrv1, -⟩ := hrv
                  rw [← hvr, ← hvn'] at hrv1
                  subst hrv1
                  obtain ⟨g0, g1⟩ := hcs.get2
                  have za : ab < wr.heap.size := cell_lt g0
                  have q4 : (decide (t1 ≤ 2) && decide (2 ≤ t1)) = true := eq_yes ht2
                  have hge : y.args.getD (m : Int).toNat ⟨false, 0⟩ = ⟨vr, vn'⟩ := by rw [Int.toNat_natCast, List.getD_eq_getElem?_getD, List.getElem?_eq_getElem hml, hvr, hvn']; rfl
                  have Hr : Hid (comesF f x.list kn ln v = comesF f x.list kn j ⟨vr, vn'⟩) := by show _ = _; rw [Hcf3.out, if_neg ht1, if_pos ht2, hge]
                  have j2 : (0 : Int) ≤ (m : Int) := by omega
                  have j3 : (m : Int) < (al : Int) := by omega
                  clear ht1 ht2 hf2 hcs hvr hvn' hge hg0 hg1 hml Hcf3
                  go_wp2_with fail
                  go_region_with (first | fail)
                  all_goals go_wp2_with fail
                  all_goals go_roundw
                  all_goals first
                    | exact ⟨j, ⟨vr, vn'⟩, by omega, rfl, Hr.out, (Hput.out vr vn' _).later (Below.refl _ _).drew⟩
                    | exact ⟨j, ⟨vr, vn'⟩, by omega, rfl, Hr.out, ((Hst.out.later (by (repeat (first | exact Below.refl _ _ | refine Below.alloc ?_ (by first | omega | (simp <;> omega)) _ | refine Below.setCell ?_ (by first | omega | (simp <;> omega)) _ | refine below_drewN ?_ _ | refine Below.drew ?_)))).set 0 (.bool vr)).set 1 (.int .i64 vn')⟩
                    | (simp [intOf]; done)
                    | (simp [intOf]; omega)
                · have q4 : (decide (t1 ≤ 2) && decide (2 ≤ t1)) = false := eq_no ht2
                  have Hr : Hid (comesF f x.list kn ln v = (0, 0)) := by show _ = _; rw [Hcf3.out, if_neg ht1, if_neg ht2]
                  clear ht1 ht2 hf2 Hcf3
                  go_wp2_with fail
                  go_ret2
                  exact ⟨ret_two Hr.out, by have h := Hbel.out; (repeat (first | exact Below.refl _ _ | exact (h).mono (by first | omega | (simp <;> omega) | (have hh := (h).size; (try simp at hh); omega) | (have hh := (h).size; (try simp at hh); (try simp); omega)) | refine Below.trans ?_ ((h).mono (by first | omega | (simp <;> omega) | (have hh := (h).size; (try simp at hh); omega) | (have hh := (h).size; (try simp at hh); (try simp); omega))) | refine Below.alloc ?_ (by first | omega | (simp <;> omega) | (have hh := (h).size; (try simp at hh); omega) | (have hh := (h).size; (try simp at hh); (try simp); omega)) _ | refine Below.setCell ?_ (by first | omega | (simp <;> omega) | (have hh := (h).size; (try simp at hh); omega) | (have hh := (h).size; (try simp at hh); (try simp); omega)) _ | refine below_drewN ?_ _ | refine Below.drew ?_))⟩
            · have q2 : (decide (op ≤ 20) && decide (20 ≤ op)) = false := eq_no h20
              have Hr : Hid (comesF f x.list kn ln v = (0, 0)) := by show _ = _; rw [Hcf2.out, if_neg h1, if_neg h20]
              clear h1 h20
              go_wp2_with fail
              go_ret2
              exact ⟨ret_two Hr.out, by have h := Hbel.out; (repeat (first | exact Below.refl _ _ | exact (h).mono (by first | omega | (simp <;> omega) | (have hh := (h).size; (try simp at hh); omega) | (have hh := (h).size; (try simp at hh); (try simp); omega)) | refine Below.trans ?_ ((h).mono (by first | omega | (simp <;> omega) | (have hh := (h).size; (try simp at hh); omega) | (have hh := (h).size; (try simp at hh); (try simp); omega))) | refine Below.alloc ?_ (by first | omega | (simp <;> omega) | (have hh := (h).size; (try simp at hh); omega) | (have hh := (h).size; (try simp at hh); (try simp); omega)) _ | refine Below.setCell ?_ (by first | omega | (simp <;> omega) | (have hh := (h).size; (try simp at hh); omega) | (have hh := (h).size; (try simp at hh); (try simp); omega)) _ | refine below_drewN ?_ _ | refine Below.drew ?_))⟩
        · have q0 : (decide (ds < un) || decide (un < ds)) = true := ne_yes hd
          have Hcf2 : Hid (comesF f x.list kn ln v = comesF f x.list kn j u) := by show _ = _; rw [Hcf1.out, if_pos hd]
          clear hd Hcf1 Hcf
          go_wp2_with fail
          go_roundw
          case rel => exact ⟨j, u, by omega, rfl, Hcf2.out, Hst.out.later (by (repeat (first | exact Below.refl _ _ | refine Below.alloc ?_ (by first | omega | (simp <;> omega)) _ | refine Below.setCell ?_ (by first | omega | (simp <;> omega)) _ | refine below_drewN ?_ _ | refine Below.drew ?_)))⟩
          case measure => first | (simp [intOf]; done) | (simp [intOf]; omega)

end Go.Proofs.YtaehkcnankijfaaDoor
