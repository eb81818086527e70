/- turneryref6.UnrollRounds. -/
import Derived.Test.YtaehkcnankijfaaDoorPUnrQ
import Derived.Test.YtaehkcnankijfaaDoorPUnrS
import Derived.Test.YtaehkcnankijfaaDoorPUnrF
import Derived.Test.YtaehkcnankijfaaDoorPTwo
import Derived.Test.YtaehkcnankijfaaDoorPSameU
import Derived.Deep.RegionHeld3
import Derived.BigRegion
namespace Go.Proofs.YtaehkcnankijfaaDoor
open Go.RowKit

set_option maxRecDepth 100000 in
set_option maxHeartbeats 8000000 in
theorem unrRounds_any {S : Nat → Prop} (nm : ByteArray) (ba : Option Addr) (bc : Nat) (f : DFunc) (b : Nat) (w : World) (hf : FnOk f) (hssa : ssaOf f = 0) (hbl : b < f.blocks.length)
    (hb : SlAt S w 6 rBlock (.slice ba f.blocks.length bc) f.blocks) (hS : ∀ b, S b → b < w.heap.size) :
    Calls Tryd.prog 33 #[.agg #[.string nm, .int .i64 f.params, .int .i64 f.regs, .slice ba f.blocks.length bc], .int .i64 (b : Int)] w fun e w' => e = .returned (.int .i64 (unrF f.blocks b)) ∧ Below w.heap.size w w' := by
  have Hf := hid hf
  have HS := hid hS
  have hbl40 : f.blocks.length ≤ 40 := hf.len.2
  obtain ⟨x, hx⟩ : ∃ x, x = f.blocks[b] := ⟨_, rfl⟩
  have hxg : f.blocks[b]? = some x := by rw [hx]; exact List.getElem?_eq_getElem hbl
  obtain ⟨xb, xoff, pa, pc, lad, lc, ta, tc, hbae, hcs, hph, hli, hts, hI1, hI2⟩ := block_at hb hbl
  subst hbae
  rw [← hx] at hcs hph hli hts hI1 hI2
  obtain ⟨d0, d1, d2, d3, d4, d5⟩ := hcs.get6
  have zx : xb < w.heap.size := cell_lt d0
  have hmany := hf.many x (List.mem_of_getElem? hxg)
  have hpl : x.phis.length ≤ 300 := hmany.1
  have hll : x.list.length ≤ 300 := hmany.2
  obtain ⟨R, hR⟩ := Int.eq_ofNat_of_zero_le (show 0 ≤ f.regs by have := hf.pr; omega)
  have hR100 : R ≤ 100 := by have := hf.pr.2.2.2; omega
  obtain ⟨W, hW⟩ : ∃ W, W = w.alloc (.cells #[.string nm, .int .i64 f.params, .int .i64 f.regs, .slice (some ⟨xb, xoff, none⟩) f.blocks.length bc] 35) := ⟨_, rfl⟩
  have Hb0 : Hid (Below w.heap.size w W) := by show Below _ _ _; rw [hW]; (repeat (first | exact Below.refl _ _ | refine Below.alloc ?_ (by first | omega | (simp <;> omega)) _ | refine Below.setCell ?_ (by first | omega | (simp <;> omega)) _ | refine below_drewN ?_ _ | refine Below.drew ?_))
  have hself := self_any (S := S) nm (some ⟨xb, xoff, none⟩) bc f b W hf hbl (hb.later rBlock_mono Hb0.out)
  rw [hR] at hself hW
  have Hself := hid hself
  have Hssa : Hid (∀ j k, j < k → k < x.phis.length → (x.phis.getD j noPhi).dst.toNat ≠ (x.phis.getD k noPhi).dst.toNat) := fun j k hj hk => ssa_phis hf hssa hxg hj hk
  have hc2 : W.cell? ⟨w.heap.size, 2, none⟩ = some (.int .i64 (R : Int)) := by rw [hW]; simp
  have hc3 : W.cell? ⟨w.heap.size, 3, none⟩ = some (.slice (some ⟨xb, xoff, none⟩) f.blocks.length bc) := by rw [hW]; simp
  have HC2 := hid hc2
  have HC3 := hid hc3
  have HW := hid hW
  obtain ⟨bn, hbn⟩ : ∃ bn, bn = f.blocks.length := ⟨_, rfl⟩
  have Hkd := hid (hf.kind b x hxg)
  have Hon : Hid (VOk f.regs x.fin.on) := hf.on b x hxg
  have Hxg := hid hxg
  have Hph := hid (hph.later rPhi_mono Hb0.out)
  have Hli := hid (hli.later rIns_mono Hb0.out)
  have Hts := hid (hts.later rInt_mono Hb0.out)
  have Hin := hid hI2
  have d0 := cell_later' d0 Hb0.out
  have d1 := cell_later' d1 Hb0.out
  have d2 := cell_later' d2 Hb0.out
  have d3 := cell_later' d3 Hb0.out
  have d4 := cell_later' d4 Hb0.out
  have d5 := cell_later' d5 Hb0.out
  have hRr := hR
  rw [hR]
  have HR := hid hR
  rw [← hbn] at hbl hbl40 HW Hself HC3 ⊢
  clear hself hW hc2 hc3 hcs hph hli hts hI1 hI2 hmany hx hxg hf hssa hb hS hR hRr hbn
  cases hs : selfF f.blocks b with
  | none =>
    have Hr : Hid (unrF f.blocks b = 0) := by show _ = _; unfold unrF; rw [Hxg.out, hs]
    have Hself2 := hid (Hself.out.mono (R' := fun e w' => ∃ k : Int, e = .returned (.tuple #[.int .i64 k, .bool false]) ∧ Below W.heap.size W w') fun e w' ⟨k, h1, _, h3⟩ => ⟨k, by rw [h1, hs]; rfl, h3⟩)
    clear hs Hself
    go_enter Tryd.func33, Tryd.ntmps33
    go_wp2_with (go_at_call 65; rw [← HW.out]; (with_reducible refine Hself2.out.mono ?_); rintro e w1 ⟨k, rfl, hb1⟩; have Hb1 := hid hb1; clear hb1)
    go_ret
    exact ⟨ret_int Hr.out.symm, Hb0.out.trans (Hb1.out.mono Hb0.out.size)⟩
  | some q =>
    have hq2 := selfF_lt hs
    have Hr : Hid (unrF f.blocks b = rndF x (b : Int) (1 - q) 8 1 q noKm) := by show _ = _; unfold unrF; rw [Hxg.out, hs]; rfl
    have hself3 : x.fin.kind = 3 ∧ (predsOf f.blocks 0 b).length = 2 := by
      have h := hs
      unfold selfF at h
      rw [Hxg.out] at h
      dsimp only at h
      by_cases hc : x.fin.kind = 3 ∧ (x.fin.to.getD 0 0 = (b : Int) ∨ x.fin.to.getD 1 0 = (b : Int)) ∧ (predsOf f.blocks 0 b).length = 2
      · exact ⟨hc.1, hc.2.2⟩
      · rw [if_neg hc] at h; cases h
    have Hself2 := hid (Hself.out.mono (R' := fun e w' => e = .returned (.tuple #[.int .i64 (q : Int), .bool true]) ∧ Below W.heap.size W w') fun e w' ⟨k, h1, h2, h3⟩ => ⟨by rw [h1, hs, h2 q hs]; rfl, h3⟩)
    have htl : x.fin.to.length = 2 := by have := Hkd.out.2.2.1; omega
    have Hps : Hid (∀ p ∈ x.phis, p.src.length = 2) := fun p hp => by rw [(Hf.out.phi b x Hxg.out p hp).2.1, hself3.2]
    rw [htl] at d5
    have Htl := hid htl
    clear hs Hself hself3 htl
    go_enter Tryd.func33, Tryd.ntmps33
    go_upto_region 4 with (go_at_call 65; rw [← HW.out]; (with_reducible refine Hself2.out.mono ?_); rintro e w1 ⟨rfl, hb1⟩; have Hb1 := hid hb1; clear hb1)
    have c2 := cell_later' HC2.out Hb1.out
    have c3 := cell_later' HC3.out Hb1.out
    have d0 := cell_later' d0 Hb1.out
    have d1 := cell_later' d1 Hb1.out
    have d2 := cell_later' d2 Hb1.out
    have d3 := cell_later' d3 Hb1.out
    have d4 := cell_later' d4 Hb1.out
    have d5 := cell_later' d5 Hb1.out
    obtain ⟨FB, hFB⟩ : ∃ FB, FB = w.heap.size := ⟨_, rfl⟩
    rw [← hFB] at c2 c3
    have z1 : FB < w1.heap.size := cell_lt c2
    have zx1 : xb < w1.heap.size := cell_lt d0
    have Hmk := hid (run_make_row' (P := Tryd.prog) 39 4 (.bool false) 1 Tryd.underlying39 infoBool rfl .i64 .i64 R (by omega) (by omega))
    have Hmi := hid (run_make_row' (P := Tryd.prog) 26 3 (.int .i64 0) 8 Tryd.underlying26 infoInt' rfl .i64 .i64 R (by omega) (by omega))
    have hmk := Hmk.out
    have hmi := Hmi.out
    have Hw1 : Hid (Below w.heap.size w w1) := Hb0.out.trans (Hb1.out.mono Hb0.out.size)
    have Hph := hid (Hph.out.later rPhi_mono Hb1.out)
    have Hli := hid (Hli.out.later rIns_mono Hb1.out)
    have Hts := hid (Hts.out.later rInt_mono Hb1.out)
    rw [← hFB]
    clear hFB
    go_wp2_with fail
    clear hmk hmi
    obtain ⟨W2, hW2⟩ : ∃ W2, W2 = ((w1.alloc (.cells #[.slice pa x.phis.length pc, .slice lad x.list.length lc, .int .i64 x.fin.kind, .bool x.fin.on.reg, .int .i64 x.fin.on.n, .slice ta 2 tc] 47)).alloc (.cells (madeCells #[.int .i64 0] R) 3)).alloc (.cells (madeCells #[.bool false] R) 4) := ⟨_, rfl⟩
    rw [← hW2]
    have hb2 : Below w1.heap.size w1 W2 := by rw [hW2]; (repeat (first | exact Below.refl _ _ | refine Below.alloc ?_ (by first | omega | (simp <;> omega)) _ | refine Below.setCell ?_ (by first | omega | (simp <;> omega)) _ | refine below_drewN ?_ _ | refine Below.drew ?_))
    obtain ⟨hz2, hX, hN, hH⟩ : W2.heap.size = w1.heap.size + 3 ∧ W2.heap[w1.heap.size]? = _ ∧ W2.heap[w1.heap.size + 1]? = _ ∧ W2.heap[w1.heap.size + 1 + 1]? = _ := by rw [hW2]; exact heap_three _ _ _ _
    have hur0 : UrAt W2 (w1.heap.size + 1) (w1.heap.size + 1 + 1) R noKm := UrAt.made (by omega) hN hH
    have x0 : W2.cell? ⟨w1.heap.size, 0, none⟩ = some (.slice pa x.phis.length pc) := by rw [cell_row hX]; rfl
    have x1 : W2.cell? ⟨w1.heap.size, 1, none⟩ = some (.slice lad x.list.length lc) := by rw [cell_row hX]; rfl
    have x3 : W2.cell? ⟨w1.heap.size, 3, none⟩ = some (.bool x.fin.on.reg) := by rw [cell_row hX]; rfl
    have x4 : W2.cell? ⟨w1.heap.size, 4, none⟩ = some (.int .i64 x.fin.on.n) := by rw [cell_row hX]; rfl
    have x5 : W2.cell? ⟨w1.heap.size, 5, none⟩ = some (.slice ta 2 tc) := by rw [cell_row hX]; rfl
    have c2 := cell_later' c2 hb2
    have Hw2 : Hid (Below w.heap.size w W2) := Hw1.out.trans (hb2.mono Hw1.out.size)
    have Hph := hid (Hph.out.later rPhi_mono hb2)
    have Hli := hid (Hli.out.later rIns_mono hb2)
    have Hts := hid (Hts.out.later rInt_mono hb2)
    obtain ⟨XB, hXB⟩ : ∃ XB, XB = w1.heap.size := ⟨_, rfl⟩
    obtain ⟨N0, hN0⟩ : ∃ N0, N0 = w1.heap.size + 1 := ⟨_, rfl⟩
    obtain ⟨H0, hH0⟩ : ∃ H0, H0 = w1.heap.size + 1 + 1 := ⟨_, rfl⟩
    rw [← hXB] at x0 x1 x3 x4 x5
    rw [← hH0, ← hN0] at hur0
    have X0 := hid x0
    have X1 := hid x1
    have X3 := hid x3
    have X4 := hid x4
    have X5 := hid x5
    have C2 := hid c2
    have Hur0 := hid hur0
    rw [← hH0, ← hN0, ← hXB]
    clear hW2 hb2 hz2 hX hN hH hur0 x0 x1 x3 x4 x5 c2 c3 hXB hN0 hH0 d0 d1 d2 d3 d4 d5 z1 zx1
    go_loopw [5, 9, 10, 11] (fun s5 s9 s10 s11 wr => ∃ (j k N H : Nat) (m : Km), j ≤ 8 ∧ k < 2 ∧ s5 = .int .i64 (k : Int) ∧ s9 = .slice (some ⟨N, 0, none⟩) R R ∧ s10 = .slice (some ⟨H, 0, none⟩) R R ∧ s11 = .int .i64 ((j : Int) + 1) ∧ Below W2.heap.size W2 wr ∧ UrAt wr N H R m ∧ rndF x (b : Int) (1 - q) (8 - j) (j + 1) k m = unrF f.blocks b) (fun _ _ _ s11 _ => 9 - (intOf s11).toNat)
    case atStart => exact ⟨0, q, N0, H0, noKm, by omega, hq2, rfl, rfl, rfl, rfl, Below.refl _ _, Hur0.out, Hr.out.symm⟩
    case round =>
      clear Hur0
      obtain ⟨j, k, N, H, m, hj, hk, rfl, rfl, rfl, rfl, hbw, hur, hrd⟩ := hrel
      have Hbw := hid hbw
      have Hur := hid hur
      have Hrd := hid hrd
      have hmk := Hmk.out
      have hmi := Hmi.out
      have c2 := cell_later' C2.out hbw
      have zF : FB < wr.heap.size := cell_lt c2
      have hNl := hur.lt
      have hzw := hbw.size
      clear hbw hur hrd
      by_cases hj8 : j < 8
      · have q8 : decide ((j : Int) + 1 < 9) = true := decide_eq_true (by omega)
        go_wp2_with fail
        clear hmk hmi c2 zF
        obtain ⟨Wn, hWn⟩ : ∃ Wn, Wn = (wr.alloc (.cells (madeCells #[.int .i64 0] R) 3)).alloc (.cells (madeCells #[.bool false] R) 4) := ⟨_, rfl⟩
        rw [← hWn]
        have hbn : Below wr.heap.size wr Wn := by rw [hWn]; (repeat (first | exact Below.refl _ _ | refine Below.alloc ?_ (by first | omega | (simp <;> omega)) _ | refine Below.setCell ?_ (by first | omega | (simp <;> omega)) _ | refine below_drewN ?_ _ | refine Below.drew ?_))
        obtain ⟨M, hM⟩ : ∃ M, M = wr.heap.size := ⟨_, rfl⟩
        obtain ⟨I, hI⟩ : ∃ I, I = wr.heap.size + 1 := ⟨_, rfl⟩
        have hun0 : UrAt Wn M I R noKm := by
          have hs : (wr.alloc (.cells (madeCells #[.int .i64 0] R) 3)).heap.size = wr.heap.size + 1 := by simp
          refine UrAt.made (by rw [hWn]; simp; omega) ?_ ?_
          · rw [hWn, hM, Below.heap_alloc _ _ _ (by omega)]; exact heap_alloc_new _ _
          · rw [hWn, hI, ← hs]; exact heap_alloc_new _ _
        have Hun0 := hid hun0
        have Hbn := hid hbn
        obtain ⟨Wr, hWr⟩ : ∃ Wr : World, Wr = wr := ⟨_, rfl⟩
        subst hWr
        rw [← hI, ← hM]
        have HMI : Hid (M = Wr.heap.size ∧ I = Wr.heap.size + 1) := ⟨hM, hI⟩
        clear hWn hbn hun0 hM hI
        go_loopw [14] (fun s14 wp => ∃ p : Nat, p ≤ x.phis.length ∧ s14 = .int .i64 (p : Int) ∧ Below Wr.heap.size Wr wp ∧ UrAt wp M I R (phiM k m (x.phis.take p))) (fun s14 _ => x.phis.length - (intOf s14).toNat)
        case atStart => exact ⟨0, Nat.zero_le _, rfl, Hbn.out, Hun0.out⟩
        case round =>
          clear Hun0 Hbn
          obtain ⟨p, hp, rfl, hbp, hup⟩ := hrel
          have Hbp := hid hbp
          have Hup := hid hup
          have hb2p : Below W2.heap.size W2 wr := Hbw.out.trans (hbp.mono hzw)
          have x0 := cell_later' X0.out hb2p
          have zX : XB < wr.heap.size := cell_lt x0
          by_cases hpl2 : p < x.phis.length
          · obtain ⟨pb, poff, fa, fc, hpae, e0, e1, hsrc, hdI, -⟩ := phi_at (Hph.out.later rPhi_mono hb2p) hpl2
            subst hpae
            have zp : pb < wr.heap.size := cell_lt e0
            obtain ⟨y, hy⟩ : ∃ y, y = x.phis[p] := ⟨_, rfl⟩
            rw [← hy] at e0 e1 hsrc
            have hym : y ∈ x.phis := by rw [hy]; exact List.getElem_mem _
            have hyl := Hps.out y hym
            rw [hyl] at e1 hsrc
            have hyf := Hf.out.phi b x Hxg.out y hym
            obtain ⟨d, hd⟩ := Int.eq_ofNat_of_zero_le hyf.1.1
            have hdR : d < R := by have h1 := hyf.1.2; have h2 := HR.out; omega
            rw [hd] at e0
            obtain ⟨vb, voff, hve, v0, v1⟩ := val_at hsrc (k := k) (by rw [hyl]; exact hk)
            subst hve
            have zv : vb < wr.heap.size := cell_lt v0
            obtain ⟨v, hv⟩ : ∃ v, v = y.src[k]'(by rw [hyl]; exact hk) := ⟨_, rfl⟩
            rw [← hv] at v0 v1
            have hvm : v ∈ y.src := by rw [hv]; exact List.getElem_mem _
            have hvo := hyf.2.2 v hvm
            have hvi : I64 v.n := by
              obtain ⟨b9, o9, cs9, -, -, ⟨-, h9⟩, -, -⟩ := hsrc.get (k := k) (by rw [hyl]; exact hk)
              rw [hv]; exact h9
            have hvg : y.src.getD k ⟨false, 0⟩ = v := by rw [List.getD_eq_getElem?_getD, List.getElem?_eq_getElem (by rw [hyl]; exact hk), hv]; rfl
            have hnone : phiM k m (x.phis.take p) y.dst.toNat = none := phiM_none (fun z hz => by
              obtain ⟨i, hi, rfl⟩ := List.getElem_of_mem hz
              rw [List.length_take] at hi
              have h := Hssa.out i p (by omega) hpl2
              rw [List.getD_eq_getElem?_getD, List.getD_eq_getElem?_getD, List.getElem?_eq_getElem (by omega), List.getElem?_eq_getElem hpl2] at h
              rw [List.getElem_take, hy]
              exact h)
            have Hnx : Hid (phiM k m (x.phis.take (p + 1)) = phiPut (phiM k m (x.phis.take p)) d (valM' m v)) := by show _ = _; rw [phiM_step hpl2, ← hy, phiPut_step hnone, hvg, hd, Int.toNat_natCast]
            obtain ⟨cd, -, -⟩ := hup.cells hdR
            obtain ⟨mi, mc0, mc1, -⟩ := hup.cells hdR
            have mf := hup.fz d
            have mf0 := mf.1
            have mf1 := mf.2
            have hlt := hup.lt
            have hne := hup.ne
            have i0 : (0 : Int) ≤ (k : Int) := by omega
            have i1 : (k : Int) < 2 := by omega
            cases hr : v.reg with
            | false =>
              as_aux_lemma =>
                have hval : valM' m v = some (bvOf v.n) := by unfold valM'; rw [hr]; rfl
                have Hput := hid ((hup.put (d := d) (i := v.n) (b := true) (m' := phiPut (phiM k m (x.phis.take p)) d (valM' m v)) (by unfold phiPut; rw [if_pos rfl, hval]; rfl) (fun z hz => by unfold phiPut at hz; rw [if_pos rfl, hval] at hz; injection hz with hz; rw [← hz, bi_of hvi]) (fun r hr => by unfold phiPut; rw [if_neg hr])).later (W' := ((wr.setCell ⟨M, d, none⟩ (.int .i64 v.n)).setCell ⟨I, d, none⟩ (.bool true)).alloc (.cells #[.bool false, .int .i64 v.n] 41)) (by (repeat (first | exact Below.refl _ _ | refine Below.alloc ?_ (by first | omega | (simp <;> omega)) _ | refine Below.setCell ?_ (by first | omega | (simp <;> omega)) _ | refine below_drewN ?_ _ | refine Below.drew ?_))))
                rw [← Hnx.out] at Hput
                have Hbq : Hid (Below Wr.heap.size Wr (((wr.setCell ⟨M, d, none⟩ (.int .i64 v.n)).setCell ⟨I, d, none⟩ (.bool true)).alloc (.cells #[.bool false, .int .i64 v.n] 41))) := by
                  have h := Hbp.out
                  have h2 := HMI.out
                  (repeat (first | exact Below.refl _ _ | exact (h).mono (by first | omega | (simp <;> omega) | (have hh := (h).size; (try simp at hh); omega) | (have hh := (h).size; (try simp at hh); (try simp); omega)) | refine Below.trans ?_ ((h).mono (by first | omega | (simp <;> omega) | (have hh := (h).size; (try simp at hh); omega) | (have hh := (h).size; (try simp at hh); (try simp); omega))) | refine Below.alloc ?_ (by first | omega | (simp <;> omega) | (have hh := (h).size; (try simp at hh); omega) | (have hh := (h).size; (try simp at hh); (try simp); omega)) _ | refine Below.setCell ?_ (by first | omega | (simp <;> omega) | (have hh := (h).size; (try simp at hh); omega) | (have hh := (h).size; (try simp at hh); (try simp); omega)) _ | refine below_drewN ?_ _ | refine Below.drew ?_))
                rw [hr] at v0
                clear hup hbp hb2p hsrc hy hym hyl hyf hdI hd hv hvm hvo hvi hvg hnone mf hval hr
                go_wp2_with fail
                go_roundw
                case rel => exact ⟨p + 1, by omega, by go_num, Hbq.out, Hput.out⟩
                case measure => simp [intOf]; omega
            | true =>
              as_aux_lemma =>
                obtain ⟨vn, hvn⟩ := Int.eq_ofNat_of_zero_le (hvo hr).1
                have hvR : vn < R := by have h1 := (hvo hr).2; have h2 := HR.out; omega
                have hval : valM' m v = m vn := by unfold valM'; rw [if_pos hr, hvn, Int.toNat_natCast]
                rw [hr] at v0
                rw [hvn] at v1
                obtain ⟨V1, hV1⟩ : ∃ V1, V1 = ((wr.setCell ⟨M, d, none⟩ (.int .i64 (vn : Int))).setCell ⟨I, d, none⟩ (.bool true)).alloc (.cells #[.bool true, .int .i64 (vn : Int)] 41) := ⟨_, rfl⟩
                have hbV : Below Wr.heap.size Wr V1 := by
                  have h := Hbp.out
                  have h2 := HMI.out
                  rw [hV1]
                  (repeat (first | exact Below.refl _ _ | exact (h).mono (by first | omega | (simp <;> omega) | (have hh := (h).size; (try simp at hh); omega) | (have hh := (h).size; (try simp at hh); (try simp); omega)) | refine Below.trans ?_ ((h).mono (by first | omega | (simp <;> omega) | (have hh := (h).size; (try simp at hh); omega) | (have hh := (h).size; (try simp at hh); (try simp); omega))) | refine Below.alloc ?_ (by first | omega | (simp <;> omega) | (have hh := (h).size; (try simp at hh); omega) | (have hh := (h).size; (try simp at hh); (try simp); omega)) _ | refine Below.setCell ?_ (by first | omega | (simp <;> omega) | (have hh := (h).size; (try simp at hh); omega) | (have hh := (h).size; (try simp at hh); (try simp); omega)) _ | refine below_drewN ?_ _ | refine Below.drew ?_))
                have hu1 : UrAt V1 M I R (phiPut (phiM k m (x.phis.take p)) d (some (bvOf (vn : Int)))) := by
                  rw [hV1]
                  exact (hup.put (d := d) (i := (vn : Int)) (b := true) (m' := phiPut (phiM k m (x.phis.take p)) d (some (bvOf (vn : Int)))) (by unfold phiPut; rw [if_pos rfl]; rfl) (fun z hz => by unfold phiPut at hz; rw [if_pos rfl] at hz; injection hz with hz; rw [← hz, bi_of (by unfold I64; omega)]) (fun r hr => by unfold phiPut; rw [if_neg hr])).later (by (repeat (first | exact Below.refl _ _ | refine Below.alloc ?_ (by first | omega | (simp <;> omega)) _ | refine Below.setCell ?_ (by first | omega | (simp <;> omega)) _ | refine below_drewN ?_ _ | refine Below.drew ?_)))
                have hsz : ((wr.setCell ⟨M, d, none⟩ (.int .i64 (vn : Int))).setCell ⟨I, d, none⟩ (.bool true)).heap.size = wr.heap.size := by simp [World.setCell]
                have y1 : V1.cell? ⟨wr.heap.size, 1, none⟩ = some (.int .i64 (vn : Int)) := by
                  have h := new_cells ((wr.setCell ⟨M, d, none⟩ (.int .i64 (vn : Int))).setCell ⟨I, d, none⟩ (.bool true)) [.bool true, .int .i64 (vn : Int)] 41 rfl 1 _ rfl
                  rw [hsz] at h
                  rw [hV1]
                  exact h
                obtain ⟨iv1, n0, n1, n2⟩ := (Hur.out.later hbV).cells hvR
                have f1 := (hu1.fz d).1
                have f2 := (hu1.fz d).2
                obtain ⟨ci, k0, k1, -⟩ := hu1.cells hdR
                have hfin : ∀ o : Option (BitVec 64), o = m vn → phiPut (phiPut (phiM k m (x.phis.take p)) d (some (bvOf (vn : Int)))) d o = phiPut (phiM k m (x.phis.take p)) d (valM' m v) := fun o ho => by
                  funext r
                  unfold phiPut
                  by_cases e : r = d
                  · rw [if_pos e, if_pos e, ho, hval]
                  · rw [if_neg e, if_neg e, if_neg e]
                have hput1 := hu1.put (d := d) (i := iv1) (b := (m vn).isSome) (m' := phiPut (phiPut (phiM k m (x.phis.take p)) d (some (bvOf (vn : Int)))) d (m vn)) (by unfold phiPut; rw [if_pos rfl]) (fun z hz => by unfold phiPut at hz; rw [if_pos rfl] at hz; exact n2 z hz) (fun r hr => by unfold phiPut; rw [if_neg hr])
                have hput2 := hu1.put' (d := d) (i := iv1) (b := (m vn).isSome) (m' := phiPut (phiPut (phiM k m (x.phis.take p)) d (some (bvOf (vn : Int)))) d (m vn)) (by unfold phiPut; rw [if_pos rfl]) (fun z hz => by unfold phiPut at hz; rw [if_pos rfl] at hz; exact n2 z hz) (fun r hr => by unfold phiPut; rw [if_neg hr])
                rw [hfin _ rfl, ← Hnx.out] at hput1 hput2
                have Hput1 := hid hput1
                have Hput2 := hid hput2
                obtain ⟨hs9, hhs9⟩ : ∃ hs9, hs9 = (m vn).isSome := ⟨_, rfl⟩
                rw [← hhs9] at n1 Hput1 Hput2
                have HV1 := hid hV1
                have HbV := hid hbV
                have hzV : wr.heap.size < V1.heap.size := cell_lt y1
                have hnM : N < V1.heap.size := cell_lt n0
                have hnH : H < V1.heap.size := cell_lt n1
                have hlt1 := hu1.lt
                clear hup hbp hb2p hsrc hy hym hyl hyf hdI hd hv hvm hvo hvi hvg hnone mf hval hr hV1 hbV hu1 hsz n2 hfin hput1 hput2 hhs9
                go_wp2_with fail
                rw [← HV1.out]
                go_region
                all_goals
                  go_wp2_with fail
                  go_roundw
                  case rel =>
                    have h := HbV.out
                    have h2 := HMI.out
                    first
                      | exact ⟨p + 1, by omega, by go_num, by (repeat (first | exact Below.refl _ _ | exact (h).mono (by first | omega | (simp <;> omega) | (have hh := (h).size; (try simp at hh); omega) | (have hh := (h).size; (try simp at hh); (try simp); omega)) | refine Below.trans ?_ ((h).mono (by first | omega | (simp <;> omega) | (have hh := (h).size; (try simp at hh); omega) | (have hh := (h).size; (try simp at hh); (try simp); omega))) | refine Below.alloc ?_ (by first | omega | (simp <;> omega) | (have hh := (h).size; (try simp at hh); omega) | (have hh := (h).size; (try simp at hh); (try simp); omega)) _ | refine Below.setCell ?_ (by first | omega | (simp <;> omega) | (have hh := (h).size; (try simp at hh); omega) | (have hh := (h).size; (try simp at hh); (try simp); omega)) _ | refine below_drewN ?_ _ | refine Below.drew ?_)), Hput1.out.later (by (repeat (first | exact Below.refl _ _ | refine Below.alloc ?_ (by first | omega | (simp <;> omega)) _ | refine Below.setCell ?_ (by first | omega | (simp <;> omega)) _ | refine below_drewN ?_ _ | refine Below.drew ?_)))⟩
                      | exact ⟨p + 1, by omega, by go_num, by (repeat (first | exact Below.refl _ _ | exact (h).mono (by first | omega | (simp <;> omega) | (have hh := (h).size; (try simp at hh); omega) | (have hh := (h).size; (try simp at hh); (try simp); omega)) | refine Below.trans ?_ ((h).mono (by first | omega | (simp <;> omega) | (have hh := (h).size; (try simp at hh); omega) | (have hh := (h).size; (try simp at hh); (try simp); omega))) | refine Below.alloc ?_ (by first | omega | (simp <;> omega) | (have hh := (h).size; (try simp at hh); omega) | (have hh := (h).size; (try simp at hh); (try simp); omega)) _ | refine Below.setCell ?_ (by first | omega | (simp <;> omega) | (have hh := (h).size; (try simp at hh); omega) | (have hh := (h).size; (try simp at hh); (try simp); omega)) _ | refine below_drewN ?_ _ | refine Below.drew ?_)), Hput2.out.later (by (repeat (first | exact Below.refl _ _ | refine Below.alloc ?_ (by first | omega | (simp <;> omega)) _ | refine Below.setCell ?_ (by first | omega | (simp <;> omega)) _ | refine below_drewN ?_ _ | refine Below.drew ?_)))⟩
                  case measure => simp [intOf]; omega
          · have hpn : p = x.phis.length := by omega
            obtain ⟨m1, hm1⟩ : ∃ m1, m1 = phiM k m x.phis := ⟨_, rfl⟩
            have hu1 : UrAt wr M I R m1 := by
              have h := hup
              rw [hpn, List.take_length, ← hm1] at h
              exact h
            have Hm1 := hid hm1
            have Hu1 := hid hu1
            have hlt := hu1.lt
            obtain ⟨V, hV⟩ : ∃ V : World, V = wr := ⟨_, rfl⟩
            subst hV
            clear hpn hup hbp hm1 hu1 Hup hb2p
            go_wp2_with fail
            clear x0 zX hlt
            go_loopw [17] (fun s17 wq => ∃ i : Nat, i ≤ x.list.length ∧ s17 = .int .i64 (i : Int) ∧ Below Wr.heap.size Wr wq ∧ UrAt wq M I R (insM m1 (x.list.take i))) (fun s17 _ => x.list.length - (intOf s17).toNat)
            case atStart => exact ⟨0, Nat.zero_le _, rfl, Hbp.out, Hu1.out⟩
            case round =>
              clear Hu1 Hbp
              obtain ⟨i, hi, rfl, hbq, huq⟩ := hrel
              have Hbq := hid hbq
              have Huq := hid huq
              have hb2q : Below W2.heap.size W2 wr := Hbw.out.trans (hbq.mono hzw)
              have x1 := cell_later' X1.out hb2q
              have zX : XB < wr.heap.size := cell_lt x1
              by_cases hil : i < x.list.length
              · obtain ⟨ib, ioff, fa, fc, hiae, hcsi, -, hI⟩ := ins_at (Hli.out.later rIns_mono hb2q) hil
                subst hiae
                obtain ⟨y, hy⟩ : ∃ y, y = x.list[i] := ⟨_, rfl⟩
                rw [← hy] at hcsi hI
                obtain ⟨e0, e1, e2, e3, e4, e5, e6, e7⟩ := hcsi.get8
                have zi : ib < wr.heap.size := cell_lt e0
                have hym : y ∈ x.list := by rw [hy]; exact List.getElem_mem _
                have hyo := Hf.out.ins b x Hxg.out y hym
                have Hnx : Hid (insM m1 (x.list.take (i + 1)) = insStep (insM m1 (x.list.take i)) y) := by show _ = _; rw [insM_step hil, hy]
                obtain ⟨mm, hmm⟩ : ∃ mm, mm = insM m1 (x.list.take i) := ⟨_, rfl⟩
                rw [← hmm] at Hnx Huq huq
                obtain ⟨op, hop⟩ : ∃ op, op = y.op := ⟨_, rfl⟩
                obtain ⟨dst, hdst⟩ : ∃ dst, dst = y.dst := ⟨_, rfl⟩
                obtain ⟨ar, har⟩ : ∃ ar, ar = y.a.reg := ⟨_, rfl⟩
                obtain ⟨an, han⟩ : ∃ an, an = y.a.n := ⟨_, rfl⟩
                obtain ⟨br, hbr⟩ : ∃ br, br = y.b.reg := ⟨_, rfl⟩
                obtain ⟨bnn, hbnn⟩ : ∃ bnn, bnn = y.b.n := ⟨_, rfl⟩
                obtain ⟨fnn, hfnn⟩ : ∃ fnn, fnn = y.fn := ⟨_, rfl⟩
                obtain ⟨al, hal⟩ : ∃ al, al = y.args.length := ⟨_, rfl⟩
                rw [← hop] at e0
                rw [← hdst] at e1
                rw [← har] at e2
                rw [← han] at e3
                rw [← hbr] at e4
                rw [← hbnn] at e5
                rw [← hfnn] at e6
                rw [← hal] at e7
                have hya : y.a = ⟨ar, an⟩ := by rw [har, han]
                have hyb : y.b = ⟨br, bnn⟩ := by rw [hbr, hbnn]
                have hai : I64 an := by rw [han]; exact hI.2.2.1
                have hbi : I64 bnn := by rw [hbnn]; exact hI.2.2.2.1
                have hva : ar = true → 0 ≤ an ∧ an < (R : Int) := fun h => by
                  have := hyo.a (by rw [← har]; exact h)
                  rw [← han, HR.out] at this
                  exact this
                have hvb : br = true → 0 ≤ bnn ∧ bnn < (R : Int) := fun h => by
                  have := hyo.b (by rw [← hbr]; exact h)
                  rw [← hbnn, HR.out] at this
                  exact this
                obtain ⟨Wb, hWb⟩ : ∃ Wb, Wb = wr.alloc (.cells #[.int .i64 op, .int .i64 dst, .bool ar, .int .i64 an, .bool br, .int .i64 bnn, .int .i64 fnn, .slice fa al fc] 70) := ⟨_, rfl⟩
                have hbb : Below wr.heap.size wr Wb := by rw [hWb]; (repeat (first | exact Below.refl _ _ | refine Below.alloc ?_ (by first | omega | (simp <;> omega)) _ | refine Below.setCell ?_ (by first | omega | (simp <;> omega)) _ | refine below_drewN ?_ _ | refine Below.drew ?_))
                have hub := huq.later hbb
                have HbWb : Hid (Below Wr.heap.size Wr Wb) := hbq.trans (hbb.mono hbq.size)
                have Hub := hid hub
                have HWb := hid hWb
                have hlq := huq.lt
                by_cases h17 : 17 < y.op
                · have Hs : Hid (insStep mm y = mm) := ins_more h17
                  rw [← hop] at h17
                  clear hcsi hI hyo hym hy hop hdst har han hbr hbnn hfnn hal hya hyb hWb hbb hub huq hva hvb hai hbi hbq hb2q hmm
                  go_wp2_with fail
                  rw [← HWb.out]
                  go_roundw
                  case rel => exact ⟨i + 1, by omega, by go_num, HbWb.out, by rw [Hnx.out, Hs.out]; exact Hub.out⟩
                  case measure => simp [intOf]; omega
                · have hd0 := hyo.low (by omega)
                  obtain ⟨qd, hq⟩ := Int.eq_ofNat_of_zero_le hd0
                  have hqR : qd < R := by have h1 := hyo.dst.2; have h2 := HR.out; omega
                  have hdq : dst = (qd : Int) := hdst.trans hq
                  subst hdq
                  have hop1 : 1 ≤ op := by rw [hop]; exact hyo.op.1
                  have hop17 : op ≤ 17 := by omega
                  have b0 : Wb.cell? ⟨wr.heap.size, 0, none⟩ = some (.int .i64 op) := by rw [hWb]; simp
                  have b1 : Wb.cell? ⟨wr.heap.size, 1, none⟩ = some (.int .i64 (qd : Int)) := by rw [hWb]; simp
                  have b2 : Wb.cell? ⟨wr.heap.size, 2, none⟩ = some (.bool ar) := by rw [hWb]; simp
                  have b3 : Wb.cell? ⟨wr.heap.size, 3, none⟩ = some (.int .i64 an) := by rw [hWb]; simp
                  have b4 : Wb.cell? ⟨wr.heap.size, 4, none⟩ = some (.bool br) := by rw [hWb]; simp
                  have b5 : Wb.cell? ⟨wr.heap.size, 5, none⟩ = some (.int .i64 bnn) := by rw [hWb]; simp
                  have hzb : wr.heap.size < Wb.heap.size := cell_lt b0
                  have hlb := hub.lt
                  have hne := hub.ne
                  have fq1 := (hub.fz qd).1
                  have fq2 := (hub.fz qd).2
                  obtain ⟨ci, g0, g1, -⟩ := hub.cells hqR
                  have hA : (∃ za, valM' mm ⟨ar, an⟩ = some za ∧ (ar = false ∧ an = bi za ∨ ∃ na : Nat, ar = true ∧ an = (na : Int) ∧ na < R ∧ Wb.cell? ⟨M, na, none⟩ = some (.int .i64 (bi za)) ∧ Wb.cell? ⟨I, na, none⟩ = some (.bool true) ∧ wr.cell? ⟨I, na, none⟩ = some (.bool true))) ∨ (valM' mm ⟨ar, an⟩ = none ∧ ∃ na : Nat, ar = true ∧ an = (na : Int) ∧ na < R ∧ wr.cell? ⟨I, na, none⟩ = some (.bool false)) := valM_cases huq hub hai hva
                  have hB : (∃ zb, valM' mm ⟨br, bnn⟩ = some zb ∧ (br = false ∧ bnn = bi zb ∨ ∃ na : Nat, br = true ∧ bnn = (na : Int) ∧ na < R ∧ Wb.cell? ⟨M, na, none⟩ = some (.int .i64 (bi zb)) ∧ Wb.cell? ⟨I, na, none⟩ = some (.bool true) ∧ wr.cell? ⟨I, na, none⟩ = some (.bool true))) ∨ (valM' mm ⟨br, bnn⟩ = none ∧ ∃ na : Nat, br = true ∧ bnn = (na : Int) ∧ na < R ∧ wr.cell? ⟨I, na, none⟩ = some (.bool false)) := valM_cases huq hub hbi hvb
                  have H17 := hid h17
                  have Hop := hid hop
                  have Hya := hid hya
                  have Hyb := hid hyb
                  have Hq := hid hq
                  clear hcsi hI hyo hym hy hop hdst har han hbr hbnn hfnn hal hya hyb hWb hbb huq hva hvb hai hbi hbq hb2q hmm h17 hd0 hq
                  rcases hA with ⟨za, hoa, hA⟩ | ⟨hoa, na, rfl, rfl, hna, hca⟩
                  case inr =>
                    as_aux_lemma =>
                      have Hs : Hid (insStep mm y = mm) := by show _ = _; exact ins_noA H17.out (by rw [Hya.out]; exact hoa)
                      clear hoa hB hub
                      go_wp2_with fail
                      rw [← HWb.out]
                      go_roundw
                      case rel => exact ⟨i + 1, by omega, by go_num, HbWb.out, by rw [Hnx.out, Hs.out]; exact Hub.out⟩
                      case measure => simp [intOf]; omega
                  case inl =>
                    rcases hB with ⟨zb, hob, hB⟩ | ⟨hob, nb, rfl, rfl, hnb, hcb⟩
                    case inr =>
                      have Hs : Hid (insStep mm y = mm) := by show _ = _; exact ins_noB H17.out (by rw [Hyb.out]; exact hob)
                      rcases hA with ⟨rfl, rfl⟩ | ⟨na, rfl, rfl, hna, hca, hcx, hcy⟩
                      all_goals
                        as_aux_lemma =>
                          clear hoa hob hub
                          go_wp2_with fail
                          rw [← HWb.out]
                          go_roundw
                          case rel => exact ⟨i + 1, by omega, by go_num, HbWb.out, by rw [Hnx.out, Hs.out]; exact Hub.out⟩
                          case measure => simp [intOf]; omega
                    case inl =>
                      cases ht : twoF op za zb with
                      | none =>
                        have Hs : Hid (insStep mm y = mm) := by show _ = _; exact ins_div H17.out (by rw [Hya.out]; exact hoa) (by rw [Hyb.out]; exact hob) (by rw [← Hop.out]; exact ht)
                        have Htw : Hid (∀ w', Calls Tryd.prog 66 #[.int .i64 op, .int .i64 (bi za), .int .i64 (bi zb)] w' fun e w'' => e = .returned (.tuple #[.int .i64 0, .bool false]) ∧ w' = w'') := fun w' => by have h := two_r_any op za zb w' hop1 hop17; rw [ht] at h; exact h
                        clear hoa hob ht hub
                        rcases hA with ⟨rfl, rfl⟩ | ⟨na, rfl, rfl, hna, hca, hcx, hcy⟩ <;> rcases hB with ⟨rfl, rfl⟩ | ⟨nb, rfl, rfl, hnb, hcb, hcz, hcw⟩
                        all_goals
                          as_aux_lemma =>
                            go_wp2_with fail
                            rw [← HWb.out]
                            go_region
                            go_wp2_with (go_at_call 66; (with_reducible refine (Htw.out _).mono ?_); rintro e w' ⟨rfl, rfl⟩)
                            go_roundw
                            case rel => exact ⟨i + 1, by omega, by go_num, (by have h := HbWb.out; (repeat (first | exact Below.refl _ _ | exact (h).mono (by first | omega | (simp <;> omega) | (have hh := (h).size; (try simp at hh); omega) | (have hh := (h).size; (try simp at hh); (try simp); omega)) | refine Below.trans ?_ ((h).mono (by first | omega | (simp <;> omega) | (have hh := (h).size; (try simp at hh); omega) | (have hh := (h).size; (try simp at hh); (try simp); omega))) | refine Below.alloc ?_ (by first | omega | (simp <;> omega) | (have hh := (h).size; (try simp at hh); omega) | (have hh := (h).size; (try simp at hh); (try simp); omega)) _ | refine Below.setCell ?_ (by first | omega | (simp <;> omega) | (have hh := (h).size; (try simp at hh); omega) | (have hh := (h).size; (try simp at hh); (try simp); omega)) _ | refine below_drewN ?_ _ | refine Below.drew ?_))), by rw [Hnx.out, Hs.out]; exact Hub.out.later (by (repeat (first | exact Below.refl _ _ | refine Below.alloc ?_ (by first | omega | (simp <;> omega)) _ | refine Below.setCell ?_ (by first | omega | (simp <;> omega)) _ | refine below_drewN ?_ _ | refine Below.drew ?_)))⟩
                            case measure => simp [intOf]; omega
                      | some zz =>
                        have hs : insStep mm y = phiPut mm qd (some zz) := by rw [insStep_put H17.out (by rw [Hya.out]; exact hoa) (by rw [Hyb.out]; exact hob) (z := zz) (by rw [← Hop.out]; exact ht), Hq.out, Int.toNat_natCast]
                        have Htw : Hid (∀ w', Calls Tryd.prog 66 #[.int .i64 op, .int .i64 (bi za), .int .i64 (bi zb)] w' fun e w'' => e = .returned (.tuple #[.int .i64 (bi zz), .bool true]) ∧ w' = w'') := fun w' => by have h := two_r_any op za zb w' hop1 hop17; rw [ht] at h; exact h
                        have hp1 := hub.put (d := qd) (i := bi zz) (b := true) (m' := phiPut mm qd (some zz)) (by unfold phiPut; rw [if_pos rfl]; rfl) (fun z hz => by unfold phiPut at hz; rw [if_pos rfl] at hz; injection hz with hz; rw [hz]) (fun r hr => by unfold phiPut; rw [if_neg hr])
                        have hp2 := hub.put' (d := qd) (i := bi zz) (b := true) (m' := phiPut mm qd (some zz)) (by unfold phiPut; rw [if_pos rfl]; rfl) (fun z hz => by unfold phiPut at hz; rw [if_pos rfl] at hz; injection hz with hz; rw [hz]) (fun r hr => by unfold phiPut; rw [if_neg hr])
                        rw [← hs, ← Hnx.out] at hp1 hp2
                        have Hp1 := hid hp1
                        have Hp2 := hid hp2
                        clear hoa hob ht hub hs hp1 hp2
                        rcases hA with ⟨rfl, rfl⟩ | ⟨na, rfl, rfl, hna, hca, hcx, hcy⟩ <;> rcases hB with ⟨rfl, rfl⟩ | ⟨nb, rfl, rfl, hnb, hcb, hcz, hcw⟩
                        all_goals
                          as_aux_lemma =>
                            go_wp2_with fail
                            rw [← HWb.out]
                            go_region
                            go_wp2_with (go_at_call 66; (with_reducible refine (Htw.out _).mono ?_); rintro e w' ⟨rfl, rfl⟩)
                            go_region
                            all_goals
                              go_wp2_with fail
                              go_roundw
                              case rel =>
                                have h := HbWb.out
                                have h2 := HMI.out
                                first
                                  | exact ⟨i + 1, by omega, by go_num, by (repeat (first | exact Below.refl _ _ | exact (h).mono (by first | omega | (simp <;> omega) | (have hh := (h).size; (try simp at hh); omega) | (have hh := (h).size; (try simp at hh); (try simp); omega)) | refine Below.trans ?_ ((h).mono (by first | omega | (simp <;> omega) | (have hh := (h).size; (try simp at hh); omega) | (have hh := (h).size; (try simp at hh); (try simp); omega))) | refine Below.alloc ?_ (by first | omega | (simp <;> omega) | (have hh := (h).size; (try simp at hh); omega) | (have hh := (h).size; (try simp at hh); (try simp); omega)) _ | refine Below.setCell ?_ (by first | omega | (simp <;> omega) | (have hh := (h).size; (try simp at hh); omega) | (have hh := (h).size; (try simp at hh); (try simp); omega)) _ | refine below_drewN ?_ _ | refine Below.drew ?_)), Hp1.out.later (by (repeat (first | exact Below.refl _ _ | refine Below.alloc ?_ (by first | omega | (simp <;> omega)) _ | refine Below.setCell ?_ (by first | omega | (simp <;> omega)) _ | refine below_drewN ?_ _ | refine Below.drew ?_)))⟩
                                  | exact ⟨i + 1, by omega, by go_num, by (repeat (first | exact Below.refl _ _ | exact (h).mono (by first | omega | (simp <;> omega) | (have hh := (h).size; (try simp at hh); omega) | (have hh := (h).size; (try simp at hh); (try simp); omega)) | refine Below.trans ?_ ((h).mono (by first | omega | (simp <;> omega) | (have hh := (h).size; (try simp at hh); omega) | (have hh := (h).size; (try simp at hh); (try simp); omega))) | refine Below.alloc ?_ (by first | omega | (simp <;> omega) | (have hh := (h).size; (try simp at hh); omega) | (have hh := (h).size; (try simp at hh); (try simp); omega)) _ | refine Below.setCell ?_ (by first | omega | (simp <;> omega) | (have hh := (h).size; (try simp at hh); omega) | (have hh := (h).size; (try simp at hh); (try simp); omega)) _ | refine below_drewN ?_ _ | refine Below.drew ?_)), Hp2.out.later (by (repeat (first | exact Below.refl _ _ | refine Below.alloc ?_ (by first | omega | (simp <;> omega)) _ | refine Below.setCell ?_ (by first | omega | (simp <;> omega)) _ | refine below_drewN ?_ _ | refine Below.drew ?_)))⟩
                              case measure => simp [intOf]; omega
              · have hin : i = x.list.length := by omega
                have hsf : UrAt wr M I R (kmNext x k m) := by
                  have h := huq
                  rw [hin, List.take_length, Hm1.out] at h
                  exact h
                have Hsf := hid hsf
                have hts := Hts.out.later rInt_mono hb2q
                obtain ⟨tb, toff, htae, t0⟩ := int_at9 hts (t := 0) (by have := Htl.out; omega)
                obtain ⟨tb', toff', htae', t1⟩ := int_at9 hts (t := 1) (by have := Htl.out; omega)
                subst htae
                cases htae'
                obtain ⟨to0, hto0⟩ : ∃ to0, to0 = x.fin.to[0]'(by have := Htl.out; omega) := ⟨_, rfl⟩
                obtain ⟨to1, hto1⟩ : ∃ to1, to1 = x.fin.to[1]'(by have := Htl.out; omega) := ⟨_, rfl⟩
                have g0 : x.fin.to.getD 0 0 = to0 := by rw [List.getD_eq_getElem?_getD, List.getElem?_eq_getElem (by have := Htl.out; omega), hto0]; rfl
                have g1 : x.fin.to.getD 1 0 = to1 := by rw [List.getD_eq_getElem?_getD, List.getElem?_eq_getElem (by have := Htl.out; omega), hto1]; rfl
                rw [← hto0, Nat.add_zero] at t0
                rw [← hto1] at t1
                have x3 := cell_later' X3.out hb2q
                have x4 := cell_later' X4.out hb2q
                have x5 := cell_later' X5.out hb2q
                have ztb : tb < wr.heap.size := cell_lt t0
                obtain ⟨onr, honr⟩ : ∃ onr, onr = x.fin.on.reg := ⟨_, rfl⟩
                obtain ⟨onn, honn⟩ : ∃ onn, onn = x.fin.on.n := ⟨_, rfl⟩
                have hone : x.fin.on = ⟨onr, onn⟩ := by rw [honr, honn]
                rw [← honr] at x3
                rw [← honn] at x4
                have hvn : onr = true → 0 ≤ onn ∧ onn < (R : Int) := fun h => by
                  have h1 := Hon.out (by rw [← honr]; exact h)
                  rw [← honn, HR.out] at h1
                  exact h1
                have hni : I64 onn := by rw [honn]; exact Hin.out
                have hrd : rndF x (b : Int) (1 - q) (8 - j) (j + 1) k m = match valM' (kmNext x k m) ⟨onr, onn⟩ with | none => 0 | some on => if (if bi on = 0 then to1 else to0) ≠ (b : Int) then ((j + 1 : Nat) : Int) else rndF x (b : Int) (1 - q) (8 - (j + 1)) (j + 1 + 1) (1 - q) (kmNext x k m) := by
                  rw [show 8 - j = (8 - (j + 1)) + 1 by omega, rndF, hone]
                  cases valM' (kmNext x k m) ⟨onr, onn⟩ with
                  | none => rfl
                  | some on => dsimp only; rw [goTo, g0, g1]
                rw [Hrd.out] at hrd
                have Hrd2 := hid hrd
                have hC := valM_cases hsf hsf hni hvn
                have HbW2 : Hid (Below W2.heap.size W2 wr) := hb2q
                have Hbwr : Hid (Below w.heap.size w wr) := Hw2.out.trans (hb2q.mono Hw2.out.size)
                have hlq := hsf.lt
                clear huq hin hsf hts g0 g1 hto0 hto1 honr honn hone hvn hni hrd hbq hb2q
                rcases hC with ⟨on, hon, hC⟩ | ⟨hon, na, rfl, rfl, hna, hca⟩
                case inr =>
                  as_aux_lemma =>
                    have Hr0 : Hid (unrF f.blocks b = 0) := by show _ = _; rw [Hrd2.out, hon]
                    clear hon
                    go_wp2_with fail
                    go_ret
                    exact ⟨ret_int Hr0.out.symm, Hbwr.out⟩
                case inl =>
                  have hr : unrF f.blocks b = if (if bi on = 0 then to1 else to0) ≠ (b : Int) then ((j + 1 : Nat) : Int) else rndF x (b : Int) (1 - q) (8 - (j + 1)) (j + 1 + 1) (1 - q) (kmNext x k m) := by rw [Hrd2.out, hon]
                  clear hon
                  obtain ⟨tt, htt⟩ : ∃ tt, tt = if bi on = 0 then to1 else to0 := ⟨_, rfl⟩
                  rw [← htt] at hr
                  by_cases htb : tt = (b : Int)
                  · have Hr1 : Hid (rndF x (b : Int) (1 - q) (8 - (j + 1)) (j + 1 + 1) (1 - q) (kmNext x k m) = unrF f.blocks b) := by show _ = _; rw [hr, if_neg (by simpa using htb)]
                    by_cases hz : bi on = 0
                    · have hte : to1 = tt := by rw [htt, if_pos hz]
                      have q0 : (decide (bi on < 0) || decide (0 < bi on)) = false := ne_no hz
                      have q1 : (decide (bi on ≤ 0) && decide (0 ≤ bi on)) = true := eq_yes hz
                      have q2 : (decide (to1 < (b : Int)) || decide ((b : Int) < to1)) = false := ne_no (hte.trans htb)
                      clear hr htt htb hz hte
                      rcases hC with ⟨rfl, rfl⟩ | ⟨na, rfl, rfl, hna, hca, hcx, -⟩
                      all_goals
                        as_aux_lemma =>
                          go_wp2_with fail
                          go_roundw
                          case rel => exact ⟨j + 1, 1 - q, M, I, kmNext x k m, by omega, by omega, by congr 1; omega, rfl, rfl, by go_num, HbW2.out, Hsf.out, Hr1.out⟩
                          case measure => simp [intOf]; omega
                    · have hte : to0 = tt := by rw [htt, if_neg hz]
                      have q0 : (decide (bi on < 0) || decide (0 < bi on)) = true := ne_yes hz
                      have q1 : (decide (bi on ≤ 0) && decide (0 ≤ bi on)) = false := eq_no hz
                      have q2 : (decide (to0 < (b : Int)) || decide ((b : Int) < to0)) = false := ne_no (hte.trans htb)
                      clear hr htt htb hz hte
                      rcases hC with ⟨rfl, rfl⟩ | ⟨na, rfl, rfl, hna, hca, hcx, -⟩
                      all_goals
                        as_aux_lemma =>
                          go_wp2_with fail
                          go_roundw
                          case rel => exact ⟨j + 1, 1 - q, M, I, kmNext x k m, by omega, by omega, by congr 1; omega, rfl, rfl, by go_num, HbW2.out, Hsf.out, Hr1.out⟩
                          case measure => simp [intOf]; omega
                  · have Hr1 : Hid (unrF f.blocks b = (j : Int) + 1) := by show _ = _; rw [hr, if_pos htb]; omega
                    by_cases hz : bi on = 0
                    · have hte : to1 = tt := by rw [htt, if_pos hz]
                      have q0 : (decide (bi on < 0) || decide (0 < bi on)) = false := ne_no hz
                      have q1 : (decide (bi on ≤ 0) && decide (0 ≤ bi on)) = true := eq_yes hz
                      have q2 : (decide (to1 < (b : Int)) || decide ((b : Int) < to1)) = true := ne_yes (fun e => htb (hte.symm.trans e))
                      clear hr htt htb hz hte
                      rcases hC with ⟨rfl, rfl⟩ | ⟨na, rfl, rfl, hna, hca, hcx, -⟩
                      all_goals
                        as_aux_lemma =>
                          go_wp2_with fail
                          go_ret
                          exact ⟨ret_int Hr1.out.symm, Hbwr.out⟩
                    · have hte : to0 = tt := by rw [htt, if_neg hz]
                      have q0 : (decide (bi on < 0) || decide (0 < bi on)) = true := ne_yes hz
                      have q1 : (decide (bi on ≤ 0) && decide (0 ≤ bi on)) = false := eq_no hz
                      have q2 : (decide (to0 < (b : Int)) || decide ((b : Int) < to0)) = true := ne_yes (fun e => htb (hte.symm.trans e))
                      clear hr htt htb hz hte
                      rcases hC with ⟨rfl, rfl⟩ | ⟨na, rfl, rfl, hna, hca, hcx, -⟩
                      all_goals
                        as_aux_lemma =>
                          go_wp2_with fail
                          go_ret
                          exact ⟨ret_int Hr1.out.symm, Hbwr.out⟩
      · have hj' : j = 8 := by omega
        have Hr0 : Hid (unrF f.blocks b = 0) := by
          show _ = _
          rw [← Hrd.out, hj']; rfl
        have q8 : decide ((j : Int) + 1 < 9) = false := decide_eq_false (by omega)
        clear hj' hj8
        go_wp2_with fail
        go_ret
        exact ⟨ret_int Hr0.out.symm, Hw2.out.trans (Hbw.out.mono Hw2.out.size)⟩

end Go.Proofs.YtaehkcnankijfaaDoor
