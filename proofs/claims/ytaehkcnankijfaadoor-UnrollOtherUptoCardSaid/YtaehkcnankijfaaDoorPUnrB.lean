/- unroll.rounds. -/
import Derived.Test.YtaehkcnankijfaaDoorPUnrQ
import Derived.Test.YtaehkcnankijfaaDoorPRowB
import Derived.Test.YtaehkcnankijfaaDoorPCopy
import Derived.Deep.RegionHeld3
import Derived.BigRegion
namespace Go.Proofs.YtaehkcnankijfaaDoor
open Go.RowKit Go.Maps

/-- Between two rounds: the box of what is known leads to its map; all else of an earlier world is kept. -/
structure KxSt (W0 W : World) (KX M cnt : Nat) (m : Km) : Prop where
  size : W0.heap.size ≤ W.heap.size
  keep : ∀ b, b < W0.heap.size → b ≠ KX → W.heap[b]? = W0.heap[b]?
  env : W.os = W0.os ∧ W.tape = W0.tape ∧ W.output = W0.output
  box : W.heap[KX]? = some (.cells #[.map (some M)] 166 (0, 0))
  map : MapAt W M cnt m
section
variable {W0 W W' : World} {KX M cnt : Nat} {m : Km}
theorem KxSt.later (h : KxSt W0 W KX M cnt m) (hb : Below W.heap.size W W') : KxSt W0 W' KX M cnt m := by
  have hz := h.size
  exact ⟨Nat.le_trans hz hb.size, fun b h1 h2 => (hb.block b (by omega)).trans (h.keep b h1 h2), ⟨hb.os.trans h.env.1, hb.tape.trans h.env.2.1, hb.output.trans h.env.2.2⟩, (hb.block KX (Array.getElem?_eq_some_iff.1 h.box).1).trans h.box, h.map.later hb⟩
theorem KxSt.cell (h : KxSt W0 W KX M cnt m) {b o : Nat} {v : Value} (hc : W0.cell? ⟨b, o, none⟩ = some v) (h1 : b ≠ KX) : W.cell? ⟨b, o, none⟩ = some v := by
  rw [World.cell?_of_block (w := W0) (a := ⟨b, o, none⟩) (h.keep b (cell_lt hc) h1)]; exact hc
theorem KxSt.atBox (h : KxSt W0 W KX M cnt m) : W.cell? ⟨KX, 0, none⟩ = some (.map (some M)) := by simp [World.cell?, h.box]
theorem KxSt.fz (h : KxSt W0 W KX M cnt m) : W.frozen? ⟨KX, 0, none⟩ = false := by simp [World.frozen?, h.box]
theorem KxSt.sl {α : Type} {r : Rp α} (hr : r.Mono) {S : Nat → Prop} {sz : Nat} {v : Value} {l : List α} (h : KxSt W0 W KX M cnt m) (hS : ∀ b, S b → b ≠ KX) (hs : SlAt S W0 sz r v l) : SlAt S W sz r v l :=
  hs.mono hr (fun _ h => h) (stays_at fun b hb hl => h.keep b hl (hS b hb))
theorem KxSt.below {w : World} (h : KxSt W0 W KX M cnt m) (hb : Below w.heap.size w W0) (h1 : w.heap.size ≤ KX) : Below w.heap.size w W := by
  have hz := hb.size
  exact ⟨h.env.1.trans hb.os, h.env.2.1.trans hb.tape, h.env.2.2.trans hb.output, Nat.le_trans hz h.size, fun k hk => (h.keep k (by omega) (by omega)).trans (hb.block k hk)⟩
/-- The box turned to another map. -/
theorem KxSt.turn (h : KxSt W0 W KX M cnt m) {N c : Nat} {m' : Km} (hN : MapAt W N c m') (hne : N ≠ KX) : KxSt W0 (W.setCell ⟨KX, 0, none⟩ (.map (some N))) KX N c m' := by
  refine ⟨by simpa [World.setCell] using h.size, fun b h1 h2 => ?_, h.env, ?_, ?_⟩
  · rw [Below.heap_setCell _ _ _ _ (by dsimp only; exact h2)]; exact h.keep b h1 h2
  · rw [heap_set_row h.box]; rfl
  · obtain ⟨D, h1, h2⟩ := hN
    exact ⟨D, h1.setCell (by dsimp only; exact hne) _, h2⟩
/-- The map written. -/
theorem KxSt.wrote (h : KxSt W0 W KX M cnt m) (hg : W.grownBy W' (some M)) (hM : W0.heap.size ≤ M) (hne : M ≠ KX) {c : Nat} {m' : Km} (hm : MapAt W' M c m') : KxSt W0 W' KX M c m' := by
  have hz := h.size
  refine ⟨Nat.le_trans hz hg.size, fun b h1 h2 => ?_, ⟨hg.os.trans h.env.1, hg.tape.trans h.env.2.1, hg.output.trans h.env.2.2⟩, ?_, hm⟩
  · rw [hg.block b (by omega) (fun e => by injection e with e; omega)]; exact h.keep b h1 h2
  · rw [hg.block KX (Array.getElem?_eq_some_iff.1 h.box).1 (fun e => by injection e with e; omega)]; exact h.box
end
@[go_sem] theorem shape_field (p q r : Bool) (w : World) : (Instr.field 169 (.agg #[.bool p, .bool q, .bool r]) 2).run Tryd.prog w = .ok (.bool r) w := by kernel_rfl

set_option maxRecDepth 100000 in
set_option maxHeartbeats 8000000 in
theorem rounds_any {S : Nat → Prop} (nm : ByteArray) (ba : Option Addr) (bc : Nat) (f : DFunc) (b before : Nat) (ex : Int) (x : DBlock) (w : World) (hf : FnOk f) (hx : f.blocks[b]? = some x) (h2 : (predsOf f.blocks 0 b).length = 2) (hk3 : x.fin.kind = 3) (hbf : before < 2)
    (hb : SlAt S w 6 rBlock (.slice ba f.blocks.length bc) f.blocks) (hS : ∀ b, S b → b < w.heap.size) :
    Calls Tryd.prog 64 #[.agg #[.string nm, .int .i64 f.params, .int .i64 f.regs, .slice ba f.blocks.length bc], .agg #[.int .i64 (before : Int), .int .i64 ((1 - before : Nat) : Int), .int .i64 ex], .int .i64 (b : Int)] w fun e w' => e = .returned (.int .i64 (roundsF x (b : Int) before)) ∧ Below w.heap.size w w' := by
  have Hf := hid hf
  have HS := hid hS
  have Hx := hid hx
  have hbl : b < f.blocks.length := (List.getElem?_eq_some_iff.1 hx).1
  have hbl40 : f.blocks.length ≤ 40 := hf.len.2
  obtain ⟨back, hback⟩ : ∃ back, back = 1 - before := ⟨_, rfl⟩
  rw [← hback]
  have hbk2 : back < 2 := by omega
  obtain ⟨xb, xoff, pa, pc, lad, lc, ta, tc, hbae, hcs, hph, hli, hts, hI1, hI2⟩ := block_at hb hbl
  subst hbae
  have hxe : f.blocks[b] = x := (List.getElem?_eq_some_iff.1 hx).2
  rw [hxe] at hcs hph hli hts hI2
  obtain ⟨d0, d1, d2, d3, d4, d5⟩ := hcs.get6
  have zx : xb < w.heap.size := cell_lt d0
  have hmany := hf.many x (List.mem_of_getElem? hx)
  have hpl : x.phis.length ≤ 300 := hmany.1
  have hll : x.list.length ≤ 300 := hmany.2
  have htl : x.fin.to.length = 2 := by
    have := (hf.kind b x hx).2.2.1
    rw [hk3] at this
    omega
  have hph2 : ∀ p ∈ x.phis, p.src.length = 2 := fun p hp => by rw [(hf.phi b x hx p hp).2.1, h2]
  have hrg : f.regs ≤ 100 := hf.pr.2.2.2
  have Hph := hid hph
  have Hli := hid hli
  have Hts := hid hts
  have Hps := hid hph2
  have Hin := hid hI2
  have Hbk := hid hback
  rw [htl] at d5
  obtain ⟨bn, hbn⟩ : ∃ bn, bn = f.blocks.length := ⟨_, rfl⟩
  rw [← hbn] at hbl hbl40 ⊢
  have hmm := @run_makeMap Tryd.prog
  have Hon : Hid (VOk f.regs x.fin.on) := hf.on b x hx
  have Hhk3 := hid hk3
  have Htl := hid htl
  clear hf hS hx hback hb hcs hph hli hts hI1 hI2 hxe hmany htl hph2 hbn h2 hk3
  go_enter Tryd.func64, Tryd.ntmps64
  go_wp2_with fail
  obtain ⟨Wa, hWa⟩ : ∃ Wa, Wa = (w.alloc (.cells #[.string nm, .int .i64 f.params, .int .i64 f.regs, .slice (some ⟨xb, xoff, none⟩) bn bc] 35)).alloc (.cells #[.int .i64 (before : Int), .int .i64 (back : Int), .int .i64 ex] 117) := ⟨_, rfl⟩
  have ha : Below w.heap.size w Wa := by rw [hWa]; (repeat (first | exact Below.refl _ _ | refine Below.alloc ?_ (by first | omega | (simp <;> omega)) _ | refine Below.setCell ?_ (by first | omega | (simp <;> omega)) _ | refine below_drewN ?_ _ | refine Below.drew ?_))
  have hsa : Wa.heap.size = w.heap.size + 1 + 1 := by rw [hWa]; simp
  have l1 : Wa.cell? ⟨w.heap.size + 1, 1, none⟩ = some (.int .i64 (back : Int)) := by rw [hWa]; simp
  rw [← hWa]
  obtain ⟨Wx, hWx⟩ : ∃ Wx, Wx = Wa.alloc (.cells #[.slice pa x.phis.length pc, .slice lad x.list.length lc, .int .i64 x.fin.kind, .bool x.fin.on.reg, .int .i64 x.fin.on.n, .slice ta 2 tc] 47) := ⟨_, rfl⟩
  have hxx : Below Wa.heap.size Wa Wx := by rw [hWx]; (repeat (first | exact Below.refl _ _ | refine Below.alloc ?_ (by first | omega | (simp <;> omega)) _ | refine Below.setCell ?_ (by first | omega | (simp <;> omega)) _ | refine below_drewN ?_ _ | refine Below.drew ?_))
  have hsx : Wx.heap.size = w.heap.size + 1 + 1 + 1 := by rw [hWx]; simp [hsa]
  have x0 : Wx.cell? ⟨Wa.heap.size, 0, none⟩ = some (.slice pa x.phis.length pc) := by rw [hWx]; simp
  have x1 : Wx.cell? ⟨Wa.heap.size, 1, none⟩ = some (.slice lad x.list.length lc) := by rw [hWx]; simp
  have x3 : Wx.cell? ⟨Wa.heap.size, 3, none⟩ = some (.bool x.fin.on.reg) := by rw [hWx]; simp
  have x4 : Wx.cell? ⟨Wa.heap.size, 4, none⟩ = some (.int .i64 x.fin.on.n) := by rw [hWx]; simp
  have x5 : Wx.cell? ⟨Wa.heap.size, 5, none⟩ = some (.slice ta 2 tc) := by rw [hWx]; simp
  rw [hsa] at x0 x1 x3 x4 x5
  rw [← hWx]
  obtain ⟨Wm, hWm⟩ : ∃ Wm, Wm = Wx.alloc (.map #[] 0) := ⟨_, rfl⟩
  have hmx : Below Wx.heap.size Wx Wm := by rw [hWm]; (repeat (first | exact Below.refl _ _ | refine Below.alloc ?_ (by first | omega | (simp <;> omega)) _ | refine Below.setCell ?_ (by first | omega | (simp <;> omega)) _ | refine below_drewN ?_ _ | refine Below.drew ?_))
  have hsm : Wm.heap.size = w.heap.size + 1 + 1 + 1 + 1 := by rw [hWm]; simp [hsx]
  have hM0 : MapAt Wm (w.heap.size + 1 + 1 + 1) 0 noKm := by rw [← hsx, hWm]; exact MapAt.made Wx
  rw [← hWm]
  obtain ⟨W0, hW0⟩ : ∃ W0, W0 = Wm.alloc (.cells #[.map (some (w.heap.size + 1 + 1 + 1))] 166) := ⟨_, rfl⟩
  have h0m : Below Wm.heap.size Wm W0 := by rw [hW0]; (repeat (first | exact Below.refl _ _ | refine Below.alloc ?_ (by first | omega | (simp <;> omega)) _ | refine Below.setCell ?_ (by first | omega | (simp <;> omega)) _ | refine below_drewN ?_ _ | refine Below.drew ?_))
  have hs0 : W0.heap.size = w.heap.size + 1 + 1 + 1 + 1 + 1 := by rw [hW0]; simp [hsm]
  have hbox : W0.heap[w.heap.size + 1 + 1 + 1 + 1]? = some (.cells #[.map (some (w.heap.size + 1 + 1 + 1))] 166 (0, 0)) := by rw [hW0, ← hsm]; exact heap_alloc_new _ _
  have hM0 := hM0.later h0m
  have hx0 : Below Wx.heap.size Wx W0 := hmx.trans (h0m.mono hmx.size)
  have ha0 : Below Wa.heap.size Wa W0 := hxx.trans (hx0.mono hxx.size)
  have L1 := hid (cell_later' l1 ha0)
  have X0 := hid (cell_later' x0 hx0)
  have X1 := hid (cell_later' x1 hx0)
  have X3 := hid (cell_later' x3 hx0)
  have X4 := hid (cell_later' x4 hx0)
  have X5 := hid (cell_later' x5 hx0)
  have Hw0 : Hid (Below w.heap.size w W0) := ha.trans (ha0.mono ha.size)
  rw [← hW0]
  obtain ⟨LB, hLB⟩ : ∃ LB, LB = w.heap.size + 1 := ⟨_, rfl⟩
  obtain ⟨XB, hXB⟩ : ∃ XB, XB = w.heap.size + 1 + 1 := ⟨_, rfl⟩
  obtain ⟨M0, hM0e⟩ : ∃ M0, M0 = w.heap.size + 1 + 1 + 1 := ⟨_, rfl⟩
  obtain ⟨KX, hKX⟩ : ∃ KX, KX = w.heap.size + 1 + 1 + 1 + 1 := ⟨_, rfl⟩
  rw [← hKX, ← hM0e] at hbox
  rw [← hM0e] at hM0
  rw [← hLB] at L1
  rw [← hXB] at X0 X1 X3 X4 X5
  rw [← hKX, ← hM0e, ← hXB, ← hLB]
  have hLK : LB ≠ KX := by omega
  have hXK : XB ≠ KX := by omega
  have hwK : w.heap.size ≤ KX := by omega
  have hK0 : KX < W0.heap.size := by omega
  have hst0 : KxSt W0 W0 KX M0 0 noKm := ⟨Nat.le_refl _, fun _ _ _ => rfl, ⟨rfl, rfl, rfl⟩, hbox, hM0⟩
  have Hst0 := hid hst0
  have HSd : Hid (∀ b, S b → b ≠ KX) := fun b hb => by have := HS.out b hb; omega
  have Hph := hid (Hph.out.later rPhi_mono Hw0.out)
  have Hli := hid (Hli.out.later rIns_mono Hw0.out)
  have Hts := hid (Hts.out.later rInt_mono Hw0.out)
  clear hmm ha hsa l1 hWa hxx hsx x0 x1 x3 x4 x5 hWx hmx hsm hM0 hWm h0m hs0 hbox hx0 ha0 hW0 hLB hXB hM0e hKX hst0 d0 d1 d2 d3 d4 d5 zx
  go_loopw [10, 11] (fun s10 s11 wr => ∃ (j k M cnt : Nat) (m : Km), j ≤ 8 ∧ k < 2 ∧ s10 = .int .i64 (k : Int) ∧ s11 = .int .i64 ((j : Int) + 1) ∧ cnt ≤ 600 ∧ KxSt W0 wr KX M cnt m ∧ rndF x (b : Int) back (8 - j) (j + 1) k m = roundsF x (b : Int) before) (fun _ s11 _ => 9 - (intOf s11).toNat)
  case atStart => exact ⟨0, before, M0, 0, noKm, by omega, hbf, rfl, rfl, by omega, Hst0.out, by unfold roundsF; rw [Hbk.out]⟩
  case round =>
    clear Hst0
    obtain ⟨j, k, M, cnt, m, hj, hk, rfl, rfl, hcnt, hst, hrd⟩ := hrel
    have Hst := hid hst
    have Hrd := hid hrd
    have Hbw : Hid (Below w.heap.size w wr) := hst.below Hw0.out hwK
    have x0 := hst.cell X0.out hXK
    have zX : XB < wr.heap.size := cell_lt x0
    have hs0r : W0.heap.size ≤ wr.heap.size := hst.size
    clear hst hrd
    by_cases hj8 : j < 8
    · have q8 : decide ((j : Int) + 1 ≤ 8) = true := decide_eq_true (by omega)
      have hmm := @run_makeMap Tryd.prog
      go_wp2_with fail
      clear hmm x0
      obtain ⟨Wn, hWn⟩ : ∃ Wn, Wn = wr.alloc (.map #[] 0) := ⟨_, rfl⟩
      have hbn : Below wr.heap.size wr Wn := by rw [hWn]; (repeat (first | exact Below.refl _ _ | refine Below.alloc ?_ (by first | omega | (simp <;> omega)) _ | refine Below.setCell ?_ (by first | omega | (simp <;> omega)) _ | refine below_drewN ?_ _ | refine Below.drew ?_))
      have hN0 : MapAt Wn wr.heap.size 0 noKm := by rw [hWn]; exact MapAt.made wr
      rw [← hWn]
      obtain ⟨N, hN⟩ : ∃ N, N = wr.heap.size := ⟨_, rfl⟩
      rw [← hN] at hN0 ⊢
      have hNK : N ≠ KX := by omega
      have hWN : W0.heap.size ≤ N := by omega
      have HN := hid hN
      have HN0 := hid hN0
      have Hbn := hid hbn
      obtain ⟨Wr, hWr⟩ : ∃ Wr : World, Wr = wr := ⟨_, rfl⟩
      subst hWr
      clear hWn hbn hN0 hN
      go_loopw [45] (fun s45 wp => ∃ (p c : Nat), p ≤ x.phis.length ∧ c ≤ p ∧ s45 = .int .i64 (p : Int) ∧ Below Wr.heap.size Wr wp ∧ MapAt wp N c (phiM k m (x.phis.take p))) (fun s45 _ => x.phis.length - (intOf s45).toNat)
      case atStart => exact ⟨0, 0, Nat.zero_le _, Nat.zero_le _, rfl, Hbn.out, HN0.out⟩
      case round =>
        clear HN0 Hbn
        obtain ⟨p, c, hp, hc, rfl, hbp, hmp⟩ := hrel
        have Hbp := hid hbp
        have Hmp := hid hmp
        have hstp := Hst.out.later hbp
        have Hstp := hid hstp
        by_cases hpl2 : p < x.phis.length
        · obtain ⟨pb, poff, fa, fc, hpae, e0, e1, hsrc, hdI, -⟩ := phi_at (hstp.sl rPhi_mono HSd.out Hph.out) hpl2
          subst hpae
          have zp : pb < wr.heap.size := cell_lt e0
          obtain ⟨y, hy⟩ : ∃ y, y = x.phis[p] := ⟨_, rfl⟩
          rw [← hy] at e0 e1 hsrc
          have hym : y ∈ x.phis := by rw [hy]; exact List.getElem_mem _
          have hyl := Hps.out y hym
          rw [hyl] at e1 hsrc
          have hyf := Hf.out.phi b x Hx.out y hym
          obtain ⟨q, hq⟩ := Int.eq_ofNat_of_zero_le hyf.1.1
          have hqn : q < 100 := by have := hyf.1.2; omega
          rw [hq] at e0
          obtain ⟨vb, voff, hve, v0, v1⟩ := val_at hsrc (k := k) (by rw [hyl]; exact hk)
          subst hve
          have zv : vb < wr.heap.size := cell_lt v0
          obtain ⟨v, hv⟩ : ∃ v, v = y.src[k]'(by rw [hyl]; exact hk) := ⟨_, rfl⟩
          rw [← hv] at v0 v1
          have hvm : v ∈ y.src := by rw [hv]; exact List.getElem_mem _
          have hvo := hyf.2.2 v hvm
          have hvi : I64 v.n := by
            obtain ⟨b9, o9, cs9, -, -, ⟨-, h9⟩, -, -⟩ := hsrc.get (k := k) (by rw [hyl]; exact hk)
            rw [hv]; exact h9
          have hvg : y.src.getD k ⟨false, 0⟩ = v := by rw [List.getD_eq_getElem?_getD, List.getElem?_eq_getElem (by rw [hyl]; exact hk), hv]; rfl
          obtain ⟨r, hr⟩ : ∃ r, r = v.reg := ⟨_, rfl⟩
          obtain ⟨n, hn⟩ : ∃ n, n = v.n := ⟨_, rfl⟩
          have hve2 : v = ⟨r, n⟩ := by rw [hr, hn]
          rw [← hr] at v0
          rw [← hn] at v1 hvi
          have hvr : r = true → 0 ≤ n ∧ n < 1048576 := fun h => by
            have := hvo (by rw [← hr]; exact h)
            rw [← hn] at this
            omega
          have Hnx : Hid (phiM k m (x.phis.take (p + 1)) = phiStep k m (phiM k m (x.phis.take p)) y) := by show _ = _; rw [phiM_step hpl2, hy]
          have i0 : (0 : Int) ≤ (k : Int) := by omega
          have i1 : (k : Int) < 2 := by omega
          have hcall : ∀ w', Below wr.heap.size wr w' → Calls Tryd.prog 106 #[.agg #[.bool r, .int .i64 n], .pointer (some ⟨KX, 0, none⟩)] w' fun e w'' => ∃ c : Int, e = .returned (.tuple #[.int .i64 c, .bool (valM' m ⟨r, n⟩).isSome]) ∧ (∀ x, valM' m ⟨r, n⟩ = some x → c = bi x) ∧ Below wr.heap.size wr w'' ∧ Below w'.heap.size w' w'' := fun w' h =>
            (uval_any KX M cnt m r n w' (cell_later' hstp.atBox h) (hstp.map.later h) hvi hvr).mono fun e w'' ⟨c, h1, h2, _, h4⟩ => ⟨c, h1, h2, h.trans (h4.mono h.size), h4⟩
          have Hcall := hid hcall
          have Hq := hid hq
          cases ho : valM' m ⟨r, n⟩ with
          | some z =>
            have Hs : Hid (phiStep k m (phiM k m (x.phis.take p)) y = putM (phiM k m (x.phis.take p)) q z) := by
              show _ = _
              rw [putM_some (x := z) (by rw [hvg, hve2]; exact ho), hq, Int.toNat_natCast]
            have hkey := key_int q (by omega)
            rw [ho] at Hcall
            clear hstp hsrc hy hym hyl hyf hdI hq hv hvm hvo hvi hvg hr hn hve2 hvr hcall ho hbp hmp
            go_wp2_with (first
              | (go_at_call 106; (with_reducible refine (Hcall.out _ ?_).mono ?_); (repeat (first | exact Below.refl _ _ | refine Below.alloc ?_ (by first | omega | (simp <;> omega)) _ | refine Below.setCell ?_ (by first | omega | (simp <;> omega)) _ | refine below_drewN ?_ _ | refine Below.drew ?_)); rintro e w2 ⟨cc, rfl, hcz, hb2, hb3⟩; have hcz2 := hcz z rfl; subst hcz2; have Hb2 := hid hb2; have p0 : w2.cell? ⟨wr.heap.size, 0, none⟩ = some (.int .i64 (q : Int)) := (hb3.cell (p := ⟨wr.heap.size, 0, none⟩) (by simp)).trans (by simp); have zw : wr.heap.size < w2.heap.size := cell_lt p0; clear hcz hb2 hb3)
              | (at_mapUpdate; obtain ⟨D, hD, hD2⟩ := (Hmp.out.later Hb2.out); have HD2 := hid hD2; clear hD2; refine wpList_mapUpdate_own _ rfl _ _ _ 166 rfl 3 3 kInt Tryd.underlying166 _ N c _ rfl hD (by unfold maxLen; omega) _ _ _ rfl rfl hkey _ [] (plainElem_int Tryd.underlying3 (bi_wf _)) ?_; intro w3 hown3 hgrow3))
            have hm3 : MapAt w3 N (c + 1) (phiM k m (x.phis.take (p + 1))) := by rw [Hnx.out, Hs.out]; exact MapAt.put hown3 hD HD2.out
            have hb3 : Below Wr.heap.size Wr w3 := (Hbp.out.trans (Hb2.out.mono Hbp.out.size)).grown hgrow3 (Nat.le_trans Hbp.out.size Hb2.out.size) (fun g e => by cases e; rw [← HN.out]; exact Nat.le_refl _)
            have Hm3 := hid hm3
            have Hb3 := hid hb3
            clear hown3 hgrow3 hm3 hb3 hD
            go_wp2_with fail
            go_roundw
            case rel => exact ⟨p + 1, c + 1, by omega, by omega, by go_num, Hb3.out, Hm3.out⟩
            case measure => simp [intOf]; omega
          | none =>
            have Hs : Hid (phiStep k m (phiM k m (x.phis.take p)) y = phiM k m (x.phis.take p)) := by
              show _ = _
              rw [putM_none (by rw [hvg, hve2]; exact ho)]
            rw [ho] at Hcall
            clear hstp hsrc hy hym hyl hyf hdI hq hv hvm hvo hvi hvg hr hn hve2 hvr hcall ho hbp hmp
            go_wp2_with (first
              | (go_at_call 106; (with_reducible refine (Hcall.out _ ?_).mono ?_); (repeat (first | exact Below.refl _ _ | refine Below.alloc ?_ (by first | omega | (simp <;> omega)) _ | refine Below.setCell ?_ (by first | omega | (simp <;> omega)) _ | refine below_drewN ?_ _ | refine Below.drew ?_)); rintro e w2 ⟨cc, rfl, hcz, hb2, hb3⟩; have Hb2 := hid hb2; clear hcz hb2 hb3))
            go_roundw
            case rel => exact ⟨p + 1, c, by omega, by omega, by go_num, Hbp.out.trans (Hb2.out.mono Hbp.out.size), by rw [Hnx.out, Hs.out]; exact Hmp.out.later Hb2.out⟩
            case measure => simp [intOf]; omega
        · have hpn : p = x.phis.length := by omega
          have Hmp2 : Hid (MapAt wr N c (phiM k m x.phis)) := by
            have h := hmp
            rw [hpn, List.take_length] at h
            exact h
          have l1 := hstp.cell L1.out hLK
          have x1 := hstp.cell X1.out hXK
          have kb := hstp.atBox
          have kf := hstp.fz
          have zL : LB < wr.heap.size := cell_lt l1
          have zX2 : XB < wr.heap.size := cell_lt x1
          have zK : KX < wr.heap.size := cell_lt kb
          clear hpn hmp hbp hstp
          go_wp2_with fail
          go_region
          obtain ⟨V, hV⟩ : ∃ V, V = (wr.setCell ⟨KX, 0, none⟩ (.map (some N))).drew := ⟨_, rfl⟩
          rw [← hV]
          have hstV : KxSt W0 V KX N c (phiM k m x.phis) := by rw [hV]; exact (Hstp.out.turn Hmp2.out hNK).later (Below.refl _ _).drew
          have HstV := hid hstV
          have x1 := hstV.cell X1.out hXK
          have zX3 : XB < V.heap.size := cell_lt x1
          obtain ⟨m1, hm1⟩ : ∃ m1, m1 = phiM k m x.phis := ⟨_, rfl⟩
          have Hm1 := hid hm1
          rw [← hm1] at HstV
          have hc300 : c ≤ 300 := by omega
          clear hV hstV l1 kb kf hm1 Hstp Hmp2 Hmp Hbp
          go_wp2_with fail
          clear x1 zX2 zX3 zL zK zX
          go_loopw [71] (fun s71 wq => ∃ (i c : Nat), i ≤ x.list.length ∧ c ≤ 300 + i ∧ s71 = .int .i64 (i : Int) ∧ KxSt W0 wq KX N c (insM m1 (x.list.take i))) (fun s71 _ => x.list.length - (intOf s71).toNat)
          case atStart => exact ⟨0, c, Nat.zero_le _, by omega, rfl, HstV.out⟩
          case round =>
            clear HstV hp hc hc300
            obtain ⟨i, c, hi, hc, rfl, hsq⟩ := hrel
            have Hsq := hid hsq
            by_cases hil : i < x.list.length
            · obtain ⟨ib, ioff, fa, fc, hiae, hcsi, -, hI⟩ := ins_at (hsq.sl rIns_mono HSd.out Hli.out) hil
              subst hiae
              obtain ⟨y, hy⟩ : ∃ y, y = x.list[i] := ⟨_, rfl⟩
              rw [← hy] at hcsi hI
              obtain ⟨e0, e1, e2, e3, e4, e5, e6, e7⟩ := hcsi.get8
              have zi : ib < wr.heap.size := cell_lt e0
              have hym : y ∈ x.list := by rw [hy]; exact List.getElem_mem _
              have hyo := Hf.out.ins b x Hx.out y hym
              have Hnx : Hid (insM m1 (x.list.take (i + 1)) = insStep (insM m1 (x.list.take i)) y) := by show _ = _; rw [insM_step hil, hy]
              obtain ⟨op, hop⟩ : ∃ op, op = y.op := ⟨_, rfl⟩
              obtain ⟨dst, hdst⟩ : ∃ dst, dst = y.dst := ⟨_, rfl⟩
              obtain ⟨ar, har⟩ : ∃ ar, ar = y.a.reg := ⟨_, rfl⟩
              obtain ⟨an, han⟩ : ∃ an, an = y.a.n := ⟨_, rfl⟩
              obtain ⟨br, hbr⟩ : ∃ br, br = y.b.reg := ⟨_, rfl⟩
              obtain ⟨bnn, hbnn⟩ : ∃ bnn, bnn = y.b.n := ⟨_, rfl⟩
              obtain ⟨fnn, hfnn⟩ : ∃ fnn, fnn = y.fn := ⟨_, rfl⟩
              obtain ⟨al, hal⟩ : ∃ al, al = y.args.length := ⟨_, rfl⟩
              rw [← hop] at e0
              rw [← hdst] at e1
              rw [← har] at e2
              rw [← han] at e3
              rw [← hbr] at e4
              rw [← hbnn] at e5
              rw [← hfnn] at e6
              rw [← hal] at e7
              have hya : y.a = ⟨ar, an⟩ := by rw [har, han]
              have hyb : y.b = ⟨br, bnn⟩ := by rw [hbr, hbnn]
              obtain ⟨Wb, hWb⟩ : ∃ Wb, Wb = wr.alloc (.cells #[.int .i64 op, .int .i64 dst, .bool ar, .int .i64 an, .bool br, .int .i64 bnn, .int .i64 fnn, .slice fa al fc] 70) := ⟨_, rfl⟩
              have hbb : Below wr.heap.size wr Wb := by rw [hWb]; (repeat (first | exact Below.refl _ _ | refine Below.alloc ?_ (by first | omega | (simp <;> omega)) _ | refine Below.setCell ?_ (by first | omega | (simp <;> omega)) _ | refine below_drewN ?_ _ | refine Below.drew ?_))
              have hstb := hsq.later hbb
              have Hbb := hid hbb
              have Hstb := hid hstb
              by_cases h17 : 17 < y.op
              · have Hs : Hid (insStep (insM m1 (x.list.take i)) y = insM m1 (x.list.take i)) := ins_more h17
                rw [← hop] at h17
                have HWb := hid hWb
                clear hsq hcsi hI hyo hym hy hop hdst har han hbr hbnn hfnn hal hya hyb hWb hbb hstb
                go_wp2_with fail
                rw [← HWb.out]
                go_roundw
                case rel => exact ⟨i + 1, c, by omega, by omega, by go_num, by rw [Hnx.out, Hs.out]; exact Hstb.out⟩
                case measure => simp [intOf]; omega
              · have hop1 := hyo.op.1
                have hd0 := hyo.low (by omega)
                obtain ⟨q, hq⟩ := Int.eq_ofNat_of_zero_le hd0
                have hq1 : q < 100 := by have := hyo.dst.2; omega
                have hdq : dst = (q : Int) := hdst.trans hq
                subst hdq
                have b0 : Wb.cell? ⟨wr.heap.size, 0, none⟩ = some (.int .i64 op) := by rw [hWb]; simp
                have b1 : Wb.cell? ⟨wr.heap.size, 1, none⟩ = some (.int .i64 (q : Int)) := by rw [hWb]; simp
                have b4 : Wb.cell? ⟨wr.heap.size, 4, none⟩ = some (.bool br) := by rw [hWb]; simp
                have b5 : Wb.cell? ⟨wr.heap.size, 5, none⟩ = some (.int .i64 bnn) := by rw [hWb]; simp
                have hzb : wr.heap.size < Wb.heap.size := cell_lt b0
                have hva : ar = true → 0 ≤ an ∧ an < 1048576 := fun h => by
                  have := hyo.a (by rw [← har]; exact h)
                  rw [← han] at this
                  omega
                have hvb : br = true → 0 ≤ bnn ∧ bnn < 1048576 := fun h => by
                  have := hyo.b (by rw [← hbr]; exact h)
                  rw [← hbnn] at this
                  omega
                have hai : I64 an := by rw [han]; exact hI.2.2.1
                have hbi : I64 bnn := by rw [hbnn]; exact hI.2.2.2.1
                have Hca : Hid (∀ w', Below Wb.heap.size Wb w' → Calls Tryd.prog 106 #[.agg #[.bool ar, .int .i64 an], .pointer (some ⟨KX, 0, none⟩)] w' fun e w'' => ∃ cc : Int, e = .returned (.tuple #[.int .i64 cc, .bool (valM' (insM m1 (x.list.take i)) ⟨ar, an⟩).isSome]) ∧ (∀ z, valM' (insM m1 (x.list.take i)) ⟨ar, an⟩ = some z → cc = bi z) ∧ Below Wb.heap.size Wb w'' ∧ Below w'.heap.size w' w'') := fun w' h =>
                  (uval_any KX N c _ ar an w' (cell_later' hstb.atBox h) (hstb.map.later h) hai hva).mono fun e w'' ⟨cc, h1, h2, _, h4⟩ => ⟨cc, h1, h2, h.trans (h4.mono h.size), h4⟩
                have Hcb : Hid (∀ w', Below Wb.heap.size Wb w' → Calls Tryd.prog 106 #[.agg #[.bool br, .int .i64 bnn], .pointer (some ⟨KX, 0, none⟩)] w' fun e w'' => ∃ cc : Int, e = .returned (.tuple #[.int .i64 cc, .bool (valM' (insM m1 (x.list.take i)) ⟨br, bnn⟩).isSome]) ∧ (∀ z, valM' (insM m1 (x.list.take i)) ⟨br, bnn⟩ = some z → cc = bi z) ∧ Below Wb.heap.size Wb w'' ∧ Below w'.heap.size w' w'') := fun w' h =>
                  (uval_any KX N c _ br bnn w' (cell_later' hstb.atBox h) (hstb.map.later h) hbi hvb).mono fun e w'' ⟨cc, h1, h2, _, h4⟩ => ⟨cc, h1, h2, h.trans (h4.mono h.size), h4⟩
                have kb : Wb.cell? ⟨KX, 0, none⟩ = some (.map (some N)) := hstb.atBox
                have zKb : KX < Wb.heap.size := cell_lt kb
                have H17 := hid h17
                have hop17 : op ≤ 17 := by omega
                have hop1' : 1 ≤ op := by omega
                have Hop := hid hop
                have Hq := hid hq
                have Hyo := hid hyo
                have Hya := hid hya
                have Hyb := hid hyb
                have HWb := hid hWb
                have Hqk := hid (key_int q (by omega))
                clear hsq hcsi hI hyo hym hy hop hdst har han hbr hbnn hfnn hal hWb hbb hstb hva hvb hai hbi h17 hop1 hd0 hq hya hyb
                cases hoa : valM' (insM m1 (x.list.take i)) ⟨ar, an⟩ with
                | none =>
                  have Hs : Hid (insStep (insM m1 (x.list.take i)) y = insM m1 (x.list.take i)) := by show _ = _; exact ins_noA H17.out (by rw [Hya.out]; exact hoa)
                  rw [hoa] at Hca
                  obtain ⟨ob, hob⟩ : ∃ ob, ob = valM' (insM m1 (x.list.take i)) ⟨br, bnn⟩ := ⟨_, rfl⟩
                  rw [← hob] at Hcb
                  clear hoa hob
                  go_wp2_with (first
                    | (go_at_call 106; rw [← HWb.out]; (with_reducible refine (Hca.out _ ?_).mono ?_); exact Below.refl _ _; rintro e w2 ⟨ca, rfl, hca, hb2, -⟩;  have b0 := cell_later' b0 hb2; have b1 := cell_later' b1 hb2; have kb := cell_later' kb hb2; have hzb := cell_lt b0; have zKb := cell_lt kb; have b4 := cell_later' b4 hb2; have b5 := cell_later' b5 hb2; have Hb2 := hid hb2; clear hb2 hca)
                    | (go_at_call 106; (with_reducible refine (Hcb.out _ ?_).mono ?_); exact Hb2.out; rintro e w3 ⟨cb, rfl, hcb, hb3, hb3'⟩;  have b0 := cell_later' b0 hb3'; have b1 := cell_later' b1 hb3'; have kb := cell_later' kb hb3'; have hzb := cell_lt b0; have zKb := cell_lt kb; have Hb3 := hid hb3; clear hb3 hb3' hcb))
                  go_roundw
                  case rel => exact ⟨i + 1, c, by omega, by omega, by go_num, by rw [Hnx.out, Hs.out]; exact Hstb.out.later Hb3.out⟩
                  case measure => simp [intOf]; omega
                | some za =>
                  rw [hoa] at Hca
                  cases hob : valM' (insM m1 (x.list.take i)) ⟨br, bnn⟩ with
                  | none =>
                    have Hs : Hid (insStep (insM m1 (x.list.take i)) y = insM m1 (x.list.take i)) := by show _ = _; exact ins_noB H17.out (by rw [Hyb.out]; exact hob)
                    have hbt : br = true := by
                      cases hbr2 : br with
                      | true => rfl
                      | false => rw [hbr2] at hob; unfold valM' at hob; simp at hob
                    have Hsb : Hid (shpB op = true) := by
                      show _ = _
                      cases hs : shpB op with
                      | true => rfl
                      | false =>
                        have h1 := Hyo.out.offB (by rw [← Hop.out]; exact hs)
                        rw [Hyb.out] at h1
                        injection h1 with h1
                        rw [hbt] at h1; cases h1
                    have Hsh : Hid (∀ w', Calls Tryd.prog 107 #[.int .i64 op] w' fun e w'' => ∃ sp sq, e = .returned (.agg #[.bool sp, .bool sq, .bool true]) ∧ Below w'.heap.size w' w'') := fun w' => (shapes_any op w').mono fun e w'' ⟨h1, h2⟩ => ⟨shpD op, shpA op, by rw [h1, Hsb.out], h2⟩
                    rw [hob] at Hcb
                    clear hoa hob hbt
                    go_wp2_with (first
                      | (go_at_call 106; rw [← HWb.out]; (with_reducible refine (Hca.out _ ?_).mono ?_); exact Below.refl _ _; rintro e w2 ⟨ca, rfl, hca, hb2, -⟩; have hcz := hca _ rfl; subst hcz; have b0 := cell_later' b0 hb2; have b1 := cell_later' b1 hb2; have kb := cell_later' kb hb2; have hzb := cell_lt b0; have zKb := cell_lt kb; have b4 := cell_later' b4 hb2; have b5 := cell_later' b5 hb2; have Hb2 := hid hb2; clear hb2 hca)
                      | (go_at_call 106; (with_reducible refine (Hcb.out _ ?_).mono ?_); exact Hb2.out; rintro e w3 ⟨cb, rfl, hcb, hb3, hb3'⟩;  have b0 := cell_later' b0 hb3'; have b1 := cell_later' b1 hb3'; have kb := cell_later' kb hb3'; have hzb := cell_lt b0; have zKb := cell_lt kb; have Hb3 := hid hb3; clear hb3 hb3' hcb)
                      | (go_at_call 107; ((with_reducible refine (Hsh.out _).mono ?_); rintro e w4 ⟨sp, sq, rfl, hb4⟩; have b0 := cell_later' b0 hb4; have b1 := cell_later' b1 hb4; have kb := cell_later' kb hb4; have hzb := cell_lt b0; have zKb := cell_lt kb; have Hb4 := hid (Hb3.out.trans (hb4.mono Hb3.out.size)); clear hb4)))
                    go_roundw
                    case rel => exact ⟨i + 1, c, by omega, by omega, by go_num, by rw [Hnx.out, Hs.out]; exact Hstb.out.later Hb4.out⟩
                    case measure => simp [intOf]; omega
                  | some zb =>
                    rw [hob] at Hcb
                    obtain ⟨sb, hsb⟩ : ∃ sb, shpB op = sb := ⟨_, rfl⟩
                    have Hsb := hid hsb
                    have Hsh : Hid (∀ w', Calls Tryd.prog 107 #[.int .i64 op] w' fun e w'' => ∃ sp sq, e = .returned (.agg #[.bool sp, .bool sq, .bool sb]) ∧ Below w'.heap.size w' w'') := fun w' => (shapes_any op w').mono fun e w'' ⟨h1, h2⟩ => ⟨shpD op, shpA op, by rw [h1, Hsb.out], h2⟩
                    clear hsb Hsb
                    cases ht : twoF op za zb with
                    | none =>
                      have Hs : Hid (insStep (insM m1 (x.list.take i)) y = insM m1 (x.list.take i)) := by show _ = _; exact ins_div H17.out (by rw [Hya.out]; exact hoa) (by rw [Hyb.out]; exact hob) (by rw [← Hop.out]; exact ht)
                      have Htw : Hid (∀ w', Calls Tryd.prog 108 #[.int .i64 op, .int .i64 (bi za), .int .i64 (bi zb)] w' fun e w'' => e = .returned (.tuple #[.int .i64 0, .bool false]) ∧ w' = w'') := fun w' => by have h := two_c_any op za zb w' hop1' hop17; rw [ht] at h; exact h
                      clear hoa hob ht
                      cases sb
                      all_goals
                        go_wp2_with (first
                          | (go_at_call 106; rw [← HWb.out]; (with_reducible refine (Hca.out _ ?_).mono ?_); exact Below.refl _ _; rintro e w2 ⟨ca, rfl, hca, hb2, -⟩; have hcz := hca _ rfl; subst hcz; have b0 := cell_later' b0 hb2; have b1 := cell_later' b1 hb2; have kb := cell_later' kb hb2; have hzb := cell_lt b0; have zKb := cell_lt kb; have b4 := cell_later' b4 hb2; have b5 := cell_later' b5 hb2; have Hb2 := hid hb2; clear hb2 hca)
                          | (go_at_call 106; (with_reducible refine (Hcb.out _ ?_).mono ?_); exact Hb2.out; rintro e w3 ⟨cb, rfl, hcb, hb3, hb3'⟩; have hcz := hcb _ rfl; subst hcz; have b0 := cell_later' b0 hb3'; have b1 := cell_later' b1 hb3'; have kb := cell_later' kb hb3'; have hzb := cell_lt b0; have zKb := cell_lt kb; have Hb3 := hid hb3; clear hb3 hb3' hcb)
                          | (go_at_call 107; ((with_reducible refine (Hsh.out _).mono ?_); rintro e w4 ⟨sp, sq, rfl, hb4⟩; have b0 := cell_later' b0 hb4; have b1 := cell_later' b1 hb4; have kb := cell_later' kb hb4; have hzb := cell_lt b0; have zKb := cell_lt kb; have Hb4 := hid (Hb3.out.trans (hb4.mono Hb3.out.size)); clear hb4))
                          | (go_at_call 108; (with_reducible refine (Htw.out _).mono ?_); rintro e w' ⟨rfl, rfl⟩))
                        go_roundw
                        case rel => exact ⟨i + 1, c, by omega, by omega, by go_num, by rw [Hnx.out, Hs.out]; exact Hstb.out.later Hb4.out⟩
                        case measure => simp [intOf]; omega
                    | some zz =>
                      have Hs : Hid (insStep (insM m1 (x.list.take i)) y = putM (insM m1 (x.list.take i)) q zz) := by
                        show _ = _
                        rw [ins_put H17.out (by rw [Hya.out]; exact hoa) (by rw [Hyb.out]; exact hob) (z := zz) (by rw [← Hop.out]; exact ht), Hq.out, Int.toNat_natCast]
                      have Htw : Hid (∀ w', Calls Tryd.prog 108 #[.int .i64 op, .int .i64 (bi za), .int .i64 (bi zb)] w' fun e w'' => e = .returned (.tuple #[.int .i64 (bi zz), .bool true]) ∧ w' = w'') := fun w' => by have h := two_c_any op za zb w' hop1' hop17; rw [ht] at h; exact h
                      clear hoa hob ht
                      cases sb
                      all_goals
                        go_wp2_with (first
                          | (go_at_call 106; rw [← HWb.out]; (with_reducible refine (Hca.out _ ?_).mono ?_); exact Below.refl _ _; rintro e w2 ⟨ca, rfl, hca, hb2, -⟩; have hcz := hca _ rfl; subst hcz; have b0 := cell_later' b0 hb2; have b1 := cell_later' b1 hb2; have kb := cell_later' kb hb2; have hzb := cell_lt b0; have zKb := cell_lt kb; have b4 := cell_later' b4 hb2; have b5 := cell_later' b5 hb2; have Hb2 := hid hb2; clear hb2 hca)
                          | (go_at_call 106; (with_reducible refine (Hcb.out _ ?_).mono ?_); exact Hb2.out; rintro e w3 ⟨cb, rfl, hcb, hb3, hb3'⟩; have hcz := hcb _ rfl; subst hcz; have b0 := cell_later' b0 hb3'; have b1 := cell_later' b1 hb3'; have kb := cell_later' kb hb3'; have hzb := cell_lt b0; have zKb := cell_lt kb; have Hb3 := hid hb3; clear hb3 hb3' hcb)
                          | (go_at_call 107; ((with_reducible refine (Hsh.out _).mono ?_); rintro e w4 ⟨sp, sq, rfl, hb4⟩; have b0 := cell_later' b0 hb4; have b1 := cell_later' b1 hb4; have kb := cell_later' kb hb4; have hzb := cell_lt b0; have zKb := cell_lt kb; have Hb4 := hid (Hb3.out.trans (hb4.mono Hb3.out.size)); clear hb4))
                          | (go_at_call 108; (with_reducible refine (Htw.out _).mono ?_); rintro e w' ⟨rfl, rfl⟩)
                          | (at_mapUpdate; obtain ⟨D, hD, hD2⟩ := (Hstb.out.later Hb4.out).map; have HD2 := hid hD2; clear hD2; refine wpList_mapUpdate_own _ rfl _ _ _ 166 rfl 3 3 kInt Tryd.underlying166 _ N c _ rfl hD (by unfold maxLen; omega) _ _ _ rfl rfl Hqk.out _ [] (plainElem_int Tryd.underlying3 (bi_wf _)) ?_; intro w5 hown5 hgrow5))
                        have hm5 : MapAt w5 N (c + 1) (insM m1 (x.list.take (i + 1))) := by rw [Hnx.out, Hs.out]; exact MapAt.put hown5 hD HD2.out
                        have Hs5 := hid ((Hstb.out.later Hb4.out).wrote hgrow5 hWN hNK hm5)
                        clear hown5 hgrow5 hm5 hD
                        go_wp2_with fail
                        go_roundw
                        case rel => exact ⟨i + 1, c + 1, by omega, by omega, by go_num, Hs5.out⟩
                        case measure => simp [intOf]; omega
            · have hin : i = x.list.length := by omega
              have Hsf : Hid (KxSt W0 wr KX N c (kmNext x k m)) := by
                have h := hsq
                rw [hin, List.take_length, Hm1.out] at h
                exact h
              have hts := hsq.sl rInt_mono HSd.out Hts.out
              obtain ⟨tb, toff, htae, t0⟩ := int_at9 hts (t := 0) (by have := Htl.out; omega)
              obtain ⟨tb', toff', htae', t1⟩ := int_at9 hts (t := 1) (by have := Htl.out; omega)
              subst htae
              cases htae'
              obtain ⟨to0, hto0⟩ : ∃ to0, to0 = x.fin.to[0]'(by have := Htl.out; omega) := ⟨_, rfl⟩
              obtain ⟨to1, hto1⟩ : ∃ to1, to1 = x.fin.to[1]'(by have := Htl.out; omega) := ⟨_, rfl⟩
              have g0 : x.fin.to.getD 0 0 = to0 := by rw [List.getD_eq_getElem?_getD, List.getElem?_eq_getElem (by have := Htl.out; omega), hto0]; rfl
              have g1 : x.fin.to.getD 1 0 = to1 := by rw [List.getD_eq_getElem?_getD, List.getElem?_eq_getElem (by have := Htl.out; omega), hto1]; rfl
              rw [← hto0, Nat.add_zero] at t0
              rw [← hto1] at t1
              have x3 := hsq.cell X3.out hXK
              have x4 := hsq.cell X4.out hXK
              have x5 := hsq.cell X5.out hXK
              have kb := hsq.atBox
              have zKb : KX < wr.heap.size := cell_lt kb
              have zXb : XB < wr.heap.size := cell_lt x3
              have ztb : tb < wr.heap.size := cell_lt t0
              obtain ⟨onr, honr⟩ : ∃ onr, onr = x.fin.on.reg := ⟨_, rfl⟩
              obtain ⟨onn, honn⟩ : ∃ onn, onn = x.fin.on.n := ⟨_, rfl⟩
              have hone : x.fin.on = ⟨onr, onn⟩ := by rw [honr, honn]
              rw [← honr] at x3
              rw [← honn] at x4
              have hvn : onr = true → 0 ≤ onn ∧ onn < 1048576 := fun h => by
                have h1 := Hon.out (by rw [← honr]; exact h)
                have h2 := Hf.out.pr.2.2.2
                rw [← honn] at h1
                omega
              have hni : I64 onn := by rw [honn]; exact Hin.out
              have Hcn : Hid (Calls Tryd.prog 106 #[.agg #[.bool onr, .int .i64 onn], .pointer (some ⟨KX, 0, none⟩)] wr fun e w'' => ∃ cc : Int, e = .returned (.tuple #[.int .i64 cc, .bool (valM' (kmNext x k m) ⟨onr, onn⟩).isSome]) ∧ (∀ z, valM' (kmNext x k m) ⟨onr, onn⟩ = some z → cc = bi z) ∧ Below wr.heap.size wr w'') :=
                (uval_any KX N c _ onr onn wr Hsf.out.atBox Hsf.out.map hni hvn).mono fun e w'' ⟨cc, h1, h2, _, h4⟩ => ⟨cc, h1, h2, h4⟩
              have Hbwr : Hid (Below w.heap.size w wr) := Hsf.out.below Hw0.out hwK
              have hrd : rndF x (b : Int) back (8 - j) (j + 1) k m = match valM' (kmNext x k m) ⟨onr, onn⟩ with | none => 0 | some on => if (if bi on = 0 then to1 else to0) ≠ (b : Int) then ((j + 1 : Nat) : Int) else rndF x (b : Int) back (8 - (j + 1)) (j + 1 + 1) back (kmNext x k m) := by
                rw [show 8 - j = (8 - (j + 1)) + 1 by omega, rndF, hone]
                cases valM' (kmNext x k m) ⟨onr, onn⟩ with
                | none => rfl
                | some on => dsimp only; rw [goTo, g0, g1]
              rw [Hrd.out] at hrd
              have Hrd2 := hid hrd
              clear hsq hin hts g0 g1 hto0 hto1 honr honn hone hvn hni hrd
              cases hon : valM' (kmNext x k m) ⟨onr, onn⟩ with
              | none =>
                have Hr : Hid (roundsF x (b : Int) before = 0) := by show _ = _; rw [Hrd2.out, hon]
                rw [hon] at Hcn
                clear hon
                go_wp2_with (go_at_call 106; (with_reducible refine Hcn.out.mono ?_); rintro e w2 ⟨ca, rfl, hca, hb2⟩; have Hb2 := hid hb2; clear hb2 hca)
                go_ret
                exact ⟨ret_int Hr.out.symm, Hbwr.out.trans (Hb2.out.mono Hbwr.out.size)⟩
              | some on =>
                have hr : roundsF x (b : Int) before = if (if bi on = 0 then to1 else to0) ≠ (b : Int) then ((j + 1 : Nat) : Int) else rndF x (b : Int) back (8 - (j + 1)) (j + 1 + 1) back (kmNext x k m) := by rw [Hrd2.out, hon]
                rw [hon] at Hcn
                clear hon
                obtain ⟨tt, htt⟩ : ∃ tt, tt = if bi on = 0 then to1 else to0 := ⟨_, rfl⟩
                rw [← htt] at hr
                by_cases htb : tt = (b : Int)
                · have Hr : Hid (rndF x (b : Int) back (8 - (j + 1)) (j + 1 + 1) back (kmNext x k m) = roundsF x (b : Int) before) := by show _ = _; rw [hr, if_neg (by simpa using htb)]
                  by_cases hz : bi on = 0
                  · have hte : to1 = tt := by rw [htt, if_pos hz]
                    have q1 : (decide (bi on ≤ 0) && decide (0 ≤ bi on)) = true := eq_yes hz
                    have q2 : (decide (to1 < (b : Int)) || decide ((b : Int) < to1)) = false := ne_no (hte.trans htb)
                    clear hr htt htb hz hte
                    go_wp2_with (go_at_call 106; (with_reducible refine Hcn.out.mono ?_); rintro e w2 ⟨ca, rfl, hca, hb2⟩; have hcz := hca _ rfl; subst hcz; have x3 := cell_later' x3 hb2; have x5 := cell_later' x5 hb2; have t0 := cell_later' t0 hb2; have t1 := cell_later' t1 hb2; have zXb := cell_lt x3; have ztb := cell_lt t0; have Hb2 := hid hb2; clear hb2 hca)
                    go_roundw
                    case rel => exact ⟨j + 1, back, N, c, kmNext x k m, by omega, hbk2, rfl, by go_num, by omega, Hsf.out.later Hb2.out, Hr.out⟩
                    case measure => simp [intOf]; omega
                  · have hte : to0 = tt := by rw [htt, if_neg hz]
                    have q1 : (decide (bi on ≤ 0) && decide (0 ≤ bi on)) = false := eq_no hz
                    have q2 : (decide (to0 < (b : Int)) || decide ((b : Int) < to0)) = false := ne_no (hte.trans htb)
                    clear hr htt htb hz hte
                    go_wp2_with (go_at_call 106; (with_reducible refine Hcn.out.mono ?_); rintro e w2 ⟨ca, rfl, hca, hb2⟩; have hcz := hca _ rfl; subst hcz; have x3 := cell_later' x3 hb2; have x5 := cell_later' x5 hb2; have t0 := cell_later' t0 hb2; have t1 := cell_later' t1 hb2; have zXb := cell_lt x3; have ztb := cell_lt t0; have Hb2 := hid hb2; clear hb2 hca)
                    go_roundw
                    case rel => exact ⟨j + 1, back, N, c, kmNext x k m, by omega, hbk2, rfl, by go_num, by omega, Hsf.out.later Hb2.out, Hr.out⟩
                    case measure => simp [intOf]; omega
                · have Hr : Hid (roundsF x (b : Int) before = (j : Int) + 1) := by show _ = _; rw [hr, if_pos htb]; omega
                  by_cases hz : bi on = 0
                  · have hte : to1 = tt := by rw [htt, if_pos hz]
                    have q1 : (decide (bi on ≤ 0) && decide (0 ≤ bi on)) = true := eq_yes hz
                    have q2 : (decide (to1 < (b : Int)) || decide ((b : Int) < to1)) = true := ne_yes (fun e => htb (hte.symm.trans e))
                    clear hr htt htb hz hte
                    go_wp2_with (go_at_call 106; (with_reducible refine Hcn.out.mono ?_); rintro e w2 ⟨ca, rfl, hca, hb2⟩; have hcz := hca _ rfl; subst hcz; have x3 := cell_later' x3 hb2; have x5 := cell_later' x5 hb2; have t0 := cell_later' t0 hb2; have t1 := cell_later' t1 hb2; have zXb := cell_lt x3; have ztb := cell_lt t0; have Hb2 := hid hb2; clear hb2 hca)
                    go_ret
                    exact ⟨ret_int Hr.out.symm, Hbwr.out.trans (Hb2.out.mono Hbwr.out.size)⟩
                  · have hte : to0 = tt := by rw [htt, if_neg hz]
                    have q1 : (decide (bi on ≤ 0) && decide (0 ≤ bi on)) = false := eq_no hz
                    have q2 : (decide (to0 < (b : Int)) || decide ((b : Int) < to0)) = true := ne_yes (fun e => htb (hte.symm.trans e))
                    clear hr htt htb hz hte
                    go_wp2_with (go_at_call 106; (with_reducible refine Hcn.out.mono ?_); rintro e w2 ⟨ca, rfl, hca, hb2⟩; have hcz := hca _ rfl; subst hcz; have x3 := cell_later' x3 hb2; have x5 := cell_later' x5 hb2; have t0 := cell_later' t0 hb2; have t1 := cell_later' t1 hb2; have zXb := cell_lt x3; have ztb := cell_lt t0; have Hb2 := hid hb2; clear hb2 hca)
                    go_ret
                    exact ⟨ret_int Hr.out.symm, Hbwr.out.trans (Hb2.out.mono Hbwr.out.size)⟩
    · have hj' : j = 8 := by omega
      have Hr : Hid (roundsF x (b : Int) before = 0) := by
        show _ = _
        rw [← Hrd.out, hj']; rfl
      have q8 : decide ((j : Int) + 1 ≤ 8) = false := decide_eq_false (by omega)
      clear hj' hj8
      go_wp2_with fail
      go_ret
      exact ⟨ret_int Hr.out.symm, Hbw.out⟩

end Go.Proofs.YtaehkcnankijfaaDoor
