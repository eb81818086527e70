/- code.Ahead of a unit in its form; turnerylaw6.weighFits. turnerylaw6.weighFits: are there as many counts as blocks? -/
import Derived.Test.YtaehkcnankijfaaDoorBy1
import Derived.Test.YtaehkcnankijfaaDoorAhd
import Derived.Test.YtaehkcnankijfaaDoorCopy
import Derived.Test.YtaehkcnankijfaaDoorSame
import Derived.BigQuiet
namespace Go.Proofs.YtaehkcnankijfaaDoor
open Go.RowKit

theorem ahead_any' {S : Nat → Prop} (nm : ByteArray) (p r : Int) (ba : Option Addr) (bc : Nat) (bs : List DBlock) (n : Nat) (w : World) (hb : SlAt S w 6 rBlock (.slice ba n bc) bs) (hbn : bs.length = n) (hn : n ≤ 1048576)
    (hto : ∀ (k : Nat) (x : DBlock), bs[k]? = some x → x.fin.to.length ≤ 2 ∧ ∀ t ∈ x.fin.to, 0 ≤ t ∧ t < (bs.length : Int)) :
    Calls Tryd.prog 76 #[.agg #[.string nm, .int .i64 p, .int .i64 r, .slice ba n bc]] w fun e w' =>
      ∃ a c, e = .returned (.slice a n c) ∧ SlAt (fun b => w.heap.size ≤ b) w' 1 rRow (.slice a n c) (aheadF bs) ∧ Below w.heap.size w w' := by
  subst hbn
  refine (ahead_any nm p r ba bc bs w hb hn hto).mono ?_
  rintro e w' ⟨v, rfl, hv, hb⟩
  obtain ⟨a, c, rfl⟩ := sl_len hv
  have hl : (aheadF bs).length = bs.length := by unfold aheadF; simp
  rw [hl] at hv ⊢
  exact ⟨a, c, rfl, hv, hb⟩

theorem res_ahead {fn : Func} (hfn : fn.results = #[.tmp 4, .cell 5 28]) {tmps : Array Value} {b : Nat} {v : Value} (hv : tmps.getD 4 undef = v) (ht : tmps.getD 5 undef = .pointer (some ⟨b, 0, none⟩)) {c a : Int} {W : World}
    (h0 : W.cell? ⟨b, 0, none⟩ = some (.int .i64 c)) (h1 : W.cell? ⟨b, 1, none⟩ = some (.int .i64 a)) : (results fn tmps).run Tryd.prog W = .ok (.tuple #[v, .agg #[.int .i64 c, .int .i64 a]]) W := by
  simp only [Array.getD_eq_getD_getElem?] at ht hv
  simp [results, hfn, ht, hv, go_sem, h0, h1]

set_option maxRecDepth 100000 in
set_option maxHeartbeats 2000000 in
theorem Ahead_ok {S : Nat → Prop} (ga : Option Addr) (gc : Nat) (fa : Option Addr) (fc : Nat) (gs : List DGlobal) (fs : List DFunc) (kk : Nat) (w : World)
    (hg : SlAt S w 3 rGlobal (.slice ga gs.length gc) gs) (hf : SlAt S w 4 rFunc (.slice fa fs.length fc) fs) (hw : Ways w)
    (hgl : gs.length ≤ 1048576) (hfl : fs.length ≤ 1048576) (hsm : ∀ (k : Nat) (f : DFunc), fs[k]? = some f → manyOf f.blocks ≤ 1048576 ∧ f.blocks.length ≤ 1048576)
    (hck : checkF ⟨gs, fs⟩ = (0, 0)) (hkn : kk < fs.length) :
    Calls Tryd.prog 51 #[.agg #[.slice ga gs.length gc, .slice fa fs.length fc], .int .i64 kk] w fun e w' =>
      ∃ a c, e = .returned (.tuple #[.slice a fs[kk].blocks.length c, .agg #[.int .i64 0, .int .i64 0]]) ∧ SlAt (fun b => w.heap.size ≤ b) w' 1 rRow (.slice a fs[kk].blocks.length c) (aheadF fs[kk].blocks) ∧ Below w.heap.size w w' := by
  have Hg := hid hg
  have Hf := hid hf
  have Hw := hid hw
  have Hsm := hid hsm
  have Hck := hid hck
  clear hg hf hw hsm hck
  go_enter Tryd.func51, Tryd.ntmps51
  obtain ⟨W, hW⟩ : ∃ W, W = (w.alloc (.cells #[.slice ga gs.length gc, .slice fa fs.length fc] 25)).alloc (.cells #[.int .i64 0, .int .i64 0] 28) := ⟨_, rfl⟩
  have hbW : Below w.heap.size w W := by rw [hW]; (repeat (first | exact Below.refl _ _ | refine Below.alloc ?_ (by first | omega | (simp <;> omega)) _ | refine Below.setCell ?_ (by first | omega | (simp <;> omega)) _ | refine below_drewN ?_ _ | refine Below.drew ?_))
  have HbW := hid hbW
  have W0 : Hid (W.cell? ⟨w.heap.size, 0, none⟩ = some (.slice ga gs.length gc)) := by show _ = _; rw [hW]; simp
  have W1 : Hid (W.cell? ⟨w.heap.size, 1, none⟩ = some (.slice fa fs.length fc)) := by show _ = _; rw [hW]; simp
  have R0 : Hid (W.cell? ⟨w.heap.size + 1, 0, none⟩ = some (.int .i64 0)) := by show _ = _; rw [hW]; simp
  have R1 : Hid (W.cell? ⟨w.heap.size + 1, 1, none⟩ = some (.int .i64 0)) := by show _ = _; rw [hW]; simp
  have F0 : Hid (W.frozen? ⟨w.heap.size + 1, 0, none⟩ = false) := by show _ = _; rw [hW]; simp
  have F1 : Hid (W.frozen? ⟨w.heap.size + 1, 1, none⟩ = false) := by show _ = _; rw [hW]; simp
  have hWs : W.heap.size = w.heap.size + 2 := by rw [hW]; simp
  go_wp2_with fail
  rw [← hW]
  have hwW : Ways W := Ways.below Hw.out hbW
  refine (check_any (S := S) ga gc fa fc gs fs W (Hg.out.later rGlobal_mono hbW) (Hf.out.later rFunc_mono hbW) hwW hgl hfl Hsm.out).mono ?_
  rintro e w1 ⟨rfl, hb1⟩
  have g0 := cell_later' W0.out hb1
  have g1 := cell_later' W1.out hb1
  have g2 := cell_later' R0.out hb1
  have g3 := cell_later' R1.out hb1
  have k2 := (hb1.frozen (p := ⟨w.heap.size + 1, 0, none⟩) (by simp; omega)).trans F0.out
  have k3 := (hb1.frozen (p := ⟨w.heap.size + 1, 1, none⟩) (by simp; omega)).trans F1.out
  have z1 : w.heap.size + 1 < w1.heap.size := cell_lt g2
  have z0 : w.heap.size < w1.heap.size := cell_lt g0
  rw [Hck.out]
  have Hw1 : Hid (Below w.heap.size w w1) := HbW.out.trans (hb1.mono (by omega))
  clear hb1 hW hbW hwW
  obtain ⟨b, off, xa, xc, rfl, hcs, hxb, -, -⟩ := func_at Hf.out hkn
  obtain ⟨c0, c1, c2, c3⟩ := (hcs.later Hw1.out).get4
  obtain ⟨n1, n2, n3⟩ := checkF_func (u := ⟨gs, fs⟩) (k := kk) (f := fs[kk]) (by rw [Hck.out]) (List.getElem?_eq_getElem hkn)
  have N3 := hid n3
  have Hxb := hid hxb
  have hb9 : b < w1.heap.size := cell_lt c3
  have hwi : decide ((0 : Int) ≤ (kk : Int) ∧ (kk : Int) ≤ (fs.length : Int) - 1) = true := decide_eq_true ⟨by omega, by omega⟩
  clear hcs n3 hxb
  go_wp2_with (first
    | (go_at_call 40; ((with_reducible refine (within_any _ _ _ _).mono ?_); rintro e w' ⟨rfl, rfl⟩; rw [hwi])))
  refine (ahead_any' _ _ _ xa xc fs[kk].blocks _ _ (Hxb.out.later rBlock_mono ?_) rfl (by omega) ?_).mono ?_
  · have h := Hw1.out; (repeat (first | exact Below.refl _ _ | exact (h).mono (by first | omega | (simp <;> omega) | (have hh := (h).size; (try simp at hh); omega) | (have hh := (h).size; (try simp at hh); (try simp); omega)) | refine Below.trans ?_ ((h).mono (by first | omega | (simp <;> omega) | (have hh := (h).size; (try simp at hh); omega) | (have hh := (h).size; (try simp at hh); (try simp); omega))) | refine Below.alloc ?_ (by first | omega | (simp <;> omega) | (have hh := (h).size; (try simp at hh); omega) | (have hh := (h).size; (try simp at hh); (try simp); omega)) _ | refine Below.setCell ?_ (by first | omega | (simp <;> omega) | (have hh := (h).size; (try simp at hh); omega) | (have hh := (h).size; (try simp at hh); (try simp); omega)) _ | refine below_drewN ?_ _ | refine Below.drew ?_))
  · intro i x hx
    have h := endE_ok (N3.out i x hx)
    refine ⟨by omega, fun t ht => ?_⟩
    have := h.2.2.2.1 t ht
    omega
  · rintro e w2 ⟨a, c, rfl, hv, hb2⟩
    have hq2 : Below w1.heap.size w1 w2 := by (repeat (first | exact Below.refl _ _ | exact (hb2).mono (by first | omega | (simp <;> omega) | (have hh := (hb2).size; (try simp at hh); omega) | (have hh := (hb2).size; (try simp at hh); (try simp); omega)) | refine Below.trans ?_ ((hb2).mono (by first | omega | (simp <;> omega) | (have hh := (hb2).size; (try simp at hh); omega) | (have hh := (hb2).size; (try simp at hh); (try simp); omega))) | refine Below.alloc ?_ (by first | omega | (simp <;> omega) | (have hh := (hb2).size; (try simp at hh); omega) | (have hh := (hb2).size; (try simp at hh); (try simp); omega)) _ | refine Below.setCell ?_ (by first | omega | (simp <;> omega) | (have hh := (hb2).size; (try simp at hh); omega) | (have hh := (hb2).size; (try simp at hh); (try simp); omega)) _ | refine below_drewN ?_ _ | refine Below.drew ?_))
    have g4 := cell_later' g2 hq2
    have g5 := cell_later' g3 hq2
    have k4 := (hq2.frozen (p := ⟨w.heap.size + 1, 0, none⟩) z1).trans k2
    have k5 := (hq2.frozen (p := ⟨w.heap.size + 1, 1, none⟩) z1).trans k3
    have Hv := hid hv
    have Hq2 := hid hq2
    clear hv hq2 hb2
    go_wp2_with fail
    have q := set_two (u := .int .i64 0) (v := .int .i64 0) g4 g5
    refine bodyPost_ret (res_ahead rfl rfl rfl (c := 0) (a := 0) q.1 q.2) rfl ⟨_, _, rfl, ?_, ?_⟩
    · refine Hv.out.mono rRow_mono (fun b hb => ?_) ((stays_set _ ?_).trans (stays_set _ ?_))
      · simp at hb; omega
      · intro b hb; simp at hb; simp; omega
      · intro b hb; simp at hb; simp; omega
    · have h := Hw1.out; have h2 := Hq2.out; (repeat (first | exact Below.refl _ _ | exact (h2).mono (by first | omega | (simp <;> omega) | (have hh := (h2).size; (try simp at hh); omega) | (have hh := (h2).size; (try simp at hh); (try simp); omega) | (have hh := (h).size; (try simp at hh); omega) | (have hh := (h).size; (try simp at hh); (try simp); omega)) | refine Below.trans ?_ ((h2).mono (by first | omega | (simp <;> omega) | (have hh := (h2).size; (try simp at hh); omega) | (have hh := (h2).size; (try simp at hh); (try simp); omega) | (have hh := (h).size; (try simp at hh); omega) | (have hh := (h).size; (try simp at hh); (try simp); omega))) | exact (h).mono (by first | omega | (simp <;> omega) | (have hh := (h2).size; (try simp at hh); omega) | (have hh := (h2).size; (try simp at hh); (try simp); omega) | (have hh := (h).size; (try simp at hh); omega) | (have hh := (h).size; (try simp at hh); (try simp); omega)) | refine Below.trans ?_ ((h).mono (by first | omega | (simp <;> omega) | (have hh := (h2).size; (try simp at hh); omega) | (have hh := (h2).size; (try simp at hh); (try simp); omega) | (have hh := (h).size; (try simp at hh); omega) | (have hh := (h).size; (try simp at hh); (try simp); omega))) | refine Below.alloc ?_ (by first | omega | (simp <;> omega) | (have hh := (h2).size; (try simp at hh); omega) | (have hh := (h2).size; (try simp at hh); (try simp); omega) | (have hh := (h).size; (try simp at hh); omega) | (have hh := (h).size; (try simp at hh); (try simp); omega)) _ | refine Below.setCell ?_ (by first | omega | (simp <;> omega) | (have hh := (h2).size; (try simp at hh); omega) | (have hh := (h2).size; (try simp at hh); (try simp); omega) | (have hh := (h).size; (try simp at hh); omega) | (have hh := (h).size; (try simp at hh); (try simp); omega)) _ | refine below_drewN ?_ _ | refine Below.drew ?_))

end Go.Proofs.YtaehkcnankijfaaDoor

namespace Go.Proofs.YtaehkcnankijfaaDoor
open Go.RowKit

theorem res_fault4 {fn : Func} (hfn : fn.results = #[.cell 4 28]) {tmps : Array Value} {b : Nat} (ht : tmps.getD 4 undef = .pointer (some ⟨b, 0, none⟩)) {c a : Int} {W : World}
    (h0 : W.cell? ⟨b, 0, none⟩ = some (.int .i64 c)) (h1 : W.cell? ⟨b, 1, none⟩ = some (.int .i64 a)) : (results fn tmps).run Tryd.prog W = .ok (.agg #[.int .i64 c, .int .i64 a]) W := by
  simp only [Array.getD_eq_getD_getElem?] at ht
  simp [results, hfn, ht, go_sem, h0, h1]
theorem rows_at {S : Nat → Prop} {w : World} {a : Option Addr} {n c : Nat} {l : List (List Int)} (h : SlAt S w 1 rRow (.slice a n c) l) {t : Nat} (ht : t < l.length) : ∃ b off ra rc, a = some ⟨b, off, none⟩ ∧ w.cell? ⟨b, off + t, none⟩ = some (.slice ra l[t].length rc) ∧ SlAt S w 1 rInt (.slice ra l[t].length rc) l[t] := by
  obtain ⟨b, off, cs, ha, -, ⟨v, rfl, hv⟩, -, hcs⟩ := h.get ht
  have d := hcs.get1
  rw [Nat.mul_one] at d
  obtain ⟨ra, rc, rfl, -⟩ := hv.val
  exact ⟨b, off, ra, rc, ha, d, hv⟩

set_option maxRecDepth 100000 in
set_option maxHeartbeats 2000000 in
theorem fits_any {S S' : Nat → Prop} (ga : Option Addr) (gc : Nat) (fa : Option Addr) (fc : Nat) (gs : List DGlobal) (fs : List DFunc) (ca : Option Addr) (cc : Nat) (Cs : List (List Int)) (w : World)
    (hg : SlAt S w 3 rGlobal (.slice ga gs.length gc) gs) (hf : SlAt S w 4 rFunc (.slice fa fs.length fc) fs) (hC : SlAt S' w 1 rRow (.slice ca Cs.length cc) Cs) (hw : Ways w)
    (hgl : gs.length ≤ 1048576) (hfl : fs.length ≤ 1048576) (_hcl : Cs.length ≤ 1048576) (hsm : ∀ (k : Nat) (f : DFunc), fs[k]? = some f → manyOf f.blocks ≤ 1048576 ∧ f.blocks.length ≤ 1048576) (hcm : ∀ C ∈ Cs, C.length ≤ 1048576) :
    Calls Tryd.prog 24 #[.agg #[.slice ga gs.length gc, .slice fa fs.length fc], .slice ca Cs.length cc] w fun e w' =>
      e = .returned (.agg #[.int .i64 (fitsF ⟨gs, fs⟩ Cs).1, .int .i64 (fitsF ⟨gs, fs⟩ Cs).2]) ∧ Below w.heap.size w w' := by
  have Hg := hid hg
  have Hf := hid hf
  have HC := hid hC
  have Hw := hid hw
  have Hsm := hid hsm
  have Hcm := hid hcm
  clear hg hf hC hw hsm hcm
  go_enter Tryd.func24, Tryd.ntmps24
  obtain ⟨W, hW⟩ : ∃ W, W = (w.alloc (.cells #[.slice ga gs.length gc, .slice fa fs.length fc] 25)).alloc (.cells #[.int .i64 0, .int .i64 0] 28) := ⟨_, rfl⟩
  have hbW : Below w.heap.size w W := by rw [hW]; (repeat (first | exact Below.refl _ _ | refine Below.alloc ?_ (by first | omega | (simp <;> omega)) _ | refine Below.setCell ?_ (by first | omega | (simp <;> omega)) _ | refine below_drewN ?_ _ | refine Below.drew ?_))
  have HbW := hid hbW
  have W0 : Hid (W.cell? ⟨w.heap.size, 0, none⟩ = some (.slice ga gs.length gc)) := by show _ = _; rw [hW]; simp
  have W1 : Hid (W.cell? ⟨w.heap.size, 1, none⟩ = some (.slice fa fs.length fc)) := by show _ = _; rw [hW]; simp
  have R0 : Hid (W.cell? ⟨w.heap.size + 1, 0, none⟩ = some (.int .i64 0)) := by show _ = _; rw [hW]; simp
  have R1 : Hid (W.cell? ⟨w.heap.size + 1, 1, none⟩ = some (.int .i64 0)) := by show _ = _; rw [hW]; simp
  have F0 : Hid (W.frozen? ⟨w.heap.size + 1, 0, none⟩ = false) := by show _ = _; rw [hW]; simp
  have F1 : Hid (W.frozen? ⟨w.heap.size + 1, 1, none⟩ = false) := by show _ = _; rw [hW]; simp
  have hWs : W.heap.size = w.heap.size + 2 := by rw [hW]; simp
  go_wp2_with fail
  rw [← hW]
  have hwW : Ways W := Ways.below Hw.out hbW
  refine (check_any (S := S) ga gc fa fc gs fs W (Hg.out.later rGlobal_mono hbW) (Hf.out.later rFunc_mono hbW) hwW hgl hfl Hsm.out).mono ?_
  rintro e w1 ⟨rfl, hb1⟩
  have g0 := cell_later' W0.out hb1
  have g1 := cell_later' W1.out hb1
  have g2 := cell_later' R0.out hb1
  have g3 := cell_later' R1.out hb1
  have k2 := (hb1.frozen (p := ⟨w.heap.size + 1, 0, none⟩) (by simp; omega)).trans F0.out
  have k3 := (hb1.frozen (p := ⟨w.heap.size + 1, 1, none⟩) (by simp; omega)).trans F1.out
  have z1 : w.heap.size + 1 < w1.heap.size := cell_lt g2
  have z0 : w.heap.size < w1.heap.size := cell_lt g0
  obtain ⟨c, hc⟩ : ∃ c, c = (checkF ⟨gs, fs⟩).1 := ⟨_, rfl⟩
  obtain ⟨d, hd⟩ : ∃ d, d = (checkF ⟨gs, fs⟩).2 := ⟨_, rfl⟩
  have Hcd : Hid (checkF ⟨gs, fs⟩ = (c, d)) := by show _ = _; rw [hc, hd]
  rw [← hc, ← hd]
  have Hw1 : Hid (Below w.heap.size w w1) := HbW.out.trans (hb1.mono (by omega))
  clear hb1 hW hbW hc hd hwW
  by_cases hok : c = 0
  · subst hok
    have Hck : Hid (checkF ⟨gs, fs⟩ = (0, 0)) := checkF_zero (by rw [Hcd.out])
    by_cases hlen : Cs.length = fs.length
    · have hq : (decide (Cs.length < fs.length) || decide (fs.length < Cs.length)) = false := ne_noN hlen
      have Hlen := hid hlen
      clear hlen
      go_wp2_with fail
      obtain ⟨W2, hW2⟩ : ∃ W2, W2 = w1.alloc (.cells #[.int .i64 0, .int .i64 d] 28) := ⟨_, rfl⟩
      have HbW2 : Hid (Below w1.heap.size w1 W2) := by show Below _ _ _; rw [hW2]; (repeat (first | exact Below.refl _ _ | refine Below.alloc ?_ (by first | omega | (simp <;> omega)) _ | refine Below.setCell ?_ (by first | omega | (simp <;> omega)) _ | refine below_drewN ?_ _ | refine Below.drew ?_))
      try rw [← hW2]
      clear hW2
      have Hw2 : Hid (Below w.heap.size w W2) := Hw1.out.trans (HbW2.out.mono (by omega))
      have h0 := cell_later' g0 HbW2.out
      have h1 := cell_later' g1 HbW2.out
      have h2 := cell_later' g2 HbW2.out
      have h3 := cell_later' g3 HbW2.out
      have j2 := (HbW2.out.frozen (p := ⟨w.heap.size + 1, 0, none⟩) z1).trans k2
      have j3 := (HbW2.out.frozen (p := ⟨w.heap.size + 1, 1, none⟩) z1).trans k3
      have y1 : w.heap.size + 1 < W2.heap.size := cell_lt h2
      have y0 : w.heap.size < W2.heap.size := cell_lt h0
      clear g0 g1 g2 g3 k2 k3 z0 z1
      go_loopw [6] (fun i wr => ∃ k : Nat, k ≤ Cs.length ∧ i = .int .i64 k ∧ (∀ j, j < k → rowE fs Cs j = 0) ∧ ∃ q, wr = W2.drewN q) (fun i _ => Cs.length - (intOf i).toNat)
      case atStart => exact ⟨0, Nat.zero_le _, rfl, fun j hj => absurd hj (Nat.not_lt_zero _), 0, rfl⟩
      case round =>
        obtain ⟨k, hk, rfl, hall, q, rfl⟩ := hrel
        have Hall := hid hall
        clear hall
        by_cases hkl : k < Cs.length
        · have hkf : k < fs.length := by have := Hlen.out; omega
          obtain ⟨b, off, ra, rc, rfl, e1, -⟩ := rows_at (HC.out.later rRow_mono Hw2.out) hkl
          obtain ⟨fb, foff, xa, xc, rfl, hcs, -, -, -⟩ := func_at (Hf.out.later rFunc_mono Hw2.out) hkf
          obtain ⟨-, -, -, e2⟩ := hcs.get4
          have zb : b < W2.heap.size := cell_lt e1
          have zf : fb < W2.heap.size := cell_lt e2
          have hc1 : Cs[k].length ≤ 1048576 := Hcm.out _ (List.getElem_mem hkl)
          have hx1 : fs[k].blocks.length ≤ 1048576 := (Hsm.out k _ (List.getElem?_eq_getElem hkf)).2
          clear hcs
          by_cases he : Cs[k].length = fs[k].blocks.length
          · have hq2 : (decide (Cs[k].length < fs[k].blocks.length) || decide (fs[k].blocks.length < Cs[k].length)) = false := ne_noN he
            have Hr : Hid (rowE fs Cs k = 0) := (rowE_zero hkf hkl).2 he
            clear he
            go_wp2_with fail
            go_quiet (fail)
            go_wp2_with fail
            go_roundw
            case rel => exact ⟨k + 1, by omega, by go_num, ext_lt Hall.out Hr.out, _, by first | rfl | (rw [World.drewN_drewN])⟩
            case measure => simp [intOf]; omega
          · have hq2 : (decide (Cs[k].length < fs[k].blocks.length) || decide (fs[k].blocks.length < Cs[k].length)) = true := ne_yesN he
            have Hr : Hid (fitsF ⟨gs, fs⟩ Cs = (9, ((k : Nat) : Int))) := fitsF_row Hck.out Hlen.out hkl Hall.out (fun e => he ((rowE_zero hkf hkl).1 e))
            clear he
            go_wp2_with fail
            go_quiet (fail)
            rename_i nq
            obtain ⟨W3, hW3⟩ : ∃ W3, W3 = (W2.drewN q).drewN nq := ⟨_, rfl⟩
            have hb3 : Below W2.heap.size W2 W3 := by rw [hW3]; exact below_drewN (below_drewN (Below.refl _ _) _) _
            rw [← hW3]
            have l2 := cell_later' h2 hb3
            have l3 := cell_later' h3 hb3
            have m2 := (hb3.frozen (p := ⟨w.heap.size + 1, 0, none⟩) y1).trans j2
            have m3 := (hb3.frozen (p := ⟨w.heap.size + 1, 1, none⟩) y1).trans j3
            have x1 : w.heap.size + 1 < W3.heap.size := cell_lt l2
            have Hw3 : Hid (Below w.heap.size w W3) := Hw2.out.trans (hb3.mono (by omega))
            clear hW3 hb3 h0 h1 h2 h3 j2 j3
            go_wp2_with (first | (go_at_call 17; ((with_reducible refine (sfault_x _ _ _).mono ?_); rintro e w5 ⟨rfl, rfl⟩)))
            have q := set_two (u := .int .i64 9) (v := .int .i64 ((k : Nat) : Int)) l2 l3
            rw [Hr.out]
            refine bodyPost_ret (res_fault4 rfl rfl (c := 9) (a := ((k : Nat) : Int)) ?_ ?_) rfl ⟨rfl, ?_⟩
            · first | exact q.1 | (show (World.alloc _ _).cell? _ = _; rw [World.cell?_alloc_past _ _ _ (by simp [World.setCell]; omega)]; exact q.1) | (show (World.alloc (World.alloc _ _) _).cell? _ = _; rw [World.cell?_alloc_past _ _ _ (by simp [World.setCell]; omega), World.cell?_alloc_past _ _ _ (by simp [World.setCell]; omega)]; exact q.1)
            · first | exact q.2 | (show (World.alloc _ _).cell? _ = _; rw [World.cell?_alloc_past _ _ _ (by simp [World.setCell]; omega)]; exact q.2) | (show (World.alloc (World.alloc _ _) _).cell? _ = _; rw [World.cell?_alloc_past _ _ _ (by simp [World.setCell]; omega), World.cell?_alloc_past _ _ _ (by simp [World.setCell]; omega)]; exact q.2)
            · have h := Hw3.out; (repeat (first | exact Below.refl _ _ | exact (h).mono (by first | omega | (simp <;> omega) | (have hh := (h).size; (try simp at hh); omega) | (have hh := (h).size; (try simp at hh); (try simp); omega)) | refine Below.trans ?_ ((h).mono (by first | omega | (simp <;> omega) | (have hh := (h).size; (try simp at hh); omega) | (have hh := (h).size; (try simp at hh); (try simp); omega))) | refine Below.alloc ?_ (by first | omega | (simp <;> omega) | (have hh := (h).size; (try simp at hh); omega) | (have hh := (h).size; (try simp at hh); (try simp); omega)) _ | refine Below.setCell ?_ (by first | omega | (simp <;> omega) | (have hh := (h).size; (try simp at hh); omega) | (have hh := (h).size; (try simp at hh); (try simp); omega)) _ | refine below_drewN ?_ _ | refine Below.drew ?_))
        · obtain rfl : k = Cs.length := by omega
          have Hr : Hid (fitsF ⟨gs, fs⟩ Cs = (0, 0)) := fitsF_ok Hck.out Hlen.out Hall.out
          go_wp2_with fail
          have q := set_two (w := W2.drewN q) (u := .int .i64 0) (v := .int .i64 0) h2 h3
          rw [Hr.out]
          refine bodyPost_ret (res_fault4 rfl rfl (c := 0) (a := 0) ?_ ?_) rfl ⟨rfl, ?_⟩
          · first | exact q.1 | (show (World.alloc _ _).cell? _ = _; rw [World.cell?_alloc_past _ _ _ (by simp [World.setCell]; omega)]; exact q.1) | (show (World.alloc (World.alloc _ _) _).cell? _ = _; rw [World.cell?_alloc_past _ _ _ (by simp [World.setCell]; omega), World.cell?_alloc_past _ _ _ (by simp [World.setCell]; omega)]; exact q.1)
          · first | exact q.2 | (show (World.alloc _ _).cell? _ = _; rw [World.cell?_alloc_past _ _ _ (by simp [World.setCell]; omega)]; exact q.2) | (show (World.alloc (World.alloc _ _) _).cell? _ = _; rw [World.cell?_alloc_past _ _ _ (by simp [World.setCell]; omega), World.cell?_alloc_past _ _ _ (by simp [World.setCell]; omega)]; exact q.2)
          · have h := Hw2.out; (repeat (first | exact Below.refl _ _ | exact (h).mono (by first | omega | (simp <;> omega) | (have hh := (h).size; (try simp at hh); omega) | (have hh := (h).size; (try simp at hh); (try simp); omega)) | refine Below.trans ?_ ((h).mono (by first | omega | (simp <;> omega) | (have hh := (h).size; (try simp at hh); omega) | (have hh := (h).size; (try simp at hh); (try simp); omega))) | refine Below.alloc ?_ (by first | omega | (simp <;> omega) | (have hh := (h).size; (try simp at hh); omega) | (have hh := (h).size; (try simp at hh); (try simp); omega)) _ | refine Below.setCell ?_ (by first | omega | (simp <;> omega) | (have hh := (h).size; (try simp at hh); omega) | (have hh := (h).size; (try simp at hh); (try simp); omega)) _ | refine below_drewN ?_ _ | refine Below.drew ?_))
    · have hq : (decide (Cs.length < fs.length) || decide (fs.length < Cs.length)) = true := ne_yesN hlen
      have Hr : Hid (fitsF ⟨gs, fs⟩ Cs = (9, -1)) := fitsF_size Hck.out hlen
      clear hlen
      go_wp2_with (first | (go_at_call 17; ((with_reducible refine (sfault_x _ _ _).mono ?_); rintro e w5 ⟨rfl, rfl⟩)))
      have q := set_two (u := .int .i64 9) (v := .int .i64 (-1)) g2 g3
      rw [Hr.out]
      refine bodyPost_ret (res_fault4 rfl rfl (c := 9) (a := (-1)) ?_ ?_) rfl ⟨rfl, ?_⟩
      · first | exact q.1 | (show (World.alloc _ _).cell? _ = _; rw [World.cell?_alloc_past _ _ _ (by simp [World.setCell]; omega)]; exact q.1) | (show (World.alloc (World.alloc _ _) _).cell? _ = _; rw [World.cell?_alloc_past _ _ _ (by simp [World.setCell]; omega), World.cell?_alloc_past _ _ _ (by simp [World.setCell]; omega)]; exact q.1)
      · first | exact q.2 | (show (World.alloc _ _).cell? _ = _; rw [World.cell?_alloc_past _ _ _ (by simp [World.setCell]; omega)]; exact q.2) | (show (World.alloc (World.alloc _ _) _).cell? _ = _; rw [World.cell?_alloc_past _ _ _ (by simp [World.setCell]; omega), World.cell?_alloc_past _ _ _ (by simp [World.setCell]; omega)]; exact q.2)
      · have h := Hw1.out; (repeat (first | exact Below.refl _ _ | exact (h).mono (by first | omega | (simp <;> omega) | (have hh := (h).size; (try simp at hh); omega) | (have hh := (h).size; (try simp at hh); (try simp); omega)) | refine Below.trans ?_ ((h).mono (by first | omega | (simp <;> omega) | (have hh := (h).size; (try simp at hh); omega) | (have hh := (h).size; (try simp at hh); (try simp); omega))) | refine Below.alloc ?_ (by first | omega | (simp <;> omega) | (have hh := (h).size; (try simp at hh); omega) | (have hh := (h).size; (try simp at hh); (try simp); omega)) _ | refine Below.setCell ?_ (by first | omega | (simp <;> omega) | (have hh := (h).size; (try simp at hh); omega) | (have hh := (h).size; (try simp at hh); (try simp); omega)) _ | refine below_drewN ?_ _ | refine Below.drew ?_))
  · have hq : (decide (c < 0) || decide (0 < c)) = true := ne_yes hok
    have Hr : Hid (fitsF ⟨gs, fs⟩ Cs = (c, d)) := by show _ = _; rw [fitsF_check (fun e => hok (by rw [Hcd.out] at e; exact congrArg Prod.fst e)), Hcd.out]
    clear hok
    go_wp2_with fail
    have q := set_two (u := .int .i64 c) (v := .int .i64 d) g2 g3
    rw [Hr.out]
    refine bodyPost_ret (res_fault4 rfl rfl (c := c) (a := d) ?_ ?_) rfl ⟨rfl, ?_⟩
    · first | exact q.1 | (show (World.alloc _ _).cell? _ = _; rw [World.cell?_alloc_past _ _ _ (by simp [World.setCell]; omega)]; exact q.1) | (show (World.alloc (World.alloc _ _) _).cell? _ = _; rw [World.cell?_alloc_past _ _ _ (by simp [World.setCell]; omega), World.cell?_alloc_past _ _ _ (by simp [World.setCell]; omega)]; exact q.1)
    · first | exact q.2 | (show (World.alloc _ _).cell? _ = _; rw [World.cell?_alloc_past _ _ _ (by simp [World.setCell]; omega)]; exact q.2) | (show (World.alloc (World.alloc _ _) _).cell? _ = _; rw [World.cell?_alloc_past _ _ _ (by simp [World.setCell]; omega), World.cell?_alloc_past _ _ _ (by simp [World.setCell]; omega)]; exact q.2)
    · have h := Hw1.out; (repeat (first | exact Below.refl _ _ | exact (h).mono (by first | omega | (simp <;> omega) | (have hh := (h).size; (try simp at hh); omega) | (have hh := (h).size; (try simp at hh); (try simp); omega)) | refine Below.trans ?_ ((h).mono (by first | omega | (simp <;> omega) | (have hh := (h).size; (try simp at hh); omega) | (have hh := (h).size; (try simp at hh); (try simp); omega))) | refine Below.alloc ?_ (by first | omega | (simp <;> omega) | (have hh := (h).size; (try simp at hh); omega) | (have hh := (h).size; (try simp at hh); (try simp); omega)) _ | refine Below.setCell ?_ (by first | omega | (simp <;> omega) | (have hh := (h).size; (try simp at hh); omega) | (have hh := (h).size; (try simp at hh); (try simp); omega)) _ | refine below_drewN ?_ _ | refine Below.drew ?_))

end Go.Proofs.YtaehkcnankijfaaDoor
