/- BitsApart: the law's walk, and its row and card: where what it reads is of bulk at most 1048576, the law answers true for every input. -/
import Derived.Test.YtaehkcnankijfaaDoorPLawBitsS
namespace Go.Proofs.YtaehkcnankijfaaDoor
open Go.RowKit

set_option maxRecDepth 100000 in
set_option maxHeartbeats 4000000 in
theorem bitsApart_any (w : World) (hw : Ways w) (hB : Bruijn w) (ga : Option Addr) (gc : Nat) (fa : Option Addr) (fc : Nat) (gs : List DGlobal) (fs : List DFunc) (hg : SlAt (fun b => b < w.heap.size) w 3 rGlobal (.slice ga gs.length gc) gs) (hf : SlAt (fun b => b < w.heap.size) w 4 rFunc (.slice fa fs.length fc) fs)
    (hsm : Small gs fs) (k : Int) (hk1 : -9223372036854775808 ≤ k) (hk2 : k ≤ 9223372036854775807) :
    Calls Tryd.prog 10 #[.agg #[.slice ga gs.length gc, .slice fa fs.length fc], .int .i64 k] w fun e w' => e = .returned (.bool true) ∧ Below w.heap.size w w' := by
  have hgl := hsm.globals
  have hfl := hsm.funcs
  have Hsm := hid hsm.many
  have Hg := hid hg
  have Hf := hid hf
  have Hw := hid hw
  have HB := hid hB
  clear hg hf hw hsm hB
  go_enter Tryd.func10, Tryd.ntmps10
  obtain ⟨W, hW⟩ : ∃ W, W = (w.alloc (.cells #[.slice ga gs.length gc, .slice fa fs.length fc] 25)) := ⟨_, rfl⟩
  have hbW : Below w.heap.size w W := by rw [hW]; (repeat (first | exact Below.refl _ _ | refine Below.alloc ?_ (by first | omega | (simp <;> omega)) _ | refine Below.setCell ?_ (by first | omega | (simp <;> omega)) _ | refine below_drewN ?_ _ | refine Below.drew ?_))
  have g0 : W.cell? ⟨w.heap.size, 0, none⟩ = some (.slice ga gs.length gc) := by rw [hW]; simp
  have g1 : W.cell? ⟨w.heap.size, 1, none⟩ = some (.slice fa fs.length fc) := by rw [hW]; simp
  have hWs : W.heap.size = w.heap.size + 1 := by rw [hW]; simp
  go_wp2_with fail
  rw [← hW]
  obtain ⟨UB, hUB⟩ : ∃ UB, UB = w.heap.size := ⟨_, rfl⟩
  rw [← hUB] at g0 g1
  refine (bitsOf_all (S := fun b => b < w.heap.size) ga gc fa fc gs fs k W ⟨hk1, hk2⟩ (Hg.out.later rGlobal_mono hbW) (Hf.out.later rFunc_mono hbW) (Ways.below Hw.out hbW) (HB.out.below hbW) (fun b hb => by omega) hgl hfl Hsm.out).mono ?_
  rintro e w1 ⟨L1, a1, e1, p1, q1, hr1, rfl, hv1, hb1⟩
  have Hr1 := hid hr1
  have Hv1 := hid hv1
  have Hw1 : Hid (Below w.heap.size w w1) := hbW.trans (hb1.mono (by omega))
  have g0 := cell_later' g0 hb1
  have g1 := cell_later' g1 hb1
  have z1 : UB < w1.heap.size := cell_lt g0
  clear hr1 hv1 hb1 hbW hW hWs
  simp only []
  rw [← hUB]
  clear hUB
  go_wp2_with fail
  obtain ⟨W2, hW2⟩ : ∃ W2, W2 = w1.alloc (.cells #[.int .i64 p1, .int .i64 q1] 28) := ⟨_, rfl⟩
  rw [← hW2]
  have hb2 : Below w1.heap.size w1 W2 := by rw [hW2]; (repeat (first | exact Below.refl _ _ | refine Below.alloc ?_ (by first | omega | (simp <;> omega)) _ | refine Below.setCell ?_ (by first | omega | (simp <;> omega)) _ | refine below_drewN ?_ _ | refine Below.drew ?_))
  have Hw2 : Hid (Below w.heap.size w W2) := Hw1.out.trans (hb2.mono Hw1.out.size)
  have g0 := cell_later' g0 hb2
  have g1 := cell_later' g1 hb2
  have g2 : W2.cell? ⟨w1.heap.size, 0, none⟩ = some (.int .i64 p1) := by rw [hW2]; simp
  have g3 : W2.cell? ⟨w1.heap.size, 1, none⟩ = some (.int .i64 q1) := by rw [hW2]; simp
  have Hv2 := hid (Hv1.out.later rPair_mono hb2)
  obtain ⟨F1, hF1⟩ : ∃ F1, F1 = w1.heap.size := ⟨_, rfl⟩
  rw [← hF1] at g2 g3 ⊢
  clear hb2 hW2 hF1 Hv1
  refine (bitsOf_all (S := fun b => b < w.heap.size) ga gc fa fc gs fs (-1) W2 ⟨by omega, by omega⟩ (Hg.out.later rGlobal_mono Hw2.out) (Hf.out.later rFunc_mono Hw2.out) (Ways.below Hw.out Hw2.out) (HB.out.below Hw2.out) (fun b hb => by have := Hw2.out.size; omega) hgl hfl Hsm.out).mono ?_
  rintro e w3 ⟨L2, a2, e2, p2, q2, hr2, rfl, hv2, hb3⟩
  have Hr2 := hid hr2
  have Hw3 : Hid (Below w.heap.size w w3) := Hw2.out.trans (hb3.mono Hw2.out.size)
  have g0 := cell_later' g0 hb3
  have g1 := cell_later' g1 hb3
  have g2 := cell_later' g2 hb3
  have g3 := cell_later' g3 hb3
  have Hv3 := hid (Hv2.out.later rPair_mono hb3)
  have z3 : UB < w3.heap.size := cell_lt g0
  have y3 : F1 < w3.heap.size := cell_lt g2
  obtain ⟨c, hc⟩ : ∃ c, c = (ssaF ⟨gs, fs⟩).1 := ⟨_, rfl⟩
  obtain ⟨d, hd⟩ : ∃ d, d = (ssaF ⟨gs, fs⟩).2 := ⟨_, rfl⟩
  have Hcd : Hid (ssaF ⟨gs, fs⟩ = (c, d)) := by show _ = _; rw [hc, hd]
  clear hr2 hv2 hb3 Hv2 hc hd
  simp only []
  by_cases hc0 : c = 0
  · subst hc0
    have hd0 : d = 0 := by
      have h := ssaF_code (u := ⟨gs, fs⟩) (by rw [Hcd.out])
      rw [Hcd.out] at h
      exact congrArg Prod.snd h
    subst hd0
    have h2 := Hr2.out
    rw [ofF_none Hcd.out (by unfold fnAt; rfl)] at h2
    cases h2
    simp only [List.length_nil]
    cases hfk : fnAt fs k with
    | none =>
      have h1 := Hr1.out
      rw [ofF_none Hcd.out hfk] at h1
      cases h1
      clear hfk
      go_wp2_with fail
      go_ret
      exact ⟨rfl, by have h := Hw3.out; (repeat (first | exact Below.refl _ _ | exact (h).mono (by first | omega | (simp <;> omega) | (have hh := (h).size; (try simp at hh); omega) | (have hh := (h).size; (try simp at hh); (try simp); omega)) | refine Below.trans ?_ ((h).mono (by first | omega | (simp <;> omega) | (have hh := (h).size; (try simp at hh); omega) | (have hh := (h).size; (try simp at hh); (try simp); omega))) | refine Below.alloc ?_ (by first | omega | (simp <;> omega) | (have hh := (h).size; (try simp at hh); omega) | (have hh := (h).size; (try simp at hh); (try simp); omega)) _ | refine Below.setCell ?_ (by first | omega | (simp <;> omega) | (have hh := (h).size; (try simp at hh); omega) | (have hh := (h).size; (try simp at hh); (try simp); omega)) _ | refine below_drewN ?_ _ | refine Below.drew ?_))⟩
    | some x =>
      obtain ⟨kn, rfl, hkf⟩ := fnAt_some hfk
      have h1 := Hr1.out
      rw [ofF_some Hcd.out hfk] at h1
      obtain ⟨hL, rfl, rfl⟩ : (tableF x).map pairK = L1 ∧ 0 = p1 ∧ 0 = q1 := by simpa using h1
      have hkl : kn < fs.length := (List.getElem?_eq_some_iff.1 hkf).1
      have hfn := ssaF_fn Hcd.out hkf
      obtain ⟨n, hn⟩ : ∃ n : Nat, x.regs = (n : Int) := Int.eq_ofNat_of_zero_le (by have := hfn.1.pr; omega)
      have hLl : L1.length = n := by rw [← hL, List.length_map, table_len hfn.1, hn, Int.toNat_natCast]
      have hn2 : n ≤ 100 := by have := hfn.1.pr; omega
      have Htl : Hid ((tableF x).length = n) := by show _ = _; rw [table_len hfn.1, hn, Int.toNat_natCast]
      have hxe : fs[kn] = x := (List.getElem?_eq_some_iff.1 hkf).2
      have hap := ssa_apart hfn.1 hfn.2
      have Hap := hid hap
      have Hfn := hid hfn.1
      have HL := hid hL
      have Hn := hid hn
      have Hxe := hid hxe
      have hbl := hfn.1.len.2
      rw [hLl] at Hv3 ⊢
      obtain ⟨W4, hW4⟩ : ∃ W4, W4 = w3.alloc (.cells #[.int .i64 3, .int .i64 (-1)] 28) := ⟨_, rfl⟩
      have hb4 : Below w3.heap.size w3 W4 := by rw [hW4]; (repeat (first | exact Below.refl _ _ | refine Below.alloc ?_ (by first | omega | (simp <;> omega)) _ | refine Below.setCell ?_ (by first | omega | (simp <;> omega)) _ | refine below_drewN ?_ _ | refine Below.drew ?_))
      have Hw4 : Hid (Below w.heap.size w W4) := Hw3.out.trans (hb4.mono Hw3.out.size)
      obtain ⟨fb, foff, xa, xc, hfae, hcs, hxb, -, -⟩ := func_at (Hf.out.later rFunc_mono Hw3.out) hkl
      subst hfae
      obtain ⟨-, -, c2, c3⟩ := hcs.get4
      have zf : fb < w3.heap.size := cell_lt c2
      rw [hxe] at c2 c3 hxb
      rw [hn] at c2
      have Hxb := hid hxb
      clear hfk hkf hfn hcs hxb hxe hL hn h1 hLl hap
      go_wp2_with fail
      rw [← hW4]
      have c3 := cell_later' c3 hb4
      have g1 := cell_later' g1 hb4
      have G1 := hid g1
      have C3 := hid c3
      have Hv4 := hid (Hv3.out.later rPair_mono hb4)
      have Hxb4 := hid (Hxb.out.later rBlock_mono hb4)
      clear c2 g0 g2 g3 z1 z3 y3 zf hW4 hb4 Hv3 Hxb c3 g1
      obtain ⟨bs, hbs⟩ : ∃ bs, bs = x.blocks := ⟨_, rfl⟩
      have Hbs := hid hbs
      rw [← hbs] at Hxb4 C3 hbl
      clear hbs
      have hgetm : ∀ (wr : World), Below W4.heap.size W4 wr → ∀ q, q < n → (tbAt (tableF x) q).Apart → ∃ (lb loff : Nat) (m : Kn), a1 = some ⟨lb, loff, none⟩ ∧ wr.cell? ⟨lb, loff + q * 2, none⟩ = some (.int .i64 (bi m.off)) ∧ wr.cell? ⟨lb, loff + q * 2 + 1, none⟩ = some (.int .i64 (bi m.on)) ∧ bi (m.off &&& m.on) = 0 := fun wr hbw q hq ha => by
        have hLr : L1[q]? = some (pairK (tbAt (tableF x) q)) := by
          rw [← HL.out, List.getElem?_map, List.getElem?_eq_getElem (by rw [Htl.out]; exact hq), tbAt_lt (by rw [Htl.out]; exact hq)]; rfl
        obtain ⟨a9, c9, hv9, -, -, hel⟩ := Hv4.out.later rPair_mono hbw
        obtain ⟨lb, loff, hae, -, hat⟩ := hel (fun e => by rw [e] at hLr; simp at hLr)
        obtain ⟨cs, hcs1, hcs2, hcs3⟩ := hat q _ hLr
        obtain rfl : cs = [.int .i64 (bi (tbAt (tableF x) q).off), .int .i64 (bi (tbAt (tableF x) q).on)] := hcs1
        obtain ⟨d0, d1⟩ := hcs3.get2
        refine ⟨lb, loff, tbAt (tableF x) q, ?_, d0, d1, ?_⟩
        · injection hv9 with h1 h2 h3
          rw [h1, hae]
        · have h := Kn.both_apart.2 ha
          unfold Kn.both at h
          rw [decide_eq_false_iff_not, Classical.not_not] at h
          rw [h]; rfl
      have Hget := hid hgetm
      clear hgetm Hv4
      go_loopw [9] (fun s9 wr => ∃ b : Nat, b ≤ bs.length ∧ s9 = .int .i64 b ∧ Below W4.heap.size W4 wr) (fun s9 _ => bs.length - (intOf s9).toNat)
      case atStart => exact ⟨0, Nat.zero_le _, rfl, Below.refl _ _⟩
      case round =>
        obtain ⟨b, hb, rfl, hbr⟩ := hrel
        have Hbr := hid hbr
        have g1 := cell_later' G1.out hbr
        have c3 := cell_later' C3.out hbr
        have zg : UB < wr.heap.size := cell_lt g1
        have zf : fb < wr.heap.size := cell_lt c3
        by_cases hbl2 : b < bs.length
        · obtain ⟨xb, xoff, pa, pc, lad, lc, ta, tc, hxae, hcs, hph, hli, -, -, -⟩ := block_at (Hxb4.out.later rBlock_mono hbr) hbl2
          subst hxae
          obtain ⟨d0, d1, d2, d3, d4, d5⟩ := hcs.get6
          have zx : xb < wr.heap.size := cell_lt d0
          obtain ⟨y, hy⟩ : ∃ y, y = bs[b] := ⟨_, rfl⟩
          rw [← hy] at d0 d1 d2 d3 d4 d5 hph hli
          have hyi : x.blocks[b]? = some y := by rw [← Hbs.out, hy, List.getElem?_eq_getElem hbl2]
          have hapb := Hap.out b y hyi
          have hmany := Hfn.out.many y (List.mem_of_getElem? hyi)
          have hpl : y.phis.length ≤ 300 := hmany.1
          have hll : y.list.length ≤ 300 := hmany.2
          have Hyi := hid hyi
          have Hapb := hid hapb
          have Hph := hid hph
          have Hli := hid hli
          clear hcs hy hyi hapb hmany hph hli hbr
          go_wp2_with fail
          clear d0 d1 d2 d3 d4 d5
          obtain ⟨Wb, hWb⟩ : ∃ Wb, Wb = wr.alloc (.cells #[.slice pa y.phis.length pc, .slice lad y.list.length lc, .int .i64 y.fin.kind, .bool y.fin.on.reg, .int .i64 y.fin.on.n, .slice ta y.fin.to.length tc] 47) := ⟨_, rfl⟩
          have hbb : Below wr.heap.size wr Wb := by rw [hWb]; (repeat (first | exact Below.refl _ _ | refine Below.alloc ?_ (by first | omega | (simp <;> omega)) _ | refine Below.setCell ?_ (by first | omega | (simp <;> omega)) _ | refine below_drewN ?_ _ | refine Below.drew ?_))
          have e0 : Wb.cell? ⟨wr.heap.size, 0, none⟩ = some (.slice pa y.phis.length pc) := by rw [hWb]; simp
          have e1 : Wb.cell? ⟨wr.heap.size, 1, none⟩ = some (.slice lad y.list.length lc) := by rw [hWb]; simp
          have HbrW : Hid (Below W4.heap.size W4 Wb) := Hbr.out.trans (hbb.mono Hbr.out.size)
          have Hph2 := hid (Hph.out.later rPhi_mono hbb)
          have Hli2 := hid (Hli.out.later rIns_mono hbb)
          rw [← hWb]
          obtain ⟨XB, hXB⟩ : ∃ XB, XB = wr.heap.size := ⟨_, rfl⟩
          rw [← hXB] at e0 e1 ⊢
          have E0 := hid e0
          have E1 := hid e1
          clear hWb hbb hXB e0 e1 Hph Hli g1 c3 zg zf Hbr
          go_loopw [11] (fun s11 wj => ∃ i : Nat, i ≤ y.list.length ∧ s11 = .int .i64 i ∧ Below Wb.heap.size Wb wj) (fun s11 _ => y.list.length - (intOf s11).toNat)
          case atStart => exact ⟨0, Nat.zero_le _, rfl, Below.refl _ _⟩
          case round =>
            obtain ⟨i, hi, rfl, hbj⟩ := hrel
            have Hbj := hid hbj
            have e1 := cell_later' E1.out hbj
            have e0 := cell_later' E0.out hbj
            have zX : XB < wr.heap.size := cell_lt e1
            have Hb4 : Hid (Below W4.heap.size W4 wr) := HbrW.out.trans (hbj.mono HbrW.out.size)
            by_cases hil : i < y.list.length
            · obtain ⟨lb, loff, fa, fc, hlae, hcs, -, hI⟩ := ins_at (Hli2.out.later rIns_mono hbj) hil
              subst hlae
              obtain ⟨-, f1, -, -, -, -, -, -⟩ := hcs.get8
              have zl : lb < wr.heap.size := cell_lt f1
              obtain ⟨v, hv⟩ : ∃ v, v = y.list[i] := ⟨_, rfl⟩
              rw [← hv] at f1
              have hvm : v ∈ y.list := by rw [hv]; exact List.getElem_mem _
              have hio := Hfn.out.ins b y Hyi.out v hvm
              have hav := Hapb.out.1 v hvm
              obtain ⟨ds, hds⟩ : ∃ ds, ds = v.dst := ⟨_, rfl⟩
              rw [← hds] at f1 hav
              have hdn : ds < (n : Int) := by rw [hds, ← Hn.out]; exact hio.dst.2
              clear hcs hI hv hvm hio hds hbj
              by_cases hd0 : 0 ≤ ds
              · obtain ⟨q, hq⟩ := Int.eq_ofNat_of_zero_le hd0
                subst hq
                obtain ⟨ab, aoff, m, hae, m0, m1, hz⟩ := Hget.out wr Hb4.out q (by omega) (by simpa using hav hd0)
                subst hae
                have q0 : decide (0 ≤ (q : Int)) = true := decide_eq_true hd0
                have q1 : decide ((q : Int) < (n : Int)) = true := decide_eq_true hdn
                have za : ab < wr.heap.size := cell_lt m0
                clear hav hd0
                go_wp2_with fail
                go_quiet (fail)
                go_wp2_with fail
                go_roundw
                case rel => exact ⟨i + 1, by omega, by go_num, Hbj.out.trans (by (repeat (first | exact Below.refl _ _ | refine Below.alloc ?_ (by first | omega | (simp <;> omega)) _ | refine Below.setCell ?_ (by first | omega | (simp <;> omega)) _ | refine below_drewN ?_ _ | refine Below.drew ?_)))⟩
                case measure => simp [intOf]; omega
              · have q0 : decide (0 ≤ ds) = false := decide_eq_false hd0
                clear hav hd0
                go_wp2_with fail
                go_quiet (fail)
                go_wp2_with fail
                go_roundw
                case rel => exact ⟨i + 1, by omega, by go_num, Hbj.out.trans (by (repeat (first | exact Below.refl _ _ | refine Below.alloc ?_ (by first | omega | (simp <;> omega)) _ | refine Below.setCell ?_ (by first | omega | (simp <;> omega)) _ | refine below_drewN ?_ _ | refine Below.drew ?_)))⟩
                case measure => simp [intOf]; omega
            · clear hbj
              go_wp2_with fail
              obtain ⟨Wc, hWc⟩ : ∃ Wc : World, Wc = wr := ⟨_, rfl⟩
              subst hWc
              have E0 := hid e0
              clear e0 e1 zX
              go_loopw [13] (fun s13 wj => ∃ i : Nat, i ≤ y.phis.length ∧ s13 = .int .i64 i ∧ Below Wc.heap.size Wc wj) (fun s13 _ => y.phis.length - (intOf s13).toNat)
              case atStart => exact ⟨0, Nat.zero_le _, rfl, Below.refl _ _⟩
              case round =>
                obtain ⟨j, hj, rfl, hbk⟩ := hrel
                have Hbk := hid hbk
                have e0 := cell_later' E0.out hbk
                have zX : XB < wr.heap.size := cell_lt e0
                have Hb5 : Hid (Below W4.heap.size W4 wr) := Hb4.out.trans (hbk.mono Hb4.out.size)
                by_cases hjl : j < y.phis.length
                · obtain ⟨pb, poff, fa, fc, hpae, f0, -, -, -, -⟩ := phi_at ((Hph2.out.later rPhi_mono Hbj.out).later rPhi_mono hbk) hjl
                  subst hpae
                  have zp : pb < wr.heap.size := cell_lt f0
                  obtain ⟨v, hv⟩ : ∃ v, v = y.phis[j] := ⟨_, rfl⟩
                  rw [← hv] at f0
                  have hvm : v ∈ y.phis := by rw [hv]; exact List.getElem_mem _
                  have hpo := (Hfn.out.phi b y Hyi.out v hvm).1
                  have hav := Hapb.out.2 v hvm
                  obtain ⟨q, hq⟩ := Int.eq_ofNat_of_zero_le hpo.1
                  rw [hq] at f0 hav
                  have hqn : q < n := by have := hpo.2; rw [hq, Hn.out] at this; omega
                  obtain ⟨ab, aoff, m, hae, m0, m1, hz⟩ := Hget.out wr Hb5.out q hqn (by simpa using hav)
                  subst hae
                  have q1 : decide ((n : Int) ≤ (q : Int)) = false := decide_eq_false (by omega)
                  have za : ab < wr.heap.size := cell_lt m0
                  clear hbk hv hvm hpo hav hq
                  go_wp2_with fail
                  go_quiet (fail)
                  go_wp2_with fail
                  go_roundw
                  case rel => exact ⟨j + 1, by omega, by go_num, Hbk.out.trans (by (repeat (first | exact Below.refl _ _ | refine Below.alloc ?_ (by first | omega | (simp <;> omega)) _ | refine Below.setCell ?_ (by first | omega | (simp <;> omega)) _ | refine below_drewN ?_ _ | refine Below.drew ?_)))⟩
                  case measure => simp [intOf]; omega
                · clear hbk
                  go_wp2_with fail
                  go_roundw
                  case rel => exact ⟨b + 1, by omega, by go_num, Hb5.out⟩
                  case measure => simp [intOf]; omega
        · clear hbr
          go_wp2_with fail
          go_ret
          exact ⟨rfl, Hw4.out.trans (Hbr.out.mono Hw4.out.size)⟩
  · have h1 := Hr1.out
    have h2 := Hr2.out
    rw [ofF_bad Hcd.out (fun h => hc0 h.1)] at h1 h2
    obtain ⟨rfl, rfl, rfl⟩ : L1 = [] ∧ p1 = c ∧ q1 = d := by injection h1 with a b; injection b with b e; exact ⟨a.symm, b.symm, e.symm⟩
    obtain ⟨rfl, rfl, rfl⟩ : L2 = [] ∧ p2 = p1 ∧ q2 = q1 := by injection h2 with a b; injection b with b e; exact ⟨a.symm, b.symm, e.symm⟩
    have hq : (decide (p2 < 0) || decide (0 < p2)) = true := ne_yes hc0
    have hq2 : (decide (p2 ≤ 0) && decide (0 ≤ p2)) = false := eq_no hc0
    clear hc0 h1 h2
    go_wp2_with fail
    go_ret
    exact ⟨rfl, by have h := Hw3.out; (repeat (first | exact Below.refl _ _ | exact (h).mono (by first | omega | (simp <;> omega) | (have hh := (h).size; (try simp at hh); omega) | (have hh := (h).size; (try simp at hh); (try simp); omega)) | refine Below.trans ?_ ((h).mono (by first | omega | (simp <;> omega) | (have hh := (h).size; (try simp at hh); omega) | (have hh := (h).size; (try simp at hh); (try simp); omega))) | refine Below.alloc ?_ (by first | omega | (simp <;> omega) | (have hh := (h).size; (try simp at hh); omega) | (have hh := (h).size; (try simp at hh); (try simp); omega)) _ | refine Below.setCell ?_ (by first | omega | (simp <;> omega) | (have hh := (h).size; (try simp at hh); omega) | (have hh := (h).size; (try simp at hh); (try simp); omega)) _ | refine below_drewN ?_ _ | refine Below.drew ?_))⟩

end Go.Proofs.YtaehkcnankijfaaDoor

namespace Go.Proofs.YtaehkcnankijfaaDoor
open Go.RowKit Go.ChangeShapes Go.WideShapes Go.ChangeAt Go.Deep

set_option maxRecDepth 100000 in
theorem bitsApart_contract (H : Type) (enc : TypeId × Value → H) (W : World) (base : Nat) (args : Array Value) (ds gs : List (DataW H)) (before : List MemPlace)
    (hval : ∀ (j : Nat) t v, Tryd.f10.params[j]? = some t → args[j]? = some v → Value.okWide Tryd.prog W .any base t v)
    (hW : DataW.Whole enc Tryd.prog Tryd.f10.params.toList Rows.bitsApartSpec.vars false W args.toList ds gs before) (hk : Rows.uptoSmall H (ds ++ gs) = true) (hL : laidMetH Tryd.prog Rows.bitsApartRow.laid W) :
    Calls Tryd.prog 10 args W fun e W' => ∃ v, e = .returned v ∧ Rows.bitsApartSpec.post enc Tryd.prog Tryd.f10 false true false false W args v W' := by
  have hW' := hW
  obtain ⟨p, q, hA0, hV, rfl, hfz, hnd⟩ := hW
  have hA : DataW.TrodAll enc Tryd.prog W 0 (fun _ => true) true Tryd.f10.params.toList args.toList ds p := hA0
  have hpar : Tryd.f10.params = #[25, 3] := Tryd.params10
  have hts : ∀ t ∈ Tryd.f10.params.toList, Carried t := by
    intro t ht
    rw [hpar] at ht
    simp only [List.mem_cons, List.not_mem_nil, or_false] at ht
    rcases ht with rfl | rfl
    · exact carried_unit
    · exact carried_int
  rw [hpar] at hA hval
  obtain ⟨v0, vs0, d0, ds0, p0, q0, hargs, rfl, rfl, h0, r0⟩ := trodAll_cons hA
  obtain ⟨v1, vs1, d1, ds1, p1, q1, rfl, rfl, rfl, h1, r1⟩ := trodAll_cons r0
  obtain ⟨rfl, rfl, rfl⟩ := trodAll_nil r1
  obtain rfl : args = #[v0, v1] := by cases args; simp_all
  obtain ⟨rfl, rfl⟩ := trodVars_none hV
  have hbulk := bulk_bound hk
  rw [List.append_nil] at hbulk
  have hways : Ways W := ways_of2 hL
  have hbru : Bruijn W := bruijn_of hL
  have m0 : Rows.uptoBulk d0 ≤ 1048576 := Nat.le_trans (bulk_part (by simp)) hbulk
  obtain ⟨ga, gc, fa, fc, gs, fs, rfl, hg, hf, hu⟩ := arg_unit (hval 0 _ v0 rfl rfl) h0
  have m1 : Rows.uptoBulk d1 ≤ 1048576 := Nat.le_trans (bulk_part (by simp)) hbulk
  obtain ⟨k0, rfl, hd0, -, wk0⟩ := open_int Tryd.underlying3 (hval 1 _ v1 rfl rfl) h1
  have bk0 := bounds_i64 wk0
  refine (bitsApart_any W hways hbru ga gc fa fc gs fs hg hf ⟨by omega⟩ k0 bk0.1 bk0.2).mono fun e W' ⟨he, hb⟩ => ?_
  subst he
  exact ⟨_, rfl, law_post rfl rfl (fun ds h => by rw [hpar] at h; obtain ⟨e0, e1, rfl⟩ := list2 h; rfl) hts hW' hb⟩

theorem bitsApart_laidMet (os : Os) : laidMet Tryd.prog Rows.bitsApartRow.laid ((laidWorld2 os).forCall (fun _ _ => 0) ⟨#[], #[Value.agg #[.slice none 0 0, .slice none 0 0], Value.int .i64 0], []⟩).memory :=
  laidMet_of_run' 8 (by kernel_rfl) (by kernel_rfl)
theorem bitsApart_reads (os : Os) {H : Type} (enc : TypeId × Value → H) : ∃ places, DataW.whole enc Tryd.prog ((laidWorld2 os).forCall (fun _ _ => 0) ⟨#[], #[Value.agg #[.slice none 0 0, .slice none 0 0], Value.int .i64 0], []⟩).memory Tryd.f10.params.toList Rows.bitsApartSpec.vars false (#[Value.agg #[.slice none 0 0, .slice none 0 0], Value.int .i64 0] : Array Value).toList 8 = some ([.agg [.nil, .nil], .lit (.int .i64 0)], [], places) :=
  ⟨[], by kernel_rfl⟩
set_option maxRecDepth 100000 in
theorem bitsApart_lifted (os : Os) (started : os.Started) (H : Type) (enc : TypeId × Value → H) (F : Stop.Interp) :
    ReturnsInHanded {} Tryd.checked os 10 .any ((Rows.OpenSpec.upto Rows.bitsApartSpec).preRow enc Tryd.prog Tryd.f10 Rows.bitsApartUptoRow.domain false Rows.bitsApartUptoRow.laid) (((Rows.OpenSpec.upto Rows.bitsApartSpec).at F).post enc Tryd.prog Tryd.f10 false true false false) := by
  obtain ⟨places, hx⟩ := bitsApart_reads os enc
  refine returnsInHanded_of_row (C := Tryd.checked) (s := Rows.OpenSpec.upto Rows.bitsApartSpec) own started (by kernel_rfl) Tryd.func10
    (witness_row_at (enc := enc) (C := Tryd.checked) false (laidWorld2 os) #[Value.agg #[.slice none 0 0, .slice none 0 0], Value.int .i64 0] rfl (by kernel_rfl) (by kernel_rfl) (by kernel_rfl)
      (OpenSpec.preRow_of_cond 8 hx (by kernel_rfl) (fun k hk => by cases hk; kernel_rfl) (by kernel_rfl) (bitsApart_laidMet os))) ?_
  intro W base args ds gs before hval hW _ hcond _ hL _ _
  exact bitsApart_contract H enc W base args ds gs before hval hW (hcond _ rfl) hL
theorem bitsApart_saidUpto : Rows.BitsApartUptoSaid :=
  OpenClaim.holds_of_cond 10 Tryd.f10 rfl rfl rfl rfl rfl rfl rfl ⟨rfl, rfl, rfl, rfl, rfl⟩ rfl rfl rfl rfl rfl (by kernel_rfl) Tryd.func10 (by kernel_rfl)
    (of_decide_eq_true (by kernel_rfl)) (by unfold Func.isWrapper; first | (rw [if_pos (by decide +kernel)]; kernel_rfl) | (rw [if_neg (by decide +kernel)]; exact ⟨rfl, rfl⟩))
    (fun os started H enc _ F => by rw [OpenClaim.pre_eq_preRow]; exact bitsApart_lifted os started H enc F)
theorem bitsApart_plain (f : FuncId) (fn : Func) (hf : Tryd.pinned.checked.prog.funcNamed "turnery/turnerylaw6.BitsApart" = some f) (hfn : Tryd.pinned.checked.prog.funcs[f]? = some fn) :
    true = Tryd.pinned.checked.prog.looks [] ∧ ∀ (j : Nat) t, fn.params[j]? = some t → Tryd.pinned.checked.prog.wantsStandIn t = false := by
  obtain rfl : f = 10 := Option.some.inj ((show Tryd.prog.funcNamed "turnery/turnerylaw6.BitsApart" = some 10 by kernel_rfl).symm.trans hf) |>.symm
  obtain rfl : fn = Tryd.f10 := (Option.some.inj (Tryd.func10.symm.trans hfn)).symm
  refine ⟨by kernel_rfl, fun j t ht => ?_⟩
  have hpar : Tryd.f10.params = #[25, 3] := Tryd.params10
  rw [hpar] at ht
  have hm := Array.mem_of_getElem? ht
  simp only [List.mem_toArray, List.mem_cons, List.not_mem_nil, or_false] at hm
  rcases hm with rfl | rfl
  · exact (show Tryd.prog.wantsStandIn 25 = false by kernel_rfl)
  · exact (show Tryd.prog.wantsStandIn 3 = false by kernel_rfl)

/-- THE CARD of BitsApart, where what it reads is of bulk at most 1048576. -/
theorem bitsApart_holds : Rows.BitsApartUptoCardSaid :=
  Claim7.holds_tied_plain_at .later [] _ _ _ _ bitsApart_saidUpto (fun _ h => by cases h) (by kernel_rfl) (fun _ h => by cases h) bitsApartUpto_row_tie rfl ⟨rfl, rfl⟩ (by kernel_rfl) rfl bitsApart_plain (by kernel_rfl)

end Go.Proofs.YtaehkcnankijfaaDoor
