/- The law WeighHot: its walk. -/
import Derived.Test.YtaehkcnankijfaaDoorOnceW
namespace Go.Proofs.YtaehkcnankijfaaDoor
open Go.RowKit

/-- Between two rounds of WeighHot's first loop. -/
structure AtSt (w W3 wr : World) (H n : Nat) (r : List Nat) (k : Nat) : Prop where
  at_ : wr.rowIs H 3 n (fun b => .int .i64 ((atF r k b : Nat) : Int))
  below : Below w.heap.size w wr
  old : Below W3.heap.size W3 wr
theorem AtSt.next {w W3 wr : World} {H n : Nat} {r : List Nat} {k : Nat} (h : AtSt w W3 wr H n r k) (h1 : w.heap.size ≤ H) (h2 : W3.heap.size ≤ H) {x : Nat} (hx : ∀ y, atF r (k + 1) y = if y = x then k else atF r k y) :
    AtSt w W3 (wr.setCell ⟨H, x, none⟩ (.int .i64 k)) H n r (k + 1) := by
  refine ⟨(h.at_.set x (.int .i64 k)).congr (fun y hy => ?_), h.below.setCell (by exact h1) _, h.old.setCell (by exact h2) _⟩
  rw [hx y]
  by_cases hyb : y = x
  · rw [if_pos hyb, if_pos hyb]
  · rw [if_neg hyb, if_neg hyb]
theorem layNext_some {bs : List DBlock} {c : Nat → Int} {out : List Nat} {x : Nat} {b : Nat} (hl : out.getLastD 0 = x) (h : pick c (hadB out) (targets bs x) = some b) : layNext bs c out = some b := by
  unfold layNext; rw [hl, h]
theorem layNext_none {bs : List DBlock} {c : Nat → Int} {out : List Nat} {x : Nat} (hl : out.getLastD 0 = x) (h : pick c (hadB out) (targets bs x) = none) : layNext bs c out = pick c (hadB out) (List.range bs.length) := by
  unfold layNext; rw [hl, h]

theorem eq_dec (z y : Nat) : (decide (z ≤ y) && decide (y ≤ z)) = (false || decide ((z : Int) = (y : Int))) := by
  rw [Bool.eq_iff_iff]; simp; omega

set_option maxRecDepth 100000 in
set_option maxHeartbeats 4000000 in
theorem weighHot_any (w : World) (hw : Ways w) (ga : Option Addr) (gc : Nat) (fa : Option Addr) (fc : Nat) (gs : List DGlobal) (fs : List DFunc) (hg : SlAt (fun b => b < w.heap.size) w 3 rGlobal (.slice ga gs.length gc) gs) (hf : SlAt (fun b => b < w.heap.size) w 4 rFunc (.slice fa fs.length fc) fs)
    (hsm : Small gs fs) (k : Int) (_hk1 : -9223372036854775808 ≤ k) (_hk2 : k ≤ 9223372036854775807) (ca : Option Addr) (cc : Nat) (C : List Int) (hC : SlAt (fun b => b < w.heap.size) w 1 rInt (.slice ca C.length cc) C) (hcl : C.length ≤ 1048576) :
    Calls Tryd.prog 5 #[.agg #[.slice ga gs.length gc, .slice fa fs.length fc], .int .i64 k, .slice ca C.length cc] w fun e w' => e = .returned (.bool true) ∧ Below w.heap.size w w' := by
  have Hg := hid hg
  have Hf := hid hf
  have HC := hid hC
  have Hw := hid hw
  have Hsm := hid hsm
  clear hg hf hC hw hsm _hk1 _hk2
  go_enter Tryd.func5, Tryd.ntmps5
  obtain ⟨W, hW⟩ : ∃ W, W = (w.alloc (.cells #[.slice ga gs.length gc, .slice fa fs.length fc] 25)) := ⟨_, rfl⟩
  have hbW : Below w.heap.size w W := by rw [hW]; (repeat (first | exact Below.refl _ _ | refine Below.alloc ?_ (by first | omega | (simp <;> omega)) _ | refine Below.setCell ?_ (by first | omega | (simp <;> omega)) _ | refine below_drewN ?_ _ | refine Below.drew ?_))
  have g1 : W.cell? ⟨w.heap.size, 1, none⟩ = some (.slice fa fs.length fc) := by rw [hW]; simp
  have g0 : W.cell? ⟨w.heap.size, 0, none⟩ = some (.slice ga gs.length gc) := by rw [hW]; simp
  have hWs : W.heap.size = w.heap.size + 1 := by rw [hW]; simp
  have HW := hid hW
  clear hW
  go_wp2_with fail
  rw [← HW.out]
  refine (Lay_any ga gc fa fc gs fs k ca cc C W (Hg.out.later rGlobal_mono hbW) (Hf.out.later rFunc_mono hbW) (HC.out.later rInt_mono hbW) (Ways.below Hw.out hbW) Hsm.out.globals Hsm.out.funcs hcl Hsm.out.many).mono ?_
  rintro e w1 ⟨v1, rfl, hv1, hb1⟩
  obtain ⟨a1, e1, rfl⟩ := sl_len hv1
  have hcase := layS_cases ⟨gs, fs⟩ k C
  obtain ⟨L, c, d, hr⟩ : ∃ L c d, layS ⟨gs, fs⟩ k C = (L, c, d) := ⟨_, _, _, rfl⟩
  rw [hr] at hv1 hcase ⊢
  have Hb1 : Hid (Below w.heap.size w w1) := hbW.trans (hb1.mono (by omega))
  have z1 : w.heap.size < w1.heap.size := by have := hb1.size; omega
  have G1 := hid (cell_later' g1 hb1)
  have Hv1 := hid hv1
  clear hr hb1 hbW g0 g1 hWs hv1
  dsimp only at hcase ⊢
  rcases hcase with ⟨rfl, hc⟩ | ⟨kk, f, rfl, hfk, hlen, hpos, hle, hTo, hL, -⟩
  · have hq : (decide (c < 0) || decide (0 < c)) = true := ne_yes hc
    clear hc
    go_wp2_with fail
    go_ret
    exact ⟨rfl, by have h := Hb1.out; (repeat (first | exact Below.refl _ _ | exact (h).mono (by first | omega | (simp <;> omega) | (have hh := (h).size; (try simp at hh); omega) | (have hh := (h).size; (try simp at hh); (try simp); omega)) | refine Below.trans ?_ ((h).mono (by first | omega | (simp <;> omega) | (have hh := (h).size; (try simp at hh); omega) | (have hh := (h).size; (try simp at hh); (try simp); omega))) | refine Below.alloc ?_ (by first | omega | (simp <;> omega) | (have hh := (h).size; (try simp at hh); omega) | (have hh := (h).size; (try simp at hh); (try simp); omega)) _ | refine Below.setCell ?_ (by first | omega | (simp <;> omega) | (have hh := (h).size; (try simp at hh); omega) | (have hh := (h).size; (try simp at hh); (try simp); omega)) _ | refine below_drewN ?_ _ | refine Below.drew ?_))⟩
  · cases hL
    have hT := targets_lt hTo
    have HTo := hid hTo
    clear hTo
    obtain ⟨r, hr⟩ : ∃ r, r = layF f.blocks (cntOf C) := ⟨_, rfl⟩
    obtain ⟨hO, hO2, hall⟩ := layF_once (bs := f.blocks) (c := cntOf C) hpos hT
    rw [← hr] at Hv1 hO hO2 hall ⊢
    obtain ⟨n, hn⟩ : ∃ n, n = r.length := ⟨_, rfl⟩
    have hv := Hv1.out
    dsimp only at hv
    rw [List.length_map, ← hn] at hv ⊢
    have hCn : C.length = n := by omega
    have hbn : f.blocks.length = n := by omega
    have hn40 : n ≤ 40 := by omega
    have hn0 : 0 < n := by omega
    have hlt : ∀ x ∈ r, x < n := fun x hx => by have := hO.lt x hx; omega
    have hHC := HC.out
    rw [hCn] at hHC ⊢
    have Hc := hid hHC
    have HCn := hid hCn
    have Hbn := hid hbn
    have Hall := hid hall
    have Hv := hid hv
    have HO := hid hO
    have HT := hid hT
    have Hn := hid hn
    have Hlt := hid hlt
    have hml : (r.map (fun b : Nat => (b : Int))).length = n := by rw [List.length_map]; omega
    have Hml := hid hml
    obtain ⟨b, off, hab, c0⟩ := int_at hv (t := 0) (by omega)
    subst hab
    have hmk := run_make_row' (P := Tryd.prog) 26 3 (.int .i64 0) 8 Tryd.underlying26 infoInt rfl .i64 .i64 n (by omega) (by omega)
    -- the function's blocks
    have hkn : kk < fs.length := (List.getElem?_eq_some_iff.1 hfk).1
    obtain ⟨fb, foff, fcs, hfa, -, hfx, -, hfcs⟩ := Hf.out.get hkn
    rw [(List.getElem?_eq_some_iff.1 hfk).2] at hfx
    obtain ⟨xa, xc, rfl, hxb, -, -, -⟩ := hfx.opens
    obtain ⟨-, -, -, c3⟩ := hfcs.get4
    rw [hbn] at c3 hxb
    obtain ⟨bb, boff, bcs, hba, -, -, -, -⟩ := hxb.get (k := 0) (by omega)
    subst hfa hba
    have C3 := hid c3
    have Hxb := hid hxb
    have hfsl := Hsm.out.funcs
    have hnz : decide (n = 0) = false := decide_eq_false (by omega)
    clear hv hO hT hlt hr hn hml hpos hle hlen hO2 hCn hfk Hv1 hcl hHC hbn hall c3 hxb hfcs hfx c0
    go_wp2_with fail
    obtain ⟨H, hH⟩ : ∃ H, H = w1.heap.size + 1 := ⟨_, rfl⟩
    obtain ⟨W3, hW3⟩ : ∃ W3, W3 = (w1.alloc (.cells #[.int .i64 0, .int .i64 0] 28)).alloc (.cells (madeCells #[.int .i64 0] n) 3) := ⟨_, rfl⟩
    have hst : AtSt w w1 W3 H n r 0 := by
      rw [hW3]
      refine ⟨?_, ?_, ?_⟩
      · have h := World.rowIs_made (w1.alloc (.cells #[.int .i64 0, .int .i64 0] 28)) (.int .i64 0) n 3
        rw [show (w1.alloc (.cells #[.int .i64 0, .int .i64 0] 28)).heap.size = H by simp [hH]] at h
        exact h.congr (fun y hy => by simp [atF, hadB])
      · have h := Hb1.out; (repeat (first | exact Below.refl _ _ | exact (h).mono (by first | omega | (simp <;> omega) | (have hh := (h).size; (try simp at hh); omega) | (have hh := (h).size; (try simp at hh); (try simp); omega)) | refine Below.trans ?_ ((h).mono (by first | omega | (simp <;> omega) | (have hh := (h).size; (try simp at hh); omega) | (have hh := (h).size; (try simp at hh); (try simp); omega))) | refine Below.alloc ?_ (by first | omega | (simp <;> omega) | (have hh := (h).size; (try simp at hh); omega) | (have hh := (h).size; (try simp at hh); (try simp); omega)) _ | refine Below.setCell ?_ (by first | omega | (simp <;> omega) | (have hh := (h).size; (try simp at hh); omega) | (have hh := (h).size; (try simp at hh); (try simp); omega)) _ | refine below_drewN ?_ _ | refine Below.drew ?_))
      · (repeat (first | exact Below.refl _ _ | refine Below.alloc ?_ (by first | omega | (simp <;> omega)) _ | refine Below.setCell ?_ (by first | omega | (simp <;> omega)) _ | refine below_drewN ?_ _ | refine Below.drew ?_))
    rw [← hH, ← hW3]
    have Hst := hid hst
    have HH := hid hH
    clear hst hW3 hH hmk
    go_loopw [11] (fun i wr => ∃ (k : Nat), k ≤ n ∧ i = .int .i64 k ∧ AtSt w w1 wr H n r k) (fun i _ => n - (intOf i).toNat)
    case atStart => exact ⟨0, Nat.zero_le _, rfl, Hst.out⟩
    case round =>
      obtain ⟨j, hj, rfl, hs⟩ := hrel
      have Hs := hid hs
      have hH1 : w1.heap.size < H := by have := HH.out; omega
      by_cases hjn : j < n
      · have hjr : j < r.length := by have := Hn.out; omega
        obtain ⟨b', off', hab, c1⟩ := int_at (Hv.out.later rInt_mono hs.old) (t := j) (by have := Hml.out; omega)
        cases hab
        rw [List.getElem_map] at c1
        obtain ⟨x, hx⟩ : ∃ x, r[j] = x := ⟨_, rfl⟩
        have hxn : x < n := by rw [← hx]; exact Hlt.out _ (List.getElem_mem _)
        rw [hx] at c1
        have hstep : Hid (∀ y, atF r (j + 1) y = if y = x then j else atF r j y) := fun y => by rw [← hx]; exact atF_step HO.out HT.out hjr y
        have c2 := hs.at_.cell hxn
        have f2 := hs.at_.frozen x
        have hbH : b < wr.heap.size := cell_lt c1
        have hHw : H < wr.heap.size := hs.at_.lt
        clear hs hx
        go_wp2_with fail
        go_roundw
        case rel => exact ⟨j + 1, by omega, by go_num, Hs.out.next (by have := Hb1.out.size; omega) (by omega) hstep.out⟩
        case measure => simp [intOf]; omega
      · have hjn' : j = n := by omega
        obtain ⟨W4, hW4⟩ : ∃ W4, W4 = wr := ⟨_, rfl⟩
        rw [← hW4] at Hs ⊢
        have Hs4 : Hid (AtSt w w1 W4 H n r n) := by have h := Hs.out; rw [hjn'] at h; exact h
        have hs4 := Hs4.out
        have u1 : W4.cell? ⟨w.heap.size, 1, none⟩ = some (.slice (some ⟨fb, foff, none⟩) fs.length fc) := cell_later' G1.out hs4.old
        have u2 : W4.cell? ⟨fb, foff + kk * 4 + 3, none⟩ = some (.slice (some ⟨bb, boff, none⟩) n xc) := cell_later' C3.out hs4.below
        have Hsl := hid (Hv.out.later rInt_mono hs4.old)
        have Hcl := hid (Hc.out.later rInt_mono hs4.below)
        have Hbl := hid (Hxb.out.later rBlock_mono hs4.below)
        have q0 : w.heap.size < W4.heap.size := cell_lt u1
        have q1 : fb < W4.heap.size := cell_lt u2
        have q2 : H < W4.heap.size := hs4.at_.lt
        subst hjn'
        clear hs hW4 Hs hs4 hj hjn
        go_wp2_with fail
        go_loopw [12] (fun i wi => ∃ (i' q : Nat), i' < j ∧ i = .int .i64 i' ∧ W4.drewN q = wi) (fun i _ => j - (intOf i).toNat)
        case atStart => exact ⟨0, 0, hn0, rfl, rfl⟩
        case round =>
          obtain ⟨i, q, hi, rfl, rfl⟩ := hrel
          by_cases hin : i + 1 < j
          · have hir : i < r.length := by have := Hn.out; omega
            have hir1 : i + 1 < r.length := by have := Hn.out; omega
            obtain ⟨b1, off1, hab, c1⟩ := int_at Hsl.out (t := i) (by have := Hml.out; omega)
            cases hab
            obtain ⟨b2, off2, hab, c2⟩ := int_at Hsl.out (t := i + 1) (by have := Hml.out; omega)
            cases hab
            rw [List.getElem_map] at c1 c2
            obtain ⟨x, hx⟩ : ∃ x, r[i] = x := ⟨_, rfl⟩
            obtain ⟨y, hy⟩ : ∃ y, r[i + 1] = y := ⟨_, rfl⟩
            rw [hx] at c1
            rw [hy] at c2
            have hxn : x < j := by rw [← hx]; exact Hlt.out _ (List.getElem_mem _)
            have hyn : y < j := by rw [← hy]; exact Hlt.out _ (List.getElem_mem _)
            obtain ⟨b3, off3, bcs, hab, -, hbx, -, hbcs⟩ := Hbl.out.get (k := x) (by have := Hbn.out; omega)
            cases hab
            obtain ⟨pa, pc, la, lc, ta, tc, rfl, -, -, hts, -, -, htm, -, -⟩ := hbx.opens
            have c5 := hbcs.get6.2.2.2.2.2
            obtain ⟨out, hout⟩ : ∃ out, out = r.take (i + 1) := ⟨_, rfl⟩
            have hnext : layNext f.blocks (cntOf C) out = some y := by rw [hout, HO.out.next i hir1, List.getElem?_eq_getElem hir1, hy]
            have hlast : out.getLastD 0 = x := by
              rw [hout, List.getLastD_eq_getLast?, List.take_succ_eq_append_getElem hir, List.getLast?_concat, Option.getD_some, hx]
            have hatgt : ∀ z, z < j → (i < atF r j z ↔ hadB out z = false) := fun z hz => by
              have h := atF_gt HO.out HT.out (x := z) (i := i) (Hall.out z (by have := Hbn.out; omega))
              rw [hout]
              have e := Hn.out
              rw [← e] at h
              exact h
            have hTe : targets f.blocks x = (f.blocks[x]'(by have := Hbn.out; omega)).fin.to.map Int.toNat := by unfold targets; rw [List.getElem?_eq_getElem]
            obtain ⟨tos, hto⟩ : ∃ tos, (f.blocks[x]'(by have := Hbn.out; omega)).fin.to = tos := ⟨_, rfl⟩
            rw [hto] at hts htm hTe c5
            have htoz : ∀ z ∈ tos, 0 ≤ z ∧ z < (j : Int) := fun z hz => by
              have h := HTo.out x _ (List.getElem?_eq_getElem (by have := Hbn.out; omega)) z (by rw [hto]; exact hz)
              rw [Hbn.out] at h; exact h
            have Hnext := hid hnext
            have Hlast := hid hlast
            have Hat := hid hatgt
            have HTe := hid hTe
            have Hto := hid htoz
            have Hts := hid hts
            have Hc1 := hid c1
            clear hx hy hnext hlast hatgt hTe htoz hts hto hbx hbcs hout
            have hkf : (kk : Int) < (fs.length : Int) := by omega
            go_wp2_with fail
            go_quiet (fail)
            go_wp2_with fail
            have tl0 : tos.length ≤ 9223372036854775807 := htm
            go_loopw [15, 16, 17] (fun v15 v16 i2 wi => ∃ (t q : Nat), t ≤ tos.length ∧ i2 = .int .i64 t ∧ v15 = .int .i64 (optInt (pick (cntOf C) (hadB out) ((tos.map Int.toNat).take t))) ∧ v16 = .bool (decide ((y : Int) ∈ tos.take t)) ∧ W4.drewN q = wi) (fun _ _ i2 _ => tos.length - (intOf i2).toNat)
            case atStart => exact ⟨0, _, Nat.zero_le _, rfl, rfl, by simp, rfl⟩
            case round =>
              obtain ⟨t, q2, ht, rfl, rfl, rfl, rfl⟩ := hrel
              by_cases htl : t < tos.length
              · obtain ⟨b4, off4, hab, c6⟩ := int_at Hts.out htl
                subst hab
                have hz := Hto.out tos[t] (List.getElem_mem htl)
                obtain ⟨z, hze⟩ := Int.eq_ofNat_of_zero_le hz.1
                have hzn : z < j := by omega
                have hstep : Hid (pick (cntOf C) (hadB out) ((tos.map Int.toNat).take (t + 1)) = pickStep (cntOf C) (hadB out) (pick (cntOf C) (hadB out) ((tos.map Int.toNat).take t)) z) := by
                  show _ = _
                  rw [pick_take _ _ _ _ (by simpa using htl), List.getElem_map, hze, Int.toNat_natCast]
                have hmem : Hid (decide ((y : Int) ∈ tos.take (t + 1)) = (decide ((y : Int) ∈ tos.take t) || decide ((z : Int) = (y : Int)))) := by
                  show _ = _
                  rw [List.take_succ_eq_append_getElem htl, hze, Bool.eq_iff_iff]
                  simp only [List.mem_append, List.mem_singleton, Bool.or_eq_true, decide_eq_true_eq]
                  exact ⟨fun h => h.imp id Eq.symm, fun h => h.imp id Eq.symm⟩
                rw [hze] at c6
                have c7 := Hs4.out.at_.cell hzn
                obtain ⟨cb, coff, hcb, c8⟩ := cnt_at Hcl.out (t := z) (by have := HCn.out; omega)
                subst hcb
                have hat := Hat.out z hzn
                obtain ⟨a, ha⟩ : ∃ a, atF r j z = a := ⟨_, rfl⟩
                rw [ha] at c7 hat
                have hbestlt : ∀ b', pick (cntOf C) (hadB out) ((tos.map Int.toNat).take t) = some b' → b' < j := fun b' hb' => by
                  have h := List.mem_of_mem_take (pick_mem _ _ _ b' hb').1
                  obtain ⟨z', hz', rfl⟩ := List.mem_map.1 h
                  have := Hto.out z' hz'
                  omega
                generalize hbe : pick (cntOf C) (hadB out) ((tos.map Int.toNat).take t) = best at *
                generalize hie : decide ((y : Int) ∈ tos.take t) = is at *
                have Hbl2 := hid hbestlt
                clear hbe hie hz hze ha hbestlt
                by_cases hh : hadB out z = true
                · have hga : decide (i < a) = false := decide_eq_false (fun h => by rw [hat.1 h] at hh; cases hh)
                  have Hn : Hid (pickStep (cntOf C) (hadB out) best z = best) := by
                    show _ = _
                    unfold pickStep; cases best <;> simp [hh]
                  clear hat hh
                  cases best with
                  | none =>
                    have hq : (decide ((-1 : Int) < 0)) = true := by decide
                    simp only [optInt]
                    cases is
                    all_goals
                      go_wp2_with fail
                      go_quiet (fail)
                      go_wp2_with fail
                      go_roundw
                      case rel => exact ⟨t + 1, _, by omega, by go_num, by rw [hstep.out, Hn.out] <;> rfl, by rw [hmem.out]; first | rfl | exact congrArg Value.bool (eq_dec z y), rfl⟩
                      case measure => simp [intOf]; omega
                  | some b8 =>
                    simp only [optInt]
                    cases is
                    all_goals
                      go_wp2_with fail
                      go_quiet (fail)
                      go_wp2_with fail
                      go_roundw
                      case rel => exact ⟨t + 1, _, by omega, by go_num, by rw [hstep.out, Hn.out] <;> rfl, by rw [hmem.out]; first | rfl | exact congrArg Value.bool (eq_dec z y), rfl⟩
                      case measure => simp [intOf]; omega
                · have hh0 : hadB out z = false := by simpa using hh
                  have hga : decide (i < a) = true := decide_eq_true (hat.2 hh0)
                  have Hh := hid hh0
                  clear hat hh hh0
                  cases best with
                  | none =>
                    have Hn : Hid (pickStep (cntOf C) (hadB out) none z = some z) := by
                      show _ = _
                      unfold pickStep; simp [Hh.out]
                    have hq : (decide ((-1 : Int) < 0)) = true := by decide
                    simp only [optInt]
                    cases is
                    all_goals
                      go_wp2_with fail
                      go_quiet (fail)
                      go_wp2_with fail
                      go_roundw
                      case rel => exact ⟨t + 1, _, by omega, by go_num, by rw [hstep.out, Hn.out] <;> rfl, by rw [hmem.out]; first | rfl | exact congrArg Value.bool (eq_dec z y), rfl⟩
                      case measure => simp [intOf]; omega
                  | some b8 =>
                    obtain ⟨cb', coff', hcab, z0⟩ := cnt_at Hcl.out (t := b8) (by rw [HCn.out]; exact Hbl2.out b8 rfl)
                    cases hcab
                    have hb8 := Hbl2.out b8 rfl
                    have hq : (decide ((b8 : Int) < 0)) = false := decide_eq_false (by omega)
                    by_cases hcmp : cntOf C b8 < cntOf C z
                    · have Hn : Hid (pickStep (cntOf C) (hadB out) (some b8) z = some z) := by
                        show _ = _
                        unfold pickStep; simp [Hh.out, hcmp]
                      have hq2 : decide (cntOf C b8 < cntOf C z) = true := decide_eq_true hcmp
                      clear hcmp
                      simp only [optInt]
                      cases is
                      all_goals
                        go_wp2_with fail
                        go_quiet (fail)
                        go_wp2_with fail
                        go_roundw
                        case rel => exact ⟨t + 1, _, by omega, by go_num, by rw [hstep.out, Hn.out] <;> rfl, by rw [hmem.out]; first | rfl | exact congrArg Value.bool (eq_dec z y), rfl⟩
                        case measure => simp [intOf]; omega
                    · have Hn : Hid (pickStep (cntOf C) (hadB out) (some b8) z = some b8) := by
                        show _ = _
                        unfold pickStep; simp [hcmp]
                      have hq2 : decide (cntOf C b8 < cntOf C z) = false := decide_eq_false hcmp
                      clear hcmp
                      simp only [optInt]
                      cases is
                      all_goals
                        go_wp2_with fail
                        go_quiet (fail)
                        go_wp2_with fail
                        go_roundw
                        case rel => exact ⟨t + 1, _, by omega, by go_num, by rw [hstep.out, Hn.out] <;> rfl, by rw [hmem.out]; first | rfl | exact congrArg Value.bool (eq_dec z y), rfl⟩
                        case measure => simp [intOf]; omega
              · obtain rfl : t = tos.length := by omega
                have hT0 : (tos.map Int.toNat).take tos.length = targets f.blocks x := by rw [HTe.out]; exact List.take_of_length_le (by simp)
                rw [hT0, List.take_length]
                obtain ⟨bt, hbt⟩ : ∃ bt, bt = pick (cntOf C) (hadB out) (targets f.blocks x) := ⟨_, rfl⟩
                rw [← hbt]
                have Hbt := hid hbt
                obtain ⟨cb, coff, hcb, c8⟩ := cnt_at Hcl.out (t := y) (by have := HCn.out; omega)
                subst hcb
                clear hbt hT0 ht htl
                cases bt with
                | some y0 =>
                  have hy0 : y0 = y := by
                    have h := Hnext.out
                    rw [layNext_some Hlast.out Hbt.out.symm] at h
                    exact Option.some.inj h
                  have hmem : decide ((y : Int) ∈ tos) = true := by
                    have h := (pick_mem _ _ _ y0 Hbt.out.symm).1
                    rw [HTe.out] at h
                    obtain ⟨z, hz, hzy⟩ := List.mem_map.1 h
                    have := Hto.out z hz
                    refine decide_eq_true ?_
                    rw [← hy0, ← hzy, Int.toNat_of_nonneg this.1]; exact hz
                  rw [hmem]
                  clear hmem
                  subst hy0
                  have hq : (decide ((y0 : Int) < 0)) = false := decide_eq_false (by omega)
                  simp only [optInt]
                  go_wp2_with fail
                  go_quiet (fail)
                  go_wp2_with fail
                  go_roundw
                  case rel => exact ⟨i + 1, _, by omega, by go_num, rfl⟩
                  case measure => simp [intOf]; omega
                | none =>
                  have hmax : ∀ b', b' < j → hadB out b' = false → cntOf C b' ≤ cntOf C y := fun b' hb' hh => by
                    have h := Hnext.out
                    rw [layNext_none Hlast.out Hbt.out.symm] at h
                    exact pick_max _ _ _ y h b' (by have := Hbn.out; simp; omega) hh
                  have Hmax := hid hmax
                  clear hmax
                  generalize decide ((y : Int) ∈ tos) = bmem
                  simp only [optInt]
                  go_wp2_with fail
                  go_loopw [18] (fun i2 wi => ∃ (t q : Nat), t ≤ j ∧ i2 = .int .i64 t ∧ W4.drewN q = wi) (fun i2 _ => j - (intOf i2).toNat)
                  case atStart => exact ⟨0, _, Nat.zero_le _, rfl, rfl⟩
                  case round =>
                    obtain ⟨t, q3, ht, rfl, rfl⟩ := hrel
                    by_cases htl : t < j
                    · have c7 := Hs4.out.at_.cell htl
                      obtain ⟨cb', coff', hcb, c9⟩ := cnt_at Hcl.out (t := t) (by have := HCn.out; omega)
                      cases hcb
                      have hat := Hat.out t htl
                      obtain ⟨a, ha⟩ : ∃ a, atF r j t = a := ⟨_, rfl⟩
                      rw [ha] at c7 hat
                      clear ha
                      by_cases hh : hadB out t = true
                      · have hga : decide (i < a) = false := decide_eq_false (fun h => by rw [hat.1 h] at hh; cases hh)
                        clear hat hh
                        go_wp2_with fail
                        go_quiet (fail)
                        go_wp2_with fail
                        go_roundw
                        case rel => exact ⟨t + 1, _, by omega, by go_num, rfl⟩
                        case measure => simp [intOf]; omega
                      · have hh0 : hadB out t = false := by simpa using hh
                        have hga : decide (i < a) = true := decide_eq_true (hat.2 hh0)
                        have hq2 : decide (cntOf C y < cntOf C t) = false := decide_eq_false (by have := Hmax.out t htl hh0; omega)
                        clear hat hh hh0
                        go_wp2_with fail
                        go_quiet (fail)
                        go_wp2_with fail
                        go_roundw
                        case rel => exact ⟨t + 1, _, by omega, by go_num, rfl⟩
                        case measure => simp [intOf]; omega
                    · obtain rfl : t = j := by omega
                      go_wp2_with fail
                      go_roundw
                      case rel => exact ⟨i + 1, _, by omega, by go_num, rfl⟩
                      case measure => simp [intOf]; omega
          · go_wp2_with fail
            go_ret
            exact ⟨rfl, below_drewN Hs4.out.below q⟩

end Go.Proofs.YtaehkcnankijfaaDoor
