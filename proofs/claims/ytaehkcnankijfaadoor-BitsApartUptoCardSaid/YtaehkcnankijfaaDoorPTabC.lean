/- bits.table. -/
import Derived.Test.YtaehkcnankijfaaDoorPTabB
import Derived.Deep.RegionHeld3
import Derived.Deep.RegionLaw
namespace Go.Proofs.YtaehkcnankijfaaDoor
open Go.RowKit

theorem infoKnR : (Tryd.prog.info? 109).map (fun i => (i.zero, i.size, i.bytes)) = some (some (.agg #[.int .i64 0, .int .i64 0]), 2, 16) := by kernel_rfl
/-- The table while it is first filled. -/
def fillT (n P k : Nat) : Tb := (List.range n).map fun r => if r < k ∧ P ≤ r then Kn.top else Kn.none
theorem fillT_len (n P k : Nat) : (fillT n P k).length = n := by unfold fillT; simp
theorem fillT_zero (n P : Nat) : rowK (fillT n P 0) = (pairs n (.int .i64 0) (.int .i64 0)).toArray := by
  unfold rowK fillT
  rw [← rowP_rep]
  congr 1
  rw [List.map_map]
  have e : ((fun k : Kn => (bi k.off, bi k.on)) ∘ fun r => if r < 0 ∧ P ≤ r then Kn.top else Kn.none) = fun _ : Nat => ((0 : Int), (0 : Int)) := by
    funext r
    simp only [Function.comp, Nat.not_lt_zero, false_and, if_false]
    rfl
  rw [e, List.map_const', List.length_range]
theorem fillT_set {n P k : Nat} (hk : k < n) (hP : P ≤ k) : (fillT n P k).set k Kn.top = fillT n P (k + 1) := by
  apply List.ext_getElem?
  intro i
  unfold fillT
  rw [List.getElem?_set, List.getElem?_map, List.getElem?_map]
  by_cases h : k = i
  · subst h
    rw [if_pos rfl, if_pos (by simpa using hk), List.getElem?_range hk]
    simp [hP]
  · rw [if_neg h]
    rcases Nat.lt_or_ge i n with h1 | h1
    · rw [List.getElem?_range h1]
      simp only [Option.map_some, Option.some.injEq]
      by_cases h2 : i < k ∧ P ≤ i
      · rw [if_pos h2, if_pos (by omega)]
      · rw [if_neg h2, if_neg (by omega)]
    · rw [List.getElem?_eq_none (by simpa using h1)]; rfl
theorem fillT_keep {n P k : Nat} (hP : k < P) : fillT n P (k + 1) = fillT n P k := by
  unfold fillT
  refine List.map_congr_left fun r _ => ?_
  by_cases h2 : r < k ∧ P ≤ r
  · rw [if_pos h2, if_pos (by omega)]
  · rw [if_neg h2, if_neg (by omega)]
theorem fillT_all {f : DFunc} {n P : Nat} (hn : f.regs = (n : Int)) (hP : f.params = (P : Int)) : fillT n P n = tb0 f := by
  unfold fillT tb0
  rw [hn, hP, Int.toNat_natCast]
  refine List.map_congr_left fun r hr => ?_
  have := List.mem_range.1 hr
  by_cases h : r < P
  · rw [if_neg (by omega), if_pos (by omega)]
  · rw [if_pos (by omega), if_neg (by omega)]
/-- The table while it is first filled, in memory; all else is kept. -/
structure FillSt (W1 W : World) (RB : Nat) (t : Tb) : Prop where
  grown : W1.grownBy W (some RB)
  row : W.heap[RB]? = some (.cells (rowK t) 109 (0, 0))
section
variable {W1 W : World} {RB : Nat} {t : Tb}
theorem FillSt.cell (h : FillSt W1 W RB t) {b o : Nat} {v : Value} (hc : W1.cell? ⟨b, o, none⟩ = some v) (hb : b ≠ RB) : W.cell? ⟨b, o, none⟩ = some v := h.grown.cell (a := ⟨b, o, none⟩) hc (fun e => hb (Option.some.inj e))
theorem FillSt.fz (h : FillSt W1 W RB t) (o : Nat) : W.frozen? ⟨RB, o, none⟩ = false := by simp [World.frozen?, h.row]
theorem FillSt.some0 (h : FillSt W1 W RB t) {r : Nat} (hr : r < t.length) : W.cell? ⟨RB, r * 2, none⟩ = some (.int .i64 (bi (tbAt t r).off)) ∧ W.cell? ⟨RB, r * 2 + 1, none⟩ = some (.int .i64 (bi (tbAt t r).on)) := by
  rw [cell_row h.row, cell_row h.row]; exact rowK_at hr
theorem FillSt.top (h : FillSt W1 W RB t) {r : Nat} (hr : r < t.length) : FillSt W1 ((W.setCell ⟨RB, r * 2, none⟩ (.int .i64 (-1))).setCell ⟨RB, r * 2 + 1, none⟩ (.int .i64 (-1))) RB (t.set r Kn.top) := by
  have hg := (grownBy_set W RB (r * 2) (.int .i64 (-1))).trans (grownBy_set _ RB (r * 2 + 1) (.int .i64 (-1)))
  exact ⟨h.grown.trans hg, by rw [heap_set_row (heap_set_row h.row _) _]; exact congrArg (fun a => some (Obj.cells a 109 (0, 0))) (rowK_set hr Kn.top)⟩
/-- A flag beside the table. -/
theorem FillSt.flag (h : FillSt W1 W RB t) (c : Bool) : TbSt W (W.alloc (.cells #[.bool c] 4)) RB W.heap.size t c := by
  have hR : RB < W.heap.size := (Array.getElem?_eq_some_iff.1 h.row).1
  exact ⟨by simp, fun b h1 _ _ => Below.heap_alloc _ _ _ h1, ⟨rfl, rfl, rfl⟩, by rw [Below.heap_alloc _ _ _ hR]; exact h.row, heap_alloc_new _ _, by omega⟩
end

/-- A thing of known bits in a box of the call's own. -/
structure BoxSt (W0 W : World) (KB : Nat) (k : Kn) : Prop where
  old : Below W0.heap.size W0 W
  row : W.heap[KB]? = some (.cells #[.int .i64 (bi k.off), .int .i64 (bi k.on)] 109 (0, 0))
section
variable {W0 W W' : World} {KB : Nat} {k : Kn}
theorem BoxSt.at (h : BoxSt W0 W KB k) : W.cell? ⟨KB, 0, none⟩ = some (.int .i64 (bi k.off)) ∧ W.cell? ⟨KB, 1, none⟩ = some (.int .i64 (bi k.on)) := by
  rw [cell_row h.row, cell_row h.row]; exact ⟨rfl, rfl⟩
theorem BoxSt.fz (h : BoxSt W0 W KB k) (o : Nat) : W.frozen? ⟨KB, o, none⟩ = false := by simp [World.frozen?, h.row]
theorem BoxSt.later (h : BoxSt W0 W KB k) (hb : Below W.heap.size W W') : BoxSt W0 W' KB k := ⟨h.old.trans (hb.mono h.old.size), (hb.block KB (Array.getElem?_eq_some_iff.1 h.row).1).trans h.row⟩
theorem BoxSt.put (h : BoxSt W0 W KB k) (hK : W0.heap.size ≤ KB) (m : Kn) : BoxSt W0 ((W.setCell ⟨KB, 0, none⟩ (.int .i64 (bi m.off))).setCell ⟨KB, 1, none⟩ (.int .i64 (bi m.on))) KB m :=
  ⟨(h.old.setCell (by dsimp only; exact hK) _).setCell (by dsimp only; exact hK) _, by rw [heap_set_row (heap_set_row h.row _) _]; rfl⟩
end
theorem meetL_step {t : Tb} {l : List DVal} {j : Nat} (hj : j < l.length) : meetL t (l.take (j + 1)) = (meetL t (l.take j)).meet (valK t l[j]) := by
  unfold meetL
  rw [List.take_succ_eq_append_getElem hj, List.foldl_append]; rfl

set_option maxRecDepth 100000 in
set_option maxHeartbeats 8000000 in
theorem table_any {S : Nat → Prop} (nm : ByteArray) (ba : Option Addr) (bc : Nat) (f : DFunc) (w : World) (hB : Bruijn w) (hf : FnOk f) (hb : SlAt S w 6 rBlock (.slice ba f.blocks.length bc) f.blocks) (hS : ∀ b, S b → b < w.heap.size) :
    Calls Tryd.prog 57 #[.agg #[.string nm, .int .i64 f.params, .int .i64 f.regs, .slice ba f.blocks.length bc]] w fun e w' => ∃ RB, e = .returned (.slice (some ⟨RB, 0, none⟩) f.regs.toNat f.regs.toNat) ∧ w.heap.size ≤ RB ∧ w'.heap[RB]? = some (.cells (rowK (tableF f)) 109 (0, 0)) ∧ Below w.heap.size w w' := by
  have Hf := hid hf
  have Hb := hid hb
  have HS := hid hS
  have HB := hid hB
  obtain ⟨bs, hbs⟩ : ∃ bs, bs = f.blocks := ⟨_, rfl⟩
  obtain ⟨B, hBl⟩ : ∃ B, B = f.blocks.length := ⟨_, rfl⟩
  have hpr := hf.pr
  obtain ⟨n, hn⟩ : ∃ n : Nat, f.regs = (n : Int) := Int.eq_ofNat_of_zero_le (by omega)
  obtain ⟨P, hP⟩ : ∃ P : Nat, f.params = (P : Int) := Int.eq_ofNat_of_zero_le (by omega)
  have hn2 : n ≤ 100 := by omega
  have hPn : P ≤ n := by omega
  have hB2 : B ≤ 40 := by rw [hBl]; exact hf.len.2
  have HF := hid (fillT_all hn hP)
  have Hbs := hid hbs
  have HBl := hid hBl
  have Hn := hid hn
  rw [← hBl, ← hbs] at Hb
  rw [hn, hP, ← hBl, Int.toNat_natCast]
  have hmk := run_make_pairs (P := Tryd.prog) 106 109 (.int .i64 0) (.int .i64 0) 16 Tryd.underlying106 infoKnR rfl .i64 .i64 n (by omega) (by omega)
  rw [← fillT_zero n P] at hmk
  clear hf hb hS hB hbs hBl hpr hn hP
  go_enter Tryd.func57, Tryd.ntmps57
  go_wp2_with fail
  clear hmk
  obtain ⟨W1, hW1⟩ : ∃ W1, W1 = ((w.alloc (.cells #[.string nm, .int .i64 (P : Int), .int .i64 (n : Int), .slice ba B bc] 35)).alloc (.cells (rowK (fillT n P 0)) 109)).alloc (.cells #[.slice (some ⟨w.heap.size + 1, 0, none⟩) n n] 106) := ⟨_, rfl⟩
  have hb1 : Below w.heap.size w W1 := by rw [hW1]; (repeat (first | exact Below.refl _ _ | refine Below.alloc ?_ (by first | omega | (simp <;> omega)) _ | refine Below.setCell ?_ (by first | omega | (simp <;> omega)) _ | refine below_drewN ?_ _ | refine Below.drew ?_))
  have hbA : Below (w.alloc (.cells #[.string nm, .int .i64 (P : Int), .int .i64 (n : Int), .slice ba B bc] 35)).heap.size (w.alloc (.cells #[.string nm, .int .i64 (P : Int), .int .i64 (n : Int), .slice ba B bc] 35)) W1 := by rw [hW1]; (repeat (first | exact Below.refl _ _ | refine Below.alloc ?_ (by first | omega | (simp <;> omega)) _ | refine Below.setCell ?_ (by first | omega | (simp <;> omega)) _ | refine below_drewN ?_ _ | refine Below.drew ?_))
  have c1 : W1.cell? ⟨w.heap.size, 1, none⟩ = some (.int .i64 (P : Int)) := cell_later' (w := (w.alloc (.cells #[.string nm, .int .i64 (P : Int), .int .i64 (n : Int), .slice ba B bc] 35))) (by simp) hbA
  have c3 : W1.cell? ⟨w.heap.size, 3, none⟩ = some (.slice ba B bc) := cell_later' (w := (w.alloc (.cells #[.string nm, .int .i64 (P : Int), .int .i64 (n : Int), .slice ba B bc] 35))) (by simp) hbA
  have cO : W1.cell? ⟨w.heap.size + 1 + 1, 0, none⟩ = some (.slice (some ⟨w.heap.size + 1, 0, none⟩) n n) := by
    rw [hW1]
    have h := World.cell?_alloc_new ((w.alloc (.cells #[.string nm, .int .i64 (P : Int), .int .i64 (n : Int), .slice ba B bc] 35)).alloc (.cells (rowK (fillT n P 0)) 109)) #[.slice (some ⟨w.heap.size + 1, 0, none⟩) n n] 106 0
    simpa using h
  have hfs : FillSt W1 W1 (w.heap.size + 1) (fillT n P 0) := by
    refine ⟨World.grownBy.refl _ _, ?_⟩
    rw [hW1, Below.heap_alloc _ _ _ (by simp)]
    have := heap_alloc_new (w.alloc (.cells #[.string nm, .int .i64 (P : Int), .int .i64 (n : Int), .slice ba B bc] 35)) (.cells (rowK (fillT n P 0)) 109)
    simpa using this
  obtain ⟨FB, hFB⟩ : ∃ FB, FB = w.heap.size := ⟨_, rfl⟩
  obtain ⟨RB, hRB⟩ : ∃ RB, RB = w.heap.size + 1 := ⟨_, rfl⟩
  obtain ⟨OB, hOB⟩ : ∃ OB, OB = w.heap.size + 1 + 1 := ⟨_, rfl⟩
  rw [← hW1]
  rw [← hOB, ← hRB] at cO
  rw [← hRB] at hfs
  rw [← hFB] at c1 c3
  rw [← hOB, ← hRB, ← hFB]
  have hFR : FB ≠ RB := by omega
  have hOR : OB ≠ RB := by omega
  have hRw : w.heap.size ≤ RB := by omega
  have Hb1 := hid hb1
  have C1 := hid c1
  have C3 := hid c3
  have CO := hid cO
  have Hfs := hid hfs
  clear hW1 hb1 hbA c1 c3 cO hfs hFB hRB hOB
  go_loopw [22] (fun i wr => ∃ k : Nat, k ≤ n ∧ i = .int .i64 k ∧ FillSt W1 wr RB (fillT n P k)) (fun i _ => n - (intOf i).toNat)
  case atStart => exact ⟨0, Nat.zero_le _, rfl, Hfs.out⟩
  case round =>
    obtain ⟨k, hk, rfl, hst⟩ := hrel
    have Hst := hid hst
    have hlen := fillT_len n P k
    have c1 := hst.cell C1.out hFR
    have cO := hst.cell CO.out hOR
    have zF : FB < wr.heap.size := cell_lt c1
    have zO : OB < wr.heap.size := cell_lt cO
    by_cases hkn : k < n
    · have f0 := hst.fz (k * 2)
      have f1 := hst.fz (k * 2 + 1)
      obtain ⟨e0, e1⟩ := hst.some0 (r := k) (by rw [hlen]; exact hkn)
      have zR : RB < wr.heap.size := cell_lt e0
      have Hlen := hid hlen
      clear hst hlen
      by_cases hkP : k < P
      · have q0 : decide ((P : Int) ≤ (k : Int)) = false := decide_eq_false (by omega)
        have Hn2 := hid (fillT_keep (n := n) hkP)
        clear e0 e1
        go_wp2_with fail
        go_roundw
        case rel => exact ⟨k + 1, by omega, by go_num, by rw [Hn2.out]; exact Hst.out⟩
        case measure => simp [intOf]; omega
      · have q0 : decide ((P : Int) ≤ (k : Int)) = true := decide_eq_true (by omega)
        have Hn2 := hid (fillT_set (n := n) hkn (by omega : P ≤ k))
        go_wp2_with fail
        go_roundw
        case rel => exact ⟨k + 1, by omega, by go_num, by rw [← Hn2.out]; exact Hst.out.top (by rw [Hlen.out]; exact hkn)⟩
        case measure => simp [intOf]; omega
    · obtain rfl : n = k := by omega
      rw [HF.out] at hst
      obtain ⟨WL, hWL⟩ : ∃ WL : World, WL = wr := ⟨_, rfl⟩
      subst hWL
      have htb := hst.flag true
      have C3L := hid (hst.cell C3.out hFR)
      have COL := hid cO
      have HbL : Hid (Below w.heap.size w WL) := Hb1.out.grown hst.grown (by have := Hb1.out.size; omega) (fun r e => by cases e; omega)
      have Htb := hid htb
      have HBL := hid (HB.out.below HbL.out)
      have HbsL := hid (Hb.out.later rBlock_mono HbL.out)
      have zR : RB < WL.heap.size := (Array.getElem?_eq_some_iff.1 hst.row).1
      clear hst Hst hlen c1 cO htb Hfs C1 C3 CO
      go_wp2_with fail
      have hto := Hf.out.toOk
      have HU : Hid (UpdOk n (progU bs)) := by
        have h := upd_ok_prog Hf.out
        rw [Hn.out, Int.toNat_natCast, ← Hbs.out] at h
        exact h
      have htbl : (tb0 f).length = n := by rw [tb0_len, Hn.out, Int.toNat_natCast]
      have HR : Hid (RndS n (progU bs) (tableF f) (wtT (tb0 f) + 1) true (tb0 f)) := by
        have h := RndS.start (l := progU bs) htbl (tb0_fit f)
        unfold tableF
        rw [← Hbs.out]
        exact h
      clear hto htbl
      go_loopg [6] (wtT (tb0 f) + 1) (fun g s6 wr => ∃ (AB : Nat) (t : Tb) (c : Bool), s6 = .pointer (some ⟨AB, 0, none⟩) ∧ WL.heap.size ≤ AB ∧ TbSt WL wr RB AB t c ∧ RndS n (progU bs) (tableF f) g c t)
      case atStart => exact ⟨WL.heap.size, tb0 f, true, rfl, Nat.le_refl _, Htb.out, HR.out⟩
      case round =>
        clear HR Htb
        obtain ⟨AB, t, c, rfl, hAB, htb, hrn⟩ := hrel
        have Htb := hid htb
        have Hrn := hid hrn
        have cA := htb.atA
        have fA := htb.fzA 0
        have zA : AB < wr.heap.size := htb.ltA
        have cO := htb.cell COL.out hOR (by omega)
        have c3 := htb.cell C3L.out hFR (by omega)
        have zO2 : OB < wr.heap.size := cell_lt cO
        have zF2 : FB < wr.heap.size := cell_lt c3
        have hOA : OB ≠ AB := by omega
        have hFA : FB ≠ AB := by omega
        have HbwL : Hid (Below w.heap.size w wr) := htb.below HbL.out hRw (by have := HbL.out.size; omega)
        clear htb hrn
        cases c with
        | false =>
          have He : Hid (t = tableF f) := Hrn.out.stop rfl
          have Hrow := hid Htb.out.row
          clear c3
          go_wp2_with fail
          go_ret
          exact ⟨RB, rfl, hRw, by rw [← He.out]; exact Hrow.out, HbwL.out⟩
        | true =>
          have Hst0 := hid (Htb.out.setA false)
          have hfz : (wr.setCell ⟨AB, 0, none⟩ (.bool false)).cell? ⟨FB, 3, none⟩ = some (.slice ba B bc) := by rw [cell_set_ne _ hFA]; exact c3
          go_wp2_with fail
          obtain ⟨W2, hW2⟩ : ∃ W2, W2 = wr.setCell ⟨AB, 0, none⟩ (.bool false) := ⟨_, rfl⟩
          rw [← hW2] at Hst0 hfz ⊢
          obtain ⟨E, hE⟩ : ∃ E, E = passU (progU bs) (t, false) := ⟨_, rfl⟩
          have hin : InS n (progU bs) t E (progRest bs 0) t false := by
            rw [hE, progRest_zero]
            exact InS.start Hrn.out.len Hrn.out.fit
          have Hin := hid hin
          have HE := hid hE
          have Htl : Hid (t.length = n) := Hrn.out.len
          have Hst2 : Hid (TbSt W2 W2 RB AB t false) := Hst0.out.anew
          have hb2 : Below w.heap.size w W2 := Hst0.out.below HbL.out hRw (by have := HbL.out.size; omega)
          have Hb2 := hid hb2
          have HBs2 := hid (Hb.out.later rBlock_mono hb2)
          have HB2 := hid (HB.out.below hb2)
          have CO2 : Hid (W2.cell? ⟨OB, 0, none⟩ = some (.slice (some ⟨RB, 0, none⟩) n n)) := by show _ = _; rw [hW2, cell_set_ne _ hOA]; exact cO
          have HSd : Hid (∀ b, S b → b ≠ RB ∧ b ≠ AB) := fun b hb => by
            have h1 := HS.out b hb
            have h2 := HbL.out.size
            omega
          clear hW2 hE hin hb2 hfz cA fA zA cO c3 zO2 zF2
          go_loopw [40] (fun s40 wi => ∃ (i : Nat) (t' : Tb) (c' : Bool), i ≤ B ∧ s40 = .int .i64 i ∧ InS n (progU bs) t E (progRest bs i) t' c' ∧ TbSt W2 wi RB AB t' c') (fun s40 _ => B - (intOf s40).toNat)
          case atStart => exact ⟨0, t, false, Nat.zero_le _, rfl, Hin.out, Hst2.out⟩
          case round =>
            clear Hin Hst2
            obtain ⟨i, t1, c1, hi, rfl, hin, hst⟩ := hrel
            have Hin := hid hin
            have Hst := hid hst
            have Hbw : Hid (Below w.heap.size w wr) := hst.below Hb2.out hRw (by have := HbL.out.size; omega)
            have zA : AB < wr.heap.size := hst.ltA
            have zR2 : RB < wr.heap.size := hst.ltR
            have cO := hst.cell CO2.out hOR hOA
            have zO2 : OB < wr.heap.size := cell_lt cO
            by_cases hiB : i < B
            · have hib : i < bs.length := by rw [Hbs.out, ← HBl.out]; exact hiB
              obtain ⟨xb, xoff, pa, pc, la, lc, ta, tc, rfl, hcs, hph, hli, -, -, -⟩ := block_at (Hb.out.later rBlock_mono Hbw.out) hib
              obtain ⟨d0, d1, d2, d3, d4, d5⟩ := hcs.get6
              have zx : xb < wr.heap.size := cell_lt d0
              obtain ⟨x, hx⟩ : ∃ x, x = bs[i] := ⟨_, rfl⟩
              rw [← hx] at d0 d1 d2 d3 d4 d5 hph hli
              have hxi : f.blocks[i]? = some x := by rw [← Hbs.out, hx, List.getElem?_eq_getElem hib]
              have hmany := Hf.out.many x (List.mem_of_getElem? hxi)
              have hpl : x.phis.length ≤ 300 := hmany.1
              have hll : x.list.length ≤ 300 := hmany.2
              have Hxi := hid hxi
              obtain ⟨R, hR⟩ : ∃ R, R = progRest bs (i + 1) := ⟨_, rfl⟩
              have hin2 : InS n (progU bs) t E (progPhi x R 0) t1 c1 := by
                have h := Hin.out
                rw [progRest_at (x := x) (by rw [hx, List.getElem?_eq_getElem hib]), ← hR] at h
                exact h
              have Hin2 := hid hin2
              have HRr := hid hR
              have Hph := hid hph
              have Hli := hid hli
              clear hcs hx hxi hmany hin hin2 hst hR hph hli Hin
              go_wp2_with fail
              clear d0 d1 d2 d3 d4 d5
              obtain ⟨Wb, hWb⟩ : ∃ Wb, Wb = wr.alloc (.cells #[.slice pa x.phis.length pc, .slice la x.list.length lc, .int .i64 x.fin.kind, .bool x.fin.on.reg, .int .i64 x.fin.on.n, .slice ta x.fin.to.length tc] 47) := ⟨_, rfl⟩
              have hbb : Below wr.heap.size wr Wb := by rw [hWb]; (repeat (first | exact Below.refl _ _ | refine Below.alloc ?_ (by first | omega | (simp <;> omega)) _ | refine Below.setCell ?_ (by first | omega | (simp <;> omega)) _ | refine below_drewN ?_ _ | refine Below.drew ?_))
              have e1 : Wb.cell? ⟨wr.heap.size, 1, none⟩ = some (.slice la x.list.length lc) := by rw [hWb]; simp
              have Hstb : Hid (TbSt Wb Wb RB AB t1 c1) := (Hst.out.later hbb).anew
              have HstW : Hid (TbSt W2 Wb RB AB t1 c1) := Hst.out.later hbb
              have Hph2 := hid (Hph.out.later rPhi_mono hbb)
              have Hli2 := hid (Hli.out.later rIns_mono hbb)
              have HbWb : Hid (Below w.heap.size w Wb) := Hbw.out.trans (hbb.mono Hbw.out.size)
              have COb : Hid (Wb.cell? ⟨OB, 0, none⟩ = some (.slice (some ⟨RB, 0, none⟩) n n)) := cell_later' cO hbb
              have hBXl : wr.heap.size < Wb.heap.size := cell_lt e1
              rw [← hWb]
              obtain ⟨BX, hBX⟩ : ∃ BX, BX = wr.heap.size := ⟨_, rfl⟩
              rw [← hBX] at e1 hBXl ⊢
              have hBR : BX ≠ RB := by omega
              have hBA : BX ≠ AB := by omega
              have E1 := hid e1
              clear hWb hbb hBX e1 Hst Hph Hli cO
              go_loopw [47] (fun s47 wj => ∃ (p : Nat) (t' : Tb) (c' : Bool), p ≤ x.phis.length ∧ s47 = .int .i64 p ∧ InS n (progU bs) t E (progPhi x R p) t' c' ∧ TbSt Wb wj RB AB t' c') (fun s47 _ => x.phis.length - (intOf s47).toNat)
              case atStart => exact ⟨0, t1, c1, Nat.zero_le _, rfl, Hin2.out, Hstb.out⟩
              case round =>
                clear Hin2 Hstb
                obtain ⟨p, t2, c2, hp, rfl, hin, hst⟩ := hrel
                have Hin := hid hin
                have Hst := hid hst
                have Hbw : Hid (Below w.heap.size w wr) := hst.below HbWb.out hRw (by have := HbL.out.size; omega)
                have cO := hst.cell COb.out hOR hOA
                have zO2 : OB < wr.heap.size := cell_lt cO
                have zR3 : RB < wr.heap.size := hst.ltR
                by_cases hpl : p < x.phis.length
                · obtain ⟨pb, poff, fa, fc, rfl, d0, d1, hsrc, hdI, hsl⟩ := phi_at (hst.sl rPhi_mono HSd.out Hph2.out) hpl
                  have zp : pb < wr.heap.size := cell_lt d0
                  obtain ⟨y, hy⟩ : ∃ y, y = x.phis[p] := ⟨_, rfl⟩
                  rw [← hy] at d0 d1 hsrc hdI hsl
                  have hyf := Hf.out.phi i x Hxi.out y (by rw [hy]; exact List.getElem_mem _)
                  obtain ⟨q, hq⟩ := Int.eq_ofNat_of_zero_le hyf.1.1
                  have hqn : q < n := by have := hyf.1.2; rw [Hn.out] at this; omega
                  have Hvs : Hid (∀ v ∈ y.src, VOk f.regs v) := hyf.2.2
                  have Hin3 : Hid (InS n (progU bs) t E (phiU y :: progPhi x R (p + 1)) t2 c2) := by
                    have h := Hin.out
                    rw [progPhi_at (y := y) (by rw [hy, List.getElem?_eq_getElem hpl])] at h
                    exact h
                  rw [hq] at d0
                  have Hq := hid hq
                  have Hsrc := hid hsrc
                  clear hin hst hy hyf hdI hq hsrc
                  go_wp2_with fail
                  clear d0 d1
                  obtain ⟨Wp, hWp⟩ : ∃ Wp, Wp = wr.alloc (.cells #[.int .i64 (q : Int), .slice fa y.src.length fc] 72) := ⟨_, rfl⟩
                  have hbp : Below wr.heap.size wr Wp := by rw [hWp]; (repeat (first | exact Below.refl _ _ | refine Below.alloc ?_ (by first | omega | (simp <;> omega)) _ | refine Below.setCell ?_ (by first | omega | (simp <;> omega)) _ | refine below_drewN ?_ _ | refine Below.drew ?_))
                  have p0 : Wp.cell? ⟨wr.heap.size, 0, none⟩ = some (.int .i64 (q : Int)) := by rw [hWp]; simp
                  have hps : Wp.heap.size = wr.heap.size + 1 := by rw [hWp]; simp
                  have hbox : BoxSt Wp (Wp.alloc (.cells #[.int .i64 (-1), .int .i64 (-1)] 109)) Wp.heap.size Kn.top := ⟨by (repeat (first | exact Below.refl _ _ | refine Below.alloc ?_ (by first | omega | (simp <;> omega)) _ | refine Below.setCell ?_ (by first | omega | (simp <;> omega)) _ | refine below_drewN ?_ _ | refine Below.drew ?_)), heap_alloc_new _ _⟩
                  rw [← hWp, ← hps]
                  obtain ⟨PB, hPB⟩ : ∃ PB, PB = wr.heap.size := ⟨_, rfl⟩
                  obtain ⟨KB, hKB⟩ : ∃ KB, KB = Wp.heap.size := ⟨_, rfl⟩
                  rw [← hKB] at hbox ⊢
                  rw [← hPB] at p0 ⊢
                  have hPK : PB < KB := by omega
                  have hRK : RB < KB := by omega
                  have hOK : OB < KB := by omega
                  have Hbox := hid hbox
                  have P0 := hid p0
                  have Hbp := hid hbp
                  have HKB := hid hKB
                  have Hstp : Hid (TbSt Wb Wp RB AB t2 c2) := Hst.out.later hbp
                  have Hbwp : Hid (Below w.heap.size w Wp) := Hbw.out.trans (hbp.mono Hbw.out.size)
                  have COp : Hid (Wp.cell? ⟨OB, 0, none⟩ = some (.slice (some ⟨RB, 0, none⟩) n n)) := cell_later' cO hbp
                  have Hsrc2 := hid (Hsrc.out.later rVal_mono hbp)
                  clear hWp hbp p0 hps hbox hPB hKB Hsrc Hst cO
                  go_loopw [55] (fun s55 wv => ∃ (j : Nat) (k : Kn), j ≤ y.src.length ∧ s55 = .int .i64 j ∧ k = meetL t2 (y.src.take j) ∧ BoxSt Wp wv KB k) (fun s55 _ => y.src.length - (intOf s55).toNat)
                  case atStart => exact ⟨0, Kn.top, Nat.zero_le _, rfl, rfl, Hbox.out⟩
                  case round =>
                    clear Hbox
                    obtain ⟨j, k, hj, rfl, hk, hbx⟩ := hrel
                    have Hbx := hid hbx
                    have Hk := hid hk
                    have hbv := hbx.old
                    have Hbv := hid hbv
                    by_cases hjl : j < y.src.length
                    · obtain ⟨vb, voff, rfl, d0, d1⟩ := val_at (Hsrc2.out.later rVal_mono hbv) hjl
                      have zv : vb < wr.heap.size := cell_lt d0
                      obtain ⟨v, hv⟩ : ∃ v, v = y.src[j] := ⟨_, rfl⟩
                      rw [← hv] at d0 d1
                      have Hv := hid hv
                      have Hmi : Hid (I64 v.n) := by
                        obtain ⟨b9, o9, cs9, -, -, ⟨-, h9⟩, -, -⟩ := Hsrc2.out.get hjl
                        show I64 v.n
                        rw [hv]; exact h9
                      have hvr : v.reg = true → 0 ≤ v.n ∧ v.n < (n : Int) := fun h => by
                        have := Hvs.out v (by rw [hv]; exact List.getElem_mem _) h
                        rw [Hn.out] at this
                        exact this
                      have Hvr := hid hvr
                      obtain ⟨r, hr⟩ : ∃ r, r = v.reg := ⟨_, rfl⟩
                      obtain ⟨m, hm⟩ : ∃ m, m = v.n := ⟨_, rfl⟩
                      rw [← hr, ← hm] at Hvr
                      rw [← hm] at Hmi
                      rw [← hr] at d0
                      rw [← hm] at d1
                      have Hve : Hid (v = ⟨r, m⟩) := by show _ = _; rw [hr, hm]
                      have k0 := hbx.at.1
                      have k1 := hbx.at.2
                      have zK : KB < wr.heap.size := cell_lt k0
                      clear hk hbx hbv hv hvr hr hm
                      go_wp2_with fail
                      clear d0 d1
                      obtain ⟨Wv, hWv⟩ : ∃ Wv, Wv = wr.alloc (.cells #[.bool r, .int .i64 m] 41) := ⟨_, rfl⟩
                      have hbW : Below wr.heap.size wr Wv := by rw [hWv]; (repeat (first | exact Below.refl _ _ | refine Below.alloc ?_ (by first | omega | (simp <;> omega)) _ | refine Below.setCell ?_ (by first | omega | (simp <;> omega)) _ | refine below_drewN ?_ _ | refine Below.drew ?_))
                      have v0 : Wv.cell? ⟨wr.heap.size, 0, none⟩ = some (.bool r) := by rw [hWv]; simp
                      have v1 : Wv.cell? ⟨wr.heap.size, 1, none⟩ = some (.int .i64 m) := by rw [hWv]; simp
                      have Hbxv := hid (Hbx.out.later hbW)
                      have k0 := cell_later' k0 hbW
                      have k1 := cell_later' k1 hbW
                      rw [← hWv]
                      have hbWp : Below Wp.heap.size Wp Wv := Hbv.out.trans (hbW.mono Hbv.out.size)
                      have hStv : TbSt Wb Wv RB AB t2 c2 := Hstp.out.later hbWp
                      have hOv := cell_later' COp.out hbWp
                      have hlen2 : t2.length = n := Hin3.out.len
                      have hV : ∀ w', Below Wv.heap.size Wv w' → Calls Tryd.prog 88 #[.agg #[.bool r, .int .i64 m], .pointer (some ⟨OB, 0, none⟩)] w' fun e w'' => ∃ k2 : Kn, k2 = valK t2 ⟨r, m⟩ ∧ e = .returned (.agg #[.int .i64 (bi k2.off), .int .i64 (bi k2.on)]) ∧ Below Wv.heap.size Wv w'' := fun w' h =>
                        (tval_any OB RB n n t2 r m w' (cell_later' hOv h) ((h.block RB hStv.ltR).trans hStv.row) hlen2 (by omega) Hmi.out Hvr.out).mono fun e w'' ⟨k2, h1, h2, h3⟩ => ⟨k2, h1, h2, h.trans (h3.mono h.size)⟩
                      have hM : ∀ (k2 : Kn) w', Below Wv.heap.size Wv w' → Calls Tryd.prog 91 #[.agg #[.int .i64 (bi k.off), .int .i64 (bi k.on)], .agg #[.int .i64 (bi k2.off), .int .i64 (bi k2.on)]] w' fun e w'' => ∃ m2 : Kn, m2 = k.meet k2 ∧ e = .returned (.agg #[.int .i64 (bi m2.off), .int .i64 (bi m2.on)]) ∧ Below Wv.heap.size Wv w'' := fun k2 w' h =>
                        (meet_kn k k2 w').mono fun e w'' h2 => ⟨k.meet k2, rfl, h2.1, h.trans (h2.2.mono h.size)⟩
                      have HV := hid hV
                      have HM := hid hM
                      have HbWv : Hid (Below Wp.heap.size Wp Wv) := hbWp
                      obtain ⟨VB, hVB⟩ : ∃ VB, VB = wr.heap.size := ⟨_, rfl⟩
                      rw [← hVB] at v0 v1 ⊢
                      have zVB : VB < Wv.heap.size := cell_lt v0
                      have zKv : KB < Wv.heap.size := cell_lt k0
                      have hKp : Wp.heap.size ≤ KB := by rw [HKB.out]; exact Nat.le_refl _
                      clear hWv hbW hbWp hStv hOv hlen2 hV hM hVB
                      go_region_law
                        (first
                          | (go_simp; go_at_call 88; refine (HV.out Wv.drew ((Below.refl _ _).drew)).mono ?_; rintro e wV ⟨k2, hk2, rfl, hVW⟩; have Hk2 := hid hk2; have HVW := hid hVW; have k0 := cell_later' k0 hVW; have k1 := cell_later' k1 hVW; have zKV : KB < wV.heap.size := cell_lt k0; clear hk2 hVW)
                          | (go_simp; go_at_call 91; refine (HM.out k2 wV HVW.out).mono ?_; rintro e wM ⟨mm, hmm, rfl, hMW⟩; have Hmm := hid hmm; have HbxM := hid (Hbxv.out.later hMW); have HMW := hid hMW; have kM0 := HbxM.out.at.1; have kM1 := HbxM.out.at.2; have fM0 := HbxM.out.fz 0; have fM1 := HbxM.out.fz 1; have zKM : KB < wM.heap.size := cell_lt kM0; clear hmm hMW))
                      all_goals
                        (try go_wp2_with fail)
                        go_roundw
                        case rel => exact ⟨j + 1, mm, by omega, by go_num, by rw [meetL_step hjl, ← Hk.out, Hmm.out, Hk2.out, ← Hve.out, Hv.out], HbxM.out.put hKp mm⟩
                        case measure => simp [intOf]; omega
                    · have hjn : j = y.src.length := by omega
                      have Hkk : Hid (k = (phiU y).g t2) := by
                        show _ = _
                        rw [Hk.out, hjn, List.take_length]; rfl
                      have k0 := hbx.at.1
                      have k1 := hbx.at.2
                      have p0 := cell_later' P0.out hbv
                      have zK : KB < wr.heap.size := cell_lt k0
                      have zP : PB < wr.heap.size := cell_lt p0
                      have hlen2 : t2.length = n := Hin3.out.len
                      have hput := put_any Wb wr OB RB AB n n t2 c2 q k (Hstp.out.later hbv) (cell_later' COp.out hbv) hOR hOA hlen2 (by omega) hqn
                      have hdq : (phiU y).d = q := by show y.dst.toNat = q; rw [Hq.out, Int.toNat_natCast]
                      have Hin4 := hid (Hin3.out.put HU.out Htl.out (by rw [hdq]; exact hqn))
                      rw [hdq, ← Hkk.out] at Hin4
                      have Hput := hid hput
                      clear hk hbx hbv hput hdq hjn hlen2
                      go_wp2_with (first
                        | (go_at_call 90; refine (Hput.out).mono ?_; rintro e wP ⟨⟨u9, rfl⟩, hst4⟩; have Hst4 := hid hst4; clear hst4))
                      go_roundw
                      case rel => exact ⟨p + 1, _, _, by omega, by go_num, Hin4.out, Hst4.out⟩
                      case measure => simp [intOf]; omega
                · have hpn : p = x.phis.length := by omega
                  have Hin2 : Hid (InS n (progU bs) t E (insRest x R 0) t2 c2) := by
                    have h := Hin.out
                    rw [hpn, progPhi_end] at h
                    exact h
                  have e1 := hst.cell E1.out hBR hBA
                  have zB : BX < wr.heap.size := cell_lt e1
                  clear hin hst hpn
                  go_wp2_with fail
                  clear e1
                  go_loopw [74] (fun s74 wj => ∃ (j : Nat) (t' : Tb) (c' : Bool), j ≤ x.list.length ∧ s74 = .int .i64 j ∧ InS n (progU bs) t E (insRest x R j) t' c' ∧ TbSt Wb wj RB AB t' c') (fun s74 _ => x.list.length - (intOf s74).toNat)
                  case atStart => exact ⟨0, t2, c2, Nat.zero_le _, rfl, Hin2.out, Hst.out⟩
                  case round =>
                    clear Hin2 Hst Hin Hbw cO zO2 zR3
                    obtain ⟨j, t3, c3, hj, rfl, hin, hst⟩ := hrel
                    have Hin := hid hin
                    have Hst := hid hst
                    have Hbw : Hid (Below w.heap.size w wr) := hst.below HbWb.out hRw (by have := HbL.out.size; omega)
                    have cO := hst.cell COb.out hOR hOA
                    have zO2 : OB < wr.heap.size := cell_lt cO
                    have zR3 : RB < wr.heap.size := hst.ltR
                    have zA3 : AB < wr.heap.size := hst.ltA
                    by_cases hjl : j < x.list.length
                    · obtain ⟨lb, loff, fa, fc, rfl, hcs, -, hI⟩ := ins_at (hst.sl rIns_mono HSd.out Hli2.out) hjl
                      obtain ⟨e0, e1, e2, e3, e4, e5, e6, e7⟩ := hcs.get8
                      have zl : lb < wr.heap.size := cell_lt e0
                      obtain ⟨y, hy⟩ : ∃ y, y = x.list[j] := ⟨_, rfl⟩
                      rw [← hy] at e0 e1 e2 e3 e4 e5 e6 e7 hI
                      have hyj : x.list[j]? = some y := by rw [hy, List.getElem?_eq_getElem hjl]
                      have hio := Hf.out.ins i x Hxi.out y (List.mem_of_getElem? hyj)
                      have Hio := hid hio
                      have HI := hid hI
                      have Hyj := hid hyj
                      obtain ⟨op, hop⟩ : ∃ op, op = y.op := ⟨_, rfl⟩
                      obtain ⟨ds, hds⟩ : ∃ ds, ds = y.dst := ⟨_, rfl⟩
                      obtain ⟨ar, har⟩ : ∃ ar, ar = y.a.reg := ⟨_, rfl⟩
                      obtain ⟨an, han⟩ : ∃ an, an = y.a.n := ⟨_, rfl⟩
                      obtain ⟨br, hbr⟩ : ∃ br, br = y.b.reg := ⟨_, rfl⟩
                      obtain ⟨bn, hbn⟩ : ∃ bn, bn = y.b.n := ⟨_, rfl⟩
                      rw [← hop] at e0
                      rw [← hds] at e1
                      rw [← har] at e2
                      rw [← han] at e3
                      rw [← hbr] at e4
                      rw [← hbn] at e5
                      have Hop := hid hop
                      have Hds := hid hds
                      have Hya : Hid (y.a = ⟨ar, an⟩) := by show _ = _; rw [har, han]
                      have Hyb : Hid (y.b = ⟨br, bn⟩) := by show _ = _; rw [hbr, hbn]
                      have Hia : Hid (I64 an) := by show I64 an; rw [han]; exact hI.2.2.1
                      have Hib : Hid (I64 bn) := by show I64 bn; rw [hbn]; exact hI.2.2.2.1
                      have Hva : Hid (ar = true → 0 ≤ an ∧ an < (n : Int)) := fun h => by
                        have := hio.a (by rw [← har]; exact h)
                        rw [Hn.out, ← han] at this
                        exact this
                      have Hvb : Hid (br = true → 0 ≤ bn ∧ bn < (n : Int)) := fun h => by
                        have := hio.b (by rw [← hbr]; exact h)
                        rw [Hn.out, ← hbn] at this
                        exact this
                      have hdn : ds < (n : Int) := by rw [hds, ← Hn.out]; exact hio.dst.2
                      by_cases hd0 : 0 ≤ ds
                      · have q0 : decide (0 ≤ ds) = true := decide_eq_true hd0
                        obtain ⟨q, hq⟩ := Int.eq_ofNat_of_zero_le hd0
                        have hqn : q < n := by omega
                        have Hin3 : Hid (InS n (progU bs) t E (insU' y :: insRest x R (j + 1)) t3 c3) := by
                          have h := Hin.out
                          rw [insRest_yes Hyj.out (by rw [← Hds.out]; exact hd0)] at h
                          exact h
                        subst hq
                        clear hcs hI hy hyj hio hop hds har han hbr hbn hin hst hd0
                        go_wp2_with fail
                        clear e0 e1 e2 e3 e4 e5 e6 e7
                        obtain ⟨Wi, hWi⟩ : ∃ Wi, Wi = wr.alloc (.cells #[.int .i64 op, .int .i64 (q : Int), .bool ar, .int .i64 an, .bool br, .int .i64 bn, .int .i64 y.fn, .slice fa y.args.length fc] 70) := ⟨_, rfl⟩
                        have hbW : Below wr.heap.size wr Wi := by rw [hWi]; (repeat (first | exact Below.refl _ _ | refine Below.alloc ?_ (by first | omega | (simp <;> omega)) _ | refine Below.setCell ?_ (by first | omega | (simp <;> omega)) _ | refine below_drewN ?_ _ | refine Below.drew ?_))
                        obtain ⟨IB, hIB⟩ : ∃ IB, IB = wr.heap.size := ⟨_, rfl⟩
                        have i0 : Wi.cell? ⟨IB, 0, none⟩ = some (.int .i64 op) := by rw [hWi, hIB]; simp
                        have i1 : Wi.cell? ⟨IB, 1, none⟩ = some (.int .i64 (q : Int)) := by rw [hWi, hIB]; simp
                        have i2 : Wi.cell? ⟨IB, 2, none⟩ = some (.bool ar) := by rw [hWi, hIB]; simp
                        have i3 : Wi.cell? ⟨IB, 3, none⟩ = some (.int .i64 an) := by rw [hWi, hIB]; simp
                        have i4 : Wi.cell? ⟨IB, 4, none⟩ = some (.bool br) := by rw [hWi, hIB]; simp
                        have i5 : Wi.cell? ⟨IB, 5, none⟩ = some (.int .i64 bn) := by rw [hWi, hIB]; simp
                        have i6 : Wi.cell? ⟨IB, 6, none⟩ = some (.int .i64 y.fn) := by rw [hWi, hIB]; simp
                        have i7 : Wi.cell? ⟨IB, 7, none⟩ = some (.slice fa y.args.length fc) := by rw [hWi, hIB]; simp
                        rw [← hWi, ← hIB]
                        have hIR : IB ≠ RB := by omega
                        have hIA : IB ≠ AB := by omega
                        have hStv : TbSt Wb Wi RB AB t3 c3 := Hst.out.later hbW
                        have hOv := cell_later' cO hbW
                        have hlen2 : t3.length = n := Hin3.out.len
                        have hBri : Bruijn Wi := HB.out.below (Hbw.out.trans (hbW.mono Hbw.out.size))
                        obtain ⟨S8, hS8⟩ : ∃ S8 : World → Prop, S8 = fun w' => w'.cell? ⟨IB, 0, none⟩ = some (.int .i64 op) ∧ w'.cell? ⟨IB, 1, none⟩ = some (.int .i64 (q : Int)) ∧ w'.cell? ⟨IB, 2, none⟩ = some (.bool ar) ∧ w'.cell? ⟨IB, 3, none⟩ = some (.int .i64 an) ∧ w'.cell? ⟨IB, 4, none⟩ = some (.bool br) ∧ w'.cell? ⟨IB, 5, none⟩ = some (.int .i64 bn) ∧ w'.cell? ⟨IB, 6, none⟩ = some (.int .i64 y.fn) ∧ w'.cell? ⟨IB, 7, none⟩ = some (.slice fa y.args.length fc) := ⟨_, rfl⟩
                        have hK : ∀ w', Below Wi.heap.size Wi w' → S8 w' := fun w' h => by
                          rw [hS8]
                          exact ⟨cell_later' i0 h, cell_later' i1 h, cell_later' i2 h, cell_later' i3 h, cell_later' i4 h, cell_later' i5 h, cell_later' i6 h, cell_later' i7 h⟩
                        have hVa : ∀ w', Below Wi.heap.size Wi w' → Calls Tryd.prog 88 #[.agg #[.bool ar, .int .i64 an], .pointer (some ⟨OB, 0, none⟩)] w' fun e w'' => ∃ k2 : Kn, k2 = valK t3 ⟨ar, an⟩ ∧ e = .returned (.agg #[.int .i64 (bi k2.off), .int .i64 (bi k2.on)]) ∧ Below Wi.heap.size Wi w'' := fun w' h =>
                          (tval_any OB RB n n t3 ar an w' (cell_later' hOv h) ((h.block RB hStv.ltR).trans hStv.row) hlen2 (by omega) Hia.out Hva.out).mono fun e w'' ⟨k2, h1, h2, h3⟩ => ⟨k2, h1, h2, h.trans (h3.mono h.size)⟩
                        have hVb : ∀ w', Below Wi.heap.size Wi w' → Calls Tryd.prog 88 #[.agg #[.bool br, .int .i64 bn], .pointer (some ⟨OB, 0, none⟩)] w' fun e w'' => ∃ k2 : Kn, k2 = valK t3 ⟨br, bn⟩ ∧ e = .returned (.agg #[.int .i64 (bi k2.off), .int .i64 (bi k2.on)]) ∧ Below Wi.heap.size Wi w'' := fun w' h =>
                          (tval_any OB RB n n t3 br bn w' (cell_later' hOv h) ((h.block RB hStv.ltR).trans hStv.row) hlen2 (by omega) Hib.out Hvb.out).mono fun e w'' ⟨k2, h1, h2, h3⟩ => ⟨k2, h1, h2, h.trans (h3.mono h.size)⟩
                        have hMk : ∀ (k1 k2 : Kn) w', Below Wi.heap.size Wi w' → Calls Tryd.prog 92 #[.agg #[.int .i64 op, .int .i64 (q : Int), .bool ar, .int .i64 an, .bool br, .int .i64 bn, .int .i64 y.fn, .slice fa y.args.length fc], .agg #[.int .i64 (bi k1.off), .int .i64 (bi k1.on)], .agg #[.int .i64 (bi k2.off), .int .i64 (bi k2.on)]] w' fun e w'' => ∃ m2 : Kn, m2 = makesF op k1 k2 ∧ e = .returned (.agg #[.int .i64 (bi m2.off), .int .i64 (bi m2.on)]) ∧ Below Wi.heap.size Wi w'' := fun k1 k2 w' h =>
                          (makes_any op (q : Int) an bn y.fn ar br _ k1 k2 w' (hBri.below h)).mono fun e w'' h2 => ⟨makesF op k1 k2, rfl, h2.1, h.trans (h2.2.mono h.size)⟩
                        have hPu : ∀ (k : Kn) w', Below Wi.heap.size Wi w' → Calls Tryd.prog 90 #[.int .i64 (q : Int), .agg #[.int .i64 (bi k.off), .int .i64 (bi k.on)], .pointer (some ⟨OB, 0, none⟩), .pointer (some ⟨AB, 0, none⟩)] w' fun e w'' => (∃ u, e = .returned u) ∧ TbSt Wb w'' RB AB (putF t3 q k) (decide (k.meet (tbAt t3 q) ≠ tbAt t3 q) || c3) ∧ S8 w'' := fun k w' h => by
                          have h1 := hStv.later h
                          refine (put_any w' w' OB RB AB n n t3 c3 q k h1.anew (cell_later' hOv h) hOR hOA hlen2 (by omega) hqn).mono fun e w'' h2 => ⟨h2.1, h1.trans h2.2, ?_⟩
                          have h3 := hK w' h
                          rw [hS8] at h3 ⊢
                          obtain ⟨g0, g1, g2, g3, g4, g5, g6, g7⟩ := h3
                          exact ⟨h2.2.cell g0 hIR hIA, h2.2.cell g1 hIR hIA, h2.2.cell g2 hIR hIA, h2.2.cell g3 hIR hIA, h2.2.cell g4 hIR hIA, h2.2.cell g5 hIR hIA, h2.2.cell g6 hIR hIA, h2.2.cell g7 hIR hIA⟩
                        rw [hS8] at hK hPu
                        have HK := hid hK
                        have HVa := hid hVa
                        have HVb := hid hVb
                        have HMk := hid hMk
                        have HPu := hid hPu
                        have hdq : (insU' y).d = q := by show y.dst.toNat = q; rw [← Hds.out, Int.toNat_natCast]
                        have Hin4 := hid (Hin3.out.put HU.out Htl.out (by rw [hdq]; exact hqn))
                        rw [hdq] at Hin4
                        have hge : (insU' y).g t3 = makesF op (valK t3 ⟨ar, an⟩) (valK t3 ⟨br, bn⟩) := by show makesF y.op (valK t3 y.a) (valK t3 y.b) = _; rw [Hop.out, Hya.out, Hyb.out]
                        rw [hge] at Hin4
                        clear hWi hbW hIB i0 i1 i2 i3 i4 i5 i6 i7 hStv hOv hlen2 hBri hS8 hK hVa hVb hMk hPu hdq hge cO
                        go_region_held3 (fun w' => w'.cell? ⟨IB, 0, none⟩ = some (.int .i64 op) ∧ w'.cell? ⟨IB, 1, none⟩ = some (.int .i64 (q : Int)) ∧ w'.cell? ⟨IB, 2, none⟩ = some (.bool ar) ∧ w'.cell? ⟨IB, 3, none⟩ = some (.int .i64 an) ∧ w'.cell? ⟨IB, 4, none⟩ = some (.bool br) ∧ w'.cell? ⟨IB, 5, none⟩ = some (.int .i64 bn) ∧ w'.cell? ⟨IB, 6, none⟩ = some (.int .i64 y.fn) ∧ w'.cell? ⟨IB, 7, none⟩ = some (.slice fa y.args.length fc))
                          (first | exact hSP | exact HK.out _ (by first | exact (Below.refl _ _).drew | exact hMW | exact hVaW | exact hVbW))
                          ((first
                            | (go_at_call 88; (with_reducible refine (HVa.out _ ?_).mono ?_); exact (by first | exact (Below.refl _ _).drew | exact hVbW); rintro e wA ⟨ka, hka, rfl, hVaW⟩)
                            | (go_at_call 88; (with_reducible refine (HVb.out _ ?_).mono ?_); exact (by first | exact (Below.refl _ _).drew | exact hVaW); rintro e wB ⟨kb, hkb, rfl, hVbW⟩)
                            | (go_at_call 92; (with_reducible refine (HMk.out _ _ _ ?_).mono ?_); exact (by first | exact hVaW | exact hVbW); rintro e wM ⟨mm, hmm, rfl, hMW⟩)
                            | (go_at_call 90; (with_reducible refine (HPu.out _ _ ?_).mono ?_); exact hMW; rintro e wP ⟨⟨u9, rfl⟩, hstP, hSP⟩)))
                        all_goals
                          have HstP := hid hstP
                          clear hstP hSP hMW hVaW hVbW hka hkb hmm
                          (try go_wp2_with fail)
                          go_roundw
                          case rel => exact ⟨j + 1, _, _, by omega, by go_num, Hin4.out, HstP.out⟩
                          case measure => simp [intOf]; omega
                      · have q0 : decide (0 ≤ ds) = false := decide_eq_false hd0
                        have Hin3 : Hid (InS n (progU bs) t E (insRest x R (j + 1)) t3 c3) := by
                          have h := Hin.out
                          rw [insRest_no Hyj.out (by rw [← Hds.out]; omega)] at h
                          exact h
                        clear hcs hI hy hyj hio hop hds har han hbr hbn hin hst hd0
                        go_wp2_with fail
                        go_roundw
                        case rel => exact ⟨j + 1, t3, c3, by omega, by go_num, Hin3.out, Hst.out.later (by (repeat (first | exact Below.refl _ _ | refine Below.alloc ?_ (by first | omega | (simp <;> omega)) _ | refine Below.setCell ?_ (by first | omega | (simp <;> omega)) _ | refine below_drewN ?_ _ | refine Below.drew ?_)))⟩
                        case measure => simp [intOf]; omega
                    · have hjn : j = x.list.length := by omega
                      have Hin3 : Hid (InS n (progU bs) t E (progRest bs (i + 1)) t3 c3) := by
                        have h := Hin.out
                        rw [hjn, insRest_end, HRr.out] at h
                        exact h
                      clear hjn hin hst
                      go_wp2_with fail
                      go_roundw
                      case rel => exact ⟨i + 1, t3, c3, by omega, by go_num, Hin3.out, HstW.out.trans Hst.out⟩
                      case measure => simp [intOf]; omega
            · have hiB' : i = B := by omega
              have hE2 : E = (t1, c1) := by
                have h := Hin.out
                rw [hiB', HBl.out, ← Hbs.out, progRest_end] at h
                exact h.done
              have hnx := Hrn.out.next HU.out (t := t1) (c := c1) (by rw [← HE.out]; exact hE2)
              have Hnx := hid hnx
              have HstL : Hid (TbSt WL wr RB AB t1 c1) := Hst0.out.trans hst
              have cA := hst.atA
              clear hiB' hE2 hnx hin hst cO
              go_wp2_with fail
              go_roundg (gk - 1)
              case measure => have := Hnx.out.1; omega
              case rel => exact ⟨wr.heap.size, t1, c1, rfl, by have := HbL.out.size; have := HstL.out.size; omega, HstL.out.flagNew hAB c1, Hnx.out.2⟩

end Go.Proofs.YtaehkcnankijfaaDoor
