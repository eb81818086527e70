/- ssa.CheckOf. ssa.Check. Known bits in memory: numbers of 64 bits; bits.number, none, sure, meet. The document's rows of 64 codes in memory: bitsAll, bitsOf, bitMeet, bitTwo, bitsNumber, bitsSure, bitsLow, BitsPair. -/
import Derived.Test.YtaehkcnankijfaaDoorPUses
import Derived.Test.YtaehkcnankijfaaDoorPTreeW
import Derived.Deep.DeepCutAuto
import Derived.Deep.RegionHeld3
import Derived.Deep.RegionLaw
import Derived.Test.YtaehkcnankijfaaDoorPCheck
import Derived.Test.YtaehkcnankijfaaDoorPEq
import Derived.Test.YtaehkcnankijfaaDoorPBits1
import Derived.Test.YtaehkcnankijfaaDoorPBitsR0
namespace Go.Proofs.YtaehkcnankijfaaDoor
open Go.RowKit

/-- The checker as it begins. -/
def CkSt (w : World) (nm : ByteArray) (ba : Option Addr) (bc : Nat) (f : DFunc) (n Rg : Nat) (v : Value) (wc : World) : Prop :=
  ∃ CB g RB, v = .pointer (some ⟨CB, 0, none⟩) ∧ CellsAt wc CB 0 [.string nm, .int .i64 f.params, .int .i64 (Rg : Int), .slice ba n bc, .slice (some ⟨g, 0, none⟩) n n, .slice (some ⟨RB, 0, none⟩) Rg Rg] ∧
    wc.heap[RB]? = some (.cells (rowP (List.replicate Rg (-1, -1))) 157 (0, 0)) ∧ SlAt (fun b => b = g) wc 1 rInt (.slice (some ⟨g, 0, none⟩) n n) (treeF f.blocks) ∧
    Below w.heap.size w wc ∧ w.heap.size ≤ g ∧ w.heap.size ≤ RB ∧ w.heap.size ≤ CB ∧ CB ≠ RB ∧ g ≠ RB
theorem CkSt.mk' {w : World} {nm : ByteArray} {ba : Option Addr} {bc : Nat} {f : DFunc} {wl : World} {g RB n Rg : Nat} (hrow : wl.heap[RB]? = some (.cells (pairs Rg (.int .i64 (-1)) (.int .i64 (-1))).toArray 157 (0, 0)))
    (htree : SlAt (fun b => b = g) wl 1 rInt (.slice (some ⟨g, 0, none⟩) n n) (treeF f.blocks)) (hb : Below w.heap.size w wl) (hg : w.heap.size ≤ g) (hR : w.heap.size ≤ RB) (hgR : g ≠ RB) :
    CkSt w nm ba bc f n Rg (.pointer (some ⟨wl.heap.size, 0, none⟩)) (wl.alloc (.cells #[.string nm, .int .i64 f.params, .int .i64 (Rg : Int), .slice ba n bc, .slice (some ⟨g, 0, none⟩) n n, .slice (some ⟨RB, 0, none⟩) Rg Rg] 159)) := by
  have hRl := (Array.getElem?_eq_some_iff.1 hrow).1
  have hbl : Below wl.heap.size wl (wl.alloc (.cells #[.string nm, .int .i64 f.params, .int .i64 (Rg : Int), .slice ba n bc, .slice (some ⟨g, 0, none⟩) n n, .slice (some ⟨RB, 0, none⟩) Rg Rg] 159)) := by (repeat (first | exact Below.refl _ _ | refine Below.alloc ?_ (by first | omega | (simp <;> omega)) _ | refine Below.setCell ?_ (by first | omega | (simp <;> omega)) _ | refine below_drewN ?_ _ | refine Below.drew ?_))
  refine ⟨wl.heap.size, g, RB, rfl, ?_, by rw [hbl.block RB hRl, rowP_rep]; exact hrow, htree.later rInt_mono hbl, hb.trans (hbl.mono hb.size), hg, hR, hb.size, by omega, hgR⟩
  exact .cons (by simp) (.cons (by simp) (.cons (by simp) (.cons (by simp) (.cons (by simp) (.cons (by simp) (.nil _ _ _))))))

set_option maxRecDepth 100000 in
set_option maxHeartbeats 8000000 in
theorem checkOf_any {S : Nat → Prop} (nm : ByteArray) (ba : Option Addr) (bc : Nat) (f : DFunc) (w : World) (hf : FnOk f) (hb : SlAt S w 6 rBlock (.slice ba f.blocks.length bc) f.blocks) (hS : ∀ b, S b → b < w.heap.size) :
    Calls Tryd.prog 58 #[.agg #[.string nm, .int .i64 f.params, .int .i64 f.regs, .slice ba f.blocks.length bc]] w fun e w' => e = .returned (.int .i64 (ssaOf f)) ∧ Below w.heap.size w w' := by
  have Hf := hid hf
  have Hb := hid hb
  have HS := hid hS
  obtain ⟨n, hn⟩ : ∃ n, n = f.blocks.length := ⟨_, rfl⟩
  obtain ⟨Rg, hRg⟩ : ∃ Rg, Rg = f.regs.toNat := ⟨_, rfl⟩
  have hpr := hf.pr
  have hRi : f.regs = (Rg : Int) := by omega
  have hRn : Rg ≤ 100 := by omega
  have hnn : n ≤ 40 := by rw [hn]; exact hf.len.2
  have Hn := hid hn
  have HRi := hid hRi
  have HRg := hid hRg
  rw [← hn] at Hb
  rw [← hn, hRi]
  clear hf hb hS hn hRg hpr hRi
  go_enter Tryd.func58, Tryd.ntmps58
  go_wp2_with fail
  obtain ⟨W, hW⟩ : ∃ W, W = w.alloc (.cells #[.string nm, .int .i64 f.params, .int .i64 (Rg : Int), .slice ba n bc] 35) := ⟨_, rfl⟩
  rw [← hW]
  have hbW : Below w.heap.size w W := by rw [hW]; (repeat (first | exact Below.refl _ _ | refine Below.alloc ?_ (by first | omega | (simp <;> omega)) _ | refine Below.setCell ?_ (by first | omega | (simp <;> omega)) _ | refine below_drewN ?_ _ | refine Below.drew ?_))
  have c0 : W.cell? ⟨w.heap.size, 0, none⟩ = some (.string nm) := by rw [hW]; simp
  have c1 : W.cell? ⟨w.heap.size, 1, none⟩ = some (.int .i64 f.params) := by rw [hW]; simp
  have c2 : W.cell? ⟨w.heap.size, 2, none⟩ = some (.int .i64 (Rg : Int)) := by rw [hW]; simp
  have c3 : W.cell? ⟨w.heap.size, 3, none⟩ = some (.slice ba n bc) := by rw [hW]; simp
  have HbW := hid hbW
  have HbsW := hid (Hb.out.later rBlock_mono hbW)
  have zW : w.heap.size < W.heap.size := cell_lt c0
  clear hW hbW
  have hk : ∀ w', Below W.heap.size W w' → w'.cell? ⟨w.heap.size, 0, none⟩ = some (.string nm) ∧ w'.cell? ⟨w.heap.size, 1, none⟩ = some (.int .i64 f.params) ∧ w'.cell? ⟨w.heap.size, 2, none⟩ = some (.int .i64 (Rg : Int)) ∧ w'.cell? ⟨w.heap.size, 3, none⟩ = some (.slice ba n bc) := fun w' h =>
    ⟨cell_later' c0 h, cell_later' c1 h, cell_later' c2 h, cell_later' c3 h⟩
  have Hk := hid hk
  have hT : ∀ w', Below W.heap.size W w' → Calls Tryd.prog 93 #[.agg #[.string nm, .int .i64 f.params, .int .i64 (Rg : Int), .slice ba n bc]] w' fun e w'' => ∃ g, e = .returned (.slice (some ⟨g, 0, none⟩) n n) ∧ w'.heap.size ≤ g ∧ SlAt (fun b => b = g) w'' 1 rInt (.slice (some ⟨g, 0, none⟩) n n) (treeF f.blocks) ∧ Below w'.heap.size w' w'' ∧ Below W.heap.size W w'' ∧ g < w''.heap.size ∧ W.heap.size ≤ g := fun w' h => by
    refine (treeOf_any (S := S) nm f.params (Rg : Int) ba n bc f.blocks w' (HbsW.out.later rBlock_mono h) (fun b hb => by have := HS.out b hb; have := h.size; omega) Hn.out.symm (by omega) Hf.out.toOk).mono ?_
    rintro e w'' ⟨g, rfl, h1, h2, h3⟩
    obtain ⟨b, off, e, hc⟩ := int_at h2 (t := 0) (by rw [treeF_len]; exact Hf.out.len.1)
    cases e
    exact ⟨g, rfl, h1, h2, h3, h.trans (h3.mono h.size), cell_lt hc, Nat.le_trans h.size h1⟩
  have hR : ∀ (w' : World) (ad : Addr), Below W.heap.size W w' → w'.cell? (ad.add 0) = some (.int .i64 (-1)) → w'.cell? (ad.add 1) = some (.int .i64 (-1)) → Calls Tryd.prog 94 #[.slice (some ad) 1 1, .int .i64 (Rg : Int)] w' fun e w'' =>
      ∃ g, e = .returned (.slice (some ⟨g, 0, none⟩) Rg Rg) ∧ w'.heap.size ≤ g ∧ w''.heap[g]? = some (.cells (pairs Rg (.int .i64 (-1)) (.int .i64 (-1))).toArray 157 (0, 0)) ∧ Below w'.heap.size w' w'' ∧ Below W.heap.size W w'' ∧ W.heap.size ≤ g := fun w' ad h h0 h1 => by
    refine (repeatWritten_any ad 1 (-1) (-1) Rg (by omega) w' h0 h1).mono ?_
    rintro e w'' ⟨g, rfl, h1, h2, h3⟩
    exact ⟨g, rfl, h1, h2, h3, h.trans (h3.mono h.size), Nat.le_trans h.size h1⟩
  have HT := hid hT
  have HR := hid hR
  clear hk hT hR
  go_cut [3] (fun v3 wc => CkSt W nm ba bc f n Rg v3 wc)
  case first =>
    go_region_held3 (fun w' => w'.cell? ⟨w.heap.size, 0, none⟩ = some (.string nm) ∧ w'.cell? ⟨w.heap.size, 1, none⟩ = some (.int .i64 f.params) ∧ w'.cell? ⟨w.heap.size, 2, none⟩ = some (.int .i64 (Rg : Int)) ∧ w'.cell? ⟨w.heap.size, 3, none⟩ = some (.slice ba n bc))
      (exact Hk.out _ (by first | exact (Below.refl _ _).drew | ((repeat (first | exact Below.refl _ _ | refine Below.alloc ?_ (by first | omega | (simp <;> omega)) _ | refine Below.setCell ?_ (by first | omega | (simp <;> omega)) _ | refine below_drewN ?_ _ | refine Below.drew ?_)); done) | exact hTW | exact hTW.alloc hTW.size _ | exact hRW | exact hRW.alloc hRW.size _))
      ((first
        | (go_at_call 93; refine (HT.out _ ?_).mono ?_; exact (by first | exact (Below.refl _ _).drew | ((repeat (first | exact Below.refl _ _ | refine Below.alloc ?_ (by first | omega | (simp <;> omega)) _ | refine Below.setCell ?_ (by first | omega | (simp <;> omega)) _ | refine below_drewN ?_ _ | refine Below.drew ?_)); done) | exact hTW | exact hTW.alloc hTW.size _ | exact hRW | exact hRW.alloc hRW.size _); rintro e wT ⟨g, rfl, hg, htree, hbT, hTW, hgl, hgW⟩)
        | (go_at_call 94; refine (HR.out _ _ ?_ ?_ ?_).mono ?_
           · exact (by first | exact (Below.refl _ _).drew | ((repeat (first | exact Below.refl _ _ | refine Below.alloc ?_ (by first | omega | (simp <;> omega)) _ | refine Below.setCell ?_ (by first | omega | (simp <;> omega)) _ | refine below_drewN ?_ _ | refine Below.drew ?_)); done) | exact hTW | exact hTW.alloc hTW.size _ | exact hRW | exact hRW.alloc hRW.size _)
           · first | exact new_cells _ [.int .i64 (-1), .int .i64 (-1)] 157 (by simp) 0 _ rfl | exact new_cells W [.int .i64 (-1), .int .i64 (-1)] 157 rfl 0 _ rfl | exact cell_later' (w := (W.alloc (.cells #[.int .i64 (-1), .int .i64 (-1)] 157)).drew) (new_cells W [.int .i64 (-1), .int .i64 (-1)] 157 rfl 0 _ rfl) hbT
           · first | exact new_cells _ [.int .i64 (-1), .int .i64 (-1)] 157 (by simp) 1 _ rfl | exact new_cells W [.int .i64 (-1), .int .i64 (-1)] 157 rfl 1 _ rfl | exact cell_later' (w := (W.alloc (.cells #[.int .i64 (-1), .int .i64 (-1)] 157)).drew) (new_cells W [.int .i64 (-1), .int .i64 (-1)] 157 rfl 1 _ rfl) hbT
           rintro e wR ⟨RB, rfl, hRB, hrow, hbR, hRW, hRBW⟩)))
    all_goals
      go_wp2_with fail
      go_meet
      first
        | exact CkSt.mk' hrow (htree.later rInt_mono (by first | exact hbR | ((repeat (first | exact Below.refl _ _ | exact (hbR).mono (by first | omega | (simp <;> omega) | (have hh := (hbR).size; (try simp at hh); omega) | (have hh := (hbR).size; (try simp at hh); (try simp); omega)) | refine Below.trans ?_ ((hbR).mono (by first | omega | (simp <;> omega) | (have hh := (hbR).size; (try simp at hh); omega) | (have hh := (hbR).size; (try simp at hh); (try simp); omega))) | refine Below.alloc ?_ (by first | omega | (simp <;> omega) | (have hh := (hbR).size; (try simp at hh); omega) | (have hh := (hbR).size; (try simp at hh); (try simp); omega)) _ | refine Below.setCell ?_ (by first | omega | (simp <;> omega) | (have hh := (hbR).size; (try simp at hh); omega) | (have hh := (hbR).size; (try simp at hh); (try simp); omega)) _ | refine below_drewN ?_ _ | refine Below.drew ?_)); done))) hRW hgW hRBW (by have h := hRB; (try simp at h); omega)
        | exact CkSt.mk' ((hbT.block RB (Array.getElem?_eq_some_iff.1 hrow).1).trans hrow) htree hTW hgW hRBW (by have h1 := (Array.getElem?_eq_some_iff.1 hrow).1; have h := hg; (try simp at h); omega)
  case rest =>
    obtain ⟨CB, g, RB, rfl, hbox, hrow, htree, hbc, hgW, hRW, hCW, hCR, hgR⟩ := hcut
    obtain ⟨Wc, hWc⟩ : ∃ Wc : World, Wc = wc := ⟨_, rfl⟩
    subst hWc
    have Hbox := hid hbox
    have Hrow := hid hrow
    have Htree := hid htree
    have Hbc := hid hbc
    have d0 := cell_later' c0 hbc
    have d1 := cell_later' c1 hbc
    have d2 := cell_later' c2 hbc
    have d3 := cell_later' c3 hbc
    have hP : ∀ w', Below W.heap.size W w' → Calls Tryd.prog 95 #[.agg #[.string nm, .int .i64 f.params, .int .i64 (Rg : Int), .slice ba n bc]] w' fun e w'' => ∃ v, e = .returned v ∧ OwnInts w'.heap.size w'' v (postF f.blocks) ∧ Below W.heap.size W w'' ∧ Below w'.heap.size w' w'' := fun w' h => by
      refine (post_any (S := S) nm f.params (Rg : Int) ba n bc f.blocks w' (HbsW.out.later rBlock_mono h) (fun b hb => by have := HS.out b hb; have := h.size; omega) Hn.out.symm (by omega) Hf.out.toOk).mono ?_
      rintro e w'' ⟨v, rfl, h1, h2⟩
      exact ⟨v, rfl, h1, h.trans (h2.mono h.size), h2⟩
    have HP := hid hP
    obtain ⟨L, hL⟩ : ∃ L, L = (postF f.blocks).length := ⟨_, rfl⟩
    have HL := hid hL
    have zw : w.heap.size < Wc.heap.size := cell_lt d0
    clear hbox hrow htree hbc hP hL c0 c1 c2 c3
    by_cases hq : L < n
    · have Hv : Hid (ssaOf f = 5) := by show _ = _; unfold ssaOf; rw [if_pos (by rw [← HL.out, ← Hn.out]; exact hq)]
      go_wp2_with fail
      go_region_held3 (fun w' => w'.cell? ⟨w.heap.size, 0, none⟩ = some (.string nm) ∧ w'.cell? ⟨w.heap.size, 1, none⟩ = some (.int .i64 f.params) ∧ w'.cell? ⟨w.heap.size, 2, none⟩ = some (.int .i64 (Rg : Int)) ∧ w'.cell? ⟨w.heap.size, 3, none⟩ = some (.slice ba n bc))
        (exact Hk.out _ (by first | exact Hbc.out | exact Hbc.out.drew | exact hPW | exact hPW.drew))
        ((first
          | (go_at_call 95; refine (HP.out _ ?_).mono ?_; first | exact Hbc.out | exact Hbc.out.drew; rintro e wP ⟨v, rfl, hv, hPW, hPc⟩
             obtain ⟨va, vc, hve⟩ := hv.shape
             subst hve
             rw [← HL.out])))
      all_goals
        go_wp2_with fail
        go_ret
        exact ⟨by rw [Hv.out]; rfl, HbW.out.trans (hPW.mono HbW.out.size)⟩
    · obtain ⟨o, ho⟩ : ∃ o, o = (writesF f).2 := ⟨_, rfl⟩
      have Ho := hid ho
      clear ho
      go_wp2_with fail
      go_region_held3 (fun w' => w'.cell? ⟨w.heap.size, 0, none⟩ = some (.string nm) ∧ w'.cell? ⟨w.heap.size, 1, none⟩ = some (.int .i64 f.params) ∧ w'.cell? ⟨w.heap.size, 2, none⟩ = some (.int .i64 (Rg : Int)) ∧ w'.cell? ⟨w.heap.size, 3, none⟩ = some (.slice ba n bc))
        (exact Hk.out _ (by first | exact Hbc.out | exact Hbc.out.drew | exact hPW | exact hPW.drew))
        ((first
          | (go_at_call 95; refine (HP.out _ ?_).mono ?_; first | exact Hbc.out | exact Hbc.out.drew; rintro e wP ⟨v, rfl, hv, hPW, hPc⟩
             obtain ⟨va, vc, hve⟩ := hv.shape
             subst hve
             rw [← HL.out])))
      all_goals
        have hWP : Below Wc.heap.size Wc wP := by first | exact hPc | exact (Below.refl Wc.heap.size Wc).drew.trans hPc
        have hboxP := Hbox.out.later hWP
        have hrowP := (hWP.block RB (Array.getElem?_eq_some_iff.1 Hrow.out).1).trans Hrow.out
        have htreeP := Htree.out.later rInt_mono hWP
        have hbsP := HbsW.out.later rBlock_mono hPW
        obtain ⟨x0, x1, x2, x3, x4, x5⟩ := hboxP.get6
        have hSR : ∀ b, S b → b ≠ RB := fun b hb e => by have := HS.out b hb; omega
        have hwr := writes_any (S := S) CB RB Rg ba bc f wP Hf.out hSR (by rw [← Hn.out]; exact hbsP) x1 (by rw [← Hn.out]; exact x3) (by rw [← HRg.out]; exact x5) hCR (by rw [← HRg.out]; exact hrowP)
        rw [← Ho.out] at hwr
        have Hwr := hid hwr
        have HboxP := hid hboxP
        have HtreeP := hid htreeP
        have HbsP := hid hbsP
        have HSR := hid hSR
        have HPW := hid hPW
        have hRle : W.heap.size ≤ RB := hRW
        clear hwr hboxP hrowP htreeP hbsP hSR hPW hPc hWP x0 x1 x2 x3 x4 x5 hv
        cases o with
        | false =>
          have Hv : Hid (ssaOf f = 7) := by show _ = _; unfold ssaOf; rw [if_neg (by rw [← HL.out, ← Hn.out]; exact hq), if_pos Ho.out.symm]
          go_wp2_with (first | (go_at_call 96; refine (Hwr.out).mono ?_; rintro e wQ ⟨rfl, hst⟩; have Hst := hid hst; clear hst))
          go_ret
          exact ⟨by rw [Hv.out]; rfl, (HbW.out.trans (HPW.out.mono HbW.out.size)).grown Hst.out.grown (by have := HPW.out.size; omega) (fun r e => by cases e; omega)⟩
        | true =>
          obtain ⟨o2, ho2⟩ : ∃ o2, o2 = usesF f (writesF f).1 := ⟨_, rfl⟩
          have Ho2 := hid ho2
          clear ho2
          have huse : ∀ wQ, WrSt wP wQ RB (writesF f).1 → Calls Tryd.prog 97 #[.pointer (some ⟨CB, 0, none⟩)] wQ fun e w' => e = .returned (.bool o2) ∧ Below wQ.heap.size wQ w' := fun wQ hst => by
            have hkn : KnSt CB RB Rg nm ba (some ⟨g, 0, none⟩) bc n f (writesF f).1 wQ := by
              refine ⟨?_, hst.row, ?_, ?_, by unfold writesF; rw [wrBlocks_len, wrPars_len, List.length_replicate]⟩
              · intro j v hj
                have h := HboxP.out j v
                rw [← Hn.out, HRi.out] at hj
                exact hst.cell (h hj) hCR
              · rw [← Hn.out]
                exact (hst.sl rInt_mono (fun b hb => by rw [hb]; exact hgR) HtreeP.out).mono rInt_mono (fun _ _ => trivial) (Stays.refl _ _)
              · rw [← Hn.out]
                exact (hst.sl rBlock_mono HSR.out HbsP.out).mono rBlock_mono (fun _ _ => trivial) (Stays.refl _ _)
            rw [Ho2.out]
            exact uses_any CB RB Rg nm ba (some ⟨g, 0, none⟩) bc n f (writesF f).1 wQ Hf.out hkn
          have Huse := hid huse
          clear huse
          cases o2 with
          | false =>
            have Hv : Hid (ssaOf f = 6) := by show _ = _; unfold ssaOf; rw [if_neg (by rw [← HL.out, ← Hn.out]; exact hq), if_neg (by rw [← Ho.out]; simp), if_pos Ho2.out.symm]
            go_wp2_with (first
              | (go_at_call 96; refine (Hwr.out).mono ?_; rintro e wQ ⟨rfl, hst⟩; have Hst := hid hst; clear hst)
              | (go_at_call 97; refine (Huse.out wQ Hst.out).mono ?_; rintro e wU ⟨rfl, hbU⟩; have HbU := hid hbU; clear hbU))
            go_ret
            exact ⟨by rw [Hv.out]; rfl, ((HbW.out.trans (HPW.out.mono HbW.out.size)).grown Hst.out.grown (by have := HbW.out.size; have := HPW.out.size; omega) (fun r e => by cases e; have := HbW.out.size; omega)).trans (HbU.out.mono (by have := HbW.out.size; have := HPW.out.size; have := Hst.out.grown.size; omega))⟩
          | true =>
            have Hv : Hid (ssaOf f = 0) := by show _ = _; unfold ssaOf; rw [if_neg (by rw [← HL.out, ← Hn.out]; exact hq), if_neg (by rw [← Ho.out]; simp), if_neg (by rw [← Ho2.out]; simp)]
            go_wp2_with (first
              | (go_at_call 96; refine (Hwr.out).mono ?_; rintro e wQ ⟨rfl, hst⟩; have Hst := hid hst; clear hst)
              | (go_at_call 97; refine (Huse.out wQ Hst.out).mono ?_; rintro e wU ⟨rfl, hbU⟩; have HbU := hid hbU; clear hbU))
            go_ret
            exact ⟨by rw [Hv.out]; rfl, ((HbW.out.trans (HPW.out.mono HbW.out.size)).grown Hst.out.grown (by have := HbW.out.size; have := HPW.out.size; omega) (fun r e => by cases e; have := HbW.out.size; omega)).trans (HbU.out.mono (by have := HbW.out.size; have := HPW.out.size; have := Hst.out.grown.size; omega))⟩

end Go.Proofs.YtaehkcnankijfaaDoor

namespace Go.Proofs.YtaehkcnankijfaaDoor
open Go.RowKit

theorem res_fault {fn : Func} (hfn : fn.results = #[.cell 2 28]) {tmps : Array Value} {b : Nat} (ht : tmps.getD 2 undef = .pointer (some ⟨b, 0, none⟩)) {c a : Int} {W : World}
    (h0 : W.cell? ⟨b, 0, none⟩ = some (.int .i64 c)) (h1 : W.cell? ⟨b, 1, none⟩ = some (.int .i64 a)) : (results fn tmps).run Tryd.prog W = .ok (.agg #[.int .i64 c, .int .i64 a]) W := by
  simp only [Array.getD_eq_getD_getElem?] at ht
  simp [results, hfn, ht, go_sem, h0, h1]

set_option maxRecDepth 100000 in
set_option maxHeartbeats 4000000 in
theorem ssaCheck_any {S : Nat → Prop} (ga : Option Addr) (gc : Nat) (fa : Option Addr) (fc : Nat) (gs : List DGlobal) (fs : List DFunc) (w : World)
    (hg : SlAt S w 3 rGlobal (.slice ga gs.length gc) gs) (hf : SlAt S w 4 rFunc (.slice fa fs.length fc) fs) (hw : Ways w) (hS : ∀ b, S b → b < w.heap.size)
    (hgl : gs.length ≤ 1048576) (hfl : fs.length ≤ 1048576) (hsm : ∀ (k : Nat) (f : DFunc), fs[k]? = some f → manyOf f.blocks ≤ 1048576 ∧ f.blocks.length ≤ 1048576) :
    Calls Tryd.prog 29 #[.agg #[.slice ga gs.length gc, .slice fa fs.length fc]] w fun e w' =>
      e = .returned (.agg #[.int .i64 (ssaF ⟨gs, fs⟩).1, .int .i64 (ssaF ⟨gs, fs⟩).2]) ∧ Below w.heap.size w w' := by
  have Hg := hid hg
  have Hf := hid hf
  have Hw := hid hw
  have Hsm := hid hsm
  have HS := hid hS
  clear hg hf hw hsm hS
  go_enter Tryd.func29, Tryd.ntmps29
  obtain ⟨W, hW⟩ : ∃ W, W = (w.alloc (.cells #[.slice ga gs.length gc, .slice fa fs.length fc] 25)).alloc (.cells #[.int .i64 0, .int .i64 0] 28) := ⟨_, rfl⟩
  have hbW : Below w.heap.size w W := by rw [hW]; (repeat (first | exact Below.refl _ _ | refine Below.alloc ?_ (by first | omega | (simp <;> omega)) _ | refine Below.setCell ?_ (by first | omega | (simp <;> omega)) _ | refine below_drewN ?_ _ | refine Below.drew ?_))
  have HbW := hid hbW
  have W0 : Hid (W.cell? ⟨w.heap.size, 0, none⟩ = some (.slice ga gs.length gc)) := by show _ = _; rw [hW]; simp
  have W1 : Hid (W.cell? ⟨w.heap.size, 1, none⟩ = some (.slice fa fs.length fc)) := by show _ = _; rw [hW]; simp
  have R0 : Hid (W.cell? ⟨w.heap.size + 1, 0, none⟩ = some (.int .i64 0)) := by show _ = _; rw [hW]; simp
  have R1 : Hid (W.cell? ⟨w.heap.size + 1, 1, none⟩ = some (.int .i64 0)) := by show _ = _; rw [hW]; simp
  have F0 : Hid (W.frozen? ⟨w.heap.size + 1, 0, none⟩ = false) := by show _ = _; rw [hW]; simp
  have F1 : Hid (W.frozen? ⟨w.heap.size + 1, 1, none⟩ = false) := by show _ = _; rw [hW]; simp
  have hWs : W.heap.size = w.heap.size + 2 := by rw [hW]; simp
  go_wp2_with fail
  rw [← hW]
  have hwW : Ways W := Ways.below Hw.out hbW
  refine (check_any (S := S) ga gc fa fc gs fs W (Hg.out.later rGlobal_mono hbW) (Hf.out.later rFunc_mono hbW) hwW hgl hfl Hsm.out).mono ?_
  rintro e w1 ⟨rfl, hb1⟩
  have Hb1 := hid hb1
  have g0 := cell_later' W0.out hb1
  have g1 := cell_later' W1.out hb1
  have g2 := cell_later' R0.out hb1
  have g3 := cell_later' R1.out hb1
  have k2 := (hb1.frozen (p := ⟨w.heap.size + 1, 0, none⟩) (by simp; omega)).trans F0.out
  have k3 := (hb1.frozen (p := ⟨w.heap.size + 1, 1, none⟩) (by simp; omega)).trans F1.out
  have z1 : w.heap.size + 1 < w1.heap.size := cell_lt g2
  have z0 : w.heap.size < w1.heap.size := cell_lt g0
  obtain ⟨c, hc⟩ : ∃ c, c = (checkF ⟨gs, fs⟩).1 := ⟨_, rfl⟩
  obtain ⟨d, hd⟩ : ∃ d, d = (checkF ⟨gs, fs⟩).2 := ⟨_, rfl⟩
  have Hcd : Hid (checkF ⟨gs, fs⟩ = (c, d)) := by show _ = _; rw [hc, hd]
  rw [← hc, ← hd]
  have Hw1 : Hid (Below w.heap.size w w1) := HbW.out.trans (hb1.mono (by omega))
  clear hb1 hW hbW hc hd hwW
  by_cases hok : c = 0 ∧ d = 0
  · obtain ⟨rfl, rfl⟩ := hok
    go_wp2_with fail
    obtain ⟨W2, hW2⟩ : ∃ W2, W2 = w1.alloc (.cells #[.int .i64 0, .int .i64 0] 28) := ⟨_, rfl⟩
    rw [← hW2]
    have hb2 : Below w1.heap.size w1 W2 := by rw [hW2]; (repeat (first | exact Below.refl _ _ | refine Below.alloc ?_ (by first | omega | (simp <;> omega)) _ | refine Below.setCell ?_ (by first | omega | (simp <;> omega)) _ | refine below_drewN ?_ _ | refine Below.drew ?_))
    have E2 := hid (cell_later' g2 hb2)
    have E3 := hid (cell_later' g3 hb2)
    have F2 := hid ((hb2.frozen (p := ⟨w.heap.size + 1, 0, none⟩) z1).trans k2)
    have F3 := hid ((hb2.frozen (p := ⟨w.heap.size + 1, 1, none⟩) z1).trans k3)
    have Hw2 : Hid (Below w.heap.size w W2) := Hw1.out.trans (hb2.mono Hw1.out.size)
    have z2 : w.heap.size + 1 < W2.heap.size := cell_lt E2.out
    clear hW2 hb2 g0 g1 g2 g3 k2 k3 hWs
    go_loopw [16] (fun s16 wr => ∃ (k : Nat), k ≤ fs.length ∧ s16 = .int .i64 k ∧ (∀ j, j < k → ssaE fs j = 0) ∧ Below W2.heap.size W2 wr) (fun s16 _ => fs.length - (intOf s16).toNat)
    case atStart => exact ⟨0, Nat.zero_le _, rfl, fun j hj => by omega, Below.refl _ _⟩
    case round =>
      obtain ⟨k, hk, rfl, hall, hbr⟩ := hrel
      have Hall := hid hall
      have Hbr := hid hbr
      have hbw : Below w.heap.size w wr := Hw2.out.trans (hbr.mono Hw2.out.size)
      have Hbw := hid hbw
      have e2 := cell_later' E2.out hbr
      have e3 := cell_later' E3.out hbr
      have f2 := (hbr.frozen (p := ⟨w.heap.size + 1, 0, none⟩) z2).trans F2.out
      have f3 := (hbr.frozen (p := ⟨w.heap.size + 1, 1, none⟩) z2).trans F3.out
      have z3 : w.heap.size + 1 < wr.heap.size := cell_lt e2
      clear hall hbr hbw
      by_cases hkl : k < fs.length
      · obtain ⟨fb, foff, xa, xc, rfl, hcs, hxb, -, -⟩ := func_at (Hf.out.later rFunc_mono Hbw.out) hkl
        obtain ⟨c0, c1, c2, c3⟩ := hcs.get4
        have zf : fb < wr.heap.size := cell_lt c0
        obtain ⟨x, hx⟩ : ∃ x, x = fs[k] := ⟨_, rfl⟩
        rw [← hx] at c0 c1 c2 c3 hxb
        have hfk : fs[k]? = some x := by rw [hx]; exact List.getElem?_eq_getElem hkl
        have hFn : FnOk x := fnOk (u := ⟨gs, fs⟩) Hcd.out hfk
        obtain ⟨WB, hWB⟩ : ∃ WB, WB = wr.alloc (.cells #[.string x.name, .int .i64 x.params, .int .i64 x.regs, .slice xa x.blocks.length xc] 35) := ⟨_, rfl⟩
        have hbB : Below wr.heap.size wr WB := by rw [hWB]; (repeat (first | exact Below.refl _ _ | refine Below.alloc ?_ (by first | omega | (simp <;> omega)) _ | refine Below.setCell ?_ (by first | omega | (simp <;> omega)) _ | refine below_drewN ?_ _ | refine Below.drew ?_))
        have hco := checkOf_any (S := S) x.name xa xc x WB hFn (hxb.later rBlock_mono hbB) (fun b hb => by have := HS.out b hb; have := Hbw.out.size; have := hbB.size; omega)
        rw [hWB] at hco
        have He : Hid (ssaE fs k = ssaOf x) := by show _ = _; unfold ssaE; rw [hfk]
        obtain ⟨e9, he9⟩ : ∃ e9, e9 = ssaOf x := ⟨_, rfl⟩
        rw [← he9] at hco
        have Hco := hid hco
        have He9 := hid he9
        have Hbx : Hid (∀ w', Below (wr.alloc (.cells #[.string x.name, .int .i64 x.params, .int .i64 x.regs, .slice xa x.blocks.length xc] 35)).heap.size (wr.alloc (.cells #[.string x.name, .int .i64 x.params, .int .i64 x.regs, .slice xa x.blocks.length xc] 35)) w' → Below wr.heap.size wr w') := fun w' h => by
          rw [← hWB] at h
          exact hbB.trans (h.mono hbB.size)
        clear hco he9 hWB hbB hxb hcs hFn hx hfk
        by_cases hz : e9 = 0
        · have hz1 : (decide (e9 < 0) || decide (0 < e9)) = false := ne_no hz
          have Hall2 := hid (ext_lt Hall.out (by rw [He.out, ← He9.out]; exact hz))
          clear hz
          go_wp2_with (first
            | (go_at_call 58; refine (Hco.out).mono ?_; rintro e w5 ⟨rfl, hb5⟩
               have Hb5 := hid (Hbx.out _ hb5)
               clear hb5))
          go_roundw
          case rel => exact ⟨k + 1, by omega, by go_num, Hall2.out, Hbr.out.trans (Hb5.out.mono Hbr.out.size)⟩
          case measure => simp [intOf]; omega
        · have hz1 : (decide (e9 < 0) || decide (0 < e9)) = true := ne_yes hz
          have Hr : Hid (ssaF ⟨gs, fs⟩ = (e9, (k : Int))) := by
            show _ = _
            have hp : posF (ssaE fs) fs.length = k := posF_at Hall.out hkl (by rw [He.out, ← He9.out]; exact hz)
            unfold ssaF
            rw [Hcd.out, if_neg (by simp)]
            dsimp only
            rw [hp, if_pos hkl, He.out, ← He9.out]
          clear hz
          go_wp2_with (first
            | (go_at_call 58; refine (Hco.out).mono ?_; rintro e w5 ⟨rfl, hb5⟩
               have hb6 := Hbx.out _ hb5
               have e2 := cell_later' e2 hb6
               have e3 := cell_later' e3 hb6
               have f2 := (hb6.frozen (p := ⟨w.heap.size + 1, 0, none⟩) z3).trans f2
               have f3 := (hb6.frozen (p := ⟨w.heap.size + 1, 1, none⟩) z3).trans f3
               have z5 : w.heap.size + 1 < w5.heap.size := cell_lt e2
               have Hb5 := hid hb6
               clear hb5 hb6)
            | (go_at_call 37; refine (fault_any _ _ _).mono ?_; rintro e w6 ⟨rfl, hb7⟩
               have e2 := cell_later' e2 hb7
               have e3 := cell_later' e3 hb7
               have f2 := (hb7.frozen (p := ⟨w.heap.size + 1, 0, none⟩) z5).trans f2
               have f3 := (hb7.frozen (p := ⟨w.heap.size + 1, 1, none⟩) z5).trans f3
               have z6 : w.heap.size + 1 < w6.heap.size := cell_lt e2
               have Hb7 := hid hb7
               clear hb7))
          have q := set_two (w := w6) (u := .int .i64 e9) (v := .int .i64 (k : Int)) e2 e3
          refine bodyPost_ret (res_fault rfl rfl (c := e9) (a := (k : Int)) q.1 q.2) rfl ⟨by rw [Hr.out], ?_⟩
          have h1 := Hbw.out
          have h2 := Hb5.out
          have h3 := Hb7.out
          exact (((h1.trans (h2.mono h1.size)).trans (h3.mono (by have := h1.size; have := h2.size; omega))).setCell (p := ⟨w.heap.size + 1, 0, none⟩) (by dsimp only; omega) _).setCell (p := ⟨w.heap.size + 1, 1, none⟩) (by dsimp only; omega) _
      · have hkn : k = fs.length := by omega
        have Hr : Hid (ssaF ⟨gs, fs⟩ = (0, 0)) := by
          show _ = _
          have hp : posF (ssaE fs) fs.length = fs.length := posF_all (fun j hj => Hall.out j (by omega))
          unfold ssaF
          rw [Hcd.out, if_neg (by simp)]
          dsimp only
          rw [hp, if_neg (by omega)]
        clear hkn
        go_wp2_with fail
        have q := set_two (w := wr) (u := .int .i64 0) (v := .int .i64 0) e2 e3
        refine bodyPost_ret (res_fault rfl rfl (c := 0) (a := 0) q.1 q.2) rfl ⟨by rw [Hr.out], ?_⟩
        exact (Hbw.out.setCell (p := ⟨w.heap.size + 1, 0, none⟩) (by dsimp only; omega) _).setCell (p := ⟨w.heap.size + 1, 1, none⟩) (by dsimp only; omega) _
  · have Hr : Hid (ssaF ⟨gs, fs⟩ = (c, d)) := by
      show _ = _
      unfold ssaF
      rw [Hcd.out, if_pos (fun e => hok (by simpa using e))]
    have hq : ((decide (c < 0) || decide (0 < c)) || (decide (d < 0) || decide (0 < d))) = true := by rw [Bool.eq_iff_iff]; simp; omega
    go_wp2_with fail
    have q := set_two (w := w1) (u := .int .i64 c) (v := .int .i64 d) g2 g3
    have hba : ∀ o : Obj, Below ((w1.setCell ⟨w.heap.size + 1, 0, none⟩ (.int .i64 c)).setCell ⟨w.heap.size + 1, 1, none⟩ (.int .i64 d)).heap.size ((w1.setCell ⟨w.heap.size + 1, 0, none⟩ (.int .i64 c)).setCell ⟨w.heap.size + 1, 1, none⟩ (.int .i64 d)) (((w1.setCell ⟨w.heap.size + 1, 0, none⟩ (.int .i64 c)).setCell ⟨w.heap.size + 1, 1, none⟩ (.int .i64 d)).alloc o) := fun o => (Below.refl _ _).alloc (Nat.le_refl _) _
    refine bodyPost_ret (res_fault rfl rfl (c := c) (a := d) (cell_later' q.1 (hba _)) (cell_later' q.2 (hba _))) rfl ⟨by rw [Hr.out], ?_⟩
    exact ((Hw1.out.setCell (p := ⟨w.heap.size + 1, 0, none⟩) (by dsimp only; omega) _).setCell (p := ⟨w.heap.size + 1, 1, none⟩) (by dsimp only; omega) _).trans ((hba _).mono (by have := Hw1.out.size; simpa [World.setCell] using this))

end Go.Proofs.YtaehkcnankijfaaDoor

namespace Go.Proofs.YtaehkcnankijfaaDoor
open Go.RowKit

theorem wrap_bv (n : Int) : IntKind.i64.wrap n = (BitVec.ofInt 64 n).toInt := by
  rw [BitVec.toInt_ofInt, IntKind.wrap_i64, Int.bmod]
  split <;> omega
theorem ofInt_nat (x : BitVec 64) : BitVec.ofInt 64 (x.toNat : Int) = x := by
  apply BitVec.eq_of_toInt_eq
  rw [BitVec.toInt_ofInt, BitVec.toInt_eq_toNat_bmod]
/-- A number of 64 bits, as int has it. -/
def bi (x : BitVec 64) : Int := x.toInt
theorem bi_inj {x y : BitVec 64} (h : bi x = bi y) : x = y := BitVec.eq_of_toInt_eq h
theorem bi_range (x : BitVec 64) : -9223372036854775808 ≤ bi x ∧ bi x ≤ 9223372036854775807 := by
  have h1 := BitVec.toInt_lt (x := x)
  have h2 := BitVec.le_toInt (x := x)
  unfold bi
  omega
theorem bi_of {n : Int} (h : I64 n) : bi (bvOf n) = n := by
  unfold bi bvOf
  rw [BitVec.toInt_ofInt, Int.bmod]
  unfold I64 at h
  split <;> omega
theorem wrap_bi (n : Int) : IntKind.i64.wrap n = bi (BitVec.ofInt 64 n) := wrap_bv n
@[go_sem] theorem bits_and_bv (x y : BitVec 64) : bits .and .i64 (bi x) (bi y) = bi (x &&& y) := by
  show IntKind.i64.wrap ((BitVec.ofInt 64 x.toInt &&& BitVec.ofInt 64 y.toInt).toNat : Int) = _
  rw [BitVec.ofInt_toInt, BitVec.ofInt_toInt, wrap_bi, ofInt_nat]
@[go_sem] theorem bits_or_bv (x y : BitVec 64) : bits .or .i64 (bi x) (bi y) = bi (x ||| y) := by
  show IntKind.i64.wrap ((BitVec.ofInt 64 x.toInt ||| BitVec.ofInt 64 y.toInt).toNat : Int) = _
  rw [BitVec.ofInt_toInt, BitVec.ofInt_toInt, wrap_bi, ofInt_nat]
@[go_sem] theorem bits_not_bv (x : BitVec 64) : bits .xor .i64 (-1) (bi x) = bi (~~~x) := by
  show IntKind.i64.wrap ((BitVec.ofInt 64 (-1) ^^^ BitVec.ofInt 64 x.toInt).toNat : Int) = _
  rw [BitVec.ofInt_toInt, wrap_bi, ofInt_nat]
  congr 1
@[go_sem] theorem signed_i64 : IntKind.i64.signed = true := rfl

end Go.Proofs.YtaehkcnankijfaaDoor

namespace Go.Proofs.YtaehkcnankijfaaDoor
open Go.RowKit

end Go.Proofs.YtaehkcnankijfaaDoor
