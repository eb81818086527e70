/- The document's BitsTable. -/
import Derived.Test.YtaehkcnankijfaaDoorPRowD
import Derived.Test.YtaehkcnankijfaaDoorPRowE
import Derived.Deep.RegionHeld3
import Derived.Deep.RegionLaw
namespace Go.Proofs.YtaehkcnankijfaaDoor
open Go.RowKit

/-- A row of codes, led to by a cell. -/
def rRowK : Rp Kn := fun S W cs k => ∃ g, cs = [.slice (some ⟨g, 0, none⟩) 64 64] ∧ S g ∧ RowAt W g k
theorem rRowK_mono : rRowK.Mono := ⟨fun _ _ _ _ _ _ hS hw ⟨g, h1, h2, h3⟩ => ⟨g, h1, hS _ h2, fun x hx => hw _ _ _ h2 (h3 x hx)⟩⟩
theorem infoRow : (Tryd.prog.info? 26).map (fun i => (i.zero, i.size, i.bytes)) = some (some (.slice none 0 0), 1, 24) := by kernel_rfl
/-- The gathered rows are a table. -/
theorem Own.ltab {base : Nat} {w : World} {v : Value} {t : Tb} (h : Own base w 26 1 rRowK v t) : ∃ la LB cap, v = .slice la t.length cap ∧ (0 < t.length → la = some ⟨LB, 0, none⟩) ∧ LTab base w LB t ∧ (0 < t.length → base ≤ LB) := by
  obtain ⟨xss, h1, h2, h3, h4⟩ := h
  rcases id h1.2 with ⟨rfl, hl⟩ | ⟨g, cap, cur, rfl, hg, hgg, hn, hm, hc, ht⟩
  · have hl0 : t = [] := List.length_eq_zero_iff.1 hl
    subst hl0
    exact ⟨none, 0, 0, rfl, fun h => by simp at h, ⟨fun r hr => by simp at hr, fun r hr => by simp at hr⟩, fun h => by simp at h⟩
  · refine ⟨_, g, cap, rfl, fun _ => rfl, ⟨fun r hr => ?_, fun r _ => by simp [World.frozen?, hgg]⟩, fun _ => hg⟩
    have hi : r < xss.length := by rw [h2]; exact hr
    have hcs := List.getElem?_eq_getElem hi
    obtain ⟨G, e1, e2, e3⟩ := h4 r _ _ hcs (List.getElem?_eq_getElem hr)
    have hf := flat_at xss h3 r 0 _ hcs (by omega)
    rw [e1] at hf
    have hcell := h1.cells (g := g) rfl (r * 1 + 0) _ hf
    rw [show (⟨g, 0, none⟩ : Addr).add (r * 1 + 0) = ⟨g, r, none⟩ by unfold Addr.add; split <;> simp_all] at hcell
    refine ⟨G, hcell, e2.1, fun e => e2.2.2 (by rw [e]; rfl), ?_⟩
    rw [tbAt_lt hr]; exact e3
theorem tb0_step {f : DFunc} {n P k : Nat} (hn : f.regs = (n : Int)) (hP : f.params = (P : Int)) (hk : k < n) : (tb0 f).take (k + 1) = (tb0 f).take k ++ [if k < P then Kn.none else Kn.top] := by
  have hl : (tb0 f).length = n := by rw [tb0_len, hn, Int.toNat_natCast]
  rw [List.take_succ_eq_append_getElem (by rw [hl]; exact hk), ← tbAt_lt (by rw [hl]; exact hk), tb0_at (by omega), hP]
  congr 2
  by_cases h : k < P
  · rw [if_pos (by omega), if_pos h]
  · rw [if_neg (by omega), if_neg h]

theorem LTab.weaken {b b' : Nat} {W : World} {LB : Nat} {t : Tb} (h : LTab b W LB t) (hb : b' ≤ b) : LTab b' W LB t :=
  ⟨fun r hr => (by obtain ⟨g, h1, h2, h3, h4⟩ := h.row r hr; exact ⟨g, h1, by omega, h3, h4⟩), h.fz⟩

set_option maxRecDepth 100000 in
set_option maxHeartbeats 8000000 in
theorem refTable_any {S : Nat → Prop} (nm : ByteArray) (ba : Option Addr) (bc : Nat) (f : DFunc) (w : World) (hf : FnOk f) (hb : SlAt S w 6 rBlock (.slice ba f.blocks.length bc) f.blocks) (hS : ∀ b, S b → b < w.heap.size) :
    Calls Tryd.prog 30 #[.agg #[.string nm, .int .i64 f.params, .int .i64 f.regs, .slice ba f.blocks.length bc]] w fun e w' => ∃ la LB cap, e = .returned (.slice la f.regs.toNat cap) ∧ (0 < f.regs.toNat → la = some ⟨LB, 0, none⟩) ∧ LTab w.heap.size w' LB (tableR f) ∧ Below w.heap.size w w' := by
  have Hf := hid hf
  have Hb := hid hb
  have HS := hid hS
  obtain ⟨bs, hbs⟩ : ∃ bs, bs = f.blocks := ⟨_, rfl⟩
  obtain ⟨B, hBl⟩ : ∃ B, B = f.blocks.length := ⟨_, rfl⟩
  have hpr := hf.pr
  obtain ⟨n, hn⟩ : ∃ n : Nat, f.regs = (n : Int) := Int.eq_ofNat_of_zero_le (by omega)
  obtain ⟨P, hP⟩ : ∃ P : Nat, f.params = (P : Int) := Int.eq_ofNat_of_zero_le (by omega)
  have hn2 : n ≤ 100 := by omega
  have hPn : P ≤ n := by omega
  have hB2 : B ≤ 40 := by rw [hBl]; exact hf.len.2
  have Hbs := hid hbs
  have HBl := hid hBl
  have Hn := hid hn
  have HP := hid hP
  rw [← hBl, ← hbs] at Hb
  rw [hn, hP, ← hBl, Int.toNat_natCast]
  obtain ⟨ir, hir, hrz0, hrz1, hrz2⟩ := info_parts infoRow
  clear hf hb hS hbs hBl hpr hn hP
  go_enter Tryd.func30, Tryd.ntmps30
  go_wp2_with fail
  obtain ⟨W1, hW1⟩ : ∃ W1, W1 = w.alloc (.cells #[.string nm, .int .i64 (P : Int), .int .i64 (n : Int), .slice ba B bc] 35) := ⟨_, rfl⟩
  rw [← hW1]
  have hb1 : Below w.heap.size w W1 := by rw [hW1]; (repeat (first | exact Below.refl _ _ | refine Below.alloc ?_ (by first | omega | (simp <;> omega)) _ | refine Below.setCell ?_ (by first | omega | (simp <;> omega)) _ | refine below_drewN ?_ _ | refine Below.drew ?_))
  have c1 : W1.cell? ⟨w.heap.size, 1, none⟩ = some (.int .i64 (P : Int)) := by rw [hW1]; simp
  have c2 : W1.cell? ⟨w.heap.size, 2, none⟩ = some (.int .i64 (n : Int)) := by rw [hW1]; simp
  have c3 : W1.cell? ⟨w.heap.size, 3, none⟩ = some (.slice ba B bc) := by rw [hW1]; simp
  obtain ⟨FB, hFB⟩ : ∃ FB, FB = w.heap.size := ⟨_, rfl⟩
  rw [← hFB] at c1 c2 c3 ⊢
  have hwF : w.heap.size ≤ FB := by omega
  have hF1 : FB < W1.heap.size := cell_lt c1
  have C1 := hid c1
  have C2 := hid c2
  have C3 := hid c3
  have Hb1 := hid hb1
  clear hW1 hb1 c1 c2 c3 hFB
  go_loopw [3, 4] (fun v3 s4 wr => ∃ (k : Nat) (v : Value), v = v3 ∧ k ≤ n ∧ s4 = .int .i64 k ∧ Build W1 wr 26 1 rRowK v ((tb0 f).take k)) (fun _ s4 _ => n - (intOf s4).toNat)
  case atStart => exact ⟨0, _, rfl, Nat.zero_le _, rfl, Build.start W1 26 1 rRowK⟩
  case round =>
    obtain ⟨k, v, rfl, hk, rfl, hbd⟩ := hrel
    have Hbd := hid hbd
    have c1 := cell_later' C1.out hbd.old
    have c2 := cell_later' C2.out hbd.old
    have c3 := cell_later' C3.out hbd.old
    have zF : FB < wr.heap.size := cell_lt c1
    have zW : W1.heap.size ≤ wr.heap.size := hbd.old.size
    clear hbd
    by_cases hkn : k < n
    · have Hst := hid (tb0_step Hn.out HP.out hkn)
      have hlen : ((tb0 f).take k).length = k := by rw [List.length_take, tb0_len, Hn.out, Int.toNat_natCast]; omega
      have Hlen := hid hlen
      clear hlen
      by_cases hkP : k < P
      · have Hs2 : Hid ((tb0 f).take (k + 1) = (tb0 f).take k ++ [Kn.none]) := by show _ = _; rw [Hst.out, if_pos hkP]
        have q0 : decide ((k : Int) < (P : Int)) = true := decide_eq_true (by omega)
        go_wp2_with (first
          | (go_at_call 59; refine (bitsAll_any 2 _ ⟨by omega, by omega⟩).mono ?_; rintro e w1 ⟨G, rfl, hG⟩; have HG := hid (hG.congr (f' := codeF Kn.none) fun x _ => (code_none x).symm); have zz := hG.lt; have zg := hG.ge; have zb := hG.old.size; clear hG)
          | (at_builtin; refine wpList_append_Own rfl _ _ 53 rfl W1.heap.size 26 ir _ 1 24 Tryd.underlying53 hir hrz0 hrz1 hrz2 rfl (by decide) rRowK_mono v ((tb0 f).take k) rfl ?_ ⟨w1.heap.size, 0, none⟩ 1 [.slice (some ⟨G, 0, none⟩) 64 64] Kn.none rfl rfl ?_ ?_ ?_ ?_ (by decide) ?_ ?_))
        · exact (Hbd.out.own.later rRowK_mono HG.out.old).later rRowK_mono (by (repeat (first | exact Below.refl _ _ | refine Below.alloc ?_ (by first | omega | (simp <;> omega)) _ | refine Below.setCell ?_ (by first | omega | (simp <;> omega)) _ | refine below_drewN ?_ _ | refine Below.drew ?_)))
        · exact new_cells _ _ _ (by simp)
        · intro u hu; simp at hu; subst hu; rfl
        · exact ⟨G, rfl, ⟨by omega, by simp; omega, fun e => by have := (Hbd.out.own.lt G e).2; omega⟩, HG.out.rowAt.later (by (repeat (first | exact Below.refl _ _ | refine Below.alloc ?_ (by first | omega | (simp <;> omega)) _ | refine Below.setCell ?_ (by first | omega | (simp <;> omega)) _ | refine below_drewN ?_ _ | refine Below.drew ?_)))⟩
        · rw [Hlen.out]; omega
        · simp; omega
        · intro v2 w3 hown hgrow g2 cap2 hv2
          have hb3 : Below W1.heap.size W1 w3 := by
            refine Below.grown ?_ hgrow (by simp; omega) (fun g hg => (Hbd.out.own.lt g hg).1)
            have h := Hbd.out.old
            have h2 := HG.out.old
            (repeat (first | exact Below.refl _ _ | exact (h2).mono (by first | omega | (simp <;> omega) | (have hh := (h2).size; (try simp at hh); omega) | (have hh := (h2).size; (try simp at hh); (try simp); omega) | (have hh := (h).size; (try simp at hh); omega) | (have hh := (h).size; (try simp at hh); (try simp); omega)) | refine Below.trans ?_ ((h2).mono (by first | omega | (simp <;> omega) | (have hh := (h2).size; (try simp at hh); omega) | (have hh := (h2).size; (try simp at hh); (try simp); omega) | (have hh := (h).size; (try simp at hh); omega) | (have hh := (h).size; (try simp at hh); (try simp); omega))) | exact (h).mono (by first | omega | (simp <;> omega) | (have hh := (h2).size; (try simp at hh); omega) | (have hh := (h2).size; (try simp at hh); (try simp); omega) | (have hh := (h).size; (try simp at hh); omega) | (have hh := (h).size; (try simp at hh); (try simp); omega)) | refine Below.trans ?_ ((h).mono (by first | omega | (simp <;> omega) | (have hh := (h2).size; (try simp at hh); omega) | (have hh := (h2).size; (try simp at hh); (try simp); omega) | (have hh := (h).size; (try simp at hh); omega) | (have hh := (h).size; (try simp at hh); (try simp); omega))) | refine Below.alloc ?_ (by first | omega | (simp <;> omega) | (have hh := (h2).size; (try simp at hh); omega) | (have hh := (h2).size; (try simp at hh); (try simp); omega) | (have hh := (h).size; (try simp at hh); omega) | (have hh := (h).size; (try simp at hh); (try simp); omega)) _ | refine Below.setCell ?_ (by first | omega | (simp <;> omega) | (have hh := (h2).size; (try simp at hh); omega) | (have hh := (h2).size; (try simp at hh); (try simp); omega) | (have hh := (h).size; (try simp at hh); omega) | (have hh := (h).size; (try simp at hh); (try simp); omega)) _ | refine below_drewN ?_ _ | refine Below.drew ?_))
          have Hbd3 : Hid (Build W1 w3 26 1 rRowK v2 ((tb0 f).take (k + 1))) := ⟨by rw [Hs2.out]; exact hown, hb3⟩
          clear hown hgrow hb3 hv2
          go_wp2_with fail
          go_roundw
          case rel => exact ⟨k + 1, v2, rfl, by omega, by go_num, Hbd3.out⟩
          case measure => simp [intOf]; omega
      · have Hs2 : Hid ((tb0 f).take (k + 1) = (tb0 f).take k ++ [Kn.top]) := by show _ = _; rw [Hst.out, if_neg hkP]
        have q0 : decide ((k : Int) < (P : Int)) = false := decide_eq_false (by omega)
        go_wp2_with (first
          | (go_at_call 59; refine (bitsAll_any 3 _ ⟨by omega, by omega⟩).mono ?_; rintro e w1 ⟨G, rfl, hG⟩; have HG := hid (hG.congr (f' := codeF Kn.top) fun x hx => (code_top x hx).symm); have zz := hG.lt; have zg := hG.ge; have zb := hG.old.size; clear hG)
          | (at_builtin; refine wpList_append_Own rfl _ _ 53 rfl W1.heap.size 26 ir _ 1 24 Tryd.underlying53 hir hrz0 hrz1 hrz2 rfl (by decide) rRowK_mono v ((tb0 f).take k) rfl ?_ ⟨w1.heap.size, 0, none⟩ 1 [.slice (some ⟨G, 0, none⟩) 64 64] Kn.top rfl rfl ?_ ?_ ?_ ?_ (by decide) ?_ ?_))
        · exact (Hbd.out.own.later rRowK_mono HG.out.old).later rRowK_mono (by (repeat (first | exact Below.refl _ _ | refine Below.alloc ?_ (by first | omega | (simp <;> omega)) _ | refine Below.setCell ?_ (by first | omega | (simp <;> omega)) _ | refine below_drewN ?_ _ | refine Below.drew ?_)))
        · exact new_cells _ _ _ (by simp)
        · intro u hu; simp at hu; subst hu; rfl
        · exact ⟨G, rfl, ⟨by omega, by simp; omega, fun e => by have := (Hbd.out.own.lt G e).2; omega⟩, HG.out.rowAt.later (by (repeat (first | exact Below.refl _ _ | refine Below.alloc ?_ (by first | omega | (simp <;> omega)) _ | refine Below.setCell ?_ (by first | omega | (simp <;> omega)) _ | refine below_drewN ?_ _ | refine Below.drew ?_)))⟩
        · rw [Hlen.out]; omega
        · simp; omega
        · intro v2 w3 hown hgrow g2 cap2 hv2
          have hb3 : Below W1.heap.size W1 w3 := by
            refine Below.grown ?_ hgrow (by simp; omega) (fun g hg => (Hbd.out.own.lt g hg).1)
            have h := Hbd.out.old
            have h2 := HG.out.old
            (repeat (first | exact Below.refl _ _ | exact (h2).mono (by first | omega | (simp <;> omega) | (have hh := (h2).size; (try simp at hh); omega) | (have hh := (h2).size; (try simp at hh); (try simp); omega) | (have hh := (h).size; (try simp at hh); omega) | (have hh := (h).size; (try simp at hh); (try simp); omega)) | refine Below.trans ?_ ((h2).mono (by first | omega | (simp <;> omega) | (have hh := (h2).size; (try simp at hh); omega) | (have hh := (h2).size; (try simp at hh); (try simp); omega) | (have hh := (h).size; (try simp at hh); omega) | (have hh := (h).size; (try simp at hh); (try simp); omega))) | exact (h).mono (by first | omega | (simp <;> omega) | (have hh := (h2).size; (try simp at hh); omega) | (have hh := (h2).size; (try simp at hh); (try simp); omega) | (have hh := (h).size; (try simp at hh); omega) | (have hh := (h).size; (try simp at hh); (try simp); omega)) | refine Below.trans ?_ ((h).mono (by first | omega | (simp <;> omega) | (have hh := (h2).size; (try simp at hh); omega) | (have hh := (h2).size; (try simp at hh); (try simp); omega) | (have hh := (h).size; (try simp at hh); omega) | (have hh := (h).size; (try simp at hh); (try simp); omega))) | refine Below.alloc ?_ (by first | omega | (simp <;> omega) | (have hh := (h2).size; (try simp at hh); omega) | (have hh := (h2).size; (try simp at hh); (try simp); omega) | (have hh := (h).size; (try simp at hh); omega) | (have hh := (h).size; (try simp at hh); (try simp); omega)) _ | refine Below.setCell ?_ (by first | omega | (simp <;> omega) | (have hh := (h2).size; (try simp at hh); omega) | (have hh := (h2).size; (try simp at hh); (try simp); omega) | (have hh := (h).size; (try simp at hh); omega) | (have hh := (h).size; (try simp at hh); (try simp); omega)) _ | refine below_drewN ?_ _ | refine Below.drew ?_))
          have Hbd3 : Hid (Build W1 w3 26 1 rRowK v2 ((tb0 f).take (k + 1))) := ⟨by rw [Hs2.out]; exact hown, hb3⟩
          clear hown hgrow hb3 hv2
          go_wp2_with fail
          go_roundw
          case rel => exact ⟨k + 1, v2, rfl, by omega, by go_num, Hbd3.out⟩
          case measure => simp [intOf]; omega
    · obtain rfl : n = k := by omega
      have htk : (tb0 f).take n = tb0 f := List.take_of_length_le (by rw [tb0_len, Hn.out, Int.toNat_natCast]; exact Nat.le_refl _)
      have hown := Hbd.out.own
      rw [htk] at hown
      obtain ⟨la, LB, cap, hv, hla, htab, hge⟩ := hown.ltab
      have htl : (tb0 f).length = n := by rw [tb0_len, Hn.out, Int.toNat_natCast]
      rw [htl] at hv hla hge
      subst hv
      obtain ⟨WL, hWL⟩ : ∃ WL : World, WL = wr := ⟨_, rfl⟩
      subst hWL
      obtain ⟨base, hbase⟩ : ∃ base, base = W1.heap.size := ⟨_, rfl⟩
      rw [← hbase] at htab hge
      have hFb : FB < base := by omega
      have hbL : base ≤ WL.heap.size := by omega
      have hwb : w.heap.size ≤ base := by have := Hb1.out.size; omega
      have HbL : Hid (Below w.heap.size w WL) := Hb1.out.trans (Hbd.out.old.mono Hb1.out.size)
      have HlS : Hid (LtSt WL WL base LB (tb0 f)) := ⟨Nat.le_refl _, fun _ _ _ => rfl, ⟨rfl, rfl, rfl⟩, htab, fun h => hge (by rw [← htl]; exact h)⟩
      have C3L := hid c3
      have HLB : Hid (0 < n → base ≤ LB) := hge
      have Hla := hid hla
      have HSd : Hid (∀ b, S b → 0 < n → b ≠ LB) := fun b hb h => by
        have h1 := HS.out b hb
        have h2 := hge h
        omega
      have HU : Hid (UpdOk n (refU bs)) := by
        have h := upd_ok_ref Hf.out
        rw [Hn.out, Int.toNat_natCast, ← Hbs.out] at h
        exact h
      have HR : Hid (RndS n (refU bs) (tableR f) (wtT (tb0 f) + 1) true (tb0 f)) := by
        have h := RndS.start (l := refU bs) htl (tb0_fit f)
        unfold tableR
        rw [← Hbs.out]
        exact h
      have HFL : Hid (0 < n → FB ≠ LB) := fun h => by have := hge h; omega
      clear htk hown htab htl hbase Hbd hla hge C1 C2 C3 c1
      go_wp2_with fail
      clear c2 c3
      go_loopg [5] (wtT (tb0 f) + 1) (fun g s5 wr => ∃ (t : Tb) (c : Bool), s5 = .bool c ∧ LtSt WL wr base LB t ∧ RndS n (refU bs) (tableR f) g c t)
      case atStart => exact ⟨tb0 f, true, rfl, HlS.out, HR.out⟩
      case round =>
        clear HR HlS
        obtain ⟨t, c, rfl, hst, hrn⟩ := hrel
        have Hst := hid hst
        have Hrn := hid hrn
        have htn : t.length = n := hrn.len
        have c3 := hst.cell C3L.out (by rw [htn]; exact HFL.out)
        have HbwL : Hid (Below w.heap.size w wr) := hst.below HbL.out hwb
        have zF2 : FB < wr.heap.size := cell_lt c3
        cases c with
        | false =>
          have He : Hid (t = tableR f) := hrn.stop rfl
          clear hst hrn htn
          go_wp2_with fail
          go_ret
          exact ⟨la, LB, cap, rfl, Hla.out, by rw [← He.out]; exact Hst.out.tab.weaken hwb, HbwL.out⟩
        | true =>
          obtain ⟨W2, hW2⟩ : ∃ W2 : World, W2 = wr := ⟨_, rfl⟩
          subst hW2
          obtain ⟨E, hE⟩ : ∃ E, E = passU (refU bs) (t, false) := ⟨_, rfl⟩
          have hin : InS n (refU bs) t E (refRest bs 0) t false := by
            rw [hE, refRest_zero]
            exact InS.start hrn.len hrn.fit
          have Hin := hid hin
          have HE := hid hE
          have Htl := hid htn
          have Hst2 : Hid (LtSt W2 W2 base LB t) := hst.anew
          have Hst0 : Hid (LtSt WL W2 base LB t) := hst
          have C32 := hid c3
          have HBs2 := hid (Hb.out.later rBlock_mono HbwL.out)
          have hb2 : base ≤ W2.heap.size := by have := hst.size; omega
          clear hst hrn htn hE hin
          go_wp2_with fail
          clear c3
          go_loopw [5, 6] (fun s5 s6 wi => ∃ (i : Nat) (t' : Tb) (c' : Bool), i ≤ B ∧ s6 = .int .i64 i ∧ s5 = .bool c' ∧ InS n (refU bs) t E (refRest bs i) t' c' ∧ LtSt W2 wi base LB t') (fun _ s6 _ => B - (intOf s6).toNat)
          case atStart => exact ⟨0, t, false, Nat.zero_le _, rfl, rfl, Hin.out, Hst2.out⟩
          case round =>
            clear Hin Hst2
            obtain ⟨i, t1, c1, hi, rfl, rfl, hin, hst⟩ := hrel
            have Hin := hid hin
            have Hst := hid hst
            have ht1 : t1.length = n := hin.len
            have c3 := hst.cell C32.out (by rw [ht1]; exact HFL.out)
            have zF3 : FB < wr.heap.size := cell_lt c3
            have hb3 : base ≤ wr.heap.size := by have := hst.size; omega
            have Hbw : Hid (Below w.heap.size w wr) := hst.below HbwL.out hwb
            have Ht1 := hid ht1
            by_cases hiB : i < B
            · have hib : i < bs.length := by rw [Hbs.out, ← HBl.out]; exact hiB
              obtain ⟨xb, xoff, pa, pc, lad, lc, ta, tc, rfl, hcs, hph, hli, -, -, -⟩ := block_at (Hb.out.later rBlock_mono Hbw.out) hib
              obtain ⟨d0, d1, d2, d3, d4, d5⟩ := hcs.get6
              have zx : xb < wr.heap.size := cell_lt d0
              obtain ⟨x, hx⟩ : ∃ x, x = bs[i] := ⟨_, rfl⟩
              rw [← hx] at d0 d1 d2 d3 d4 d5 hph hli
              have hxi : f.blocks[i]? = some x := by rw [← Hbs.out, hx, List.getElem?_eq_getElem hib]
              have hmany := Hf.out.many x (List.mem_of_getElem? hxi)
              have hpl : x.phis.length ≤ 300 := hmany.1
              have hll : x.list.length ≤ 300 := hmany.2
              have Hxi := hid hxi
              obtain ⟨R, hR⟩ : ∃ R, R = refRest bs (i + 1) := ⟨_, rfl⟩
              have Hin2 : Hid (InS n (refU bs) t E (refPhi x R 0) t1 c1) := by
                have h := Hin.out
                rw [refRest_at (x := x) (by rw [hx, List.getElem?_eq_getElem hib]), ← hR] at h
                exact h
              have HRr := hid hR
              have Hph := hid hph
              have Hli := hid hli
              clear hcs hx hxi hmany hin hst hR hph hli Hin ht1
              go_wp2_with fail
              clear d0 d1 d2 d3 d4 d5
              obtain ⟨Wb, hWb⟩ : ∃ Wb, Wb = wr.alloc (.cells #[.slice pa x.phis.length pc, .slice lad x.list.length lc, .int .i64 x.fin.kind, .bool x.fin.on.reg, .int .i64 x.fin.on.n, .slice ta x.fin.to.length tc] 47) := ⟨_, rfl⟩
              have hbb : Below wr.heap.size wr Wb := by rw [hWb]; (repeat (first | exact Below.refl _ _ | refine Below.alloc ?_ (by first | omega | (simp <;> omega)) _ | refine Below.setCell ?_ (by first | omega | (simp <;> omega)) _ | refine below_drewN ?_ _ | refine Below.drew ?_))
              have e0 : Wb.cell? ⟨wr.heap.size, 0, none⟩ = some (.slice pa x.phis.length pc) := by rw [hWb]; simp
              have e1 : Wb.cell? ⟨wr.heap.size, 1, none⟩ = some (.slice lad x.list.length lc) := by rw [hWb]; simp
              have HXL : Hid (0 < n → wr.heap.size ≠ LB) := fun h => by
                have := Hst.out.tab.lt (by rw [Ht1.out]; exact h)
                omega
              have HstW : Hid (LtSt W2 Wb base LB t1) := Hst.out.later hbb
              have Hstb : Hid (LtSt Wb Wb base LB t1) := HstW.out.anew
              have Hph2 := hid (Hph.out.later rPhi_mono hbb)
              have Hli2 := hid (Hli.out.later rIns_mono hbb)
              have HbWb : Hid (Below w.heap.size w Wb) := Hbw.out.trans (hbb.mono Hbw.out.size)
              have hbBb : base ≤ Wb.heap.size := by have := hbb.size; omega
              rw [← hWb]
              obtain ⟨XB, hXB⟩ : ∃ XB, XB = wr.heap.size := ⟨_, rfl⟩
              rw [← hXB] at e0 e1 HXL ⊢
              have E0 := hid e0
              have E1 := hid e1
              clear hWb hbb hXB e0 e1 Hst Hph Hli c3 zF3
              go_loopw [5, 8] (fun s5 s8 wj => ∃ (p : Nat) (t' : Tb) (c' : Bool), p ≤ x.phis.length ∧ s8 = .int .i64 p ∧ s5 = .bool c' ∧ InS n (refU bs) t E (refPhi x R p) t' c' ∧ LtSt Wb wj base LB t') (fun _ s8 _ => x.phis.length - (intOf s8).toNat)
              case atStart => exact ⟨0, t1, c1, Nat.zero_le _, rfl, rfl, Hin2.out, Hstb.out⟩
              case round =>
                clear Hin2 Hstb
                obtain ⟨p, t2, c2, hp, rfl, rfl, hin, hst⟩ := hrel
                have Hin := hid hin
                have Hst := hid hst
                have ht2 : t2.length = n := hin.len
                have e0 := hst.cell E0.out (by rw [ht2]; exact HXL.out)
                have zX : XB < wr.heap.size := cell_lt e0
                by_cases hpl2 : p < x.phis.length
                · obtain ⟨y, hy⟩ : ∃ y, y = x.phis[p] := ⟨_, rfl⟩
                  have hyf := Hf.out.phi i x Hxi.out y (by rw [hy]; exact List.getElem_mem _)
                  obtain ⟨q, hq⟩ := Int.eq_ofNat_of_zero_le hyf.1.1
                  have hqn : q < n := by have := hyf.1.2; rw [Hn.out] at this; omega
                  have Hvs : Hid (∀ v ∈ y.src, VOk f.regs v) := hyf.2.2
                  have Hin3 : Hid (InS n (refU bs) t E (refVals y (refPhi x R (p + 1)) 0) t2 c2) := by
                    have h := Hin.out
                    rw [refPhi_at (y := y) (by rw [hy, List.getElem?_eq_getElem hpl2])] at h
                    exact h
                  have hlas := Hla.out (by omega)
                  subst hlas
                  obtain ⟨pb, poff, fa, fc, hpae, d0, d1, hsrc, hdI, hsl⟩ := phi_at Hph2.out hpl2
                  subst hpae
                  rw [← hy] at d0 d1 hsrc hsl
                  rw [hq] at d0
                  have D0 := hid d0
                  have D1 := hid d1
                  have zpL : Hid (0 < n → pb ≠ LB) := fun h e => by
                    obtain ⟨b9, o9, cs9, e9, hS9, -⟩ := Hph2.out.get hpl2
                    cases e9
                    exact HSd.out _ hS9 h e
                  have Hsrc := hid hsrc
                  have Hq := hid hq
                  clear hin hst hy hyf hdI hq hsrc d0 d1 ht2
                  go_wp2_with fail
                  clear e0
                  go_loopw [5, 9] (fun s5 s9 wv => ∃ (j : Nat) (t' : Tb) (c' : Bool), j ≤ y.src.length ∧ s9 = .int .i64 j ∧ s5 = .bool c' ∧ InS n (refU bs) t E (refVals y (refPhi x R (p + 1)) j) t' c' ∧ LtSt Wb wv base LB t') (fun _ s9 _ => y.src.length - (intOf s9).toNat)
                  case atStart => exact ⟨0, t2, c2, Nat.zero_le _, rfl, rfl, Hin3.out, Hst.out⟩
                  case round =>
                    clear Hin3 Hst Hin
                    obtain ⟨j, t3, c3, hj, rfl, rfl, hin, hst⟩ := hrel
                    have Hin := hid hin
                    have Hst := hid hst
                    have ht3 : t3.length = n := hin.len
                    have e0 := hst.cell E0.out (by rw [ht3]; exact HXL.out)
                    have d0 := hst.cell D0.out (by rw [ht3]; exact zpL.out)
                    have d1 := hst.cell D1.out (by rw [ht3]; exact zpL.out)
                    have zX : XB < wr.heap.size := cell_lt e0
                    have zp : pb < wr.heap.size := cell_lt d0
                    have hb4 : base ≤ wr.heap.size := by have := hst.size; omega
                    have hzL : LB < wr.heap.size := hst.tab.lt (by omega)
                    by_cases hjl : j < y.src.length
                    · obtain ⟨vb, voff, hve, f0, f1⟩ := val_at (hst.sl rVal_mono (fun b hb h => HSd.out b hb (by rw [← ht3]; exact h)) Hsrc.out) hjl
                      subst hve
                      have zv : vb < wr.heap.size := cell_lt f0
                      have hvL : vb ≠ LB := fun e => by
                        obtain ⟨b9, o9, cs9, e9, hS9, -⟩ := Hsrc.out.get hjl
                        cases e9
                        exact HSd.out _ hS9 (by omega) e
                      obtain ⟨v, hv⟩ : ∃ v, v = y.src[j] := ⟨_, rfl⟩
                      rw [← hv] at f0 f1
                      have hmi : I64 v.n := by
                        obtain ⟨b9, o9, cs9, -, -, ⟨-, h9⟩, -, -⟩ := Hsrc.out.get hjl
                        rw [hv]; exact h9
                      have hvr : v.reg = true → 0 ≤ v.n ∧ v.n < (n : Int) := fun h => by
                        have := Hvs.out v (by rw [hv]; exact List.getElem_mem _) h
                        rw [Hn.out] at this
                        exact this
                      have Hin4 : Hid (InS n (refU bs) t E (fromU y v :: refVals y (refPhi x R (p + 1)) (j + 1)) t3 c3) := by
                        have h := Hin.out
                        rw [refVals_at (v := v) (by rw [hv, List.getElem?_eq_getElem hjl])] at h
                        exact h
                      obtain ⟨r, hr⟩ : ∃ r, r = v.reg := ⟨_, rfl⟩
                      obtain ⟨m, hm⟩ : ∃ m, m = v.n := ⟨_, rfl⟩
                      rw [← hr, ← hm] at hvr
                      rw [← hm] at hmi
                      rw [← hr] at f0
                      rw [← hm] at f1
                      have hdq : (fromU y v).d = q := by show y.dst.toNat = q; rw [Hq.out, Int.toNat_natCast]
                      have hge : (fromU y v).g t3 = valK t3 ⟨r, m⟩ := by show valK t3 v = _; rw [hr, hm]
                      have hin5 := Hin4.out.put HU.out Htl.out (by rw [hdq]; exact hqn)
                      rw [hdq, hge] at hin5
                      obtain ⟨K, hK⟩ : ∃ K, K = valK t3 ⟨r, m⟩ := ⟨_, rfl⟩
                      rw [← hK] at hin5
                      obtain ⟨o, ho⟩ : ∃ o, o = decide (K.meet (tbAt t3 q) ≠ tbAt t3 q) := ⟨_, rfl⟩
                      rw [← ho] at hin5
                      have Hin5 := hid hin5
                      obtain ⟨S5, hS5⟩ : ∃ S5 : World → Prop, S5 = fun w' => w'.cell? ⟨XB, 0, none⟩ = some (.slice (some ⟨pb, poff, none⟩) x.phis.length pc) ∧ w'.cell? ⟨pb, poff + p * 2, none⟩ = some (.int .i64 (q : Int)) ∧ w'.cell? ⟨pb, poff + p * 2 + 1, none⟩ = some (.slice (some ⟨vb, voff, none⟩) y.src.length fc) ∧ w'.cell? ⟨vb, voff + j * 2, none⟩ = some (.bool r) ∧ w'.cell? ⟨vb, voff + j * 2 + 1, none⟩ = some (.int .i64 m) := ⟨_, rfl⟩
                      have hKp : ∀ w', Below wr.heap.size wr w' → S5 w' := fun w' h => by
                        rw [hS5]
                        exact ⟨cell_later' e0 h, cell_later' d0 h, cell_later' d1 h, cell_later' f0 h, cell_later' f1 h⟩
                      have hV : ∀ w', Below wr.heap.size wr w' → Calls Tryd.prog 61 #[.slice (some ⟨LB, 0, none⟩) n cap, .agg #[.bool r, .int .i64 m]] w' fun e w'' => ∃ g, e = .returned (.slice (some ⟨g, 0, none⟩) 64 64) ∧ Below wr.heap.size wr w'' ∧ RowAt w'' g K := fun w' h =>
                        (bitsVal_any w' base LB n cap _ t3 r m (hst.tab.later h) (by have := h.size; omega) ht3 (by omega) (fun _ => rfl) hmi hvr).mono fun e w'' ⟨g, h1, h2, h3, _, _⟩ => ⟨g, h1, h.trans (h2.mono h.size), by rw [hK]; exact h3⟩
                      have hPu : ∀ g w', Below wr.heap.size wr w' → RowAt w' g K → Calls Tryd.prog 60 #[.slice (some ⟨LB, 0, none⟩) n cap, .int .i64 (q : Int), .slice (some ⟨g, 0, none⟩) 64 64] w' fun e w'' => e = .returned (.bool o) ∧ LtSt Wb w'' base LB (putF t3 q K) ∧ S5 w'' := fun g w' h hg => by
                        have h1 := hst.later h
                        refine (bitsPut_any w' w' base LB n cap q g t3 K h1.anew (by have := h.size; omega) ht3 (by omega) hqn hg).mono fun e w'' h2 => ⟨by rw [ho]; exact h2.1, h1.trans (putF_len _ _ _) h2.2, ?_⟩
                        have h3 := hKp w' h
                        rw [hS5] at h3 ⊢
                        obtain ⟨g0, g1, g2, g3, g4⟩ := h3
                        have hlen : 0 < (putF t3 q K).length → 0 < n := fun h => by rw [putF_len, ht3] at h; exact h
                        exact ⟨h2.2.cell g0 (fun h => HXL.out (hlen h)), h2.2.cell g1 (fun h => zpL.out (hlen h)), h2.2.cell g2 (fun h => zpL.out (hlen h)), h2.2.cell g3 (fun _ => hvL), h2.2.cell g4 (fun _ => hvL)⟩
                      rw [hS5] at hKp hPu
                      have HK := hid hKp
                      have HV := hid hV
                      have HPu := hid hPu
                      have i0 : (0 : Int) ≤ (p : Int) := by omega
                      have i1 : (p : Int) < (x.phis.length : Int) := by omega
                      have j0 : (0 : Int) ≤ (j : Int) := by omega
                      have j1 : (j : Int) < (y.src.length : Int) := by omega
                      clear hin hst ht3 hv hmi hvr hr hm hdq hge hin5 hK ho hS5 hKp hV hPu
                      go_wp2_with fail
                      go_region_held3 (fun w' => w'.cell? ⟨XB, 0, none⟩ = some (.slice (some ⟨pb, poff, none⟩) x.phis.length pc) ∧ w'.cell? ⟨pb, poff + p * 2, none⟩ = some (.int .i64 (q : Int)) ∧ w'.cell? ⟨pb, poff + p * 2 + 1, none⟩ = some (.slice (some ⟨vb, voff, none⟩) y.src.length fc) ∧ w'.cell? ⟨vb, voff + j * 2, none⟩ = some (.bool r) ∧ w'.cell? ⟨vb, voff + j * 2 + 1, none⟩ = some (.int .i64 m))
                        (first | exact hSP | exact HK.out _ (by first | exact (Below.refl _ _).drew | exact hVW))
                        ((first
                          | (go_at_call 61; (with_reducible refine (HV.out _ ?_).mono ?_); exact (Below.refl _ _).drew; rintro e wV ⟨g, rfl, hVW, hg⟩)
                          | (go_at_call 60; (with_reducible refine (HPu.out _ _ ?_ ?_).mono ?_); exact hVW; exact hg; rintro e wP ⟨rfl, hstP, hSP⟩)))
                      all_goals
                        have HstP := hid hstP
                        clear hstP hSP hVW hg
                        cases o with
                        | true =>
                          go_wp2_with fail
                          go_roundw
                          case rel => exact ⟨j + 1, _, _, by omega, by go_num, rfl, Hin5.out, HstP.out⟩
                          case measure => simp [intOf]; omega
                        | false =>
                          go_wp2_with fail
                          go_roundw
                          case rel => exact ⟨j + 1, _, _, by omega, by go_num, rfl, Hin5.out, HstP.out⟩
                          case measure => simp [intOf]; omega
                    · have hjn : j = y.src.length := by omega
                      have Hin4 : Hid (InS n (refU bs) t E (refPhi x R (p + 1)) t3 c3) := by
                        have h := Hin.out
                        rw [hjn, refVals_end] at h
                        exact h
                      clear hjn hin hst ht3
                      go_wp2_with fail
                      go_roundw
                      case rel => exact ⟨p + 1, t3, c3, by omega, by go_num, rfl, Hin4.out, Hst.out⟩
                      case measure => simp [intOf]; omega
                · have hpn : p = x.phis.length := by omega
                  have Hin2 : Hid (InS n (refU bs) t E (insRest x R 0) t2 c2) := by
                    have h := Hin.out
                    rw [hpn, refPhi_end] at h
                    exact h
                  clear hpn hin hst Hin
                  go_wp2_with fail
                  clear e0 zX
                  go_loopw [5, 10] (fun s5 s10 wj => ∃ (j : Nat) (t' : Tb) (c' : Bool), j ≤ x.list.length ∧ s10 = .int .i64 j ∧ s5 = .bool c' ∧ InS n (refU bs) t E (insRest x R j) t' c' ∧ LtSt Wb wj base LB t') (fun _ s10 _ => x.list.length - (intOf s10).toNat)
                  case atStart => exact ⟨0, t2, c2, Nat.zero_le _, rfl, rfl, Hin2.out, Hst.out⟩
                  case round =>
                    clear Hin2 Hst ht2
                    obtain ⟨j, t3, c3, hj, rfl, rfl, hin, hst⟩ := hrel
                    have Hin := hid hin
                    have Hst := hid hst
                    have ht3 : t3.length = n := hin.len
                    have e9 := hst.cell E1.out (by rw [ht3]; exact HXL.out)
                    have zX : XB < wr.heap.size := cell_lt e9
                    have hb4 : base ≤ wr.heap.size := by have := hst.size; omega
                    by_cases hjl : j < x.list.length
                    · obtain ⟨lb, loff, fa, fc, hlae, hcs, -, hI⟩ := ins_at (hst.sl rIns_mono (fun b hb h => HSd.out b hb (by rw [← ht3]; exact h)) Hli2.out) hjl
                      subst hlae
                      obtain ⟨e0, e1, e2, e3, e4, e5, -, -⟩ := hcs.get8
                      have zl : lb < wr.heap.size := cell_lt e0
                      have hlL : 0 < n → lb ≠ LB := fun h e => by
                        obtain ⟨b9, o9, cs9, e9, hS9, -⟩ := Hli2.out.get hjl
                        cases e9
                        exact HSd.out _ hS9 h e
                      obtain ⟨y, hy⟩ : ∃ y, y = x.list[j] := ⟨_, rfl⟩
                      rw [← hy] at e0 e1 e2 e3 e4 e5 hI
                      have hyj : x.list[j]? = some y := by rw [hy, List.getElem?_eq_getElem hjl]
                      have hio := Hf.out.ins i x Hxi.out y (List.mem_of_getElem? hyj)
                      obtain ⟨op, hop⟩ : ∃ op, op = y.op := ⟨_, rfl⟩
                      obtain ⟨ds, hds⟩ : ∃ ds, ds = y.dst := ⟨_, rfl⟩
                      obtain ⟨ar, har⟩ : ∃ ar, ar = y.a.reg := ⟨_, rfl⟩
                      obtain ⟨an, han⟩ : ∃ an, an = y.a.n := ⟨_, rfl⟩
                      obtain ⟨br, hbr⟩ : ∃ br, br = y.b.reg := ⟨_, rfl⟩
                      obtain ⟨bn, hbn⟩ : ∃ bn, bn = y.b.n := ⟨_, rfl⟩
                      rw [← hop] at e0
                      rw [← hds] at e1
                      rw [← har] at e2
                      rw [← han] at e3
                      rw [← hbr] at e4
                      rw [← hbn] at e5
                      have Hds := hid hds
                      have hia : I64 an := by rw [han]; exact hI.2.2.1
                      have hib2 : I64 bn := by rw [hbn]; exact hI.2.2.2.1
                      have hva : ar = true → 0 ≤ an ∧ an < (n : Int) := fun h => by
                        have := hio.a (by rw [← har]; exact h)
                        rw [Hn.out, ← han] at this
                        exact this
                      have hvb : br = true → 0 ≤ bn ∧ bn < (n : Int) := fun h => by
                        have := hio.b (by rw [← hbr]; exact h)
                        rw [Hn.out, ← hbn] at this
                        exact this
                      have hdn : ds < (n : Int) := by rw [hds, ← Hn.out]; exact hio.dst.2
                      have hgy : ∀ t : Tb, (insU' y).g t = makesF op (valK t ⟨ar, an⟩) (valK t ⟨br, bn⟩) := fun t => by
                        show makesF y.op (valK t y.a) (valK t y.b) = _
                        rw [hop, har, han, hbr, hbn]
                      have j0 : (0 : Int) ≤ (j : Int) := by omega
                      have j1 : (j : Int) < (x.list.length : Int) := by omega
                      by_cases hd0 : 0 ≤ ds
                      · have q0 : decide (0 ≤ ds) = true := decide_eq_true hd0
                        obtain ⟨q, hq⟩ := Int.eq_ofNat_of_zero_le hd0
                        have hqn : q < n := by omega
                        have Hin3 : Hid (InS n (refU bs) t E (insU' y :: insRest x R (j + 1)) t3 c3) := by
                          have h := Hin.out
                          rw [insRest_yes hyj (by rw [← hds]; exact hd0)] at h
                          exact h
                        have hzL : LB < wr.heap.size := hst.tab.lt (by omega)
                        have hlas := Hla.out (by omega)
                        subst hlas
                        subst hq
                        have hdq : (insU' y).d = q := by show y.dst.toNat = q; rw [← Hds.out, Int.toNat_natCast]
                        have hin5 := Hin3.out.put HU.out Htl.out (by rw [hdq]; exact hqn)
                        rw [hdq, hgy] at hin5
                        have hft := Hin3.out.fit
                        obtain ⟨KA, hKA⟩ : ∃ K, K = valK t3 ⟨ar, an⟩ := ⟨_, rfl⟩
                        obtain ⟨KB, hKB⟩ : ∃ K, K = valK t3 ⟨br, bn⟩ := ⟨_, rfl⟩
                        have hfA : KA.Fit := by rw [hKA]; exact valK_fit hft _
                        have hfB : KB.Fit := by rw [hKB]; exact valK_fit hft _
                        rw [← hKA, ← hKB] at hin5
                        obtain ⟨K, hK⟩ : ∃ K, K = makesF op KA KB := ⟨_, rfl⟩
                        rw [← hK] at hin5
                        obtain ⟨o, ho⟩ : ∃ o, o = decide (K.meet (tbAt t3 q) ≠ tbAt t3 q) := ⟨_, rfl⟩
                        rw [← ho] at hin5
                        have Hin5 := hid hin5
                        obtain ⟨S7, hS7⟩ : ∃ S7 : World → Prop, S7 = fun w' => w'.cell? ⟨XB, 1, none⟩ = some (.slice (some ⟨lb, loff, none⟩) x.list.length lc) ∧ w'.cell? ⟨lb, loff + j * 8, none⟩ = some (.int .i64 op) ∧ w'.cell? ⟨lb, loff + j * 8 + 1, none⟩ = some (.int .i64 (q : Int)) ∧ w'.cell? ⟨lb, loff + j * 8 + 2, none⟩ = some (.bool ar) ∧ w'.cell? ⟨lb, loff + j * 8 + 3, none⟩ = some (.int .i64 an) ∧ w'.cell? ⟨lb, loff + j * 8 + 4, none⟩ = some (.bool br) ∧ w'.cell? ⟨lb, loff + j * 8 + 5, none⟩ = some (.int .i64 bn) := ⟨_, rfl⟩
                        have hKp : ∀ w', Below wr.heap.size wr w' → S7 w' := fun w' h => by
                          rw [hS7]
                          exact ⟨cell_later' e9 h, cell_later' e0 h, cell_later' e1 h, cell_later' e2 h, cell_later' e3 h, cell_later' e4 h, cell_later' e5 h⟩
                        have hVa : ∀ w', Below wr.heap.size wr w' → Calls Tryd.prog 61 #[.slice (some ⟨LB, 0, none⟩) n cap, .agg #[.bool ar, .int .i64 an]] w' fun e w'' => ∃ g, e = .returned (.slice (some ⟨g, 0, none⟩) 64 64) ∧ Below wr.heap.size wr w'' ∧ RowAt w'' g KA ∧ Below w'.heap.size w' w'' := fun w' h =>
                          (bitsVal_any w' base LB n cap _ t3 ar an (hst.tab.later h) (by have := h.size; omega) ht3 (by omega) (fun _ => rfl) hia hva).mono fun e w'' ⟨g, h1, h2, h3, _, _⟩ => ⟨g, h1, h.trans (h2.mono h.size), by rw [hKA]; exact h3, h2⟩
                        have hVb : ∀ w', Below wr.heap.size wr w' → Calls Tryd.prog 61 #[.slice (some ⟨LB, 0, none⟩) n cap, .agg #[.bool br, .int .i64 bn]] w' fun e w'' => ∃ g, e = .returned (.slice (some ⟨g, 0, none⟩) 64 64) ∧ Below wr.heap.size wr w'' ∧ RowAt w'' g KB ∧ Below w'.heap.size w' w'' := fun w' h =>
                          (bitsVal_any w' base LB n cap _ t3 br bn (hst.tab.later h) (by have := h.size; omega) ht3 (by omega) (fun _ => rfl) hib2 hvb).mono fun e w'' ⟨g, h1, h2, h3, _, _⟩ => ⟨g, h1, h.trans (h2.mono h.size), by rw [hKB]; exact h3, h2⟩
                        have hMk : ∀ g1 g2 w', Below wr.heap.size wr w' → RowAt w' g1 KA → RowAt w' g2 KB → Calls Tryd.prog 62 #[.int .i64 op, .slice (some ⟨g1, 0, none⟩) 64 64, .slice (some ⟨g2, 0, none⟩) 64 64] w' fun e w'' => ∃ g, e = .returned (.slice (some ⟨g, 0, none⟩) 64 64) ∧ Below wr.heap.size wr w'' ∧ RowAt w'' g K := fun g1 g2 w' h hr1 hr2 =>
                          (bitsMake_any op g1 g2 KA KB w' hr1 hr2 hfA hfB).mono fun e w'' ⟨g, h1, h2, h3, _⟩ => ⟨g, h1, h.trans (h2.mono h.size), by rw [hK]; exact h3⟩
                        have hPu : ∀ g w', Below wr.heap.size wr w' → RowAt w' g K → Calls Tryd.prog 60 #[.slice (some ⟨LB, 0, none⟩) n cap, .int .i64 (q : Int), .slice (some ⟨g, 0, none⟩) 64 64] w' fun e w'' => e = .returned (.bool o) ∧ LtSt Wb w'' base LB (putF t3 q K) ∧ S7 w'' := fun g w' h hg => by
                          have h1 := hst.later h
                          refine (bitsPut_any w' w' base LB n cap q g t3 K h1.anew (by have := h.size; omega) ht3 (by omega) hqn hg).mono fun e w'' h2 => ⟨by rw [ho]; exact h2.1, h1.trans (putF_len _ _ _) h2.2, ?_⟩
                          have h3 := hKp w' h
                          rw [hS7] at h3 ⊢
                          obtain ⟨g0, g1, g2, g3, g4, g5, g6⟩ := h3
                          have hlen : 0 < (putF t3 q K).length → 0 < n := fun h => by rw [putF_len, ht3] at h; exact h
                          exact ⟨h2.2.cell g0 (fun h => HXL.out (hlen h)), h2.2.cell g1 (fun h => hlL (hlen h)), h2.2.cell g2 (fun h => hlL (hlen h)), h2.2.cell g3 (fun h => hlL (hlen h)), h2.2.cell g4 (fun h => hlL (hlen h)), h2.2.cell g5 (fun h => hlL (hlen h)), h2.2.cell g6 (fun h => hlL (hlen h))⟩
                        rw [hS7] at hKp hPu
                        have HK := hid hKp
                        have HVa := hid hVa
                        have HVb := hid hVb
                        have HMk := hid hMk
                        have HPu := hid hPu
                        clear hcs hI hy hyj hio hop hds har han hbr hbn hin hst hd0 hia hib2 hva hvb hgy hlL ht3 hdq hin5 hft hKA hKB hfA hfB hK ho hS7 hKp hVa hVb hMk hPu
                        go_wp2_with fail
                        go_region_held3 (fun w' => w'.cell? ⟨XB, 1, none⟩ = some (.slice (some ⟨lb, loff, none⟩) x.list.length lc) ∧ w'.cell? ⟨lb, loff + j * 8, none⟩ = some (.int .i64 op) ∧ w'.cell? ⟨lb, loff + j * 8 + 1, none⟩ = some (.int .i64 (q : Int)) ∧ w'.cell? ⟨lb, loff + j * 8 + 2, none⟩ = some (.bool ar) ∧ w'.cell? ⟨lb, loff + j * 8 + 3, none⟩ = some (.int .i64 an) ∧ w'.cell? ⟨lb, loff + j * 8 + 4, none⟩ = some (.bool br) ∧ w'.cell? ⟨lb, loff + j * 8 + 5, none⟩ = some (.int .i64 bn))
                          (first | exact hSP | exact HK.out _ (by first | exact (Below.refl _ _).drew | exact hMW | exact hVaW | exact hVbW))
                          ((first
                            | (go_at_call 61; (with_reducible refine (HVa.out _ ?_).mono ?_); exact (by first | exact (Below.refl _ _).drew | exact hVbW); rintro e wA ⟨g1, rfl, hVaW, hgA, hAx⟩)
                            | (go_at_call 61; (with_reducible refine (HVb.out _ ?_).mono ?_); exact (by first | exact (Below.refl _ _).drew | exact hVaW); rintro e wB ⟨g2, rfl, hVbW, hgB, hBx⟩)
                            | (go_at_call 62; (with_reducible refine (HMk.out _ _ _ ?_ ?_ ?_).mono ?_); exact (by first | exact hVaW | exact hVbW); exact (by first | exact hgA | exact hgA.later hBx); exact (by first | exact hgB | exact hgB.later hAx); rintro e wM ⟨gM, rfl, hMW, hgM⟩)
                            | (go_at_call 60; (with_reducible refine (HPu.out _ _ ?_ ?_).mono ?_); exact hMW; exact hgM; rintro e wP ⟨rfl, hstP, hSP⟩)))
                        all_goals
                          have HstP := hid hstP
                          clear hstP hSP hMW hVaW hVbW hgA hgB hgM hAx hBx
                          cases o with
                          | true =>
                            go_wp2_with fail
                            go_roundw
                            case rel => exact ⟨j + 1, _, _, by omega, by go_num, rfl, Hin5.out, HstP.out⟩
                            case measure => simp [intOf]; omega
                          | false =>
                            go_wp2_with fail
                            go_roundw
                            case rel => exact ⟨j + 1, _, _, by omega, by go_num, rfl, Hin5.out, HstP.out⟩
                            case measure => simp [intOf]; omega
                      · have q0 : decide (0 ≤ ds) = false := decide_eq_false hd0
                        have Hin3 : Hid (InS n (refU bs) t E (insRest x R (j + 1)) t3 c3) := by
                          have h := Hin.out
                          rw [insRest_no hyj (by rw [← hds]; omega)] at h
                          exact h
                        clear hcs hI hy hyj hio hop hds har han hbr hbn hin hst hd0 hia hib2 hva hvb hgy hlL ht3
                        go_wp2_with fail
                        go_quiet (fail)
                        go_wp2_with fail
                        go_roundw
                        case rel => exact ⟨j + 1, t3, c3, by omega, by go_num, rfl, Hin3.out, Hst.out.later (by (repeat (first | exact Below.refl _ _ | refine Below.alloc ?_ (by first | omega | (simp <;> omega)) _ | refine Below.setCell ?_ (by first | omega | (simp <;> omega)) _ | refine below_drewN ?_ _ | refine Below.drew ?_)))⟩
                        case measure => simp [intOf]; omega
                    · have hjn : j = x.list.length := by omega
                      have Hin3 : Hid (InS n (refU bs) t E (refRest bs (i + 1)) t3 c3) := by
                        have h := Hin.out
                        rw [hjn, insRest_end, HRr.out] at h
                        exact h
                      have HlT : Hid (t3.length = t1.length) := by show _ = _; rw [ht3, Ht1.out]
                      clear hjn hin hst ht3
                      go_wp2_with fail
                      go_roundw
                      case rel => exact ⟨i + 1, t3, c3, by omega, by go_num, rfl, Hin3.out, HstW.out.trans HlT.out Hst.out⟩
                      case measure => simp [intOf]; omega
            · have hiB' : i = B := by omega
              have hE2 : E = (t1, c1) := by
                have h := Hin.out
                rw [hiB', HBl.out, ← Hbs.out, refRest_end] at h
                exact h.done
              have hnx := Hrn.out.next HU.out (t := t1) (c := c1) (by rw [← HE.out]; exact hE2)
              have Hnx := hid hnx
              have HstL : Hid (LtSt WL wr base LB t1) := Hst0.out.trans (by rw [ht1, Htl.out]) hst
              clear hiB' hE2 hnx hin hst ht1
              go_wp2_with fail
              go_roundg (gk - 1)
              case measure => have := Hnx.out.1; omega
              case rel => exact ⟨t1, c1, rfl, HstL.out, Hnx.out.2⟩

end Go.Proofs.YtaehkcnankijfaaDoor
