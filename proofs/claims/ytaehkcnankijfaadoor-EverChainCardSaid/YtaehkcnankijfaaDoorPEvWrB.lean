/- ever.writes: its closures on merges and instructions; slices.IndexFunc and ContainsFunc with them. ever.writes: does a function write a register anywhere? -/
import Derived.Test.YtaehkcnankijfaaDoorPCompP
namespace Go.Proofs.YtaehkcnankijfaaDoor
open Go.RowKit

def idxP {α : Type} (p : α → Bool) (l : List α) : Int := match l.findIdx? p with | some j => j | none => -1
theorem idxP_any {α : Type} (p : α → Bool) (l : List α) : decide (0 ≤ idxP p l) = l.any p := by
  unfold idxP
  rw [Bool.eq_iff_iff, decide_eq_true_eq]
  cases h : l.findIdx? p with
  | none =>
    rw [List.findIdx?_eq_none_iff] at h
    simp only [List.any_eq_true]
    refine ⟨fun e => by omega, fun ⟨x, hx, h2⟩ => ?_⟩
    rw [h x hx] at h2; cases h2
  | some j =>
    rw [List.findIdx?_eq_some_iff_getElem] at h
    obtain ⟨h1, h2, -⟩ := h
    simp only [List.any_eq_true]
    exact ⟨fun _ => ⟨_, List.getElem_mem h1, h2⟩, fun _ => by omega⟩

set_option maxRecDepth 100000 in
set_option maxHeartbeats 1000000 in
theorem wrPhi_any (d r : Int) (fv : Value) (fa : Option Addr) (fn fc : Nat) (hfv : fv = .slice fa fn fc) (RC : Nat) (W : World) (hR : W.cell? ⟨RC, 0, none⟩ = some (.int .i64 r)) :
    Calls Tryd.prog 164 #[.agg #[.int .i64 d, fv], .pointer (some ⟨RC, 0, none⟩)] W fun e w' => e = .returned (.bool (decide (d = r))) ∧ Below W.heap.size W w' := by
  subst hfv
  have zR : RC < W.heap.size := cell_lt hR
  by_cases he : d = r
  · have q0 : (decide (d ≤ r) && decide (r ≤ d)) = true := eq_yes he
    have Hr : Hid (decide (d = r) = true) := decide_eq_true he
    clear he
    go_enter Tryd.func164, Tryd.ntmps164
    go_wp2_with fail
    go_ret
    exact ⟨ret_bool Hr.out.symm, by (repeat (first | exact Below.refl _ _ | refine Below.alloc ?_ (by first | omega | (simp <;> omega)) _ | refine Below.setCell ?_ (by first | omega | (simp <;> omega)) _ | refine below_drewN ?_ _ | refine Below.drew ?_))⟩
  · have q0 : (decide (d ≤ r) && decide (r ≤ d)) = false := eq_no he
    have Hr : Hid (decide (d = r) = false) := decide_eq_false he
    clear he
    go_enter Tryd.func164, Tryd.ntmps164
    go_wp2_with fail
    go_ret
    exact ⟨ret_bool Hr.out.symm, by (repeat (first | exact Below.refl _ _ | refine Below.alloc ?_ (by first | omega | (simp <;> omega)) _ | refine Below.setCell ?_ (by first | omega | (simp <;> omega)) _ | refine below_drewN ?_ _ | refine Below.drew ?_))⟩
set_option maxRecDepth 100000 in
set_option maxHeartbeats 1000000 in
theorem wrIns_any (o d an bn f r : Int) (ar br : Bool) (fv : Value) (fa : Option Addr) (fn fc : Nat) (hfv : fv = .slice fa fn fc) (RC : Nat) (W : World) (hR : W.cell? ⟨RC, 0, none⟩ = some (.int .i64 r)) :
    Calls Tryd.prog 166 #[.agg #[.int .i64 o, .int .i64 d, .bool ar, .int .i64 an, .bool br, .int .i64 bn, .int .i64 f, fv], .pointer (some ⟨RC, 0, none⟩)] W fun e w' => e = .returned (.bool (decide (d = r))) ∧ Below W.heap.size W w' := by
  subst hfv
  have zR : RC < W.heap.size := cell_lt hR
  by_cases he : d = r
  · have q0 : (decide (d ≤ r) && decide (r ≤ d)) = true := eq_yes he
    have Hr : Hid (decide (d = r) = true) := decide_eq_true he
    clear he
    go_enter Tryd.func166, Tryd.ntmps166
    go_wp2_with fail
    go_ret
    exact ⟨ret_bool Hr.out.symm, by (repeat (first | exact Below.refl _ _ | refine Below.alloc ?_ (by first | omega | (simp <;> omega)) _ | refine Below.setCell ?_ (by first | omega | (simp <;> omega)) _ | refine below_drewN ?_ _ | refine Below.drew ?_))⟩
  · have q0 : (decide (d ≤ r) && decide (r ≤ d)) = false := eq_no he
    have Hr : Hid (decide (d = r) = false) := decide_eq_false he
    clear he
    go_enter Tryd.func166, Tryd.ntmps166
    go_wp2_with fail
    go_ret
    exact ⟨ret_bool Hr.out.symm, by (repeat (first | exact Below.refl _ _ | refine Below.alloc ?_ (by first | omega | (simp <;> omega)) _ | refine Below.setCell ?_ (by first | omega | (simp <;> omega)) _ | refine below_drewN ?_ _ | refine Below.drew ?_))⟩

set_option maxRecDepth 100000 in
set_option maxHeartbeats 1000000 in
theorem indexPhiW_any {S : Nat → Prop} (ao : Option Addr) (m c : Nat) (l : List DPhi) (r : Int) (RC : Nat) (W : World) (hs : SlAt S W 2 rPhi (.slice ao m c) l) (hm : l.length = m) (hm2 : m ≤ 1048576) (hR : W.cell? ⟨RC, 0, none⟩ = some (.int .i64 r)) :
    Calls Tryd.prog 170 #[.slice ao m c, .func (.func 164) #[] #[.pointer (some ⟨RC, 0, none⟩)]] W fun e w' => e = .returned (.int .i64 (idxP (fun p => decide (p.dst = r)) l)) ∧ Below W.heap.size W w' := by
  have Hs := hid hs
  have Hm := hid hm
  have HR := hid hR
  clear hs hm hR
  go_enter Tryd.func170, Tryd.ntmps170
  go_wp2_with fail
  go_loopw [8] (fun i wr => ∃ j : Nat, j ≤ m ∧ i = .int .i64 (j : Int) ∧ Below W.heap.size W wr ∧ ∀ j', j' < j → ∀ x, l[j']? = some x → (fun p : DPhi => decide (p.dst = r)) x = false) (fun i _ => m - (intOf i).toNat)
  case atStart => exact ⟨0, Nat.zero_le _, rfl, Below.refl _ _, fun j hj => by omega⟩
  case round =>
    obtain ⟨j, hj, rfl, hbw, hall⟩ := hrel
    have H := hid hall
    have Hbw := hid hbw
    clear hall
    by_cases hlt : j < m
    · have hlt' : j < l.length := by rw [Hm.out]; exact hlt
      obtain ⟨pb, poff, fa, fc, hpae, e0, e1, -, -, -⟩ := phi_at (Hs.out.later rPhi_mono hbw) hlt'
      subst hpae
      obtain ⟨y, hy⟩ : ∃ y, y = l[j] := ⟨_, rfl⟩
      rw [← hy] at e0 e1
      have zp : pb < wr.heap.size := cell_lt e0
      have Hc := hid (wrPhi_any y.dst r (.slice fa y.src.length fc) fa y.src.length fc rfl RC wr (cell_later' HR.out hbw))
      have Hy : Hid (l[j]? = some y) := by show _ = _; rw [hy]; exact List.getElem?_eq_getElem _
      clear hy hlt' hbw
      obtain ⟨bv, hbv⟩ : ∃ bv, bv = decide (y.dst = r) := ⟨_, rfl⟩
      rw [← hbv] at Hc
      cases bv with
      | true =>
        have Hi : Hid (idxP (fun p : DPhi => decide (p.dst = r)) l = j) := by show _ = _; unfold idxP; rw [idx_some Hy.out hbv.symm H.out]
        clear hbv
        go_wp2_with (go_at_call 164; ((with_reducible refine Hc.out.mono ?_); rintro e w2 ⟨rfl, hb2⟩; have Hb2 := hid hb2; clear hb2))
        go_ret
        exact ⟨ret_int Hi.out.symm, Hbw.out.trans (Hb2.out.mono Hbw.out.size)⟩
      | false =>
        have He := hid hbv.symm
        clear hbv
        go_wp2_with (go_at_call 164; ((with_reducible refine Hc.out.mono ?_); rintro e w2 ⟨rfl, hb2⟩; have Hb2 := hid hb2; clear hb2))
        go_roundw
        case rel => exact ⟨j + 1, by omega, by go_num, Hbw.out.trans (Hb2.out.mono Hbw.out.size), ext_lt H.out (fun z hz => by rw [Hy.out] at hz; cases hz; exact He.out)⟩
        case measure => simp [intOf]; omega
    · have Hi : Hid (idxP (fun p : DPhi => decide (p.dst = r)) l = -1) := by
        show _ = _
        unfold idxP
        rw [idx_none (fun i x hx => H.out i (by have := (List.getElem?_eq_some_iff.1 hx).1; have := Hm.out; omega) x hx)]
      clear hbw
      go_wp2_with fail
      go_ret
      exact ⟨ret_int Hi.out.symm, Hbw.out⟩
set_option maxRecDepth 100000 in
set_option maxHeartbeats 1000000 in
theorem containsPhiW_any {S : Nat → Prop} (ao : Option Addr) (m c : Nat) (l : List DPhi) (r : Int) (RC : Nat) (W : World) (hs : SlAt S W 2 rPhi (.slice ao m c) l) (hm : l.length = m) (hm2 : m ≤ 1048576) (hR : W.cell? ⟨RC, 0, none⟩ = some (.int .i64 r)) :
    Calls Tryd.prog 163 #[.slice ao m c, .func (.func 164) #[] #[.pointer (some ⟨RC, 0, none⟩)]] W fun e w' => e = .returned (.bool (l.any fun p => decide (p.dst = r))) ∧ Below W.heap.size W w' := by
  have Hc := hid (indexPhiW_any (S := S) ao m c l r RC W hs hm hm2 hR)
  have Ha := hid (idxP_any (fun p : DPhi => decide (p.dst = r)) l)
  clear hs hm hR
  go_enter Tryd.func163, Tryd.ntmps163
  go_wp2_with (go_at_call 170; ((with_reducible refine Hc.out.mono ?_); rintro e w2 ⟨rfl, hb2⟩; have Hb2 := hid hb2; clear hb2))
  go_ret
  exact ⟨ret_bool (by first | exact Ha.out | (rw [← Ha.out])), Hb2.out⟩

set_option maxRecDepth 100000 in
set_option maxHeartbeats 1000000 in
theorem indexInsW_any {S : Nat → Prop} (ao : Option Addr) (m c : Nat) (l : List DIns) (r : Int) (RC : Nat) (W : World) (hs : SlAt S W 8 rIns (.slice ao m c) l) (hm : l.length = m) (hm2 : m ≤ 1048576) (hR : W.cell? ⟨RC, 0, none⟩ = some (.int .i64 r)) :
    Calls Tryd.prog 171 #[.slice ao m c, .func (.func 166) #[] #[.pointer (some ⟨RC, 0, none⟩)]] W fun e w' => e = .returned (.int .i64 (idxP (fun p => decide (p.dst = r)) l)) ∧ Below W.heap.size W w' := by
  have Hs := hid hs
  have Hm := hid hm
  have HR := hid hR
  clear hs hm hR
  go_enter Tryd.func171, Tryd.ntmps171
  go_wp2_with fail
  go_loopw [8] (fun i wr => ∃ j : Nat, j ≤ m ∧ i = .int .i64 (j : Int) ∧ Below W.heap.size W wr ∧ ∀ j', j' < j → ∀ x, l[j']? = some x → (fun p : DIns => decide (p.dst = r)) x = false) (fun i _ => m - (intOf i).toNat)
  case atStart => exact ⟨0, Nat.zero_le _, rfl, Below.refl _ _, fun j hj => by omega⟩
  case round =>
    obtain ⟨j, hj, rfl, hbw, hall⟩ := hrel
    have H := hid hall
    have Hbw := hid hbw
    clear hall
    by_cases hlt : j < m
    · have hlt' : j < l.length := by rw [Hm.out]; exact hlt
      obtain ⟨pb, poff, fa, fc, hpae, hci, -, -⟩ := ins_at (Hs.out.later rIns_mono hbw) hlt'
      subst hpae
      obtain ⟨y, hy⟩ : ∃ y, y = l[j] := ⟨_, rfl⟩
      rw [← hy] at hci
      obtain ⟨e0, e1, e2, e3, e4, e5, e6, e7⟩ := hci.get8
      have zp : pb < wr.heap.size := cell_lt e0
      clear hci
      have Hc := hid (wrIns_any y.op y.dst y.a.n y.b.n y.fn r y.a.reg y.b.reg (.slice fa y.args.length fc) fa y.args.length fc rfl RC wr (cell_later' HR.out hbw))
      have Hy : Hid (l[j]? = some y) := by show _ = _; rw [hy]; exact List.getElem?_eq_getElem _
      clear hy hlt' hbw
      obtain ⟨bv, hbv⟩ : ∃ bv, bv = decide (y.dst = r) := ⟨_, rfl⟩
      rw [← hbv] at Hc
      cases bv with
      | true =>
        have Hi : Hid (idxP (fun p : DIns => decide (p.dst = r)) l = j) := by show _ = _; unfold idxP; rw [idx_some Hy.out hbv.symm H.out]
        clear hbv
        go_wp2_with (go_at_call 166; ((with_reducible refine Hc.out.mono ?_); rintro e w2 ⟨rfl, hb2⟩; have Hb2 := hid hb2; clear hb2))
        go_ret
        exact ⟨ret_int Hi.out.symm, Hbw.out.trans (Hb2.out.mono Hbw.out.size)⟩
      | false =>
        have He := hid hbv.symm
        clear hbv
        go_wp2_with (go_at_call 166; ((with_reducible refine Hc.out.mono ?_); rintro e w2 ⟨rfl, hb2⟩; have Hb2 := hid hb2; clear hb2))
        go_roundw
        case rel => exact ⟨j + 1, by omega, by go_num, Hbw.out.trans (Hb2.out.mono Hbw.out.size), ext_lt H.out (fun z hz => by rw [Hy.out] at hz; cases hz; exact He.out)⟩
        case measure => simp [intOf]; omega
    · have Hi : Hid (idxP (fun p : DIns => decide (p.dst = r)) l = -1) := by
        show _ = _
        unfold idxP
        rw [idx_none (fun i x hx => H.out i (by have := (List.getElem?_eq_some_iff.1 hx).1; have := Hm.out; omega) x hx)]
      clear hbw
      go_wp2_with fail
      go_ret
      exact ⟨ret_int Hi.out.symm, Hbw.out⟩
set_option maxRecDepth 100000 in
set_option maxHeartbeats 1000000 in
theorem containsInsW_any {S : Nat → Prop} (ao : Option Addr) (m c : Nat) (l : List DIns) (r : Int) (RC : Nat) (W : World) (hs : SlAt S W 8 rIns (.slice ao m c) l) (hm : l.length = m) (hm2 : m ≤ 1048576) (hR : W.cell? ⟨RC, 0, none⟩ = some (.int .i64 r)) :
    Calls Tryd.prog 165 #[.slice ao m c, .func (.func 166) #[] #[.pointer (some ⟨RC, 0, none⟩)]] W fun e w' => e = .returned (.bool (l.any fun p => decide (p.dst = r))) ∧ Below W.heap.size W w' := by
  have Hc := hid (indexInsW_any (S := S) ao m c l r RC W hs hm hm2 hR)
  have Ha := hid (idxP_any (fun p : DIns => decide (p.dst = r)) l)
  clear hs hm hR
  go_enter Tryd.func165, Tryd.ntmps165
  go_wp2_with (go_at_call 171; ((with_reducible refine Hc.out.mono ?_); rintro e w2 ⟨rfl, hb2⟩; have Hb2 := hid hb2; clear hb2))
  go_ret
  exact ⟨ret_bool (by first | exact Ha.out | (rw [← Ha.out])), Hb2.out⟩

end Go.Proofs.YtaehkcnankijfaaDoor

namespace Go.Proofs.YtaehkcnankijfaaDoor
open Go.RowKit

set_option maxRecDepth 100000 in
set_option maxHeartbeats 1000000 in
theorem wrBlk_any {S : Nat → Prop} (x : DBlock) (pa la : Option Addr) (pc lc pn ln : Nat) (tv : Value) (ta : Option Addr) (tn tc : Nat) (htv : tv = .slice ta tn tc) (kd on : Int) (rg : Bool) (r : Int) (RC : Nat) (W : World) (hph : SlAt S W 2 rPhi (.slice pa pn pc) x.phis) (hli : SlAt S W 8 rIns (.slice la ln lc) x.list) (hpn : x.phis.length = pn) (hln : x.list.length = ln) (hp1 : pn ≤ 1048576) (hl1 : ln ≤ 1048576) (hR : W.cell? ⟨RC, 0, none⟩ = some (.int .i64 r)) :
    Calls Tryd.prog 162 #[.agg #[.slice pa pn pc, .slice la ln lc, .int .i64 kd, .bool rg, .int .i64 on, tv], .pointer (some ⟨RC, 0, none⟩)] W fun e w' => e = .returned (.bool (blkWr x r)) ∧ Below W.heap.size W w' := by
  subst htv
  obtain ⟨W1, hW1⟩ : ∃ W1, W1 = W.alloc (.cells #[.slice pa pn pc, .slice la ln lc, .int .i64 kd, .bool rg, .int .i64 on, .slice ta tn tc] 47) := ⟨_, rfl⟩
  have Hb1 : Hid (Below W.heap.size W W1) := by show Below _ _ _; rw [hW1]; (repeat (first | exact Below.refl _ _ | refine Below.alloc ?_ (by first | omega | (simp <;> omega)) _ | refine Below.setCell ?_ (by first | omega | (simp <;> omega)) _ | refine below_drewN ?_ _ | refine Below.drew ?_))
  have c0 : W1.cell? ⟨W.heap.size, 0, none⟩ = some (.slice pa pn pc) := by rw [hW1]; simp
  have c1 : W1.cell? ⟨W.heap.size, 1, none⟩ = some (.slice la ln lc) := by rw [hW1]; simp
  have hR1 := cell_later' hR Hb1.out
  have Hc1 := hid (containsPhiW_any (S := S) pa pn pc x.phis r RC W1 (hph.later rPhi_mono Hb1.out) hpn hp1 hR1)
  have Hc2 : Hid (∀ V, Below W1.heap.size W1 V → Calls Tryd.prog 165 #[.slice la ln lc, .func (.func 166) #[] #[.pointer (some ⟨RC, 0, none⟩)]] V fun e w' => e = .returned (.bool (x.list.any fun p => decide (p.dst = r))) ∧ Below V.heap.size V w') := fun V hV => containsInsW_any (S := S) la ln lc x.list r RC V ((hli.later rIns_mono Hb1.out).later rIns_mono hV) hln hl1 (cell_later' hR1 hV)
  have zW : W.heap.size < W1.heap.size := cell_lt c0
  have HW1 := hid hW1
  obtain ⟨p1, hp1'⟩ : ∃ p1, p1 = x.phis.any fun p => decide (p.dst = r) := ⟨_, rfl⟩
  obtain ⟨p2, hp2'⟩ : ∃ p2, p2 = x.list.any fun p => decide (p.dst = r) := ⟨_, rfl⟩
  have Hr : Hid (blkWr x r = (p1 || p2)) := by show _ = _; unfold blkWr; rw [hp1', hp2']
  rw [← hp1'] at Hc1
  rw [← hp2'] at Hc2
  clear hph hli hpn hln hW1 hp1' hp2' hR hR1
  go_enter Tryd.func162, Tryd.ntmps162
  go_upto_region 1 with (fail)
  rw [← HW1.out]
  cases p1 with
  | true =>
    go_wp2_with (go_at_call 163; ((with_reducible refine Hc1.out.mono ?_); rintro e w2 ⟨rfl, hb2⟩; have Hb2 := hid hb2; clear hb2))
    go_ret
    exact ⟨ret_bool (by rw [Hr.out]; rfl), Hb1.out.trans (Hb2.out.mono Hb1.out.size)⟩
  | false =>
    go_wp2_with (first
      | (go_at_call 163; ((with_reducible refine Hc1.out.mono ?_); rintro e w2 ⟨rfl, hb2⟩; have c1 := cell_later' c1 hb2; have zW := cell_lt c1; have Hb2 := hid hb2; clear hb2))
      | (go_at_call 165; ((with_reducible refine (Hc2.out _ Hb2.out).mono ?_); rintro e w3 ⟨rfl, hb3⟩; have Hb3 := hid hb3; clear hb3)))
    go_ret
    exact ⟨ret_bool (by rw [Hr.out]; cases p2 <;> rfl), Hb1.out.trans ((Hb2.out.trans (Hb3.out.mono Hb2.out.size)).mono Hb1.out.size)⟩

set_option maxRecDepth 100000 in
set_option maxHeartbeats 1000000 in
theorem indexBlkW_any {S : Nat → Prop} (ao : Option Addr) (m c : Nat) (l : List DBlock) (r : Int) (RC : Nat) (W : World) (hs : SlAt S W 6 rBlock (.slice ao m c) l) (hm : l.length = m) (hm2 : m ≤ 1048576) (hsm : ∀ x ∈ l, x.phis.length ≤ 1048576 ∧ x.list.length ≤ 1048576) (hR : W.cell? ⟨RC, 0, none⟩ = some (.int .i64 r)) :
    Calls Tryd.prog 169 #[.slice ao m c, .func (.func 162) #[] #[.pointer (some ⟨RC, 0, none⟩)]] W fun e w' => e = .returned (.int .i64 (idxP (fun x => blkWr x r) l)) ∧ Below W.heap.size W w' := by
  have Hs := hid hs
  have Hm := hid hm
  have HR := hid hR
  have Hsm := hid hsm
  clear hs hm hR hsm
  go_enter Tryd.func169, Tryd.ntmps169
  go_wp2_with fail
  go_loopw [8] (fun i wr => ∃ j : Nat, j ≤ m ∧ i = .int .i64 (j : Int) ∧ Below W.heap.size W wr ∧ ∀ j', j' < j → ∀ x, l[j']? = some x → (fun x : DBlock => blkWr x r) x = false) (fun i _ => m - (intOf i).toNat)
  case atStart => exact ⟨0, Nat.zero_le _, rfl, Below.refl _ _, fun j hj => by omega⟩
  case round =>
    obtain ⟨j, hj, rfl, hbw, hall⟩ := hrel
    have H := hid hall
    have Hbw := hid hbw
    clear hall
    by_cases hlt : j < m
    · have hlt' : j < l.length := by rw [Hm.out]; exact hlt
      obtain ⟨xb, xoff, pa, pc, la, lc, ta, tc, hbae, hcb, hph, hli, -, -, -⟩ := block_at (Hs.out.later rBlock_mono hbw) hlt'
      subst hbae
      obtain ⟨y, hy⟩ : ∃ y, y = l[j] := ⟨_, rfl⟩
      rw [← hy] at hcb hph hli
      obtain ⟨d0, d1, d2, d3, d4, d5⟩ := hcb.get6
      have hsz := Hsm.out y (by rw [hy]; exact List.getElem_mem _)
      have zx : xb < wr.heap.size := cell_lt d0
      have Hc := hid (wrBlk_any (S := S) y pa la pc lc y.phis.length y.list.length (.slice ta y.fin.to.length tc) ta y.fin.to.length tc rfl y.fin.kind y.fin.on.n y.fin.on.reg r RC wr hph hli rfl rfl hsz.1 hsz.2 (cell_later' HR.out hbw))
      have Hy : Hid (l[j]? = some y) := by show _ = _; rw [hy]; exact List.getElem?_eq_getElem _
      clear hy hlt' hbw hcb hph hli hsz
      obtain ⟨bv, hbv⟩ : ∃ bv, bv = blkWr y r := ⟨_, rfl⟩
      rw [← hbv] at Hc
      cases bv with
      | true =>
        have Hi : Hid (idxP (fun x : DBlock => blkWr x r) l = j) := by show _ = _; unfold idxP; rw [idx_some Hy.out hbv.symm H.out]
        clear hbv
        go_wp2_with (go_at_call 162; ((with_reducible refine Hc.out.mono ?_); rintro e w2 ⟨rfl, hb2⟩; have Hb2 := hid hb2; clear hb2))
        go_ret
        exact ⟨ret_int Hi.out.symm, Hbw.out.trans (Hb2.out.mono Hbw.out.size)⟩
      | false =>
        have He := hid hbv.symm
        clear hbv
        go_wp2_with (go_at_call 162; ((with_reducible refine Hc.out.mono ?_); rintro e w2 ⟨rfl, hb2⟩; have Hb2 := hid hb2; clear hb2))
        go_roundw
        case rel => exact ⟨j + 1, by omega, by go_num, Hbw.out.trans (Hb2.out.mono Hbw.out.size), ext_lt H.out (fun z hz => by rw [Hy.out] at hz; cases hz; exact He.out)⟩
        case measure => simp [intOf]; omega
    · have Hi : Hid (idxP (fun x : DBlock => blkWr x r) l = -1) := by
        show _ = _
        unfold idxP
        rw [idx_none (fun i x hx => H.out i (by have := (List.getElem?_eq_some_iff.1 hx).1; have := Hm.out; omega) x hx)]
      clear hbw
      go_wp2_with fail
      go_ret
      exact ⟨ret_int Hi.out.symm, Hbw.out⟩
set_option maxRecDepth 100000 in
set_option maxHeartbeats 1000000 in
theorem containsBlkW_any {S : Nat → Prop} (ao : Option Addr) (m c : Nat) (l : List DBlock) (r : Int) (RC : Nat) (W : World) (hs : SlAt S W 6 rBlock (.slice ao m c) l) (hm : l.length = m) (hm2 : m ≤ 1048576) (hsm : ∀ x ∈ l, x.phis.length ≤ 1048576 ∧ x.list.length ≤ 1048576) (hR : W.cell? ⟨RC, 0, none⟩ = some (.int .i64 r)) :
    Calls Tryd.prog 161 #[.slice ao m c, .func (.func 162) #[] #[.pointer (some ⟨RC, 0, none⟩)]] W fun e w' => e = .returned (.bool (l.any fun x => blkWr x r)) ∧ Below W.heap.size W w' := by
  have Hc := hid (indexBlkW_any (S := S) ao m c l r RC W hs hm hm2 hsm hR)
  have Ha := hid (idxP_any (fun x : DBlock => blkWr x r) l)
  clear hs hm hR hsm
  go_enter Tryd.func161, Tryd.ntmps161
  go_wp2_with (go_at_call 169; ((with_reducible refine Hc.out.mono ?_); rintro e w2 ⟨rfl, hb2⟩; have Hb2 := hid hb2; clear hb2))
  go_ret
  exact ⟨ret_bool (by first | exact Ha.out | (rw [← Ha.out])), Hb2.out⟩
set_option maxRecDepth 100000 in
set_option maxHeartbeats 1000000 in
theorem everWritesP_any {S : Nat → Prop} (nm : ByteArray) (f : DFunc) (ba : Option Addr) (bc bn : Nat) (r : Int) (w : World) (hb : SlAt S w 6 rBlock (.slice ba bn bc) f.blocks) (hbn : f.blocks.length = bn) (hn : bn ≤ 1048576) (hsm : ∀ x ∈ f.blocks, x.phis.length ≤ 1048576 ∧ x.list.length ≤ 1048576) :
    Calls Tryd.prog 148 #[.agg #[.string nm, .int .i64 f.params, .int .i64 f.regs, .slice ba bn bc], .int .i64 r] w fun e w' => e = .returned (.bool (writesB f r)) ∧ Below w.heap.size w w' := by
  obtain ⟨W, hW⟩ : ∃ W, W = (w.alloc (.cells #[.string nm, .int .i64 f.params, .int .i64 f.regs, .slice ba bn bc] 35)).alloc (.cells #[.int .i64 r] 3) := ⟨_, rfl⟩
  have Hb0 : Hid (Below w.heap.size w W) := by show Below _ _ _; rw [hW]; (repeat (first | exact Below.refl _ _ | refine Below.alloc ?_ (by first | omega | (simp <;> omega)) _ | refine Below.setCell ?_ (by first | omega | (simp <;> omega)) _ | refine below_drewN ?_ _ | refine Below.drew ?_))
  have hR : W.cell? ⟨w.heap.size + 1, 0, none⟩ = some (.int .i64 r) := by rw [hW]; simp
  have c3 : W.cell? ⟨w.heap.size, 3, none⟩ = some (.slice ba bn bc) := by rw [hW]; simp
  have Hc := hid (containsBlkW_any (S := S) ba bn bc f.blocks r (w.heap.size + 1) W (hb.later rBlock_mono Hb0.out) hbn hn hsm hR)
  have HW := hid hW
  have zW : w.heap.size < W.heap.size := cell_lt c3
  clear hb hbn hsm hW hR
  go_enter Tryd.func148, Tryd.ntmps148
  go_upto_region 1 with (fail)
  rw [← HW.out]
  go_wp2_with (go_at_call 161; ((with_reducible refine Hc.out.mono ?_); rintro e w2 ⟨rfl, hb2⟩; have Hb2 := hid hb2; clear hb2))
  go_ret
  exact ⟨ret_bool (by rw [writesB_blk]), Hb0.out.trans (Hb2.out.mono Hb0.out.size)⟩

end Go.Proofs.YtaehkcnankijfaaDoor
