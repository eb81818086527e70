/- turneryref5.CallsOne: does one function call another one? turneryref6.againWrites and everWrites: does a block, a function write a register? slices.Compact of pairs: is but one left? -/
import Derived.Test.YtaehkcnankijfaaDoorPSortI
import Derived.Test.YtaehkcnankijfaaDoorPRefA
import Derived.BigRegion
import Derived.Test.YtaehkcnankijfaaDoorPPair
import Derived.Test.YtaehkcnankijfaaDoorPClone
import Derived.Lib.SliceRun
import Derived.ChangeKeysEq
import Derived.Laws.StructEq
namespace Go.Proofs.YtaehkcnankijfaaDoor
open Go.RowKit

def isCall (x : Nat) (y : DIns) : Bool := decide (y.op = 20) && decide (y.fn = (x : Int))
theorem callB_any (fs : List DFunc) (k x : Nat) : callB fs k x = (fs.getD k noFunc).blocks.any fun b => b.list.any (isCall x) := rfl
theorem any_take {α : Type} {p : α → Bool} {l : List α} : (∀ (j : Nat) (y : α), l[j]? = some y → p y = false) → l.any p = false := fun h => by
  rw [List.any_eq_false]
  intro y hy
  obtain ⟨j, hj, rfl⟩ := List.getElem_of_mem hy
  rw [h j _ (List.getElem?_eq_getElem hj)]; simp

set_option maxRecDepth 100000 in
set_option maxHeartbeats 2000000 in
theorem callsOne_any {S : Nat → Prop} (gv : Value) (ga : Option Addr) (gn gc : Nat) (hgv : gv = .slice ga gn gc) (fa : Option Addr) (fc : Nat) (fs : List DFunc) (k x : Nat) (w : World) (hf : SlAt S w 4 rFunc (.slice fa fs.length fc) fs) (hk : k < fs.length) (_hx : x ≤ 1048576)
    (hsm : (fs.getD k noFunc).blocks.length ≤ 1048576 ∧ ∀ b ∈ (fs.getD k noFunc).blocks, b.list.length ≤ 1048576) :
    Calls Tryd.prog 117 #[.agg #[gv, .slice fa fs.length fc], .int .i64 (k : Int), .int .i64 (x : Int)] w fun e w' => e = .returned (.bool (callB fs k x)) ∧ Below w.heap.size w w' := by
  subst hgv
  obtain ⟨f, hfe⟩ : ∃ f, f = fs[k] := ⟨_, rfl⟩
  have hgd : fs.getD k noFunc = f := by rw [hfe, List.getD_eq_getElem?_getD, List.getElem?_eq_getElem hk]; rfl
  rw [hgd] at hsm
  obtain ⟨W, hW⟩ : ∃ W, W = w.alloc (.cells #[.slice ga gn gc, .slice fa fs.length fc] 25) := ⟨_, rfl⟩
  have Hb0 : Hid (Below w.heap.size w W) := by show Below _ _ _; rw [hW]; (repeat (first | exact Below.refl _ _ | refine Below.alloc ?_ (by first | omega | (simp <;> omega)) _ | refine Below.setCell ?_ (by first | omega | (simp <;> omega)) _ | refine below_drewN ?_ _ | refine Below.drew ?_))
  have g1 : W.cell? ⟨w.heap.size, 1, none⟩ = some (.slice fa fs.length fc) := by rw [hW]; simp
  obtain ⟨fb, foff, xa, xc, hfae, hcs, hxb, -, -⟩ := func_at (hf.later rFunc_mono Hb0.out) hk
  subst hfae
  rw [← hfe] at hcs hxb
  obtain ⟨-, -, -, c3⟩ := hcs.get4
  obtain ⟨bn, hbn⟩ : ∃ bn, bn = f.blocks.length := ⟨_, rfl⟩
  have Hbn := hid hbn
  have Hsm := hid hsm.2
  have hb1 := hsm.1
  rw [← hbn] at c3 hb1
  have Hxb := hid hxb
  have zf : fb < W.heap.size := cell_lt c3
  have zU : w.heap.size < W.heap.size := cell_lt g1
  obtain ⟨fl, hfl⟩ : ∃ fl, fl = fs.length := ⟨_, rfl⟩
  rw [← hfl] at hk g1 hW ⊢
  have HW := hid hW
  have Hc : Hid (callB fs k x = f.blocks.any fun b => b.list.any (isCall x)) := by show _ = _; rw [callB_any, hgd]
  clear hf hfe hgd hsm hcs hxb hbn hW hfl
  go_enter Tryd.func117, Tryd.ntmps117
  go_upto_region 1 with (fail)
  rw [← HW.out]
  go_wp2_with fail
  go_loop [7] (fun s7 => ∃ i : Nat, i ≤ bn ∧ s7 = .int .i64 (i : Int) ∧ ∀ (j : Nat) (y : DBlock), j < i → f.blocks[j]? = some y → y.list.any (isCall x) = false) (fun s7 => bn - (intOf s7).toNat)
  case atStart => exact ⟨0, Nat.zero_le _, rfl, fun j y hj => by omega⟩
  case round =>
    obtain ⟨i, hi, rfl, hall⟩ := hrel
    have Hall := hid hall
    clear hall
    by_cases hin : i < bn
    · obtain ⟨xb, xoff, pa, pc, la, lc, ta, tc, hbae, hcb, -, hli, -, -, -⟩ := block_at Hxb.out (k := i) (by rw [← Hbn.out]; exact hin)
      subst hbae
      obtain ⟨-, d1, -, -, -, -⟩ := hcb.get6
      obtain ⟨y, hy⟩ : ∃ y, y = f.blocks[i]'(by rw [← Hbn.out]; exact hin) := ⟨_, rfl⟩
      rw [← hy] at d1 hli
      have Hy : Hid (f.blocks[i]? = some y) := by show _ = _; rw [hy]; exact List.getElem?_eq_getElem _
      obtain ⟨ln, hln⟩ : ∃ ln, ln = y.list.length := ⟨_, rfl⟩
      have hl1 : ln ≤ 1048576 := by rw [hln]; exact Hsm.out y (by rw [hy]; exact List.getElem_mem _)
      rw [← hln] at d1
      have Hln := hid hln
      have Hli := hid hli
      have zx : xb < W.heap.size := cell_lt d1
      clear hcb hli hy hln
      go_wp2_with fail
      go_loop [9] (fun s9 => ∃ j : Nat, j ≤ ln ∧ s9 = .int .i64 (j : Int) ∧ ∀ (q : Nat) (z : DIns), q < j → y.list[q]? = some z → isCall x z = false) (fun s9 => ln - (intOf s9).toNat)
      case atStart => exact ⟨0, Nat.zero_le _, rfl, fun q z hq => by omega⟩
      case round =>
        obtain ⟨j, hj, rfl, hal⟩ := hrel
        have Hal := hid hal
        clear hal
        by_cases hjn : j < ln
        · obtain ⟨ib, ioff, ra, rc, hiae, hci, -, hI⟩ := ins_at Hli.out (k := j) (by rw [← Hln.out]; exact hjn)
          subst hiae
          obtain ⟨z, hz⟩ : ∃ z, z = y.list[j]'(by rw [← Hln.out]; exact hjn) := ⟨_, rfl⟩
          rw [← hz] at hci
          obtain ⟨e0, -, -, -, -, -, e6, -⟩ := hci.get8
          have Hz : Hid (y.list[j]? = some z) := by show _ = _; rw [hz]; exact List.getElem?_eq_getElem _
          obtain ⟨op, hop⟩ : ∃ op, op = z.op := ⟨_, rfl⟩
          obtain ⟨fn, hfn⟩ : ∃ fn, fn = z.fn := ⟨_, rfl⟩
          rw [← hop] at e0
          rw [← hfn] at e6
          have zi : ib < W.heap.size := cell_lt e0
          have his : isCall x z = (decide (op = 20) && decide (fn = (x : Int))) := by unfold isCall; rw [hop, hfn]
          clear hci hI hz hop hfn
          by_cases h20 : op = 20
          · by_cases hfx : fn = (x : Int)
            · have Hr : Hid (callB fs k x = true) := by
                show _ = _
                rw [Hc.out, List.any_eq_true]
                refine ⟨y, List.mem_of_getElem? Hy.out, ?_⟩
                rw [List.any_eq_true]
                exact ⟨z, List.mem_of_getElem? Hz.out, by rw [his]; simp [h20, hfx]⟩
              have q0 : (decide (op ≤ 20) && decide (20 ≤ op)) = true := eq_yes h20
              have q1 : (decide (fn ≤ (x : Int)) && decide ((x : Int) ≤ fn)) = true := eq_yes hfx
              clear his h20 hfx
              go_wp2_with fail
              go_ret
              exact ⟨ret_bool Hr.out.symm, Hb0.out⟩
            · have Hn : Hid (isCall x z = false) := by show _ = _; rw [his]; simp [hfx]
              have q0 : (decide (op ≤ 20) && decide (20 ≤ op)) = true := eq_yes h20
              have q1 : (decide (fn ≤ (x : Int)) && decide ((x : Int) ≤ fn)) = false := eq_no hfx
              clear his h20 hfx
              go_wp2_with fail
              go_round
              case rel => exact ⟨j + 1, by omega, by go_num, fun q z' hq hz' => by
                rcases Nat.lt_succ_iff_lt_or_eq.1 hq with h | h
                · exact Hal.out q z' h hz'
                · subst h; rw [Hz.out] at hz'; cases hz'; exact Hn.out⟩
              case measure => simp [intOf]; omega
          · have Hn : Hid (isCall x z = false) := by show _ = _; rw [his]; simp [h20]
            have q0 : (decide (op ≤ 20) && decide (20 ≤ op)) = false := eq_no h20
            clear his h20
            go_wp2_with fail
            go_round
            case rel => exact ⟨j + 1, by omega, by go_num, fun q z' hq hz' => by
              rcases Nat.lt_succ_iff_lt_or_eq.1 hq with h | h
              · exact Hal.out q z' h hz'
              · subst h; rw [Hz.out] at hz'; cases hz'; exact Hn.out⟩
            case measure => simp [intOf]; omega
        · have Hn : Hid (y.list.any (isCall x) = false) := any_take (fun q z hz => Hal.out q z (by have := (List.getElem?_eq_some_iff.1 hz).1; have := Hln.out; omega) hz)
          go_wp2_with fail
          go_round
          case rel => exact ⟨i + 1, by omega, by go_num, fun q y' hq hy' => by
            rcases Nat.lt_succ_iff_lt_or_eq.1 hq with h | h
            · exact Hall.out q y' h hy'
            · subst h; rw [Hy.out] at hy'; cases hy'; exact Hn.out⟩
          case measure => simp [intOf]; omega
    · have Hr : Hid (callB fs k x = false) := by
        show _ = _
        rw [Hc.out]
        exact any_take (fun q y hy => Hall.out q y (by have := (List.getElem?_eq_some_iff.1 hy).1; have := Hbn.out; omega) hy)
      go_wp2_with fail
      go_ret
      exact ⟨ret_bool Hr.out.symm, Hb0.out⟩

end Go.Proofs.YtaehkcnankijfaaDoor

namespace Go.Proofs.YtaehkcnankijfaaDoor
open Go.RowKit

def blkWr (x : DBlock) (r : Int) : Bool := x.phis.any (fun p => decide (p.dst = r)) || x.list.any fun y => decide (y.dst = r)
theorem writesB_blk (f : DFunc) (r : Int) : writesB f r = f.blocks.any fun x => blkWr x r := rfl

set_option maxRecDepth 100000 in
set_option maxHeartbeats 2000000 in
theorem againWrites_any {S : Nat → Prop} (x : DBlock) (pa la : Option Addr) (pc lc pn ln : Nat) (tv : Value) (ta : Option Addr) (tn tc : Nat) (htv : tv = .slice ta tn tc) (kd on : Int) (rg : Bool) (r : Int) (w : World) (hph : SlAt S w 2 rPhi (.slice pa pn pc) x.phis) (hli : SlAt S w 8 rIns (.slice la ln lc) x.list) (hpn : x.phis.length = pn) (hln : x.list.length = ln) (hp1 : pn ≤ 1048576) (hl1 : ln ≤ 1048576) :
    Calls Tryd.prog 150 #[.agg #[.slice pa pn pc, .slice la ln lc, .int .i64 kd, .bool rg, .int .i64 on, tv], .agg #[.bool true, .int .i64 r]] w fun e w' => e = .returned (.bool (blkWr x r)) ∧ Below w.heap.size w w' := by
  subst htv
  obtain ⟨W, hW⟩ : ∃ W, W = (w.alloc (.cells #[.slice pa pn pc, .slice la ln lc, .int .i64 kd, .bool rg, .int .i64 on, .slice ta tn tc] 47)).alloc (.cells #[.bool true, .int .i64 r] 41) := ⟨_, rfl⟩
  have Hb0 : Hid (Below w.heap.size w W) := by show Below _ _ _; rw [hW]; (repeat (first | exact Below.refl _ _ | refine Below.alloc ?_ (by first | omega | (simp <;> omega)) _ | refine Below.setCell ?_ (by first | omega | (simp <;> omega)) _ | refine below_drewN ?_ _ | refine Below.drew ?_))
  have c0 : W.cell? ⟨w.heap.size, 0, none⟩ = some (.slice pa pn pc) := by rw [hW]; simp
  have c1 : W.cell? ⟨w.heap.size, 1, none⟩ = some (.slice la ln lc) := by rw [hW]; simp
  have v0 : W.cell? ⟨w.heap.size + 1, 0, none⟩ = some (.bool true) := by rw [hW]; simp
  have v1 : W.cell? ⟨w.heap.size + 1, 1, none⟩ = some (.int .i64 r) := by rw [hW]; simp
  have C0 := hid c0
  have C1 := hid c1
  have V1 := hid v1
  have Hph := hid (hph.later rPhi_mono Hb0.out)
  have Hli := hid (hli.later rIns_mono Hb0.out)
  have Hpn := hid hpn
  have Hln := hid hln
  have HW := hid hW
  have zW : w.heap.size + 1 < W.heap.size := cell_lt v0
  clear hph hli hpn hln hW c0 c1 v1
  go_enter Tryd.func150, Tryd.ntmps150
  go_upto_region 1 with (fail)
  rw [← HW.out]
  go_wp2_with fail
  clear v0
  go_loopw [5] (fun s5 wr => ∃ i : Nat, i ≤ pn ∧ s5 = .int .i64 (i : Int) ∧ Below W.heap.size W wr ∧ ∀ (j : Nat) (p : DPhi), j < i → x.phis[j]? = some p → decide (p.dst = r) = false) (fun s5 _ => pn - (intOf s5).toNat)
  case atStart => exact ⟨0, Nat.zero_le _, rfl, Below.refl _ _, fun j p hj => by omega⟩
  case round =>
    obtain ⟨i, hi, rfl, hbw, hall⟩ := hrel
    have Hall := hid hall
    have Hbw := hid hbw
    have c0 := cell_later' C0.out hbw
    have c1 := cell_later' C1.out hbw
    have v1 := cell_later' V1.out hbw
    have zW1 := hbw.size
    clear hall
    by_cases hin : i < pn
    · obtain ⟨pb, poff, fa, fc, hpae, e0, -, -, -, -⟩ := phi_at (Hph.out.later rPhi_mono hbw) (k := i) (by rw [Hpn.out]; exact hin)
      subst hpae
      obtain ⟨p, hp⟩ : ∃ p, p = x.phis[i]'(by rw [Hpn.out]; exact hin) := ⟨_, rfl⟩
      rw [← hp] at e0
      have Hp : Hid (x.phis[i]? = some p) := by show _ = _; rw [hp]; exact List.getElem?_eq_getElem _
      obtain ⟨d, hd⟩ : ∃ d, d = p.dst := ⟨_, rfl⟩
      rw [← hd] at e0
      have zp : pb < wr.heap.size := cell_lt e0
      have i0 : (0 : Int) ≤ (i : Int) := by omega
      have i1 : (i : Int) < (pn : Int) := by omega
      clear hbw hp
      by_cases he : d = r
      · have Hr : Hid (blkWr x r = true) := by
          show _ = _
          unfold blkWr
          rw [Bool.or_eq_true, List.any_eq_true]
          exact .inl ⟨p, List.mem_of_getElem? Hp.out, by rw [← hd]; simp [he]⟩
        have q0 : (decide (d ≤ r) && decide (r ≤ d)) = true := eq_yes he
        clear he hd
        go_wp2_with fail
        go_region
        go_wp2_with fail
        go_ret
        exact ⟨ret_bool Hr.out.symm, by have h := Hb0.out.trans (Hbw.out.mono Hb0.out.size); (repeat (first | exact Below.refl _ _ | exact (h).mono (by first | omega | (simp <;> omega) | (have hh := (h).size; (try simp at hh); omega) | (have hh := (h).size; (try simp at hh); (try simp); omega)) | refine Below.trans ?_ ((h).mono (by first | omega | (simp <;> omega) | (have hh := (h).size; (try simp at hh); omega) | (have hh := (h).size; (try simp at hh); (try simp); omega))) | refine Below.alloc ?_ (by first | omega | (simp <;> omega) | (have hh := (h).size; (try simp at hh); omega) | (have hh := (h).size; (try simp at hh); (try simp); omega)) _ | refine Below.setCell ?_ (by first | omega | (simp <;> omega) | (have hh := (h).size; (try simp at hh); omega) | (have hh := (h).size; (try simp at hh); (try simp); omega)) _ | refine below_drewN ?_ _ | refine Below.drew ?_))⟩
      · have Hn : Hid (decide (p.dst = r) = false) := by show _ = _; rw [← hd]; simp [he]
        have q0 : (decide (d ≤ r) && decide (r ≤ d)) = false := eq_no he
        clear he hd
        go_wp2_with fail
        go_region
        go_wp2_with fail
        go_roundw
        case rel => exact ⟨i + 1, by omega, by go_num, Hbw.out.drew, fun q z hq hz => by
          rcases Nat.lt_succ_iff_lt_or_eq.1 hq with h | h
          · exact Hall.out q z h hz
          · subst h; rw [Hp.out] at hz; cases hz; exact Hn.out⟩
        case measure => simp [intOf]; omega
    · have Hn : Hid (x.phis.any (fun p => decide (p.dst = r)) = false) := any_take (fun q z hz => Hall.out q z (by have := (List.getElem?_eq_some_iff.1 hz).1; have := Hpn.out; omega) hz)
      obtain ⟨wo, hwo⟩ : ∃ wo : World, wo = wr := ⟨_, rfl⟩
      subst hwo
      clear hbw
      go_wp2_with fail
      clear c0 c1 v1
      go_loopw [6] (fun s6 wi => ∃ j : Nat, j ≤ ln ∧ s6 = .int .i64 (j : Int) ∧ Below W.heap.size W wi ∧ ∀ (q : Nat) (y : DIns), q < j → x.list[q]? = some y → decide (y.dst = r) = false) (fun s6 _ => ln - (intOf s6).toNat)
      case atStart => exact ⟨0, Nat.zero_le _, rfl, Hbw.out, fun j p hj => by omega⟩
      case round =>
        obtain ⟨j, hj, rfl, hbi, hal⟩ := hrel
        have Hal := hid hal
        have Hbi := hid hbi
        have c1 := cell_later' C1.out hbi
        have v1 := cell_later' V1.out hbi
        have zW2 := hbi.size
        clear hal
        by_cases hjn : j < ln
        · obtain ⟨ib, ioff, ra, rc, hiae, hci, -, -⟩ := ins_at (Hli.out.later rIns_mono hbi) (k := j) (by rw [Hln.out]; exact hjn)
          subst hiae
          obtain ⟨y, hy⟩ : ∃ y, y = x.list[j]'(by rw [Hln.out]; exact hjn) := ⟨_, rfl⟩
          rw [← hy] at hci
          obtain ⟨-, e1, -, -, -, -, -, -⟩ := hci.get8
          have Hy : Hid (x.list[j]? = some y) := by show _ = _; rw [hy]; exact List.getElem?_eq_getElem _
          obtain ⟨d, hd⟩ : ∃ d, d = y.dst := ⟨_, rfl⟩
          rw [← hd] at e1
          have zi : ib < wr.heap.size := cell_lt e1
          have i0 : (0 : Int) ≤ (j : Int) := by omega
          have i1 : (j : Int) < (ln : Int) := by omega
          clear hbi hci hy
          by_cases he : d = r
          · have Hr : Hid (blkWr x r = true) := by
              show _ = _
              unfold blkWr
              rw [Bool.or_eq_true, List.any_eq_true, List.any_eq_true]
              exact .inr ⟨y, List.mem_of_getElem? Hy.out, by rw [← hd]; simp [he]⟩
            have q0 : (decide (d ≤ r) && decide (r ≤ d)) = true := eq_yes he
            clear he hd
            go_wp2_with fail
            go_region
            go_wp2_with fail
            go_ret
            exact ⟨ret_bool Hr.out.symm, by have h := Hb0.out.trans (Hbi.out.mono Hb0.out.size); (repeat (first | exact Below.refl _ _ | exact (h).mono (by first | omega | (simp <;> omega) | (have hh := (h).size; (try simp at hh); omega) | (have hh := (h).size; (try simp at hh); (try simp); omega)) | refine Below.trans ?_ ((h).mono (by first | omega | (simp <;> omega) | (have hh := (h).size; (try simp at hh); omega) | (have hh := (h).size; (try simp at hh); (try simp); omega))) | refine Below.alloc ?_ (by first | omega | (simp <;> omega) | (have hh := (h).size; (try simp at hh); omega) | (have hh := (h).size; (try simp at hh); (try simp); omega)) _ | refine Below.setCell ?_ (by first | omega | (simp <;> omega) | (have hh := (h).size; (try simp at hh); omega) | (have hh := (h).size; (try simp at hh); (try simp); omega)) _ | refine below_drewN ?_ _ | refine Below.drew ?_))⟩
          · have Hn2 : Hid (decide (y.dst = r) = false) := by show _ = _; rw [← hd]; simp [he]
            have q0 : (decide (d ≤ r) && decide (r ≤ d)) = false := eq_no he
            clear he hd
            go_wp2_with fail
            go_region
            go_wp2_with fail
            go_roundw
            case rel => exact ⟨j + 1, by omega, by go_num, Hbi.out.drew, fun q z hq hz => by
              rcases Nat.lt_succ_iff_lt_or_eq.1 hq with h | h
              · exact Hal.out q z h hz
              · subst h; rw [Hy.out] at hz; cases hz; exact Hn2.out⟩
            case measure => simp [intOf]; omega
        · have Hr : Hid (blkWr x r = false) := by
            show _ = _
            unfold blkWr
            rw [Hn.out, any_take (fun q z hz => Hal.out q z (by have := (List.getElem?_eq_some_iff.1 hz).1; have := Hln.out; omega) hz)]; rfl
          clear hbi
          go_wp2_with fail
          go_ret
          exact ⟨ret_bool Hr.out.symm, Hb0.out.trans (Hbi.out.mono Hb0.out.size)⟩

set_option maxRecDepth 100000 in
set_option maxHeartbeats 2000000 in
theorem everWrites_any {S : Nat → Prop} (nm : ByteArray) (f : DFunc) (ba : Option Addr) (bc bn : Nat) (r : Int) (w : World) (hb : SlAt S w 6 rBlock (.slice ba bn bc) f.blocks) (hbn : f.blocks.length = bn) (hn : bn ≤ 1048576) (hsm : ∀ x ∈ f.blocks, x.phis.length ≤ 1048576 ∧ x.list.length ≤ 1048576) :
    Calls Tryd.prog 118 #[.agg #[.string nm, .int .i64 f.params, .int .i64 f.regs, .slice ba bn bc], .int .i64 r] w fun e w' => e = .returned (.bool (writesB f r)) ∧ Below w.heap.size w w' := by
  obtain ⟨W, hW⟩ : ∃ W, W = w.alloc (.cells #[.string nm, .int .i64 f.params, .int .i64 f.regs, .slice ba bn bc] 35) := ⟨_, rfl⟩
  have Hb0 : Hid (Below w.heap.size w W) := by show Below _ _ _; rw [hW]; (repeat (first | exact Below.refl _ _ | refine Below.alloc ?_ (by first | omega | (simp <;> omega)) _ | refine Below.setCell ?_ (by first | omega | (simp <;> omega)) _ | refine below_drewN ?_ _ | refine Below.drew ?_))
  have c3 : W.cell? ⟨w.heap.size, 3, none⟩ = some (.slice ba bn bc) := by rw [hW]; simp
  have C3 := hid c3
  have Hb := hid (hb.later rBlock_mono Hb0.out)
  have Hbn := hid hbn
  have Hsm := hid hsm
  have HW := hid hW
  have zW : w.heap.size < W.heap.size := cell_lt c3
  clear hb hbn hsm hW c3
  go_enter Tryd.func118, Tryd.ntmps118
  go_upto_region 1 with (fail)
  rw [← HW.out]
  go_wp2_with fail
  go_loopw [5] (fun s5 wr => ∃ i : Nat, i ≤ bn ∧ s5 = .int .i64 (i : Int) ∧ Below W.heap.size W wr ∧ ∀ (j : Nat) (x : DBlock), j < i → f.blocks[j]? = some x → blkWr x r = false) (fun s5 _ => bn - (intOf s5).toNat)
  case atStart => exact ⟨0, Nat.zero_le _, rfl, Below.refl _ _, fun j p hj => by omega⟩
  case round =>
    obtain ⟨i, hi, rfl, hbw, hall⟩ := hrel
    have Hall := hid hall
    have Hbw := hid hbw
    have c3 := cell_later' C3.out hbw
    have zW1 := hbw.size
    clear hall
    by_cases hin : i < bn
    · obtain ⟨xb, xoff, pa, pc, la, lc, ta, tc, hbae, hcb, hph, hli, -, -, -⟩ := block_at (Hb.out.later rBlock_mono hbw) (k := i) (by rw [Hbn.out]; exact hin)
      subst hbae
      obtain ⟨x, hx⟩ : ∃ x, x = f.blocks[i]'(by rw [Hbn.out]; exact hin) := ⟨_, rfl⟩
      rw [← hx] at hcb hph hli
      have Hx : Hid (f.blocks[i]? = some x) := by show _ = _; rw [hx]; exact List.getElem?_eq_getElem _
      obtain ⟨d0, d1, d2, d3, d4, d5⟩ := hcb.get6
      have hsz := Hsm.out x (by rw [hx]; exact List.getElem_mem _)
      have zx : xb < wr.heap.size := cell_lt d0
      have Hcall := hid (againWrites_any (S := S) x pa la pc lc x.phis.length x.list.length (.slice ta x.fin.to.length tc) ta x.fin.to.length tc rfl x.fin.kind x.fin.on.n x.fin.on.reg r wr hph hli rfl rfl hsz.1 hsz.2)
      obtain ⟨bv, hbv⟩ : ∃ bv, bv = blkWr x r := ⟨_, rfl⟩
      rw [← hbv] at Hcall
      clear hbw hcb hph hli hx hsz
      cases bv with
      | true =>
        have Hr : Hid (writesB f r = true) := by
          show _ = _
          rw [writesB_blk, List.any_eq_true]
          exact ⟨x, List.mem_of_getElem? Hx.out, hbv.symm⟩
        clear hbv
        go_wp2_with (go_at_call 150; ((with_reducible refine Hcall.out.mono ?_); rintro e w2 ⟨rfl, hb2⟩; have Hb2 := hid hb2; clear hb2))
        go_ret
        exact ⟨ret_bool Hr.out.symm, Hb0.out.trans ((Hbw.out.trans (Hb2.out.mono Hbw.out.size)).mono Hb0.out.size)⟩
      | false =>
        have Hn := hid hbv.symm
        clear hbv
        go_wp2_with (go_at_call 150; ((with_reducible refine Hcall.out.mono ?_); rintro e w2 ⟨rfl, hb2⟩; have Hb2 := hid hb2; clear hb2))
        go_roundw
        case rel => exact ⟨i + 1, by omega, by go_num, Hbw.out.trans (Hb2.out.mono Hbw.out.size), fun q z hq hz => by
          rcases Nat.lt_succ_iff_lt_or_eq.1 hq with h | h
          · exact Hall.out q z h hz
          · subst h; rw [Hx.out] at hz; cases hz; exact Hn.out⟩
        case measure => simp [intOf]; omega
    · have Hr : Hid (writesB f r = false) := by
        show _ = _
        rw [writesB_blk]
        exact any_take (fun q z hz => Hall.out q z (by have := (List.getElem?_eq_some_iff.1 hz).1; have := Hbn.out; omega) hz)
      clear hbw
      go_wp2_with fail
      go_ret
      exact ⟨ret_bool Hr.out.symm, Hb0.out.trans (Hbw.out.mono Hb0.out.size)⟩

end Go.Proofs.YtaehkcnankijfaaDoor

namespace Go.Proofs.YtaehkcnankijfaaDoor
open Go.RowKit

theorem run_equal_pair (a b c d : Int) (w : World) :
    (Op.equalIn 10000 66 (.agg #[.int .i64 a, .int .i64 b]) (.agg #[.int .i64 c, .int .i64 d])).run Tryd.prog w = .ok (a == c && b == d) w := by
  obtain ⟨ii, hii, -, -, -⟩ := info_parts infoInt'
  have hpart : ∀ (xs : Array Value) (i : Nat) (v : Value), xs[i]? = some v → (part 3 xs i).run Tryd.prog w = .ok v w := fun xs i v h => by
    simp [part, go_sem, Tryd.isAgg3, h]
  have hint : ∀ (x y : Int), (Op.equalIn 9999 3 (.int .i64 x) (.int .i64 y)).run Tryd.prog w = .ok (x == y) w := fun x y => run_equalIn_int w 9998 3 .i64 .i64 x y Tryd.underlying3
  have h := run_equalIn_array (P := Tryd.prog) w 9999 #[.int .i64 a, .int .i64 b] #[.int .i64 c, .int .i64 d] Tryd.underlying66 hii
  rw [cells_int] at h
  refine h.trans ?_
  show (Op.eqItems 9999 3 1 _ _ [0, 1]).run _ _ = _
  simp only [Op.eqItems, Sem.run_bind, Nat.mul_one, hpart #[.int .i64 a, .int .i64 b] 0 (.int .i64 a) rfl, hpart #[.int .i64 c, .int .i64 d] 0 (.int .i64 c) rfl, Result.andThen_ok, hint]
  cases h1 : a == c <;> cases h2 : b == d <;> simp [h2, hint, hpart #[.int .i64 a, .int .i64 b] 1 (.int .i64 b) rfl, hpart #[.int .i64 c, .int .i64 d] 1 (.int .i64 d) rfl, Result.andThen_ok]
@[go_sem ↓] theorem run_eql_pair (a b c d : Int) (w : World) :
    (binOp .eql 66 (.agg #[.int .i64 a, .int .i64 b]) (.agg #[.int .i64 c, .int .i64 d])).run Tryd.prog w = .ok (.bool ((decide (a ≤ c) && decide (c ≤ a)) && (decide (b ≤ d) && decide (d ≤ b)))) w := by
  rw [run_eql_struct, run_equal_pair, Result.andThen_ok]
  refine congrArg (fun b => Result.ok (Value.bool b) w) ?_
  rw [beq_int, beq_int]
@[go_sem ↓] theorem run_neq_pair (a b c d : Int) (w : World) :
    (binOp .neq 66 (.agg #[.int .i64 a, .int .i64 b]) (.agg #[.int .i64 c, .int .i64 d])).run Tryd.prog w = .ok (.bool ((decide (a < c) || decide (c < a)) || (decide (b < d) || decide (d < b)))) w := by
  rw [run_neq_struct, run_equal_pair, Result.andThen_ok]
  refine congrArg (fun b => Result.ok (Value.bool b) w) ?_
  rw [Bool.eq_iff_iff, beq_int, beq_int]
  simp
  omega
theorem all_same {l : List Told} (hne : l ≠ []) : (∀ j, j < l.length → l.getD j (0, 0) = l.getD 0 (0, 0)) → allSameF l = l.getD 0 (0, 0) := by
  intro h
  cases l with
  | nil => exact absurd rfl hne
  | cons t r =>
    rw [same_cons, if_pos]
    · rfl
    · rw [List.all_eq_true]
      intro x hx
      obtain ⟨i, hi, rfl⟩ := List.getElem_of_mem hx
      have := h (i + 1) (by simpa using hi)
      rw [List.getD_eq_getElem?_getD, List.getElem?_cons_succ, List.getElem?_eq_getElem hi] at this
      simpa using this
theorem not_same {l : List Told} {j : Nat} (hj : j < l.length) (h : l.getD j (0, 0) ≠ l.getD 0 (0, 0)) : allSameF l = (0, 0) := by
  cases l with
  | nil => simp at hj
  | cons t r =>
    rw [same_cons, if_neg]
    intro hc
    rw [List.all_eq_true] at hc
    cases j with
    | zero => exact h rfl
    | succ i =>
      have hi : i < r.length := by simpa using hj
      have := hc r[i] (List.getElem_mem hi)
      refine h ?_
      rw [List.getD_eq_getElem?_getD, List.getElem?_cons_succ, List.getElem?_eq_getElem hi]
      simpa using this

theorem grownBy_setOne (W : World) (b o : Nat) (v : Value) : W.grownBy (W.setCell ⟨b, o, none⟩ v) (some b) :=
  ⟨rfl, rfl, rfl, by simp [World.setCell], fun k _ h => Below.heap_setCell _ _ _ _ (fun e => h (by rw [e]))⟩
theorem grownBy_setCells (b : Nat) : ∀ (vs : List Value) (o : Nat) (W : World), W.grownBy (W.setCells b o vs) (some b)
  | [], _, _ => ⟨rfl, rfl, rfl, Nat.le_refl _, fun _ _ _ => rfl⟩
  | v :: vs, o, W => by
    rw [World.setCells]
    have h1 := grownBy_setOne W b o v
    have h2 := grownBy_setCells b vs (o + 1) (W.setCell ⟨b, o, none⟩ v)
    exact ⟨h2.os.trans h1.os, h2.tape.trans h1.tape, h2.output.trans h1.output, Nat.le_trans h1.size h2.size, fun k hk hne => (h2.block k (Nat.lt_of_lt_of_le hk h1.size) hne).trans (h1.block k hk hne)⟩
/-- clear of so many pairs. -/
theorem run_clear_pairs (w : World) (b o n c : Nat) (hn : 0 < n) (hc : ∀ j, j < n * 2 → ∃ u, w.cell? ⟨b, o + j, none⟩ = some u) (hf : ∀ j, w.frozen? ⟨b, j, none⟩ = false) :
    ∃ vs : List Value, vs.length = n * 2 ∧ ∀ ty, (Builtin.clear_ #[60] ty #[.slice (some ⟨b, o, none⟩) n c]).run Tryd.prog w = .ok (.tuple #[]) (w.setCells b o vs) := by
  obtain ⟨ii, hii, hz0, hz1, hz2⟩ := info_parts infoPair
  obtain ⟨m, rfl⟩ : ∃ m, n = m + 1 := ⟨n - 1, by omega⟩
  have hlen : (Builtin.zeroCells (Value.agg #[.int .i64 0, .int .i64 0]).cells (m + 1)).toList.length = (m + 1) * 2 := by
    simp [Builtin.zeroCells, Value.cells]
  have hst := run_storeCells_cells (P := Tryd.prog) b o (Builtin.zeroCells (Value.agg #[.int .i64 0, .int .i64 0]).cells (m + 1)).toList 0 w (fun j hj => by
      obtain ⟨u, hu⟩ := hc j (by omega)
      rw [Nat.add_zero, hu]; rfl) (fun j _ => by rw [Nat.add_zero]; exact hf _) (by
      intro v hv
      simp [Builtin.zeroCells, Value.cells] at hv
      obtain ⟨i, -, rfl⟩ := hv
      rcases Nat.mod_two_eq_zero_or_one i with h | h <;> simp [h] <;> rfl)
  simp only [Nat.add_zero] at hst
  refine ⟨_, hlen, fun ty => ?_⟩
  have hz : ∀ w : World, (zeroValue 66).run Tryd.prog w = .ok (.agg #[.int .i64 0, .int .i64 0]) w := fun w => by
    simp [zeroValue, typeInfo, hii, hz0, go_sem]
  simp [Builtin.clear_, run_underlying Tryd.underlying60, hz, hst]

/-- A row of pairs at work: its first pair, and those from lo on, are as they were. -/
structure CpSt (w W : World) (g n : Nat) (l : List Told) (lo : Nat) : Prop where
  grown : w.grownBy W (some g)
  some_ : ∀ i, i < n * 2 → ∃ u, W.cell? ⟨g, i, none⟩ = some u
  fz : ∀ i, W.frozen? ⟨g, i, none⟩ = false
  at_ : ∀ (j : Nat), j < n → j = 0 ∨ lo ≤ j → W.cell? ⟨g, j * 2, none⟩ = some (.int .i64 (l.getD j (0, 0)).1) ∧ W.cell? ⟨g, j * 2 + 1, none⟩ = some (.int .i64 (l.getD j (0, 0)).2)
section
variable {w W : World} {g n lo lo' : Nat} {l : List Told}
theorem CpSt.drew (h : CpSt w W g n l lo) : CpSt w W.drew g n l lo := ⟨⟨h.grown.os, h.grown.tape, h.grown.output, h.grown.size, h.grown.block⟩, h.some_, h.fz, h.at_⟩
theorem CpSt.more (h : CpSt w W g n l lo) (hl : lo ≤ lo') : CpSt w W g n l lo' := ⟨h.grown, h.some_, h.fz, fun j hj h2 => h.at_ j hj (by omega)⟩
theorem CpSt.put (h : CpSt w W g n l lo) {k : Nat} (hk0 : 0 < k) (hk : k < lo) (a b : Value) : CpSt w ((W.setCell ⟨g, k * 2, none⟩ a).setCell ⟨g, k * 2 + 1, none⟩ b) g n l lo := by
  have h1 := grownBy_setOne W g (k * 2) a
  have h2 := grownBy_setOne (W.setCell ⟨g, k * 2, none⟩ a) g (k * 2 + 1) b
  have hg := h.grown
  refine ⟨⟨h2.os.trans (h1.os.trans hg.os), h2.tape.trans (h1.tape.trans hg.tape), h2.output.trans (h1.output.trans hg.output), Nat.le_trans hg.size (Nat.le_trans h1.size h2.size), fun b hb hne => ?_⟩, fun i hi => ?_, fun i => ?_, fun j hj h3 => ?_⟩
  · have hb1 := Nat.lt_of_lt_of_le hb hg.size
    exact (h2.block b (Nat.lt_of_lt_of_le hb1 h1.size) hne).trans ((h1.block b hb1 hne).trans (hg.block b hb hne))
  · obtain ⟨u, hu⟩ := h.some_ i hi
    · by_cases e1 : i = k * 2 + 1
      · subst e1
        have : ∃ u, (W.setCell ⟨g, k * 2, none⟩ a).cell? ⟨g, k * 2 + 1, none⟩ = some u := ⟨u, by rw [World.cell?_setCell_other _ _ _ _ (fun e => by injection e; omega)]; exact hu⟩
        obtain ⟨u', hu'⟩ := this
        exact ⟨b, by rw [cell_set hu', if_pos rfl]⟩
      · rw [World.cell?_setCell_other _ _ _ _ (fun e => by injection e; omega)]
        by_cases e2 : i = k * 2
        · subst e2
          exact ⟨a, by rw [cell_set hu, if_pos rfl]⟩
        · rw [World.cell?_setCell_other _ _ _ _ (fun e => by injection e; omega)]
          exact ⟨u, hu⟩
  · rw [World.frozen?_setCell, World.frozen?_setCell]; exact h.fz i
  · obtain ⟨c0, c1⟩ := h.at_ j hj h3
    refine ⟨?_, ?_⟩
    · rw [World.cell?_setCell_other _ _ _ _ (fun e => by injection e; omega), World.cell?_setCell_other _ _ _ _ (fun e => by injection e; omega)]; exact c0
    · rw [World.cell?_setCell_other _ _ _ _ (fun e => by injection e; omega), World.cell?_setCell_other _ _ _ _ (fun e => by injection e; omega)]; exact c1
end
/-- What is left of a row of pairs. -/
def CompPost (w : World) (v : Value) (l : List Told) (e : Ending) (w' : World) : Prop :=
  ∃ a m c, e = .returned (.slice a m c) ∧ m ≤ l.length ∧ w.grownBy w' v.ownBlock ∧
    ((m = 1 ∧ ∃ g, a = some ⟨g, 0, none⟩ ∧ w'.cell? ⟨g, 0, none⟩ = some (.int .i64 (allSameF l).1) ∧ w'.cell? ⟨g, 1, none⟩ = some (.int .i64 (allSameF l).2)) ∨ (m ≠ 1 ∧ allSameF l = (0, 0)))

set_option maxRecDepth 100000 in
set_option maxHeartbeats 4000000 in
theorem compactP_any (w : World) (g n c : Nat) (v : Value) (l : List Told) (hv : v = .slice (some ⟨g, 0, none⟩) n c) (hn : l.length = n) (hn1 : n ≤ 1048576) (hc : n ≤ c) (hc1 : c ≤ 9223372036854775807) (h : CpSt w w g n l 0) :
    Calls Tryd.prog 115 #[.slice (some ⟨g, 0, none⟩) n c] w fun e w' => CompPost w v l e w' := by
  have Hv := hid hv
  have Hn := hid hn
  have Hst := hid h
  clear hv hn h
  by_cases h2 : n < 2
  · go_enter Tryd.func115, Tryd.ntmps115
    go_wp2_with fail
    go_ret
    refine ⟨_, n, c, rfl, by rw [Hn.out]; exact Nat.le_refl _, ⟨rfl, rfl, rfl, Nat.le_refl _, fun _ _ _ => rfl⟩, ?_⟩
    have hl := Hn.out
    match l, hl with
    | [], hl => exact .inr ⟨by simp at hl; omega, rfl⟩
    | [t], hl =>
      simp at hl
      subst hl
      refine .inl ⟨rfl, g, rfl, ?_⟩
      have h := Hst.out.at_ 0 (by decide) (.inl rfl)
      simpa [allSameF] using h
    | t :: t' :: r, hl => simp at hl; omega
  · go_enter Tryd.func115, Tryd.ntmps115
    go_wp2_with fail
    go_loopw [3] (fun s3 wr => ∃ q : Nat, q + 1 ≤ n ∧ s3 = .int .i64 ((q : Int) + 1) ∧ CpSt w wr g n l 0 ∧ ∀ j, j < q → l.getD (j + 1) (0, 0) ≠ l.getD j (0, 0)) (fun s3 _ => n - (intOf s3).toNat)
    case atStart => exact ⟨0, by omega, rfl, Hst.out, fun j hj => by omega⟩
    case round =>
      obtain ⟨q, hq, rfl, hs, hall⟩ := hrel
      have Hs := hid hs
      have Hall := hid hall
      clear hall
      by_cases hqn : q + 1 < n
      · obtain ⟨a0, a1⟩ := hs.at_ q (by omega) (.inr (Nat.zero_le _))
        obtain ⟨b0, b1⟩ := hs.at_ (q + 1) hqn (.inr (Nat.zero_le _))
        obtain ⟨x0, hx0⟩ : ∃ x0, x0 = (l.getD q (0, 0)).1 := ⟨_, rfl⟩
        obtain ⟨x1, hx1⟩ : ∃ x1, x1 = (l.getD q (0, 0)).2 := ⟨_, rfl⟩
        obtain ⟨y0, hy0⟩ : ∃ y0, y0 = (l.getD (q + 1) (0, 0)).1 := ⟨_, rfl⟩
        obtain ⟨y1, hy1⟩ : ∃ y1, y1 = (l.getD (q + 1) (0, 0)).2 := ⟨_, rfl⟩
        rw [← hx0] at a0
        rw [← hx1] at a1
        rw [← hy0] at b0
        rw [← hy1] at b1
        have i0 : (0 : Int) ≤ (q : Int) := by omega
        have i1 : (q : Int) + 1 < (n : Int) := by omega
        have zg : g < wr.heap.size := cell_lt a0
        by_cases he : y0 = x0 ∧ y1 = x1
        · have Hd : Hid (l.getD (q + 1) (0, 0) = l.getD q (0, 0)) := Prod.ext (by rw [← hx0, ← hy0]; exact he.1) (by rw [← hx1, ← hy1]; exact he.2)
          have t0 : ((decide (y0 ≤ x0) && decide (x0 ≤ y0)) && (decide (y1 ≤ x1) && decide (x1 ≤ y1))) = true := by rw [Bool.and_eq_true]; exact ⟨eq_yes he.1, eq_yes he.2⟩
          clear hs hx0 hx1 hy0 hy1 he
          go_wp2_with fail
          go_region
          go_wp2_with fail
          obtain ⟨wo, hwo⟩ : ∃ wo : World, wo = wr.drew := ⟨_, rfl⟩
          have Hso : Hid (CpSt w wo g n l 0) := by show CpSt _ _ _ _ _ _; rw [hwo]; exact Hs.out.drew
          rw [← hwo]
          clear hwo a0 a1 b0 b1 t0 Hs zg
          go_loopw [3, 5] (fun s3 s5 wi => ∃ p r : Nat, q + 1 + (r + 1) ≤ n ∧ p ≤ q + r ∧ s3 = .int .i64 ((p : Int) + 1) ∧ s5 = .int .i64 ((r : Int) + 1) ∧ CpSt w wi g n l (q + 1 + r) ∧ (p = 0 ↔ ∀ j, j < q + 1 + (r + 1) → l.getD j (0, 0) = l.getD 0 (0, 0))) (fun _ s5 _ => n - (intOf s5).toNat)
          case atStart =>
            refine ⟨q, 0, by omega, by omega, rfl, rfl, Hso.out.more (Nat.zero_le _), ?_⟩
            constructor
            · intro h0 j hj
              rcases (by omega : j = 0 ∨ j = 1) with rfl | rfl
              · rfl
              · have h := Hd.out
                rw [h0] at h
                exact h
            · intro h
              rcases Nat.eq_zero_or_pos q with h0 | h0
              · exact h0
              · exact absurd ((h 1 (by omega)).trans (h 0 (by omega)).symm) (Hall.out 0 h0)
          case round =>
            obtain ⟨p, r, hr, hp, rfl, rfl, hs2, hiff⟩ := hrel
            have Hs2 := hid hs2
            have Hiff := hid hiff
            have i2 : (0 : Int) ≤ (p : Int) := by omega
            have i3 : (p : Int) + 1 < (n : Int) := by omega
            have i4 : (0 : Int) ≤ (r : Int) := by omega
            clear hiff
            by_cases hm : q + 1 + (r + 1) < n
            · obtain ⟨a0, a1⟩ := hs2.at_ (q + 1 + r) (by omega) (.inr (Nat.le_refl _))
              obtain ⟨b0, b1⟩ := hs2.at_ (q + 1 + (r + 1)) hm (.inr (by omega))
              obtain ⟨z0, c0⟩ := hs2.some_ ((p + 1) * 2) (by omega)
              obtain ⟨z1, c1⟩ := hs2.some_ ((p + 1) * 2 + 1) (by omega)
              have f0 := hs2.fz ((p + 1) * 2)
              have f1 := hs2.fz ((p + 1) * 2 + 1)
              obtain ⟨x0, hx0⟩ : ∃ x0, x0 = (l.getD (q + 1 + r) (0, 0)).1 := ⟨_, rfl⟩
              obtain ⟨x1, hx1⟩ : ∃ x1, x1 = (l.getD (q + 1 + r) (0, 0)).2 := ⟨_, rfl⟩
              obtain ⟨y0, hy0⟩ : ∃ y0, y0 = (l.getD (q + 1 + (r + 1)) (0, 0)).1 := ⟨_, rfl⟩
              obtain ⟨y1, hy1⟩ : ∃ y1, y1 = (l.getD (q + 1 + (r + 1)) (0, 0)).2 := ⟨_, rfl⟩
              rw [← hx0, show (q + 1 + r) * 2 = (q + 1) * 2 + r * 2 by omega] at a0
              rw [← hx1, show (q + 1 + r) * 2 = (q + 1) * 2 + r * 2 by omega] at a1
              rw [← hy0, show (q + 1 + (r + 1)) * 2 = (q + 1) * 2 + (r + 1) * 2 by omega] at b0
              rw [← hy1, show (q + 1 + (r + 1)) * 2 = (q + 1) * 2 + (r + 1) * 2 by omega] at b1
              have i5 : (r : Int) + 1 < ((n - (q + 1) : Nat) : Int) := by omega
              have zg : g < wr.heap.size := cell_lt a0
              by_cases he : y0 = x0 ∧ y1 = x1
              · have Hd2 : Hid (l.getD (q + 1 + (r + 1)) (0, 0) = l.getD (q + 1 + r) (0, 0)) := Prod.ext (by rw [← hx0, ← hy0]; exact he.1) (by rw [← hx1, ← hy1]; exact he.2)
                have t0 : ((decide (y0 < x0) || decide (x0 < y0)) || (decide (y1 < x1) || decide (x1 < y1))) = false := by rw [Bool.or_eq_false_iff]; exact ⟨ne_no he.1, ne_no he.2⟩
                clear hs2 hx0 hx1 hy0 hy1 he
                go_wp2_with fail
                go_region
                go_wp2_with fail
                go_roundw
                case rel =>
                  refine ⟨p, r + 1, by omega, by omega, rfl, by go_num, (Hs2.out.more (by omega)).drew, Hiff.out.trans ⟨fun h j hj => ?_, fun h j hj => h j (by omega)⟩⟩
                  rcases Nat.lt_succ_iff_lt_or_eq.1 (show j < q + 1 + (r + 1) + 1 by omega) with h1 | rfl
                  · exact h j h1
                  · exact Hd2.out.trans (h (q + 1 + r) (by omega))
                case measure => simp [intOf]; omega
              · have Hd2 : Hid (l.getD (q + 1 + (r + 1)) (0, 0) ≠ l.getD (q + 1 + r) (0, 0)) := fun e => he ⟨by rw [hx0, hy0, e], by rw [hx1, hy1, e]⟩
                have t0 : ((decide (y0 < x0) || decide (x0 < y0)) || (decide (y1 < x1) || decide (x1 < y1))) = true := by
                  rw [Bool.eq_iff_iff]
                  simp
                  omega
                clear hs2 hx0 hx1 hy0 hy1 he
                go_wp2_with fail
                go_region
                go_wp2_with fail
                go_roundw
                case rel =>
                  refine ⟨p + 1, r + 1, by omega, by omega, by go_num, by go_num, ((Hs2.out.more (lo' := q + 1 + (r + 1)) (by omega)).put (k := p + 1) (by omega) (by omega) _ _).drew, ⟨fun h => by omega, fun h => ?_⟩⟩
                  exact absurd ((h (q + 1 + (r + 1)) (by omega)).trans (h (q + 1 + r) (by omega)).symm) Hd2.out
                case measure => simp [intOf]; omega
            · have hm' : q + 1 + (r + 1) = n := by omega
              have i5 : (r : Int) + 1 = ((n - (q + 1) : Nat) : Int) := by omega
              obtain ⟨vs, hvl, hcl⟩ := run_clear_pairs wr g ((p + 1) * 2) (n - (p + 1)) (c - (p + 1)) (by omega) (fun j hj => hs2.some_ _ (by omega)) hs2.fz
              have Hvl := hid hvl
              have i6 : p + 1 ≤ n := by omega
              have i7 : p + 1 ≤ c := by omega
              rw [i5]
              clear hs2 hvl hm i5
              go_wp2_with fail
              go_ret
              have hg := Hs2.out.grown.trans (grownBy_setCells g vs ((p + 1) * 2) wr)
              refine ⟨_, p + 1, c, rfl, by rw [Hn.out]; omega, by rw [Hv.out]; exact hg, ?_⟩
              by_cases hp0 : p = 0
              · have hsame := Hiff.out.1 hp0
                have hall := all_same (l := l) (by intro e; have := Hn.out; rw [e] at this; simp at this; omega) (fun j hj => hsame j (by rw [hm', ← Hn.out]; exact hj))
                obtain ⟨e0, e1⟩ := Hs2.out.at_ 0 (by omega) (.inl rfl)
                rw [hall]
                refine .inl ⟨by omega, g, rfl, ?_, ?_⟩
                · rw [World.cell?_setCells_out _ _ _ _ _ (fun _ _ => .inl (by dsimp only; omega))]; exact e0
                · rw [World.cell?_setCells_out _ _ _ _ _ (fun _ _ => .inl (by dsimp only; omega))]; exact e1
              · have hns : ¬ ∀ j, j < q + 1 + (r + 1) → l.getD j (0, 0) = l.getD 0 (0, 0) := fun h => hp0 (Hiff.out.2 h)
                obtain ⟨j, hj⟩ := Classical.not_forall.1 hns
                obtain ⟨hj1, hj2⟩ := Classical.not_imp.1 hj
                exact .inr ⟨by omega, not_same (j := j) (by rw [Hn.out]; omega) hj2⟩
        · have Hd : Hid (l.getD (q + 1) (0, 0) ≠ l.getD q (0, 0)) := fun e => he ⟨by rw [hx0, hy0, e], by rw [hx1, hy1, e]⟩
          have t0 : ((decide (y0 ≤ x0) && decide (x0 ≤ y0)) && (decide (y1 ≤ x1) && decide (x1 ≤ y1))) = false := by
            rw [Bool.eq_false_iff]
            intro e
            rw [Bool.and_eq_true] at e
            simp at e
            exact he ⟨by omega, by omega⟩
          clear hs hx0 hx1 hy0 hy1 he
          go_wp2_with fail
          go_region
          go_wp2_with fail
          go_roundw
          case rel => exact ⟨q + 1, by omega, by go_num, Hs.out.drew, fun j hj => by
            rcases Nat.lt_succ_iff_lt_or_eq.1 hj with h | rfl
            · exact Hall.out j h
            · exact Hd.out⟩
          case measure => simp [intOf]; omega
      · have hqn' : q + 1 = n := by omega
        have e : (q : Int) + 1 = (n : Int) := by omega
        rw [e]
        clear hs hqn
        go_wp2_with fail
        go_ret
        refine ⟨_, n, c, rfl, by rw [Hn.out]; exact Nat.le_refl _, by rw [Hv.out]; exact Hs.out.grown, .inr ⟨by omega, ?_⟩⟩
        have h1 := Hall.out 0 (by omega)
        exact not_same (j := 1) (by rw [Hn.out]; omega) h1

end Go.Proofs.YtaehkcnankijfaaDoor
