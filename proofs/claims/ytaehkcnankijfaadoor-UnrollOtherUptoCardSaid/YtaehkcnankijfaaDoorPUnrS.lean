/- turneryref6.unrollSelf: is a block a loop of its own? -/
import Derived.Test.YtaehkcnankijfaaDoorPUnrQ
import Derived.Test.YtaehkcnankijfaaDoorPRowB
import Derived.Test.YtaehkcnankijfaaDoorPCopy
namespace Go.Proofs.YtaehkcnankijfaaDoor
open Go.RowKit

theorem unrA_at {S : Nat → Prop} (nm : ByteArray) (p r : Int) (ba : Option Addr) (bc : Nat) (bs : List DBlock) (t : Nat) (w : World) (hb : SlAt S w 6 rBlock (.slice ba bs.length bc) bs) (hn : bs.length ≤ 40) (ht : t ≤ 40) (hto : ∀ x ∈ bs, x.fin.to.length ≤ 2)
    (L : List Int) (hL : predsOf bs 0 t = L) (m : Nat) (hm : L.length = m) :
    Calls Tryd.prog 87 #[.agg #[.string nm, .int .i64 p, .int .i64 r, .slice ba bs.length bc], .int .i64 t] w fun e w' =>
      ∃ a c, e = .returned (.slice a m c) ∧ SlAt (iv (w.heap.size + 1) w'.heap.size) w' 1 rInt (.slice a m c) L ∧ Below w.heap.size w w' := by
  subst hL hm
  refine (unrollAhead_any (S := S) nm p r ba bc bs t w hb (by omega) (by omega) hto).mono ?_
  rintro e w' ⟨v, rfl, ho, hb'⟩
  obtain ⟨a, c, rfl⟩ := ho.shape
  exact ⟨a, c, rfl, ho.toSl rInt_mono (by decide), hb'⟩

def SelfPost (bs : List DBlock) (b : Nat) (w : World) (e : Ending) (w' : World) : Prop := ∃ k : Int, e = .returned (.tuple #[.int .i64 k, .bool (selfF bs b).isSome]) ∧ (∀ q, selfF bs b = some q → k = (q : Int)) ∧ Below w.heap.size w w'

set_option maxRecDepth 100000 in
set_option maxHeartbeats 4000000 in
theorem self_any {S : Nat → Prop} (nm : ByteArray) (ba : Option Addr) (bc : Nat) (f : DFunc) (b : Nat) (w : World) (hf : FnOk f) (hbl : b < f.blocks.length)
    (hb : SlAt S w 6 rBlock (.slice ba f.blocks.length bc) f.blocks) :
    Calls Tryd.prog 65 #[.agg #[.string nm, .int .i64 f.params, .int .i64 f.regs, .slice ba f.blocks.length bc], .int .i64 (b : Int)] w fun e w' =>
      SelfPost f.blocks b w e w' := by
  have hbl40 := hf.len.2
  obtain ⟨x, hx⟩ : ∃ x, x = f.blocks[b] := ⟨_, rfl⟩
  have hxg : f.blocks[b]? = some x := by rw [hx]; exact List.getElem?_eq_getElem hbl
  obtain ⟨xb, xoff, pa, pc, lad, lc, ta, tc, hbae, hcs, -, -, hts, -, -⟩ := block_at hb hbl
  subst hbae
  rw [← hx] at hcs hts
  obtain ⟨-, -, d2, d3, d4, d5⟩ := hcs.get6
  have hkd := hf.kind b x hxg
  have hto : ∀ y ∈ f.blocks, y.fin.to.length ≤ 2 := fun y hy => by
    obtain ⟨i, hi, rfl⟩ := List.getElem_of_mem hy
    exact (hf.tgt i _ (List.getElem?_eq_getElem hi)).1
  have hpl : (predsOf f.blocks 0 b).length ≤ 2 * f.blocks.length := predsOf_len b f.blocks 0 hto
  obtain ⟨kd, hkde⟩ : ∃ kd, kd = x.fin.kind := ⟨_, rfl⟩
  obtain ⟨P, hP⟩ : ∃ P, P = predsOf f.blocks 0 b := ⟨_, rfl⟩
  obtain ⟨tn, htn⟩ : ∃ tn, tn = x.fin.to.length := ⟨_, rfl⟩
  have Hself : Hid (selfF f.blocks b = if kd = 3 ∧ (x.fin.to.getD 0 0 = (b : Int) ∨ x.fin.to.getD 1 0 = (b : Int)) ∧ P.length = 2 then some (if P.getD 0 0 = (b : Int) then 1 else 0) else none) := by
    show _ = _
    unfold selfF
    rw [hxg]
    dsimp only
    rw [← hkde, ← hP]
  rw [← hP] at hpl
  rw [← hkde] at d2 hkd
  rw [← htn] at d5 hkd
  have Hts := hid hts
  have zx : xb < w.heap.size := cell_lt d2
  have HP := hid hP
  have Htn := hid htn
  have hk3 := hkd.2.2.1
  have Hto1 : Hid (kd = 3 → x.fin.to.length = 2) := fun h => by omega
  obtain ⟨rg, hrg⟩ : ∃ rg, rg = x.fin.on.reg := ⟨_, rfl⟩
  obtain ⟨on, hon⟩ : ∃ on, on = x.fin.on.n := ⟨_, rfl⟩
  rw [← hrg] at d3
  rw [← hon] at d4
  obtain ⟨W, hW⟩ : ∃ W, W = (w.alloc (.cells #[.string nm, .int .i64 f.params, .int .i64 f.regs, .slice (some ⟨xb, xoff, none⟩) f.blocks.length bc] 35)).alloc (.cells #[.int .i64 kd, .bool rg, .int .i64 on, .slice ta tn tc] 43) := ⟨_, rfl⟩
  have Hb0 : Hid (Below w.heap.size w W) := by show Below _ _ _; rw [hW]; (repeat (first | exact Below.refl _ _ | refine Below.alloc ?_ (by first | omega | (simp <;> omega)) _ | refine Below.setCell ?_ (by first | omega | (simp <;> omega)) _ | refine below_drewN ?_ _ | refine Below.drew ?_))
  have Hahd := hid (unrA_at (S := S) nm f.params f.regs (some ⟨xb, xoff, none⟩) bc f.blocks b W (hb.later rBlock_mono Hb0.out) (by omega) (by omega) hto P hP.symm _ rfl)
  obtain ⟨bn, hbn⟩ : ∃ bn, bn = f.blocks.length := ⟨_, rfl⟩
  have Hxg := hid hxg
  rw [← hbn] at hbl hbl40 hpl hW Hahd ⊢
  clear hcs hts hkd hkde hP htn hx hxg hb hf hbn hrg hon hto
  have HW := hid hW
  clear hW
  go_enter Tryd.func65, Tryd.ntmps65
  by_cases h3 : kd = 3
  case neg =>
    have Hs : Hid (selfF f.blocks b = none) := by show _ = _; rw [Hself.out, if_neg (fun h => h3 h.1)]
    have q0 : (decide (kd < 3) || decide (3 < kd)) = true := by rw [Bool.or_eq_true, decide_eq_true_eq, decide_eq_true_eq]; omega
    clear h3 hk3
    go_wp2_with fail
    go_ret2
    unfold SelfPost
    refine ⟨0, by rw [Hs.out]; rfl, fun q hq => (by rw [Hs.out] at hq; cases hq), ?_⟩
    (repeat (first | exact Below.refl _ _ | refine Below.alloc ?_ (by first | omega | (simp <;> omega)) _ | refine Below.setCell ?_ (by first | omega | (simp <;> omega)) _ | refine below_drewN ?_ _ | refine Below.drew ?_))
  case pos =>
    subst h3
    have ht2 := Hto1.out rfl
    have htn2 : tn = 2 := Htn.out.trans ht2
    subst htn2
    obtain ⟨tb, toff, htae, t0⟩ := int_at9 Hts.out (t := 0) (by omega)
    obtain ⟨tb', toff', htae', t1⟩ := int_at9 Hts.out (t := 1) (by omega)
    subst htae
    cases htae'
    obtain ⟨to0, hto0⟩ : ∃ to0, to0 = x.fin.to[0]'(by omega) := ⟨_, rfl⟩
    obtain ⟨to1, hto1⟩ : ∃ to1, to1 = x.fin.to[1]'(by omega) := ⟨_, rfl⟩
    have g0 : x.fin.to.getD 0 0 = to0 := by rw [List.getD_eq_getElem?_getD, List.getElem?_eq_getElem (by omega), hto0]; rfl
    have g1 : x.fin.to.getD 1 0 = to1 := by rw [List.getD_eq_getElem?_getD, List.getElem?_eq_getElem (by omega), hto1]; rfl
    rw [← hto0, Nat.add_zero] at t0
    rw [← hto1] at t1
    rw [g0, g1] at Hself
    have ztb : tb < w.heap.size := cell_lt t0
    clear g0 g1 hto0 hto1 hk3 ht2
    by_cases hor : to0 = (b : Int) ∨ to1 = (b : Int)
    case neg =>
      have Hs : Hid (selfF f.blocks b = none) := by show _ = _; rw [Hself.out, if_neg (fun h => hor h.2.1)]
      have q0 : (decide (to0 < (b : Int)) || decide ((b : Int) < to0)) = true := by rw [Bool.or_eq_true, decide_eq_true_eq, decide_eq_true_eq]; omega
      have q1 : (decide (to1 < (b : Int)) || decide ((b : Int) < to1)) = true := by rw [Bool.or_eq_true, decide_eq_true_eq, decide_eq_true_eq]; omega
      clear hor
      go_wp2_with fail
      go_ret2
      unfold SelfPost
      refine ⟨0, by rw [Hs.out]; rfl, fun q hq => (by rw [Hs.out] at hq; cases hq), ?_⟩
      (repeat (first | exact Below.refl _ _ | refine Below.alloc ?_ (by first | omega | (simp <;> omega)) _ | refine Below.setCell ?_ (by first | omega | (simp <;> omega)) _ | refine below_drewN ?_ _ | refine Below.drew ?_))
    case pos =>
      have hq : ((decide (to0 < (b : Int)) || decide ((b : Int) < to0)) = false) ∨ ((decide (to0 < (b : Int)) || decide ((b : Int) < to0)) = true ∧ (decide (to1 < (b : Int)) || decide ((b : Int) < to1)) = false) := by
        by_cases h1 : to0 = (b : Int)
        · left; rw [Bool.or_eq_false_iff, decide_eq_false_iff_not, decide_eq_false_iff_not]; omega
        · right
          rw [Bool.or_eq_true, decide_eq_true_eq, decide_eq_true_eq, Bool.or_eq_false_iff, decide_eq_false_iff_not, decide_eq_false_iff_not]
          omega
      have Hor := hid hor
      clear hor
      rcases hq with q0 | ⟨q0, q1⟩
      all_goals
        by_cases hp2 : P.length = 2
        · rw [hp2] at Hahd
          by_cases h0 : P.getD 0 0 = (b : Int)
          · have Hs : Hid (selfF f.blocks b = some 1) := by show _ = _; rw [Hself.out, if_pos ⟨rfl, Hor.out, hp2⟩, if_pos h0]
            have Hp2 := hid hp2
            have H0 := hid h0
            clear hp2 h0
            go_wp2_with (go_at_call 87; rw [← HW.out]; (with_reducible refine Hahd.out.mono ?_); rintro e w2 ⟨a, c, rfl, hv, hb2⟩; obtain ⟨lb, loff, hae, l0⟩ := int_at9 hv (t := 0) (by have := Hp2.out; omega); subst hae; have hl0 : P[0]'(by have := Hp2.out; omega) = (b : Int) := (by have h := H0.out; rw [List.getD_eq_getElem?_getD, List.getElem?_eq_getElem (by have := Hp2.out; omega)] at h; exact h); rw [hl0, Nat.add_zero] at l0; have zl : lb < w2.heap.size := cell_lt l0; have Hb2 := hid hb2; clear hb2 hv hl0)
            go_ret2
            unfold SelfPost
            refine ⟨1, by rw [Hs.out]; rfl, fun q hq => (by rw [Hs.out] at hq; cases hq; rfl), ?_⟩
            exact Hb0.out.trans (Hb2.out.mono Hb0.out.size)
          · have Hs : Hid (selfF f.blocks b = some 0) := by show _ = _; rw [Hself.out, if_pos ⟨rfl, Hor.out, hp2⟩, if_neg h0]
            obtain ⟨p0, hp0⟩ : ∃ p0, p0 = P.getD 0 0 := ⟨_, rfl⟩
            have Hp0 := hid hp0
            rw [← hp0] at h0
            have q2 : (decide (p0 ≤ (b : Int)) && decide ((b : Int) ≤ p0)) = false := eq_no h0
            have Hp2 := hid hp2
            clear hp2 h0 hp0
            go_wp2_with (go_at_call 87; rw [← HW.out]; (with_reducible refine Hahd.out.mono ?_); rintro e w2 ⟨a, c, rfl, hv, hb2⟩; obtain ⟨lb, loff, hae, l0⟩ := int_at9 hv (t := 0) (by have := Hp2.out; omega); subst hae; have hl0 : P[0]'(by have := Hp2.out; omega) = p0 := (by have h := Hp0.out; rw [List.getD_eq_getElem?_getD, List.getElem?_eq_getElem (by have := Hp2.out; omega)] at h; exact h.symm); rw [hl0, Nat.add_zero] at l0; have zl : lb < w2.heap.size := cell_lt l0; have Hb2 := hid hb2; clear hb2 hv hl0)
            go_ret2
            unfold SelfPost
            refine ⟨0, by rw [Hs.out]; rfl, fun q hq => (by rw [Hs.out] at hq; cases hq; rfl), ?_⟩
            exact Hb0.out.trans (Hb2.out.mono Hb0.out.size)
        · have Hs : Hid (selfF f.blocks b = none) := by show _ = _; rw [Hself.out, if_neg (fun h => hp2 h.2.2)]
          obtain ⟨pn, hpn⟩ : ∃ pn, pn = P.length := ⟨_, rfl⟩
          rw [← hpn] at Hahd hp2 hpl
          have q2 : (decide ((pn : Int) < 2) || decide ((2 : Int) < (pn : Int))) = true := by rw [Bool.or_eq_true, decide_eq_true_eq, decide_eq_true_eq]; omega
          clear hpn hp2
          go_wp2_with (go_at_call 87; rw [← HW.out]; (with_reducible refine Hahd.out.mono ?_); rintro e w2 ⟨a, c, rfl, hv, hb2⟩; have Hb2 := hid hb2; clear hb2 hv)
          go_ret2
          unfold SelfPost
          refine ⟨0, by rw [Hs.out]; rfl, fun q hq => (by rw [Hs.out] at hq; cases hq), ?_⟩
          exact Hb0.out.trans (Hb2.out.mono Hb0.out.size)

end Go.Proofs.YtaehkcnankijfaaDoor
