/- UnrollOther: the law's walk. UnrollRoundsSays: the law's walk. -/
import Derived.Test.YtaehkcnankijfaaDoorPUnrL
import Derived.Test.YtaehkcnankijfaaDoorPOnceW
import Derived.Test.YtaehkcnankijfaaDoorPUnrR
import Derived.Test.YtaehkcnankijfaaDoorPWrite
import Derived.Deep.RegionHeld3
namespace Go.Proofs.YtaehkcnankijfaaDoor
open Go.RowKit

theorem roundsOf_neg {u : DUnit} {b n p q : Int} (h : roundsOfF u (-1) b = (n, p, q)) : p ≠ 0 ∧ n = 0 := by
  unfold roundsOfF at h
  by_cases h1 : ssaF u ≠ (0, 0)
  · rw [if_pos h1] at h
    obtain ⟨rfl, rfl, rfl⟩ : 0 = n ∧ (ssaF u).1 = p ∧ (ssaF u).2 = q := by simpa using h
    exact ⟨fun e => h1 (ssaF_code e), rfl⟩
  · rw [if_neg h1] at h
    have e : fnAt u.funcs (-1) = none := rfl
    rw [e] at h
    obtain ⟨rfl, rfl, rfl⟩ : 0 = n ∧ 3 = p ∧ -1 = q := by simpa using h
    exact ⟨by omega, rfl⟩
theorem roundsOf_bad {u : DUnit} {k b n p q : Int} (h : roundsOfF u k b = (n, p, q)) (hp : p ≠ 0) : n = 0 := by
  unfold roundsOfF at h
  by_cases h1 : ssaF u ≠ (0, 0)
  · rw [if_pos h1] at h
    exact (by simpa using h : 0 = n ∧ (ssaF u).1 = p ∧ (ssaF u).2 = q).1.symm
  · rw [if_neg h1] at h
    cases hf : fnAt u.funcs k with
    | none =>
      rw [hf] at h
      exact (by simpa using h : 0 = n ∧ 3 = p ∧ -1 = q).1.symm
    | some f =>
      rw [hf] at h
      dsimp only at h
      by_cases hb : b < 0 ∨ (f.blocks.length : Int) ≤ b
      · rw [if_pos hb] at h
        exact (by simpa using h : 0 = n ∧ 3 = p ∧ -1 = q).1.symm
      · rw [if_neg hb] at h
        exact absurd (by simpa using h : unrF f.blocks b.toNat = n ∧ 0 = p ∧ 0 = q).2.1.symm hp
theorem roundsOf_good {u : DUnit} {k b n q : Int} (h : roundsOfF u k b = (n, 0, q)) : ssaF u = (0, 0) ∧ ∃ (kn bb : Nat) (f : DFunc), k = (kn : Int) ∧ b = (bb : Int) ∧ u.funcs[kn]? = some f ∧ bb < f.blocks.length ∧ n = unrF f.blocks bb ∧ q = 0 := by
  unfold roundsOfF at h
  by_cases h1 : ssaF u ≠ (0, 0)
  · rw [if_pos h1] at h
    exact absurd (ssaF_code (by simpa using h : 0 = n ∧ (ssaF u).1 = 0 ∧ (ssaF u).2 = q).2.1) h1
  · rw [if_neg h1] at h
    refine ⟨Classical.not_not.1 h1, ?_⟩
    cases hf : fnAt u.funcs k with
    | none =>
      rw [hf] at h
      simp at h
    | some f =>
      rw [hf] at h
      dsimp only at h
      by_cases hb : b < 0 ∨ (f.blocks.length : Int) ≤ b
      · rw [if_pos hb] at h
        simp at h
      · rw [if_neg hb] at h
        obtain ⟨kn, rfl, hk⟩ := fnAt_some hf
        obtain ⟨h2, h3⟩ : unrF f.blocks b.toNat = n ∧ 0 = q := by simpa using h
        exact ⟨kn, b.toNat, f, rfl, by omega, hk, by omega, h2.symm, h3.symm⟩
theorem unrF_self {bs : List DBlock} {b : Nat} {x : DBlock} (hx : bs[b]? = some x) (h : ¬ (x.fin.kind = 3 ∧ (x.fin.to.getD 0 0 = (b : Int) ∨ x.fin.to.getD 1 0 = (b : Int)))) : unrF bs b = 0 := by
  unfold unrF selfF
  rw [hx]
  dsimp only
  rw [if_neg (fun e => h ⟨e.1, e.2.1⟩)]

set_option maxRecDepth 100000 in
set_option maxHeartbeats 4000000 in
theorem unrollOther_any (w : World) (hw : Ways w) (ga : Option Addr) (gc : Nat) (fa : Option Addr) (fc : Nat) (gs : List DGlobal) (fs : List DFunc) (hg : SlAt (fun b => b < w.heap.size) w 3 rGlobal (.slice ga gs.length gc) gs) (hf : SlAt (fun b => b < w.heap.size) w 4 rFunc (.slice fa fs.length fc) fs)
    (hsm : Small gs fs) (k : Int) (hk1 : -9223372036854775808 ≤ k) (hk2 : k ≤ 9223372036854775807) (b : Int) (hb1 : -9223372036854775808 ≤ b) (hb2 : b ≤ 9223372036854775807) :
    Calls Tryd.prog 12 #[.agg #[.slice ga gs.length gc, .slice fa fs.length fc], .int .i64 k, .int .i64 b] w fun e w' => e = .returned (.bool true) ∧ Below w.heap.size w w' := by
  have hgl := hsm.globals
  have hfl := hsm.funcs
  have Hsm := hid hsm.many
  have Hg := hid hg
  have Hf := hid hf
  have Hw := hid hw
  clear hg hf hw hsm
  go_enter Tryd.func12, Tryd.ntmps12
  obtain ⟨W, hW⟩ : ∃ W, W = (w.alloc (.cells #[.slice ga gs.length gc, .slice fa fs.length fc] 25)) := ⟨_, rfl⟩
  have hbW : Below w.heap.size w W := by rw [hW]; (repeat (first | exact Below.refl _ _ | refine Below.alloc ?_ (by first | omega | (simp <;> omega)) _ | refine Below.setCell ?_ (by first | omega | (simp <;> omega)) _ | refine below_drewN ?_ _ | refine Below.drew ?_))
  have g0 : W.cell? ⟨w.heap.size, 0, none⟩ = some (.slice ga gs.length gc) := by rw [hW]; simp
  have g1 : W.cell? ⟨w.heap.size, 1, none⟩ = some (.slice fa fs.length fc) := by rw [hW]; simp
  have hWs : W.heap.size = w.heap.size + 1 := by rw [hW]; simp
  go_wp2_with fail
  rw [← hW]
  obtain ⟨UB, hUB⟩ : ∃ UB, UB = w.heap.size := ⟨_, rfl⟩
  rw [← hUB] at g0 g1
  refine (rounds_all (S := fun b => b < w.heap.size) ga gc fa fc gs fs k b W ⟨hk1, hk2⟩ ⟨hb1, hb2⟩ (Hg.out.later rGlobal_mono hbW) (Hf.out.later rFunc_mono hbW) (Ways.below Hw.out hbW) (fun b hb => by omega) hgl hfl Hsm.out).mono ?_
  intro e w1 hpost
  obtain ⟨n1, p1, q1, hr1, rfl, hb3⟩ := (show ∃ n p q : Int, roundsOfF ⟨gs, fs⟩ k b = (n, p, q) ∧ e = .returned (.tuple #[.int .i64 n, .agg #[.int .i64 p, .int .i64 q]]) ∧ Below W.heap.size W w1 from hpost)
  have Hr1 := hid hr1
  have Hw1 : Hid (Below w.heap.size w w1) := hbW.trans (hb3.mono (by omega))
  have g0 := cell_later' g0 hb3
  have g1 := cell_later' g1 hb3
  have z1 : UB < w1.heap.size := cell_lt g0
  clear hr1 hb3 hbW hW hWs hpost
  simp only []
  rw [← hUB]
  clear hUB
  go_wp2_with fail
  obtain ⟨W2, hW2⟩ : ∃ W2, W2 = w1.alloc (.cells #[.int .i64 p1, .int .i64 q1] 28) := ⟨_, rfl⟩
  rw [← hW2]
  have hb4 : Below w1.heap.size w1 W2 := by rw [hW2]; (repeat (first | exact Below.refl _ _ | refine Below.alloc ?_ (by first | omega | (simp <;> omega)) _ | refine Below.setCell ?_ (by first | omega | (simp <;> omega)) _ | refine below_drewN ?_ _ | refine Below.drew ?_))
  have Hw2 : Hid (Below w.heap.size w W2) := Hw1.out.trans (hb4.mono Hw1.out.size)
  have g0 := cell_later' g0 hb4
  have g1 := cell_later' g1 hb4
  have g2 : W2.cell? ⟨w1.heap.size, 0, none⟩ = some (.int .i64 p1) := by rw [hW2]; simp
  obtain ⟨F1, hF1⟩ : ∃ F1, F1 = w1.heap.size := ⟨_, rfl⟩
  rw [← hF1] at g2 ⊢
  clear hb4 hW2 hF1
  refine (rounds_all (S := fun b => b < w.heap.size) ga gc fa fc gs fs (-1) b W2 ⟨by omega, by omega⟩ ⟨hb1, hb2⟩ (Hg.out.later rGlobal_mono Hw2.out) (Hf.out.later rFunc_mono Hw2.out) (Ways.below Hw.out Hw2.out) (fun b hb => by have := Hw2.out.size; omega) hgl hfl Hsm.out).mono ?_
  intro e w3 hpost
  obtain ⟨n2, p2, q2, hr2, rfl, hb5⟩ := (show ∃ n p q : Int, roundsOfF ⟨gs, fs⟩ (-1) b = (n, p, q) ∧ e = .returned (.tuple #[.int .i64 n, .agg #[.int .i64 p, .int .i64 q]]) ∧ Below W2.heap.size W2 w3 from hpost)
  obtain ⟨hp2, -⟩ := roundsOf_neg hr2
  have Hw3 : Hid (Below w.heap.size w w3) := Hw2.out.trans (hb5.mono Hw2.out.size)
  have g0 := cell_later' g0 hb5
  have g1 := cell_later' g1 hb5
  have g2 := cell_later' g2 hb5
  have z3 : UB < w3.heap.size := cell_lt g0
  have y3 : F1 < w3.heap.size := cell_lt g2
  have q0 : (decide (p2 ≤ 0) && decide (0 ≤ p2)) = false := eq_no hp2
  clear hr2 hb5 hpost hp2
  simp only []
  by_cases hp1 : p1 = 0
  case neg =>
    have hn1 := roundsOf_bad Hr1.out hp1
    subst hn1
    have q1' : (decide (p1 < 0) || decide (0 < p1)) = true := ne_yes hp1
    clear hp1
    go_wp2_with fail
    go_ret
    exact ⟨rfl, by have h := Hw3.out; (repeat (first | exact Below.refl _ _ | exact (h).mono (by first | omega | (simp <;> omega) | (have hh := (h).size; (try simp at hh); omega) | (have hh := (h).size; (try simp at hh); (try simp); omega)) | refine Below.trans ?_ ((h).mono (by first | omega | (simp <;> omega) | (have hh := (h).size; (try simp at hh); omega) | (have hh := (h).size; (try simp at hh); (try simp); omega))) | refine Below.alloc ?_ (by first | omega | (simp <;> omega) | (have hh := (h).size; (try simp at hh); omega) | (have hh := (h).size; (try simp at hh); (try simp); omega)) _ | refine Below.setCell ?_ (by first | omega | (simp <;> omega) | (have hh := (h).size; (try simp at hh); omega) | (have hh := (h).size; (try simp at hh); (try simp); omega)) _ | refine below_drewN ?_ _ | refine Below.drew ?_))⟩
  case pos =>
    subst hp1
    obtain ⟨hss, kn, bb, f, rfl, rfl, hkf, hbl, hn1, rfl⟩ := roundsOf_good Hr1.out
    have hkl : kn < fs.length := (List.getElem?_eq_some_iff.1 hkf).1
    have hxe : fs[kn] = f := (List.getElem?_eq_some_iff.1 hkf).2
    have hfn := ssaF_fn hss hkf
    obtain ⟨fb, foff, xa, xc, hfae, hcs, hxb, -, -⟩ := func_at (Hf.out.later rFunc_mono Hw3.out) hkl
    subst hfae
    rw [hxe] at hcs hxb
    obtain ⟨-, -, -, c3⟩ := hcs.get4
    obtain ⟨xb, xoff, pa, pc, la, lc, ta, tc, hbae, hcb, -, -, hts, -, -⟩ := block_at hxb hbl
    subst hbae
    obtain ⟨-, -, d2, d3, d4, d5⟩ := hcb.get6
    obtain ⟨x, hx⟩ : ∃ x, x = f.blocks[bb] := ⟨_, rfl⟩
    rw [← hx] at d2 d3 d4 d5 hts
    have hxg : f.blocks[bb]? = some x := by rw [hx]; exact List.getElem?_eq_getElem hbl
    have hrg := unrF_range f.blocks bb
    have hkd := hfn.1.kind bb x hxg
    have hse := unrF_self (bs := f.blocks) (b := bb) hxg
    rw [← hn1] at hrg hse
    have zf : fb < w3.heap.size := cell_lt c3
    have zx : xb < w3.heap.size := cell_lt d2
    obtain ⟨bn, hbn⟩ : ∃ bn, bn = f.blocks.length := ⟨_, rfl⟩
    rw [← hbn] at hbl c3
    have hbn40 : bn ≤ 40 := by have := hfn.1.len.2; omega
    obtain ⟨tn, htn⟩ : ∃ tn, tn = x.fin.to.length := ⟨_, rfl⟩
    rw [← htn] at d5 hkd
    have hk3 := hkd.2.2.1
    have Hts := hid hts
    obtain ⟨kd, hkde⟩ : ∃ kd, kd = x.fin.kind := ⟨_, rfl⟩
    rw [← hkde] at d2 hk3 hse
    have Htn := hid htn
    obtain ⟨rg, hrge⟩ : ∃ rg, rg = x.fin.on.reg := ⟨_, rfl⟩
    obtain ⟨on, hone⟩ : ∃ on, on = x.fin.on.n := ⟨_, rfl⟩
    rw [← hrge] at d3
    rw [← hone] at d4
    obtain ⟨W4, hW4⟩ : ∃ W4, W4 = w3.alloc (.cells #[.int .i64 p2, .int .i64 q2] 28) := ⟨_, rfl⟩
    have hb6 : Below w3.heap.size w3 W4 := by rw [hW4]; (repeat (first | exact Below.refl _ _ | refine Below.alloc ?_ (by first | omega | (simp <;> omega)) _ | refine Below.setCell ?_ (by first | omega | (simp <;> omega)) _ | refine below_drewN ?_ _ | refine Below.drew ?_))
    have c3 := cell_later' c3 hb6
    have d2 := cell_later' d2 hb6
    have d3 := cell_later' d3 hb6
    have d4 := cell_later' d4 hb6
    have d5 := cell_later' d5 hb6
    have g1 := cell_later' g1 hb6
    have g2 := cell_later' g2 hb6
    have g4 : W4.cell? ⟨w3.heap.size, 0, none⟩ = some (.int .i64 p2) := by rw [hW4]; simp
    have Hw4 : Hid (Below w.heap.size w W4) := Hw3.out.trans (hb6.mono Hw3.out.size)
    have Hts := hid (Hts.out.later rInt_mono hb6)
    have zf : fb < W4.heap.size := cell_lt c3
    have zx : xb < W4.heap.size := cell_lt d2
    have zU : UB < W4.heap.size := cell_lt g1
    have zF : F1 < W4.heap.size := cell_lt g2
    have HW4 := hid hW4
    clear hW4 hb6 hss hkf hxe hfn hcs hxb hcb hts hx hxg hkd hn1 hbn htn hkde hrge hone g0
    go_upto_region 3 with (fail)
    rw [← HW4.out]
    by_cases h3 : kd = 3
    case neg =>
      have hz := hse (fun h => h3 h.1)
      subst hz
      have q2' : (decide (kd ≤ 3) && decide (3 ≤ kd)) = false := eq_no h3
      clear h3 hse hk3
      go_wp2_with fail
      go_ret
      exact ⟨rfl, by have h := Hw4.out; (repeat (first | exact Below.refl _ _ | exact (h).mono (by first | omega | (simp <;> omega) | (have hh := (h).size; (try simp at hh); omega) | (have hh := (h).size; (try simp at hh); (try simp); omega)) | refine Below.trans ?_ ((h).mono (by first | omega | (simp <;> omega) | (have hh := (h).size; (try simp at hh); omega) | (have hh := (h).size; (try simp at hh); (try simp); omega))) | refine Below.alloc ?_ (by first | omega | (simp <;> omega) | (have hh := (h).size; (try simp at hh); omega) | (have hh := (h).size; (try simp at hh); (try simp); omega)) _ | refine Below.setCell ?_ (by first | omega | (simp <;> omega) | (have hh := (h).size; (try simp at hh); omega) | (have hh := (h).size; (try simp at hh); (try simp); omega)) _ | refine below_drewN ?_ _ | refine Below.drew ?_))⟩
    case pos =>
      subst h3
      have ht2 : tn = 2 := by omega
      subst ht2
      obtain ⟨tb, toff, htae, t0⟩ := int_at9 Hts.out (t := 0) (by have := Htn.out; omega)
      obtain ⟨tb', toff', htae', t1⟩ := int_at9 Hts.out (t := 1) (by have := Htn.out; omega)
      subst htae
      cases htae'
      obtain ⟨to0, hto0⟩ : ∃ to0, to0 = x.fin.to[0]'(by have := Htn.out; omega) := ⟨_, rfl⟩
      obtain ⟨to1, hto1⟩ : ∃ to1, to1 = x.fin.to[1]'(by have := Htn.out; omega) := ⟨_, rfl⟩
      have e0 : x.fin.to.getD 0 0 = to0 := by rw [List.getD_eq_getElem?_getD, List.getElem?_eq_getElem (by have := Htn.out; omega), hto0]; rfl
      have e1 : x.fin.to.getD 1 0 = to1 := by rw [List.getD_eq_getElem?_getD, List.getElem?_eq_getElem (by have := Htn.out; omega), hto1]; rfl
      rw [← hto0, Nat.add_zero] at t0
      rw [← hto1] at t1
      rw [e0, e1] at hse
      have ztb : tb < W4.heap.size := cell_lt t0
      clear hto0 hto1 e0 e1 hk3
      by_cases h0 : to0 = (bb : Int)
      · have q2' : (decide (to0 ≤ (bb : Int)) && decide ((bb : Int) ≤ to0)) = true := eq_yes h0
        clear hse h0
        go_wp2_with fail
        go_ret
        exact ⟨rfl, by have h := Hw4.out; (repeat (first | exact Below.refl _ _ | exact (h).mono (by first | omega | (simp <;> omega) | (have hh := (h).size; (try simp at hh); omega) | (have hh := (h).size; (try simp at hh); (try simp); omega)) | refine Below.trans ?_ ((h).mono (by first | omega | (simp <;> omega) | (have hh := (h).size; (try simp at hh); omega) | (have hh := (h).size; (try simp at hh); (try simp); omega))) | refine Below.alloc ?_ (by first | omega | (simp <;> omega) | (have hh := (h).size; (try simp at hh); omega) | (have hh := (h).size; (try simp at hh); (try simp); omega)) _ | refine Below.setCell ?_ (by first | omega | (simp <;> omega) | (have hh := (h).size; (try simp at hh); omega) | (have hh := (h).size; (try simp at hh); (try simp); omega)) _ | refine below_drewN ?_ _ | refine Below.drew ?_))⟩
      · have q2' : (decide (to0 ≤ (bb : Int)) && decide ((bb : Int) ≤ to0)) = false := eq_no h0
        by_cases h1 : to1 = (bb : Int)
        · have q3' : (decide (to1 ≤ (bb : Int)) && decide ((bb : Int) ≤ to1)) = true := eq_yes h1
          clear hse h0 h1
          go_wp2_with fail
          go_ret
          exact ⟨rfl, by have h := Hw4.out; (repeat (first | exact Below.refl _ _ | exact (h).mono (by first | omega | (simp <;> omega) | (have hh := (h).size; (try simp at hh); omega) | (have hh := (h).size; (try simp at hh); (try simp); omega)) | refine Below.trans ?_ ((h).mono (by first | omega | (simp <;> omega) | (have hh := (h).size; (try simp at hh); omega) | (have hh := (h).size; (try simp at hh); (try simp); omega))) | refine Below.alloc ?_ (by first | omega | (simp <;> omega) | (have hh := (h).size; (try simp at hh); omega) | (have hh := (h).size; (try simp at hh); (try simp); omega)) _ | refine Below.setCell ?_ (by first | omega | (simp <;> omega) | (have hh := (h).size; (try simp at hh); omega) | (have hh := (h).size; (try simp at hh); (try simp); omega)) _ | refine below_drewN ?_ _ | refine Below.drew ?_))⟩
        · have hz := hse (fun h => h.2.elim h0 h1)
          subst hz
          have q3' : (decide (to1 ≤ (bb : Int)) && decide ((bb : Int) ≤ to1)) = false := eq_no h1
          clear hse h0 h1
          go_wp2_with fail
          go_ret
          exact ⟨rfl, by have h := Hw4.out; (repeat (first | exact Below.refl _ _ | exact (h).mono (by first | omega | (simp <;> omega) | (have hh := (h).size; (try simp at hh); omega) | (have hh := (h).size; (try simp at hh); (try simp); omega)) | refine Below.trans ?_ ((h).mono (by first | omega | (simp <;> omega) | (have hh := (h).size; (try simp at hh); omega) | (have hh := (h).size; (try simp at hh); (try simp); omega))) | refine Below.alloc ?_ (by first | omega | (simp <;> omega) | (have hh := (h).size; (try simp at hh); omega) | (have hh := (h).size; (try simp at hh); (try simp); omega)) _ | refine Below.setCell ?_ (by first | omega | (simp <;> omega) | (have hh := (h).size; (try simp at hh); omega) | (have hh := (h).size; (try simp at hh); (try simp); omega)) _ | refine below_drewN ?_ _ | refine Below.drew ?_))⟩

end Go.Proofs.YtaehkcnankijfaaDoor

namespace Go.Proofs.YtaehkcnankijfaaDoor
open Go.RowKit

theorem roundsOf_ssa {u : DUnit} {k b c d n p q : Int} (h : ssaF u = (c, d)) (hn : ¬ (c = 0 ∧ d = 0)) (hr : roundsOfF u k b = (n, p, q)) : n = 0 ∧ p = c ∧ q = d := by
  unfold roundsOfF at hr
  rw [h, if_pos (fun e => hn (by simpa using e))] at hr
  obtain ⟨rfl, rfl, rfl⟩ : 0 = n ∧ c = p ∧ d = q := by simpa using hr
  exact ⟨rfl, rfl, rfl⟩
theorem roundsOf_negz {u : DUnit} {b n p q : Int} (h : ssaF u = (0, 0)) (hr : roundsOfF u (-1) b = (n, p, q)) : n = 0 ∧ p = 3 ∧ q = -1 := by
  unfold roundsOfF at hr
  rw [h, if_neg (by simp)] at hr
  have e : fnAt u.funcs (-1) = none := rfl
  rw [e] at hr
  obtain ⟨rfl, rfl, rfl⟩ : 0 = n ∧ 3 = p ∧ -1 = q := by simpa using hr
  exact ⟨rfl, rfl, rfl⟩
/-- What unroll.Rounds tells of a unit in static single assignment. -/
theorem roundsOf_ways {u : DUnit} {k b n p q : Int} (h : ssaF u = (0, 0)) (hr : roundsOfF u k b = (n, p, q)) :
    ((k < 0 ∨ (u.funcs.length : Int) ≤ k ∨ ∃ (kn : Nat) (f : DFunc), k = (kn : Int) ∧ u.funcs[kn]? = some f ∧ (b < 0 ∨ (f.blocks.length : Int) ≤ b)) ∧ n = 0 ∧ p = 3 ∧ q = -1) ∨
    ∃ (kn bb : Nat) (f : DFunc), k = (kn : Int) ∧ b = (bb : Int) ∧ u.funcs[kn]? = some f ∧ bb < f.blocks.length ∧ n = unrF f.blocks bb ∧ p = 0 ∧ q = 0 := by
  unfold roundsOfF at hr
  rw [h, if_neg (by simp)] at hr
  cases hf : fnAt u.funcs k with
  | none =>
    rw [hf] at hr
    obtain ⟨rfl, rfl, rfl⟩ : 0 = n ∧ 3 = p ∧ -1 = q := by simpa using hr
    exact .inl ⟨(fnAt_none hf).imp id .inl, rfl, rfl, rfl⟩
  | some f =>
    obtain ⟨kn, rfl, hk⟩ := fnAt_some hf
    rw [hf] at hr
    dsimp only at hr
    by_cases hb : b < 0 ∨ (f.blocks.length : Int) ≤ b
    · rw [if_pos hb] at hr
      obtain ⟨rfl, rfl, rfl⟩ : 0 = n ∧ 3 = p ∧ -1 = q := by simpa using hr
      exact .inl ⟨.inr (.inr ⟨kn, f, rfl, hk, hb⟩), rfl, rfl, rfl⟩
    · rw [if_neg hb] at hr
      obtain ⟨h2, h3, h4⟩ : unrF f.blocks b.toNat = n ∧ 0 = p ∧ 0 = q := by simpa using hr
      exact .inr ⟨kn, b.toNat, f, rfl, by omega, hk, by omega, h2.symm, h3.symm, h4.symm⟩

set_option maxRecDepth 100000 in
set_option maxHeartbeats 4000000 in
theorem unrollRoundsSays_any (w : World) (hw : Ways w) (ga : Option Addr) (gc : Nat) (fa : Option Addr) (fc : Nat) (gs : List DGlobal) (fs : List DFunc) (hg : SlAt (fun b => b < w.heap.size) w 3 rGlobal (.slice ga gs.length gc) gs) (hf : SlAt (fun b => b < w.heap.size) w 4 rFunc (.slice fa fs.length fc) fs)
    (hsm : Small gs fs) (k : Int) (hk1 : -9223372036854775808 ≤ k) (hk2 : k ≤ 9223372036854775807) (b : Int) (hb1 : -9223372036854775808 ≤ b) (hb2 : b ≤ 9223372036854775807) :
    Calls Tryd.prog 11 #[.agg #[.slice ga gs.length gc, .slice fa fs.length fc], .int .i64 k, .int .i64 b] w fun e w' => e = .returned (.bool true) ∧ Below w.heap.size w w' := by
  have hgl := hsm.globals
  have hfl := hsm.funcs
  have Hsm := hid hsm.many
  have Hg := hid hg
  have Hf := hid hf
  have Hw := hid hw
  clear hg hf hw hsm
  go_enter Tryd.func11, Tryd.ntmps11
  obtain ⟨W, hW⟩ : ∃ W, W = (w.alloc (.cells #[.slice ga gs.length gc, .slice fa fs.length fc] 25)) := ⟨_, rfl⟩
  have hbW : Below w.heap.size w W := by rw [hW]; (repeat (first | exact Below.refl _ _ | refine Below.alloc ?_ (by first | omega | (simp <;> omega)) _ | refine Below.setCell ?_ (by first | omega | (simp <;> omega)) _ | refine below_drewN ?_ _ | refine Below.drew ?_))
  have g0 : W.cell? ⟨w.heap.size, 0, none⟩ = some (.slice ga gs.length gc) := by rw [hW]; simp
  have g1 : W.cell? ⟨w.heap.size, 1, none⟩ = some (.slice fa fs.length fc) := by rw [hW]; simp
  have hWs : W.heap.size = w.heap.size + 1 := by rw [hW]; simp
  go_wp2_with fail
  rw [← hW]
  obtain ⟨UB, hUB⟩ : ∃ UB, UB = w.heap.size := ⟨_, rfl⟩
  rw [← hUB] at g0 g1
  refine (rounds_all (S := fun b => b < w.heap.size) ga gc fa fc gs fs k b W ⟨hk1, hk2⟩ ⟨hb1, hb2⟩ (Hg.out.later rGlobal_mono hbW) (Hf.out.later rFunc_mono hbW) (Ways.below Hw.out hbW) (fun b hb => by omega) hgl hfl Hsm.out).mono ?_
  intro e w1 hpost
  obtain ⟨n1, p1, q1, hr1, rfl, hb3⟩ := (show ∃ n p q : Int, roundsOfF ⟨gs, fs⟩ k b = (n, p, q) ∧ e = .returned (.tuple #[.int .i64 n, .agg #[.int .i64 p, .int .i64 q]]) ∧ Below W.heap.size W w1 from hpost)
  have Hr1 := hid hr1
  have Hw1 : Hid (Below w.heap.size w w1) := hbW.trans (hb3.mono (by omega))
  have g0 := cell_later' g0 hb3
  have g1 := cell_later' g1 hb3
  have z1 : UB < w1.heap.size := cell_lt g0
  clear hr1 hb3 hbW hW hWs hpost
  simp only []
  rw [← hUB]
  clear hUB
  go_wp2_with fail
  obtain ⟨W2, hW2⟩ : ∃ W2, W2 = w1.alloc (.cells #[.int .i64 p1, .int .i64 q1] 28) := ⟨_, rfl⟩
  rw [← hW2]
  have hb4 : Below w1.heap.size w1 W2 := by rw [hW2]; (repeat (first | exact Below.refl _ _ | refine Below.alloc ?_ (by first | omega | (simp <;> omega)) _ | refine Below.setCell ?_ (by first | omega | (simp <;> omega)) _ | refine below_drewN ?_ _ | refine Below.drew ?_))
  have Hw2 : Hid (Below w.heap.size w W2) := Hw1.out.trans (hb4.mono Hw1.out.size)
  have g0 := cell_later' g0 hb4
  have g1 := cell_later' g1 hb4
  have g2 : W2.cell? ⟨w1.heap.size, 0, none⟩ = some (.int .i64 p1) := by rw [hW2]; simp
  have g3 : W2.cell? ⟨w1.heap.size, 1, none⟩ = some (.int .i64 q1) := by rw [hW2]; simp
  obtain ⟨F1, hF1⟩ : ∃ F1, F1 = w1.heap.size := ⟨_, rfl⟩
  rw [← hF1] at g2 g3 ⊢
  clear hb4 hW2 hF1
  refine (rounds_all (S := fun b => b < w.heap.size) ga gc fa fc gs fs (-1) b W2 ⟨by omega, by omega⟩ ⟨hb1, hb2⟩ (Hg.out.later rGlobal_mono Hw2.out) (Hf.out.later rFunc_mono Hw2.out) (Ways.below Hw.out Hw2.out) (fun b hb => by have := Hw2.out.size; omega) hgl hfl Hsm.out).mono ?_
  intro e w3 hpost
  obtain ⟨n2, p2, q2, hr2, rfl, hb5⟩ := (show ∃ n p q : Int, roundsOfF ⟨gs, fs⟩ (-1) b = (n, p, q) ∧ e = .returned (.tuple #[.int .i64 n, .agg #[.int .i64 p, .int .i64 q]]) ∧ Below W2.heap.size W2 w3 from hpost)
  have Hr2 := hid hr2
  have Hw3 : Hid (Below w.heap.size w w3) := Hw2.out.trans (hb5.mono Hw2.out.size)
  have g0 := cell_later' g0 hb5
  have g1 := cell_later' g1 hb5
  have g2 := cell_later' g2 hb5
  have g3 := cell_later' g3 hb5
  have z3 : UB < w3.heap.size := cell_lt g0
  clear hr2 hb5 hpost
  simp only []
  go_wp2_with fail
  obtain ⟨W4, hW4⟩ : ∃ W4, W4 = w3.alloc (.cells #[.int .i64 p2, .int .i64 q2] 28) := ⟨_, rfl⟩
  rw [← hW4]
  have hb4 : Below w3.heap.size w3 W4 := by rw [hW4]; (repeat (first | exact Below.refl _ _ | refine Below.alloc ?_ (by first | omega | (simp <;> omega)) _ | refine Below.setCell ?_ (by first | omega | (simp <;> omega)) _ | refine below_drewN ?_ _ | refine Below.drew ?_))
  have Hw4 : Hid (Below w.heap.size w W4) := Hw3.out.trans (hb4.mono Hw3.out.size)
  have g0 := cell_later' g0 hb4
  have g1 := cell_later' g1 hb4
  have g2 := cell_later' g2 hb4
  have g3 := cell_later' g3 hb4
  have g4 : W4.cell? ⟨w3.heap.size, 0, none⟩ = some (.int .i64 p2) := by rw [hW4]; simp
  have g5 : W4.cell? ⟨w3.heap.size, 1, none⟩ = some (.int .i64 q2) := by rw [hW4]; simp
  obtain ⟨F2, hF2⟩ : ∃ F2, F2 = w3.heap.size := ⟨_, rfl⟩
  rw [← hF2] at g4 g5 ⊢
  clear hb4 hW4 hF2
  refine (ssaCheck_any (S := fun b => b < w.heap.size) ga gc fa fc gs fs W4 (Hg.out.later rGlobal_mono Hw4.out) (Hf.out.later rFunc_mono Hw4.out) (Ways.below Hw.out Hw4.out) (fun b hb => by have := Hw4.out.size; omega) hgl hfl Hsm.out).mono ?_
  rintro e w5 ⟨rfl, hb5⟩
  have Hw5 : Hid (Below w.heap.size w w5) := Hw4.out.trans (hb5.mono Hw4.out.size)
  have g0 := cell_later' g0 hb5
  have g1 := cell_later' g1 hb5
  have g2 := cell_later' g2 hb5
  have g3 := cell_later' g3 hb5
  have g4 := cell_later' g4 hb5
  have g5 := cell_later' g5 hb5
  have z5 : UB < w5.heap.size := cell_lt g0
  have y5 : F1 < w5.heap.size := cell_lt g2
  have x5 : F2 < w5.heap.size := cell_lt g4
  obtain ⟨c, hc⟩ : ∃ c, c = (ssaF ⟨gs, fs⟩).1 := ⟨_, rfl⟩
  obtain ⟨d, hd⟩ : ∃ d, d = (ssaF ⟨gs, fs⟩).2 := ⟨_, rfl⟩
  have Hcd : Hid (ssaF ⟨gs, fs⟩ = (c, d)) := by show _ = _; rw [hc, hd]
  rw [← hc, ← hd]
  clear hb5 hc hd
  by_cases hc0 : c = 0
  · subst hc0
    have hd0 : d = 0 := by
      have h := ssaF_code (u := ⟨gs, fs⟩) (by rw [Hcd.out])
      rw [Hcd.out] at h
      exact congrArg Prod.snd h
    subst hd0
    obtain ⟨rfl, rfl, rfl⟩ := roundsOf_negz Hcd.out Hr2.out
    go_wp2_with fail
    obtain ⟨W5, hW5⟩ : ∃ W5, W5 = w5.alloc (.cells #[.int .i64 0, .int .i64 0] 28) := ⟨_, rfl⟩
    rw [← hW5]
    have hb6 : Below w5.heap.size w5 W5 := by rw [hW5]; (repeat (first | exact Below.refl _ _ | refine Below.alloc ?_ (by first | omega | (simp <;> omega)) _ | refine Below.setCell ?_ (by first | omega | (simp <;> omega)) _ | refine below_drewN ?_ _ | refine Below.drew ?_))
    have g0 := cell_later' g0 hb6
    have g1 := cell_later' g1 hb6
    have g2 := cell_later' g2 hb6
    have g3 := cell_later' g3 hb6
    have m4 := cell_later' g4 hb6
    have m5 := cell_later' g5 hb6
    have Hw5 : Hid (Below w.heap.size w W5) := Hw5.out.trans (hb6.mono Hw5.out.size)
    have HS4 : Hid (∀ w', Below W5.heap.size W5 w' → w'.cell? ⟨F2, 0, none⟩ = some (.int .i64 3) ∧ w'.cell? ⟨F2, 1, none⟩ = some (.int .i64 (-1))) := fun w' h => ⟨cell_later' m4 h, cell_later' m5 h⟩
    clear hW5 hb6 g4 g5 m4 m5 z5 y5 x5
    go_region_held3 (fun w' => w'.cell? ⟨F2, 0, none⟩ = some (.int .i64 3) ∧ w'.cell? ⟨F2, 1, none⟩ = some (.int .i64 (-1)))
      (exact HS4.out _ (by first | exact (Below.refl _ _).drew | exact hF9))
      ((first | (go_at_call 17; refine (sfault_any _ _ W5.drew).mono ?_; rintro e w9 ⟨rfl, hb9⟩; have hF9 : Below W5.heap.size W5 w9 := (Below.refl W5.heap.size W5).drew.trans hb9)))
    have HF9 := hid hF9
    obtain ⟨g4, g5⟩ := HS4.out _ hF9
    have g0 := cell_later' g0 hF9
    have g1 := cell_later' g1 hF9
    have g2 := cell_later' g2 hF9
    have g3 := cell_later' g3 hF9
    have Hw5 : Hid (Below w.heap.size w w9) := Hw5.out.trans (hF9.mono Hw5.out.size)
    have z5 : UB < w9.heap.size := cell_lt g0
    have y5 : F1 < w9.heap.size := cell_lt g2
    have x5 : F2 < w9.heap.size := cell_lt g4
    clear hF9 hb9
    rcases roundsOf_ways Hcd.out Hr1.out with ⟨hbad, rfl, rfl, rfl⟩ | ⟨kn, bb, f, rfl, rfl, hkf, hbl, hn1, rfl, rfl⟩
    · rcases hbad with hk0 | hk0 | ⟨kn, f, rfl, hkf, hb0⟩
      · have hq : decide (k < 0) = true := decide_eq_true hk0
        go_wp2_with fail
        go_ret
        exact ⟨rfl, by have h := Hw5.out; (repeat (first | exact Below.refl _ _ | exact (h).mono (by first | omega | (simp <;> omega) | (have hh := (h).size; (try simp at hh); omega) | (have hh := (h).size; (try simp at hh); (try simp); omega)) | refine Below.trans ?_ ((h).mono (by first | omega | (simp <;> omega) | (have hh := (h).size; (try simp at hh); omega) | (have hh := (h).size; (try simp at hh); (try simp); omega))) | refine Below.alloc ?_ (by first | omega | (simp <;> omega) | (have hh := (h).size; (try simp at hh); omega) | (have hh := (h).size; (try simp at hh); (try simp); omega)) _ | refine Below.setCell ?_ (by first | omega | (simp <;> omega) | (have hh := (h).size; (try simp at hh); omega) | (have hh := (h).size; (try simp at hh); (try simp); omega)) _ | refine below_drewN ?_ _ | refine Below.drew ?_))⟩
      · have hq : decide (k < 0) = false := decide_eq_false (by omega)
        have hq2 : decide ((fs.length : Int) ≤ k) = true := decide_eq_true hk0
        go_wp2_with fail
        go_ret
        exact ⟨rfl, by have h := Hw5.out; (repeat (first | exact Below.refl _ _ | exact (h).mono (by first | omega | (simp <;> omega) | (have hh := (h).size; (try simp at hh); omega) | (have hh := (h).size; (try simp at hh); (try simp); omega)) | refine Below.trans ?_ ((h).mono (by first | omega | (simp <;> omega) | (have hh := (h).size; (try simp at hh); omega) | (have hh := (h).size; (try simp at hh); (try simp); omega))) | refine Below.alloc ?_ (by first | omega | (simp <;> omega) | (have hh := (h).size; (try simp at hh); omega) | (have hh := (h).size; (try simp at hh); (try simp); omega)) _ | refine Below.setCell ?_ (by first | omega | (simp <;> omega) | (have hh := (h).size; (try simp at hh); omega) | (have hh := (h).size; (try simp at hh); (try simp); omega)) _ | refine below_drewN ?_ _ | refine Below.drew ?_))⟩
      · have hkl : kn < fs.length := (List.getElem?_eq_some_iff.1 hkf).1
        have hxe : fs[kn] = f := (List.getElem?_eq_some_iff.1 hkf).2
        have hfn := (ssaF_fn Hcd.out hkf).1.len
        obtain ⟨fb, foff, xa, xc, rfl, hcs, hxb, -, -⟩ := func_at (Hf.out.later rFunc_mono Hw5.out) hkl
        obtain ⟨-, -, -, c3⟩ := hcs.get4
        rw [hxe] at c3
        have zf : fb < w9.heap.size := cell_lt c3
        obtain ⟨bn, hbn⟩ : ∃ bn, bn = f.blocks.length := ⟨_, rfl⟩
        rw [← hbn] at c3 hb0 hfn
        clear hcs hxb hxe hkf hbn
        by_cases hb1' : b < 0
        · have hq : decide (b < 0) = true := decide_eq_true hb1'
          go_wp2_with fail
          go_ret
          exact ⟨rfl, by have h := Hw5.out; (repeat (first | exact Below.refl _ _ | exact (h).mono (by first | omega | (simp <;> omega) | (have hh := (h).size; (try simp at hh); omega) | (have hh := (h).size; (try simp at hh); (try simp); omega)) | refine Below.trans ?_ ((h).mono (by first | omega | (simp <;> omega) | (have hh := (h).size; (try simp at hh); omega) | (have hh := (h).size; (try simp at hh); (try simp); omega))) | refine Below.alloc ?_ (by first | omega | (simp <;> omega) | (have hh := (h).size; (try simp at hh); omega) | (have hh := (h).size; (try simp at hh); (try simp); omega)) _ | refine Below.setCell ?_ (by first | omega | (simp <;> omega) | (have hh := (h).size; (try simp at hh); omega) | (have hh := (h).size; (try simp at hh); (try simp); omega)) _ | refine below_drewN ?_ _ | refine Below.drew ?_))⟩
        · have hq : decide (b < 0) = false := decide_eq_false hb1'
          have hq2 : decide ((bn : Int) ≤ b) = true := decide_eq_true (by omega)
          go_wp2_with fail
          go_ret
          exact ⟨rfl, by have h := Hw5.out; (repeat (first | exact Below.refl _ _ | exact (h).mono (by first | omega | (simp <;> omega) | (have hh := (h).size; (try simp at hh); omega) | (have hh := (h).size; (try simp at hh); (try simp); omega)) | refine Below.trans ?_ ((h).mono (by first | omega | (simp <;> omega) | (have hh := (h).size; (try simp at hh); omega) | (have hh := (h).size; (try simp at hh); (try simp); omega))) | refine Below.alloc ?_ (by first | omega | (simp <;> omega) | (have hh := (h).size; (try simp at hh); omega) | (have hh := (h).size; (try simp at hh); (try simp); omega)) _ | refine Below.setCell ?_ (by first | omega | (simp <;> omega) | (have hh := (h).size; (try simp at hh); omega) | (have hh := (h).size; (try simp at hh); (try simp); omega)) _ | refine below_drewN ?_ _ | refine Below.drew ?_))⟩
    · have hkl : kn < fs.length := (List.getElem?_eq_some_iff.1 hkf).1
      have hxe : fs[kn] = f := (List.getElem?_eq_some_iff.1 hkf).2
      have hfn := ssaF_fn Hcd.out hkf
      obtain ⟨fb, foff, xa, xc, rfl, hcs, hxb, -, -⟩ := func_at (Hf.out.later rFunc_mono Hw5.out) hkl
      obtain ⟨c0, c1, c2, c3⟩ := hcs.get4
      rw [hxe] at c0 c1 c2 c3 hxb
      have zf : fb < w9.heap.size := cell_lt c3
      have hbl40 := hfn.1.len.2
      have href := unrRounds_any (S := fun b => b < w.heap.size) f.name xa xc f bb w9 hfn.1 hfn.2 hbl hxb (fun b hb => by have := Hw5.out.size; omega)
      obtain ⟨bn, hbn⟩ : ∃ bn, bn = f.blocks.length := ⟨_, rfl⟩
      rw [← hbn] at c3 hbl hbl40 href
      rw [← hn1] at href
      have Href := hid href
      clear hcs hxb hxe hkf hbn href hn1 hfn
      go_wp2_with (go_at_call 33; (with_reducible refine Href.out.mono ?_); rintro e wE ⟨rfl, hbE⟩; have HbE := hid hbE; clear hbE)
      go_ret
      exact ⟨rfl, Hw5.out.trans (HbE.out.mono Hw5.out.size)⟩
  · have hq : (decide (c < 0) || decide (0 < c)) = true := by rw [Bool.eq_iff_iff]; simp; omega
    obtain ⟨rfl, rfl, rfl⟩ := roundsOf_ssa Hcd.out (fun h => hc0 h.1) Hr1.out
    obtain ⟨rfl, rfl, rfl⟩ := roundsOf_ssa Hcd.out (fun h => hc0 h.1) Hr2.out
    go_wp2_with fail
    go_ret
    exact ⟨rfl, by have h := Hw5.out; (repeat (first | exact Below.refl _ _ | exact (h).mono (by first | omega | (simp <;> omega) | (have hh := (h).size; (try simp at hh); omega) | (have hh := (h).size; (try simp at hh); (try simp); omega)) | refine Below.trans ?_ ((h).mono (by first | omega | (simp <;> omega) | (have hh := (h).size; (try simp at hh); omega) | (have hh := (h).size; (try simp at hh); (try simp); omega))) | refine Below.alloc ?_ (by first | omega | (simp <;> omega) | (have hh := (h).size; (try simp at hh); omega) | (have hh := (h).size; (try simp at hh); (try simp); omega)) _ | refine Below.setCell ?_ (by first | omega | (simp <;> omega) | (have hh := (h).size; (try simp at hh); omega) | (have hh := (h).size; (try simp at hh); (try simp); omega)) _ | refine below_drewN ?_ _ | refine Below.drew ?_))⟩

end Go.Proofs.YtaehkcnankijfaaDoor
