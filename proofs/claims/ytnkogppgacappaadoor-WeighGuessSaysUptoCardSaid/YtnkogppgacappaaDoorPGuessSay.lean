/- WeighGuessSays: the law's walk, and its row and card: where what it reads is of bulk at most 1048576, the law answers true for every input, and each argument reads behind the call as before. Its listed variable is code.ways, as the program's text lays it. -/
import Derived.Test.YtnkogppgacappaaDoorPRefGuess
import Derived.Test.YtnkogppgacappaaDoorPHotW
namespace Go.Proofs.YtnkogppgacappaaDoor
open Go.RowKit

set_option maxRecDepth 100000 in
set_option maxHeartbeats 4000000 in
theorem weighGuessSays_any (w : World) (hw : Ways w) (ga : Option Addr) (gc : Nat) (fa : Option Addr) (fc : Nat) (gs : List DGlobal) (fs : List DFunc) (hg : SlAt (fun b => b < w.heap.size) w 3 rGlobal (.slice ga gs.length gc) gs) (hf : SlAt (fun b => b < w.heap.size) w 4 rFunc (.slice fa fs.length fc) fs)
    (hsm : Small gs fs) (k : Int) (hk1 : -9223372036854775808 ≤ k) (hk2 : k ≤ 9223372036854775807) :
    Calls Tryd.prog 3 #[.agg #[.slice ga gs.length gc, .slice fa fs.length fc], .int .i64 k] w fun e w' => e = .returned (.bool true) ∧ Below w.heap.size w w' := by
  have hgl := hsm.globals
  have hfl := hsm.funcs
  have hsmm := hsm.many
  have HG : Hid (∀ V, Below w.heap.size w V → ∀ k, I64 k → Calls Tryd.prog 5 #[.agg #[.slice ga gs.length gc, .slice fa fs.length fc], .int .i64 k] V fun e w' => GuessPost ⟨gs, fs⟩ k V e w') := fun V hV k hk =>
    guess_any (S := fun b => b < w.heap.size) ga gc fa fc gs fs k V hk (hg.later rGlobal_mono hV) (hf.later rFunc_mono hV) (Ways.below hw hV) (fun b hb => Nat.lt_of_lt_of_le hb hV.size) hgl hfl hsmm
  have HD : Hid (∀ V, Below w.heap.size w V → Calls Tryd.prog 6 #[.agg #[.slice ga gs.length gc, .slice fa fs.length fc], .int .i64 k] V fun e w' => DeepPost ⟨gs, fs⟩ k V e w') := fun V hV =>
    deep_any (S := fun b => b < w.heap.size) ga gc fa fc gs fs k V ⟨hk1, hk2⟩ (hg.later rGlobal_mono hV) (hf.later rFunc_mono hV) (Ways.below hw hV) (fun b hb => Nat.lt_of_lt_of_le hb hV.size) hgl hfl hsmm
  have hno : (funcF ⟨gs, fs⟩ (-1)).1 = none := by
    unfold funcF
    split
    · rfl
    · rw [show fnOf fs (-1) = none from rfl]
  obtain ⟨m, hm⟩ : ∃ m, m = (funcF ⟨gs, fs⟩ (-1)).2.1 := ⟨_, rfl⟩
  obtain ⟨l, hl⟩ : ∃ l, l = (funcF ⟨gs, fs⟩ (-1)).2.2 := ⟨_, rfl⟩
  have hm0 : m ≠ 0 := by rw [hm]; exact funcF_none hno
  have HN : Hid (∀ V, Below w.heap.size w V → Calls Tryd.prog 5 #[.agg #[.slice ga gs.length gc, .slice fa fs.length fc], .int .i64 (-1)] V fun e w' => e = .returned (.tuple #[.slice none 0 0, .agg #[.int .i64 m, .int .i64 l]]) ∧ Below V.heap.size V w') := fun V hV =>
    (HG.out V hV (-1) (by unfold I64; omega)).mono fun e w' hp => ⟨by rw [hm, hl]; exact hp.2.2 hno, hp.1⟩
  have hqm : (decide (m ≤ 0) && decide (0 ≤ m)) = false := eq_no hm0
  have Hf := hid hf
  clear hg hf hw hsm hsmm hno hm hl hm0
  go_enter Tryd.func3, Tryd.ntmps3
  obtain ⟨W, hW⟩ : ∃ W, W = (w.alloc (.cells #[.slice ga gs.length gc, .slice fa fs.length fc] 25)) := ⟨_, rfl⟩
  have hbW : Below w.heap.size w W := by rw [hW]; (repeat (first | exact Below.refl _ _ | refine Below.alloc ?_ (by first | omega | (simp <;> omega)) _ | refine Below.setCell ?_ (by first | omega | (simp <;> omega)) _ | refine below_drewN ?_ _ | refine Below.drew ?_))
  have h0 : W.heap[w.heap.size]? = some (.cells #[.slice ga gs.length gc, .slice fa fs.length fc] 25 (0, 0)) := by rw [hW]; exact heap_alloc_new _ _
  go_upto_region 1 with (fail)
  rw [← hW]
  obtain ⟨UB, hUB⟩ : ∃ UB, UB = w.heap.size := ⟨_, rfl⟩
  rw [← hUB] at h0 ⊢
  have H0 : Hid (∀ V, Below W.heap.size W V → Below w.heap.size w V ∧ V.cell? ⟨UB, 0, none⟩ = some (.slice ga gs.length gc) ∧ V.cell? ⟨UB, 1, none⟩ = some (.slice fa fs.length fc)) := fun V hV => by
    have h1 := (hV.block UB (Array.getElem?_eq_some_iff.1 h0).1).trans h0
    obtain ⟨c0, c1⟩ := (cells_of (cs := [_, _]) h1).get2
    rw [Nat.zero_add] at c1
    exact ⟨hbW.trans (hV.mono hbW.size), c0, c1⟩
  obtain ⟨-, c0, c1⟩ := H0.out W (Below.refl _ _)
  have zB : UB < W.heap.size := cell_lt c0
  have HbW := hid hbW
  clear hW hUB h0 hbW
  cases hfo : (funcF ⟨gs, fs⟩ k).1 with
  | none =>
    obtain ⟨c, hc⟩ : ∃ c, c = (funcF ⟨gs, fs⟩ k).2.1 := ⟨_, rfl⟩
    obtain ⟨d, hd⟩ : ∃ d, d = (funcF ⟨gs, fs⟩ k).2.2 := ⟨_, rfl⟩
    have hc0 : c ≠ 0 := by rw [hc]; exact funcF_none hfo
    have hq : (decide (c < 0) || decide (0 < c)) = true := ne_yes hc0
    have HG1 : Hid (∀ V, Below w.heap.size w V → Calls Tryd.prog 5 #[.agg #[.slice ga gs.length gc, .slice fa fs.length fc], .int .i64 k] V fun e w' => e = .returned (.tuple #[.slice none 0 0, .agg #[.int .i64 c, .int .i64 d]]) ∧ Below V.heap.size V w') := fun V hV =>
      (HG.out V hV k ⟨hk1, hk2⟩).mono fun e w' hp => ⟨by rw [hc, hd]; exact hp.2.2 hfo, hp.1⟩
    have HD1 : Hid (∀ V, Below w.heap.size w V → Calls Tryd.prog 6 #[.agg #[.slice ga gs.length gc, .slice fa fs.length fc], .int .i64 k] V fun e w' => e = .returned (.tuple #[.slice none 0 0, .agg #[.int .i64 c, .int .i64 d]]) ∧ Below V.heap.size V w') := fun V hV =>
      (HD.out V hV).mono fun e w' hp => ⟨by rw [hc, hd]; exact hp.2.2 hfo, hp.1⟩
    clear hfo hc hd hc0 HG HD
    go_upto_region 2 with (go_at_call 5; refine (HG1.out W HbW.out).mono ?_; rintro e w1 ⟨rfl, hb1⟩; have Hb1 := hid hb1; clear hb1)
    obtain ⟨W2, hW2⟩ : ∃ W2, W2 = w1.alloc (.cells #[.int .i64 c, .int .i64 d] 28) := ⟨_, rfl⟩
    have hb2 : Below w1.heap.size w1 W2 := by rw [hW2]; (repeat (first | exact Below.refl _ _ | refine Below.alloc ?_ (by first | omega | (simp <;> omega)) _ | refine Below.setCell ?_ (by first | omega | (simp <;> omega)) _ | refine below_drewN ?_ _ | refine Below.drew ?_))
    have x0 : W2.cell? ⟨w1.heap.size, 0, none⟩ = some (.int .i64 c) := by rw [hW2]; simp
    have x1 : W2.cell? ⟨w1.heap.size, 1, none⟩ = some (.int .i64 d) := by rw [hW2]; simp
    rw [← hW2]
    obtain ⟨XB, hXB⟩ : ∃ XB, XB = w1.heap.size := ⟨_, rfl⟩
    rw [← hXB] at x0 x1 ⊢
    have Hb2 : Hid (Below W.heap.size W W2) := Hb1.out.trans (hb2.mono Hb1.out.size)
    obtain ⟨hw2, c0, c1⟩ := H0.out W2 Hb2.out
    have Hw2 := hid hw2
    have zX : XB < W2.heap.size := cell_lt x0
    have zB : UB < W2.heap.size := cell_lt c0
    clear hW2 hb2 hXB hw2
    go_upto_region 3 with (go_at_call 6; refine (HD1.out W2 Hw2.out).mono ?_; rintro e w3 ⟨rfl, hb3⟩; have Hb3 := hid hb3; clear hb3)
    obtain ⟨W4, hW4⟩ : ∃ W4, W4 = w3.alloc (.cells #[.int .i64 c, .int .i64 d] 28) := ⟨_, rfl⟩
    have hb4 : Below w3.heap.size w3 W4 := by rw [hW4]; (repeat (first | exact Below.refl _ _ | refine Below.alloc ?_ (by first | omega | (simp <;> omega)) _ | refine Below.setCell ?_ (by first | omega | (simp <;> omega)) _ | refine below_drewN ?_ _ | refine Below.drew ?_))
    have y0 : W4.cell? ⟨w3.heap.size, 0, none⟩ = some (.int .i64 c) := by rw [hW4]; simp
    have y1 : W4.cell? ⟨w3.heap.size, 1, none⟩ = some (.int .i64 d) := by rw [hW4]; simp
    rw [← hW4]
    obtain ⟨YB, hYB⟩ : ∃ YB, YB = w3.heap.size := ⟨_, rfl⟩
    rw [← hYB] at y0 y1 ⊢
    have Hb4 : Hid (Below W2.heap.size W2 W4) := Hb3.out.trans (hb4.mono Hb3.out.size)
    obtain ⟨hw4, c0, c1⟩ := H0.out W4 (Hb2.out.trans (Hb4.out.mono Hb2.out.size))
    have Hw4 := hid hw4
    have x0 := cell_later' x0 Hb4.out
    have x1 := cell_later' x1 Hb4.out
    have zX : XB < W4.heap.size := cell_lt x0
    have zY : YB < W4.heap.size := cell_lt y0
    have zB : UB < W4.heap.size := cell_lt c0
    clear hW4 hb4 hYB hw4
    go_upto_region 4 with (go_at_call 5; refine (HN.out W4 Hw4.out).mono ?_; rintro e w5 ⟨rfl, hb5⟩; have Hb5 := hid hb5; clear hb5)
    obtain ⟨W6, hW6⟩ : ∃ W6, W6 = w5.alloc (.cells #[.int .i64 m, .int .i64 l] 28) := ⟨_, rfl⟩
    have hb6 : Below w5.heap.size w5 W6 := by rw [hW6]; (repeat (first | exact Below.refl _ _ | refine Below.alloc ?_ (by first | omega | (simp <;> omega)) _ | refine Below.setCell ?_ (by first | omega | (simp <;> omega)) _ | refine below_drewN ?_ _ | refine Below.drew ?_))
    have z0 : W6.cell? ⟨w5.heap.size, 0, none⟩ = some (.int .i64 m) := by rw [hW6]; simp
    rw [← hW6]
    obtain ⟨ZB, hZB⟩ : ∃ ZB, ZB = w5.heap.size := ⟨_, rfl⟩
    rw [← hZB] at z0 ⊢
    have Hb6 : Hid (Below W4.heap.size W4 W6) := Hb5.out.trans (hb6.mono Hb5.out.size)
    have Hw6 : Hid (Below w.heap.size w W6) := Hw4.out.trans (Hb6.out.mono Hw4.out.size)
    have x0 := cell_later' x0 Hb6.out
    have x1 := cell_later' x1 Hb6.out
    have y0 := cell_later' y0 Hb6.out
    have y1 := cell_later' y1 Hb6.out
    have zX : XB < W6.heap.size := cell_lt x0
    have zY : YB < W6.heap.size := cell_lt y0
    have zZ : ZB < W6.heap.size := cell_lt z0
    clear hW6 hb6 hZB
    go_wp2_with fail
    go_ret
    exact ⟨rfl, Hw6.out⟩
  | some f =>
    obtain ⟨hck, hk0, hfk, hfe⟩ := funcF_some hfo
    obtain ⟨kn, rfl⟩ := Int.eq_ofNat_of_zero_le hk0
    rw [Int.toNat_natCast] at hfk
    have hkl : kn < fs.length := (List.getElem?_eq_some_iff.1 hfk).1
    have hxe : fs[kn] = f := (List.getElem?_eq_some_iff.1 hfk).2
    have hto := (fnOk (u := ⟨gs, fs⟩) hck hfk).toOk
    have hn40 := (fnOk (u := ⟨gs, fs⟩) hck hfk).len.2
    have hdi := deepF_i64 hto
    have hdl := deepF_len f.blocks
    obtain ⟨bn, hbn⟩ : ∃ bn, bn = f.blocks.length := ⟨_, rfl⟩
    obtain ⟨L, hL⟩ : ∃ L, L = deepF f.blocks := ⟨_, rfl⟩
    have HG1 : Hid (∀ V, Below w.heap.size w V → Calls Tryd.prog 5 #[.agg #[.slice ga gs.length gc, .slice fa fs.length fc], .int .i64 (kn : Int)] V fun e w' => ∃ a c, e = .returned (.tuple #[.slice a bn c, .agg #[.int .i64 0, .int .i64 0]]) ∧ OwnInts V.heap.size w' (.slice a bn c) (guessF L) ∧ Below V.heap.size V w') := fun V hV =>
      (HG.out V hV (kn : Int) ⟨hk1, hk2⟩).mono fun e w' hp => by
        obtain ⟨v, e1, e2⟩ := hp.2.1 f hfo
        obtain ⟨a, c, rfl⟩ := e2.shape
        rw [guessF_len, deepF_len, ← hbn] at e1 e2
        rw [hL]
        exact ⟨a, c, e1, e2, hp.1⟩
    have HD1 : Hid (∀ V, Below w.heap.size w V → Calls Tryd.prog 6 #[.agg #[.slice ga gs.length gc, .slice fa fs.length fc], .int .i64 (kn : Int)] V fun e w' => ∃ g, e = .returned (.tuple #[.slice (some ⟨g, 0, none⟩) bn bn, .agg #[.int .i64 0, .int .i64 0]]) ∧ SlAt (fun b => V.heap.size ≤ b ∧ b < w'.heap.size) w' 1 rInt (.slice (some ⟨g, 0, none⟩) bn bn) L ∧ Below V.heap.size V w') := fun V hV =>
      (HD.out V hV).mono fun e w' hp => by
        obtain ⟨g, e1, e2⟩ := hp.2.1 f hfo
        rw [hL, hbn]
        exact ⟨g, e1, e2, hp.1⟩
    obtain ⟨fb, foff, xa, xc, hfa, hcs, -, -, -⟩ := func_at Hf.out hkl
    subst hfa
    rw [hxe, ← hbn] at hcs
    have hq3 := hcs.get4.2.2.2
    have Hq3 := hid hq3
    rw [← hL] at hdi hdl
    rw [← hbn] at hn40 hdi hdl
    have Hdi := hid hdi
    have Hdl := hid hdl
    clear hfo hck hk0 hfk hfe hxe hto hdi hdl hbn hL hcs hq3 HG HD
    go_upto_region 2 with (go_at_call 5; refine (HG1.out W HbW.out).mono ?_; rintro e w1 ⟨va, vc, rfl, hv1, hb1⟩; have Hb1 := hid hb1; have Hv1 := hid hv1; clear hb1 hv1)
    obtain ⟨W2, hW2⟩ : ∃ W2, W2 = w1.alloc (.cells #[.int .i64 0, .int .i64 0] 28) := ⟨_, rfl⟩
    have hb2 : Below w1.heap.size w1 W2 := by rw [hW2]; (repeat (first | exact Below.refl _ _ | refine Below.alloc ?_ (by first | omega | (simp <;> omega)) _ | refine Below.setCell ?_ (by first | omega | (simp <;> omega)) _ | refine below_drewN ?_ _ | refine Below.drew ?_))
    have x0 : W2.cell? ⟨w1.heap.size, 0, none⟩ = some (.int .i64 0) := by rw [hW2]; simp
    have x1 : W2.cell? ⟨w1.heap.size, 1, none⟩ = some (.int .i64 0) := by rw [hW2]; simp
    rw [← hW2]
    obtain ⟨XB, hXB⟩ : ∃ XB, XB = w1.heap.size := ⟨_, rfl⟩
    rw [← hXB] at x0 x1 ⊢
    have Hb2 : Hid (Below W.heap.size W W2) := Hb1.out.trans (hb2.mono Hb1.out.size)
    have Hv2 := hid (Hv1.out.later hb2)
    obtain ⟨hw2, c0, c1⟩ := H0.out W2 Hb2.out
    have Hw2 := hid hw2
    have zX : XB < W2.heap.size := cell_lt x0
    have zB : UB < W2.heap.size := cell_lt c0
    clear hW2 hb2 hXB hw2
    go_upto_region 3 with (go_at_call 6; refine (HD1.out W2 Hw2.out).mono ?_; rintro e w3 ⟨g, rfl, hs3, hb3⟩; have Hb3 := hid hb3; have Hs3 := hid hs3; clear hb3 hs3)
    obtain ⟨W4, hW4⟩ : ∃ W4, W4 = w3.alloc (.cells #[.int .i64 0, .int .i64 0] 28) := ⟨_, rfl⟩
    have hb4 : Below w3.heap.size w3 W4 := by rw [hW4]; (repeat (first | exact Below.refl _ _ | refine Below.alloc ?_ (by first | omega | (simp <;> omega)) _ | refine Below.setCell ?_ (by first | omega | (simp <;> omega)) _ | refine below_drewN ?_ _ | refine Below.drew ?_))
    have y0 : W4.cell? ⟨w3.heap.size, 0, none⟩ = some (.int .i64 0) := by rw [hW4]; simp
    have y1 : W4.cell? ⟨w3.heap.size, 1, none⟩ = some (.int .i64 0) := by rw [hW4]; simp
    rw [← hW4]
    obtain ⟨YB, hYB⟩ : ∃ YB, YB = w3.heap.size := ⟨_, rfl⟩
    rw [← hYB] at y0 y1 ⊢
    have Hb4 : Hid (Below W2.heap.size W2 W4) := Hb3.out.trans (hb4.mono Hb3.out.size)
    have Hs4 := hid (Hs3.out.later rInt_mono hb4)
    obtain ⟨hw4, c0, c1⟩ := H0.out W4 (Hb2.out.trans (Hb4.out.mono Hb2.out.size))
    have Hw4 := hid hw4
    have x0 := cell_later' x0 Hb4.out
    have x1 := cell_later' x1 Hb4.out
    have zX : XB < W4.heap.size := cell_lt x0
    have zY : YB < W4.heap.size := cell_lt y0
    have zB : UB < W4.heap.size := cell_lt c0
    clear hW4 hb4 hYB hw4
    go_upto_region 4 with (go_at_call 5; refine (HN.out W4 Hw4.out).mono ?_; rintro e w5 ⟨rfl, hb5⟩; have Hb5 := hid hb5; clear hb5)
    obtain ⟨W6, hW6⟩ : ∃ W6, W6 = w5.alloc (.cells #[.int .i64 m, .int .i64 l] 28) := ⟨_, rfl⟩
    have hb6 : Below w5.heap.size w5 W6 := by rw [hW6]; (repeat (first | exact Below.refl _ _ | refine Below.alloc ?_ (by first | omega | (simp <;> omega)) _ | refine Below.setCell ?_ (by first | omega | (simp <;> omega)) _ | refine below_drewN ?_ _ | refine Below.drew ?_))
    have z0 : W6.cell? ⟨w5.heap.size, 0, none⟩ = some (.int .i64 m) := by rw [hW6]; simp
    rw [← hW6]
    obtain ⟨ZB, hZB⟩ : ∃ ZB, ZB = w5.heap.size := ⟨_, rfl⟩
    rw [← hZB] at z0 ⊢
    have Hb6 : Hid (Below W4.heap.size W4 W6) := Hb5.out.trans (hb6.mono Hb5.out.size)
    have Hw6 : Hid (Below w.heap.size w W6) := Hw4.out.trans (Hb6.out.mono Hw4.out.size)
    have HbW6 : Hid (Below W.heap.size W W6) := (Hb2.out.trans (Hb4.out.mono Hb2.out.size)).trans (Hb6.out.mono (Hb2.out.trans (Hb4.out.mono Hb2.out.size)).size)
    obtain ⟨-, c0, c1⟩ := H0.out W6 HbW6.out
    have x0 := cell_later' x0 Hb6.out
    have x1 := cell_later' x1 Hb6.out
    have y0 := cell_later' y0 Hb6.out
    have y1 := cell_later' y1 Hb6.out
    have zX : XB < W6.heap.size := cell_lt x0
    have zY : YB < W6.heap.size := cell_lt y0
    have zZ : ZB < W6.heap.size := cell_lt z0
    have zB : UB < W6.heap.size := cell_lt c0
    have Hgs := hid (refGuess_any (S := _) (some ⟨g, 0, none⟩) bn bn L W6 (Hs4.out.later rInt_mono Hb6.out) Hdl.out (by omega) (fun x hx => (Hdi.out x hx).1))
    have Hv6 := hid (Hv2.out.later (Hb4.out.trans (Hb6.out.mono Hb4.out.size)))
    have Hgl : Hid ((guessF L).length = bn) := by show _ = _; rw [guessF_len, Hdl.out]
    have Hcell : Hid (∀ V, Below W6.heap.size W6 V → Below w.heap.size w V ∧ V.cell? ⟨UB, 0, none⟩ = some (.slice ga gs.length gc) ∧ V.cell? ⟨UB, 1, none⟩ = some (.slice (some ⟨fb, foff, none⟩) fs.length fc) ∧ V.cell? ⟨fb, foff + kn * 4 + 3, none⟩ = some (.slice xa bn xc)) := fun V hV => by
      obtain ⟨h1, h2, h3⟩ := H0.out V (HbW6.out.trans (hV.mono HbW6.out.size))
      exact ⟨h1, h2, h3, cell_later' Hq3.out h1⟩
    clear hW6 hb6 hZB
    go_wp2_with (first
      | (go_at_call 8; refine Hgs.out.mono ?_; rintro e w7 ⟨y, rfl, hy, hb7⟩
         obtain ⟨ya, yc, hyv⟩ := hy.shape
         subst hyv
         have Hy := hid hy
         have Hb7 := hid hb7
         rw [Hgl.out]
         clear hy hb7)
      | (go_at_call 7
         have hin := ints_any (S := _) (S' := _) va vc (guessF L) ya yc (guessF L) w7 (by rw [Hgl.out]; exact (Hv6.out.later Hb7.out).sl) Hy.out.sl (by rw [Hgl.out]; omega) (by rw [Hgl.out]; omega)
         rw [Hgl.out, decide_eq_true rfl] at hin
         refine hin.mono ?_; rintro e w8 ⟨rfl, hb8⟩
         obtain ⟨hw8, c0, c1, q3⟩ := Hcell.out w8 (Hb7.out.trans (hb8.mono Hb7.out.size))
         have Hw8 := hid hw8
         have zB : UB < w8.heap.size := cell_lt c0
         have zF : fb < w8.heap.size := cell_lt q3
         clear hb8 hw8 hin))
    go_ret
    exact ⟨rfl, Hw8.out⟩

end Go.Proofs.YtnkogppgacappaaDoor

namespace Go.Proofs.YtnkogppgacappaaDoor
open Go.RowKit Go.ChangeShapes Go.WideShapes Go.ChangeAt Go.Deep

set_option maxRecDepth 100000 in
theorem weighGuessSays_contract (H : Type) (enc : TypeId × Value → H) (W : World) (base : Nat) (args : Array Value) (ds gs : List (DataW H)) (before : List MemPlace)
    (hval : ∀ (j : Nat) t v, Tryd.f3.params[j]? = some t → args[j]? = some v → Value.okWide Tryd.prog W .any base t v)
    (hW : DataW.Whole enc Tryd.prog Tryd.f3.params.toList Rows.weighGuessSaysSpec.vars false W args.toList ds gs before) (hk : Rows.uptoSmall H (ds ++ gs) = true) (hL : laidMetH Tryd.prog Rows.weighGuessSaysRow.laid W) :
    Calls Tryd.prog 3 args W fun e W' => ∃ v, e = .returned v ∧ Rows.weighGuessSaysSpec.post enc Tryd.prog Tryd.f3 false true false false W args v W' := by
  have hW' := hW
  obtain ⟨p, q, hA0, hV, rfl, hfz, hnd⟩ := hW
  have hA : DataW.TrodAll enc Tryd.prog W 0 (fun _ => true) true Tryd.f3.params.toList args.toList ds p := hA0
  have hpar : Tryd.f3.params = #[25, 3] := Tryd.params3
  have hts : ∀ t ∈ Tryd.f3.params.toList, Carried t := by
    intro t ht
    rw [hpar] at ht
    simp only [List.mem_cons, List.not_mem_nil, or_false] at ht
    rcases ht with rfl | rfl
    · exact carried_unit
    · exact carried_int
  rw [hpar] at hA hval
  obtain ⟨v0, vs0, d0, ds0, p0, q0, hargs, rfl, rfl, h0, r0⟩ := trodAll_cons hA
  obtain ⟨v1, vs1, d1, ds1, p1, q1, rfl, rfl, rfl, h1, r1⟩ := trodAll_cons r0
  obtain ⟨rfl, rfl, rfl⟩ := trodAll_nil r1
  obtain rfl : args = #[v0, v1] := by cases args; simp_all
  obtain ⟨rfl, rfl⟩ := trodVars_none hV
  have hbulk := bulk_bound hk
  rw [List.append_nil] at hbulk
  have hways : Ways W := ways_of hL
  have m0 : Rows.uptoBulk d0 ≤ 1048576 := Nat.le_trans (bulk_part (by simp)) hbulk
  obtain ⟨ga, gc, fa, fc, gs, fs, rfl, hg, hf, hu⟩ := arg_unit (hval 0 _ v0 rfl rfl) h0
  have m1 : Rows.uptoBulk d1 ≤ 1048576 := Nat.le_trans (bulk_part (by simp)) hbulk
  obtain ⟨k0, rfl, hd0, -, wk0⟩ := open_int Tryd.underlying3 (hval 1 _ v1 rfl rfl) h1
  have bk0 := bounds_i64 wk0
  refine (weighGuessSays_any W hways ga gc fa fc gs fs hg hf ⟨by omega⟩ k0 bk0.1 bk0.2).mono fun e W' ⟨he, hb⟩ => ?_
  subst he
  exact ⟨_, rfl, law_post rfl rfl (fun ds h => by rw [hpar] at h; obtain ⟨e0, e1, rfl⟩ := list2 h; rfl) hts hW' hb⟩

theorem weighGuessSays_laidMet (os : Os) : laidMet Tryd.prog Rows.weighGuessSaysRow.laid ((laidWorld os).forCall (fun _ _ => 0) ⟨#[], #[Value.agg #[.slice none 0 0, .slice none 0 0], Value.int .i64 0], []⟩).memory :=
  laidMet_of_run' 8 (by kernel_rfl) (by kernel_rfl)
theorem weighGuessSays_reads (os : Os) {H : Type} (enc : TypeId × Value → H) : ∃ places, DataW.whole enc Tryd.prog ((laidWorld os).forCall (fun _ _ => 0) ⟨#[], #[Value.agg #[.slice none 0 0, .slice none 0 0], Value.int .i64 0], []⟩).memory Tryd.f3.params.toList Rows.weighGuessSaysSpec.vars false (#[Value.agg #[.slice none 0 0, .slice none 0 0], Value.int .i64 0] : Array Value).toList 8 = some ([.agg [.nil, .nil], .lit (.int .i64 0)], [], places) :=
  ⟨[], by kernel_rfl⟩
set_option maxRecDepth 100000 in
theorem weighGuessSays_lifted (os : Os) (started : os.Started) (H : Type) (enc : TypeId × Value → H) (F : Stop.Interp) :
    ReturnsInHanded {} Tryd.checked os 3 .any ((Rows.OpenSpec.upto Rows.weighGuessSaysSpec).preRow enc Tryd.prog Tryd.f3 Rows.weighGuessSaysUptoRow.domain false Rows.weighGuessSaysUptoRow.laid) (((Rows.OpenSpec.upto Rows.weighGuessSaysSpec).at F).post enc Tryd.prog Tryd.f3 false true false false) := by
  obtain ⟨places, hx⟩ := weighGuessSays_reads os enc
  refine returnsInHanded_of_row (C := Tryd.checked) (s := Rows.OpenSpec.upto Rows.weighGuessSaysSpec) own started (by kernel_rfl) Tryd.func3
    (witness_row_at (enc := enc) (C := Tryd.checked) false (laidWorld os) #[Value.agg #[.slice none 0 0, .slice none 0 0], Value.int .i64 0] rfl (by kernel_rfl) (by kernel_rfl) (by kernel_rfl)
      (OpenSpec.preRow_of_cond 8 hx (by kernel_rfl) (fun k hk => by cases hk; kernel_rfl) (by kernel_rfl) (weighGuessSays_laidMet os))) ?_
  intro W base args ds gs before hval hW _ hcond _ hL _ _
  exact weighGuessSays_contract H enc W base args ds gs before hval hW (hcond _ rfl) hL
theorem weighGuessSays_saidUpto : Rows.WeighGuessSaysUptoSaid :=
  OpenClaim.holds_of_cond 3 Tryd.f3 rfl rfl rfl rfl rfl rfl rfl ⟨rfl, rfl, rfl, rfl, rfl⟩ rfl rfl rfl rfl rfl (by kernel_rfl) Tryd.func3 (by kernel_rfl)
    (of_decide_eq_true (by kernel_rfl)) (by unfold Func.isWrapper; first | (rw [if_pos (by decide +kernel)]; kernel_rfl) | (rw [if_neg (by decide +kernel)]; exact ⟨rfl, rfl⟩))
    (fun os started H enc _ F => by rw [OpenClaim.pre_eq_preRow]; exact weighGuessSays_lifted os started H enc F)
theorem weighGuessSays_plain (f : FuncId) (fn : Func) (hf : Tryd.pinned.checked.prog.funcNamed "turnery/turnerylaw6.WeighGuessSays" = some f) (hfn : Tryd.pinned.checked.prog.funcs[f]? = some fn) :
    false = Tryd.pinned.checked.prog.looks [] ∧ ∀ (j : Nat) t, fn.params[j]? = some t → Tryd.pinned.checked.prog.wantsStandIn t = false := by
  obtain rfl : f = 3 := Option.some.inj ((show Tryd.prog.funcNamed "turnery/turnerylaw6.WeighGuessSays" = some 3 by kernel_rfl).symm.trans hf) |>.symm
  obtain rfl : fn = Tryd.f3 := (Option.some.inj (Tryd.func3.symm.trans hfn)).symm
  refine ⟨by kernel_rfl, fun j t ht => ?_⟩
  have hpar : Tryd.f3.params = #[25, 3] := Tryd.params3
  rw [hpar] at ht
  have hm := Array.mem_of_getElem? ht
  simp only [List.mem_toArray, List.mem_cons, List.not_mem_nil, or_false] at hm
  rcases hm with rfl | rfl
  · exact (show Tryd.prog.wantsStandIn 25 = false by kernel_rfl)
  · exact (show Tryd.prog.wantsStandIn 3 = false by kernel_rfl)

/-- THE CARD of WeighGuessSays, where what it reads is of bulk at most 1048576. -/
theorem weighGuessSays_holds : Rows.WeighGuessSaysUptoCardSaid :=
  Claim7.holds_tied_plain_at .later [] _ _ _ _ weighGuessSays_saidUpto (fun _ h => by cases h) (by kernel_rfl) (fun _ h => by cases h) weighGuessSaysUpto_row_tie rfl ⟨rfl, rfl⟩ (by kernel_rfl) rfl weighGuessSays_plain (by kernel_rfl)

end Go.Proofs.YtnkogppgacappaaDoor
