/- A unit in static single assignment; its functions by number. unroll.Rounds. -/
import Derived.Test.YtaehkcnankijfaaDoorPRowB
import Derived.Test.YtaehkcnankijfaaDoorPUnrB
import Derived.Test.YtaehkcnankijfaaDoorPUnrF
import Derived.Deep.RegionWith
namespace Go.Proofs.YtaehkcnankijfaaDoor
open Go.RowKit

theorem ssaF_zero {u : DUnit} (h : ssaF u = (0, 0)) : checkF u = (0, 0) ∧ ∀ (k : Nat) (f : DFunc), u.funcs[k]? = some f → ssaOf f = 0 := by
  unfold ssaF at h
  by_cases h1 : checkF u ≠ (0, 0)
  · rw [if_pos h1] at h; exact absurd h h1
  rw [if_neg h1] at h
  by_cases h2 : posF (ssaE u.funcs) u.funcs.length < u.funcs.length
  · rw [if_pos h2] at h
    exact absurd (congrArg Prod.fst h) (posF_ne h2)
  · refine ⟨Classical.not_not.1 h1, fun k f hf => ?_⟩
    have := posF_inv h2 k (List.getElem?_eq_some_iff.1 hf).1
    unfold ssaE at this
    rw [hf] at this
    exact this
theorem ssaF_code {u : DUnit} (h : (ssaF u).1 = 0) : ssaF u = (0, 0) := by
  unfold ssaF at h ⊢
  by_cases h1 : checkF u ≠ (0, 0)
  · rw [if_pos h1] at h
    exact absurd (checkF_zero h) h1
  rw [if_neg h1] at h ⊢
  by_cases h2 : posF (ssaE u.funcs) u.funcs.length < u.funcs.length
  · rw [if_pos h2] at h
    exact absurd h (posF_ne h2)
  · rw [if_neg h2]
/-- A unit that is in static single assignment. -/
theorem ssaF_fn {u : DUnit} (h : ssaF u = (0, 0)) {k : Nat} {f : DFunc} (hf : u.funcs[k]? = some f) : FnOk f ∧ ssaOf f = 0 :=
  ⟨fnOk (ssaF_zero h).1 hf, (ssaF_zero h).2 k f hf⟩

def fnAt (fs : List DFunc) (k : Int) : Option DFunc := if k < 0 then none else fs[k.toNat]?
theorem fnAt_some {fs : List DFunc} {k : Int} {f : DFunc} (h : fnAt fs k = some f) : ∃ n : Nat, k = (n : Int) ∧ fs[n]? = some f := by
  unfold fnAt at h
  by_cases h0 : k < 0
  · rw [if_pos h0] at h; cases h
  · rw [if_neg h0] at h; exact ⟨k.toNat, by omega, h⟩
theorem fnAt_none {fs : List DFunc} {k : Int} (h : fnAt fs k = none) : k < 0 ∨ (fs.length : Int) ≤ k := by
  unfold fnAt at h
  by_cases h0 : k < 0
  · exact .inl h0
  · rw [if_neg h0] at h
    have := List.getElem?_eq_none_iff.1 h
    exact .inr (by omega)

end Go.Proofs.YtaehkcnankijfaaDoor

namespace Go.Proofs.YtaehkcnankijfaaDoor
open Go.RowKit

/-- What unroll.Rounds tells. -/
def roundsOfF (u : DUnit) (k b : Int) : Int × Int × Int :=
  if ssaF u ≠ (0, 0) then (0, (ssaF u).1, (ssaF u).2)
  else match fnAt u.funcs k with
    | none => (0, 3, -1)
    | some f => if b < 0 ∨ (f.blocks.length : Int) ≤ b then (0, 3, -1) else (unrF f.blocks b.toNat, 0, 0)
theorem res_r7 {fn : Func} (hfn : fn.results = #[.tmp 6, .cell 7 28]) {tmps : Array Value} {b : Nat} {v : Value} (hv : tmps.getD 6 undef = v) (ht : tmps.getD 7 undef = .pointer (some ⟨b, 0, none⟩)) {c a : Int} {W : World}
    (h0 : W.cell? ⟨b, 0, none⟩ = some (.int .i64 c)) (h1 : W.cell? ⟨b, 1, none⟩ = some (.int .i64 a)) : (results fn tmps).run Tryd.prog W = .ok (.tuple #[v, .agg #[.int .i64 c, .int .i64 a]]) W := by
  simp only [Array.getD_eq_getD_getElem?] at ht hv
  simp [results, hfn, ht, hv, go_sem, h0, h1]
def RoundsPost (u : DUnit) (k b : Int) (w : World) (e : Ending) (w' : World) : Prop := ∃ n p q : Int, roundsOfF u k b = (n, p, q) ∧ e = .returned (.tuple #[.int .i64 n, .agg #[.int .i64 p, .int .i64 q]]) ∧ Below w.heap.size w w'

set_option maxRecDepth 100000 in
set_option maxHeartbeats 4000000 in
theorem rounds_all {S : Nat → Prop} (ga : Option Addr) (gc : Nat) (fa : Option Addr) (fc : Nat) (gs : List DGlobal) (fs : List DFunc) (k b : Int) (w : World) (hk : I64 k) (hb : I64 b)
    (hg : SlAt S w 3 rGlobal (.slice ga gs.length gc) gs) (hf : SlAt S w 4 rFunc (.slice fa fs.length fc) fs) (hw : Ways w) (hS : ∀ b, S b → b < w.heap.size)
    (hgl : gs.length ≤ 1048576) (hfl : fs.length ≤ 1048576) (hsm : ∀ (k : Nat) (f : DFunc), fs[k]? = some f → manyOf f.blocks ≤ 1048576 ∧ f.blocks.length ≤ 1048576) :
    Calls Tryd.prog 32 #[.agg #[.slice ga gs.length gc, .slice fa fs.length fc], .int .i64 k, .int .i64 b] w fun e w' => RoundsPost ⟨gs, fs⟩ k b w e w' := by
  obtain ⟨hk1, hk2⟩ := hk
  obtain ⟨hb1, hb2⟩ := hb
  have Hg := hid hg
  have Hf := hid hf
  have Hw := hid hw
  have Hsm := hid hsm
  have HS := hid hS
  clear hg hf hw hsm hS
  go_enter Tryd.func32, Tryd.ntmps32
  obtain ⟨W, hW⟩ : ∃ W, W = (w.alloc (.cells #[.slice ga gs.length gc, .slice fa fs.length fc] 25)).alloc (.cells #[.int .i64 0, .int .i64 0] 28) := ⟨_, rfl⟩
  have hbW : Below w.heap.size w W := by rw [hW]; (repeat (first | exact Below.refl _ _ | refine Below.alloc ?_ (by first | omega | (simp <;> omega)) _ | refine Below.setCell ?_ (by first | omega | (simp <;> omega)) _ | refine below_drewN ?_ _ | refine Below.drew ?_))
  have HbW := hid hbW
  have W0 : Hid (W.cell? ⟨w.heap.size, 0, none⟩ = some (.slice ga gs.length gc)) := by show _ = _; rw [hW]; simp
  have W1 : Hid (W.cell? ⟨w.heap.size, 1, none⟩ = some (.slice fa fs.length fc)) := by show _ = _; rw [hW]; simp
  have R0 : Hid (W.cell? ⟨w.heap.size + 1, 0, none⟩ = some (.int .i64 0)) := by show _ = _; rw [hW]; simp
  have R1 : Hid (W.cell? ⟨w.heap.size + 1, 1, none⟩ = some (.int .i64 0)) := by show _ = _; rw [hW]; simp
  have F0 : Hid (W.frozen? ⟨w.heap.size + 1, 0, none⟩ = false) := by show _ = _; rw [hW]; simp
  have F1 : Hid (W.frozen? ⟨w.heap.size + 1, 1, none⟩ = false) := by show _ = _; rw [hW]; simp
  have hWs : W.heap.size = w.heap.size + 2 := by rw [hW]; simp
  go_wp2_with fail
  rw [← hW]
  have hwW : Ways W := Ways.below Hw.out hbW
  refine (ssaCheck_any (S := S) ga gc fa fc gs fs W (Hg.out.later rGlobal_mono hbW) (Hf.out.later rFunc_mono hbW) hwW (fun b hb => by have := HS.out b hb; omega) hgl hfl Hsm.out).mono ?_
  rintro e w1 ⟨rfl, hb1'⟩
  have g0 := cell_later' W0.out hb1'
  have g1 := cell_later' W1.out hb1'
  have g2 := cell_later' R0.out hb1'
  have g3 := cell_later' R1.out hb1'
  have k2 := (hb1'.frozen (p := ⟨w.heap.size + 1, 0, none⟩) (by simp; omega)).trans F0.out
  have k3 := (hb1'.frozen (p := ⟨w.heap.size + 1, 1, none⟩) (by simp; omega)).trans F1.out
  have z1 : w.heap.size + 1 < w1.heap.size := cell_lt g2
  have z0 : w.heap.size < w1.heap.size := cell_lt g0
  obtain ⟨c, hc⟩ : ∃ c, c = (ssaF ⟨gs, fs⟩).1 := ⟨_, rfl⟩
  obtain ⟨d, hd⟩ : ∃ d, d = (ssaF ⟨gs, fs⟩).2 := ⟨_, rfl⟩
  have Hcd : Hid (ssaF ⟨gs, fs⟩ = (c, d)) := by show _ = _; rw [hc, hd]
  rw [← hc, ← hd]
  have Hw1 : Hid (Below w.heap.size w w1) := HbW.out.trans (hb1'.mono (by omega))
  clear hb1' hW hbW hc hd hwW W0 W1 R0 R1 F0 F1 hWs
  by_cases hok : c = 0 ∧ d = 0
  · obtain ⟨rfl, rfl⟩ := hok
    have hbad : ∀ (n : Nat) (V : World) (e : Ending), roundsOfF ⟨gs, fs⟩ k b = (0, 3, -1) → e = .returned (.tuple #[.int .i64 0, .agg #[.int .i64 3, .int .i64 (-1)]]) → Below w.heap.size w V → RoundsPost ⟨gs, fs⟩ k b w e V := fun _ V e h1 h2 h3 => ⟨0, 3, -1, h1, h2, h3⟩
    have Hbad := hid hbad
    clear hbad
    cases hfk : fnAt fs k with
    | none =>
      have Hr : Hid (roundsOfF ⟨gs, fs⟩ k b = (0, 3, -1)) := by
        show _ = _
        unfold roundsOfF
        rw [Hcd.out, if_neg (by simp)]
        dsimp only
        rw [hfk]
      have hbd := fnAt_none hfk
      clear hfk
      by_cases hk0 : k < 0
      all_goals
        go_wp2_with fail
        have q := set_two (w := w1) (u := .int .i64 3) (v := .int .i64 (-1)) g2 g3
        obtain ⟨V, hV⟩ : ∃ V, V = (w1.setCell ⟨w.heap.size + 1, 0, none⟩ (.int .i64 3)).setCell ⟨w.heap.size + 1, 1, none⟩ (.int .i64 (-1)) := ⟨_, rfl⟩
        have hbV : Below w.heap.size w V := by
          rw [hV]
          exact (Hw1.out.setCell (p := ⟨w.heap.size + 1, 0, none⟩) (by dsimp only; omega) _).setCell (p := ⟨w.heap.size + 1, 1, none⟩) (by dsimp only; omega) _
        rw [← hV] at q ⊢
        have hb2' : Below V.heap.size V (V.alloc (.cells #[.int .i64 0, .int .i64 0] 28)) := by (repeat (first | exact Below.refl _ _ | refine Below.alloc ?_ (by first | omega | (simp <;> omega)) _ | refine Below.setCell ?_ (by first | omega | (simp <;> omega)) _ | refine below_drewN ?_ _ | refine Below.drew ?_))
        exact bodyPost_ret (res_r7 (v := .int .i64 0) rfl rfl rfl (c := 3) (a := -1) (cell_later' q.1 hb2') (cell_later' q.2 hb2')) rfl (Hbad.out 0 _ _ Hr.out rfl (hbV.trans (hb2'.mono hbV.size)))
    | some x =>
      obtain ⟨kn, rfl, hkf⟩ := fnAt_some hfk
      have hkl : kn < fs.length := (List.getElem?_eq_some_iff.1 hkf).1
      have hfn := ssaF_fn Hcd.out hkf
      obtain ⟨fb, foff, xa, xc, rfl, hcs, hxb, -, -⟩ := func_at (Hf.out.later rFunc_mono Hw1.out) hkl
      obtain ⟨c0, c1, c2, c3⟩ := hcs.get4
      have zf : fb < w1.heap.size := cell_lt c0
      have hxe : fs[kn] = x := (List.getElem?_eq_some_iff.1 hkf).2
      have Hah := hid (fun (V : World) (hV : Below w.heap.size w V) => Ahead_ok (S := S) ga gc (some ⟨fb, foff, none⟩) fc gs fs kn V (Hg.out.later rGlobal_mono hV) (Hf.out.later rFunc_mono hV) (Ways.below Hw.out hV) hgl hfl Hsm.out (ssaF_zero Hcd.out).1 hkl)
      rw [hxe] at c0 c1 c2 c3 hxb Hah
      have hr : roundsOfF ⟨gs, fs⟩ (kn : Int) b = if b < 0 ∨ (x.blocks.length : Int) ≤ b then (0, 3, -1) else (unrF x.blocks b.toNat, 0, 0) := by
        unfold roundsOfF
        rw [Hcd.out, if_neg (by simp)]
        dsimp only
        rw [hfk]
      have hx40 := hfn.1.len.2
      obtain ⟨bn, hbn⟩ : ∃ bn, bn = x.blocks.length := ⟨_, rfl⟩
      have Hxb := hid hxb
      have Hfn := hid hfn
      have Hbn := hid hbn
      rw [← hbn] at c3 hr hx40
      by_cases hbr : b < 0 ∨ (bn : Int) ≤ b
      · have Hr : Hid (roundsOfF ⟨gs, fs⟩ (kn : Int) b = (0, 3, -1)) := by show _ = _; rw [hr, if_pos hbr]
        clear hr hfk hkf hfn hcs hxb hxe hbn
        by_cases hb0 : b < 0
        all_goals
          go_wp2_with fail
          have q := set_two (w := w1) (u := .int .i64 3) (v := .int .i64 (-1)) g2 g3
          obtain ⟨V, hV⟩ : ∃ V, V = (w1.setCell ⟨w.heap.size + 1, 0, none⟩ (.int .i64 3)).setCell ⟨w.heap.size + 1, 1, none⟩ (.int .i64 (-1)) := ⟨_, rfl⟩
          have hbV : Below w.heap.size w V := by
            rw [hV]
            exact (Hw1.out.setCell (p := ⟨w.heap.size + 1, 0, none⟩) (by dsimp only; omega) _).setCell (p := ⟨w.heap.size + 1, 1, none⟩) (by dsimp only; omega) _
          rw [← hV] at q ⊢
          have hb2' : Below V.heap.size V (V.alloc (.cells #[.int .i64 0, .int .i64 0] 28)) := by (repeat (first | exact Below.refl _ _ | refine Below.alloc ?_ (by first | omega | (simp <;> omega)) _ | refine Below.setCell ?_ (by first | omega | (simp <;> omega)) _ | refine below_drewN ?_ _ | refine Below.drew ?_))
          exact bodyPost_ret (res_r7 (v := .int .i64 0) rfl rfl rfl (c := 3) (a := -1) (cell_later' q.1 hb2') (cell_later' q.2 hb2')) rfl (Hbad.out 0 _ _ Hr.out rfl (hbV.trans (hb2'.mono hbV.size)))
      · obtain ⟨bb, hbb⟩ := Int.eq_ofNat_of_zero_le (show 0 ≤ b by omega)
        subst hbb
        have hbl : bb < bn := by omega
        have Hr : Hid (roundsOfF ⟨gs, fs⟩ (kn : Int) (bb : Int) = (unrF x.blocks bb, 0, 0)) := by show _ = _; rw [hr, if_neg hbr, Int.toNat_natCast]
        clear hr hfk hkf hfn hcs hxb hxe hbn hbr Hbad
        obtain ⟨W2, hW2⟩ : ∃ W2, W2 = w1.alloc (.cells #[.int .i64 0, .int .i64 0] 28) := ⟨_, rfl⟩
        have HW2 := hid hW2
        have hb2' : Below w1.heap.size w1 W2 := by rw [hW2]; (repeat (first | exact Below.refl _ _ | refine Below.alloc ?_ (by first | omega | (simp <;> omega)) _ | refine Below.setCell ?_ (by first | omega | (simp <;> omega)) _ | refine below_drewN ?_ _ | refine Below.drew ?_))
        have Hw2 : Hid (Below w.heap.size w W2) := Hw1.out.trans (hb2'.mono Hw1.out.size)
        have g0' := cell_later' g0 hb2'
        have g1' := cell_later' g1 hb2'
        have Hb2 := hid hb2'
        clear hW2 hb2'
        go_wp2_with fail
        rw [← HW2.out]
        refine (Hah.out W2 Hw2.out).mono ?_
        rintro e w3 ⟨a3, cc, rfl, hv3, hb3⟩
        have Hw3 : Hid (Below w.heap.size w w3) := Hw2.out.trans (hb3.mono Hw2.out.size)
        have hb13 : Below w1.heap.size w1 w3 := Hb2.out.trans (hb3.mono Hb2.out.size)
        obtain ⟨V, hV⟩ : ∃ V, V = w3.alloc (.cells #[.int .i64 0, .int .i64 0] 28) := ⟨_, rfl⟩
        have hbV : Below w3.heap.size w3 V := by rw [hV]; (repeat (first | exact Below.refl _ _ | refine Below.alloc ?_ (by first | omega | (simp <;> omega)) _ | refine Below.setCell ?_ (by first | omega | (simp <;> omega)) _ | refine below_drewN ?_ _ | refine Below.drew ?_))
        have hb1V : Below w1.heap.size w1 V := hb13.trans (hbV.mono hb13.size)
        have HwV : Hid (Below w.heap.size w V) := Hw3.out.trans (hbV.mono Hw3.out.size)
        have hfind := find_any (S := S) (S' := fun b => W2.heap.size ≤ b) x.name xa xc x a3 cc bb V Hfn.out.1 (by rw [← Hbn.out]; exact hbl) (Hxb.out.later rBlock_mono hb1V) (hv3.later rRow_mono hbV)
        rw [← Hbn.out] at hfind
        rw [← Hbn.out]
        have Hfind := hid hfind
        have g1 := cell_later' g1 hb13
        have g0 := cell_later' g0 hb13
        have g2 := cell_later' g2 hb13
        have g3 := cell_later' g3 hb13
        have k2 := (hb13.frozen (p := ⟨w.heap.size + 1, 0, none⟩) z1).trans k2
        have k3 := (hb13.frozen (p := ⟨w.heap.size + 1, 1, none⟩) z1).trans k3
        have c0 := cell_later' c0 hb13
        have c1 := cell_later' c1 hb13
        have c2 := cell_later' c2 hb13
        have c3 := cell_later' c3 hb13
        have z1 : w.heap.size + 1 < w3.heap.size := cell_lt g2
        have z0 : w.heap.size < w3.heap.size := cell_lt g0
        have zf : fb < w3.heap.size := cell_lt c0
        have HV := hid hV
        have HbV := hid hbV
        clear hv3 hb3 hb13 hV hbV hb1V hfind g0' g1'
        simp only []
        go_wp2_with fail
        rw [← HV.out]
        have g1 := cell_later' g1 HbV.out
        have g0 := cell_later' g0 HbV.out
        have g2 := cell_later' g2 HbV.out
        have g3 := cell_later' g3 HbV.out
        have k2 := (HbV.out.frozen (p := ⟨w.heap.size + 1, 0, none⟩) z1).trans k2
        have k3 := (HbV.out.frozen (p := ⟨w.heap.size + 1, 1, none⟩) z1).trans k3
        have c0 := cell_later' c0 HbV.out
        have c1 := cell_later' c1 HbV.out
        have c2 := cell_later' c2 HbV.out
        have c3 := cell_later' c3 HbV.out
        have zV : w.heap.size + 1 < V.heap.size := cell_lt g2
        refine Hfind.out.mono ?_
        intro e w4 hfp
        obtain ⟨lx, ly, lz, rfl, hsel, hb4⟩ := (show ∃ lx ly lz : Int, e = .returned (.tuple #[.agg #[.int .i64 lx, .int .i64 ly, .int .i64 lz], .bool (selfF x.blocks bb).isSome]) ∧ (∀ k, selfF x.blocks bb = some k → lx = (k : Int) ∧ ly = ((1 - k : Nat) : Int)) ∧ Below V.heap.size V w4 from hfp)
        have Hw4 : Hid (Below w.heap.size w w4) := HwV.out.trans (hb4.mono HwV.out.size)
        have g1 := cell_later' g1 hb4
        have g0 := cell_later' g0 hb4
        have g2 := cell_later' g2 hb4
        have g3 := cell_later' g3 hb4
        have k2 := (hb4.frozen (p := ⟨w.heap.size + 1, 0, none⟩) zV).trans k2
        have k3 := (hb4.frozen (p := ⟨w.heap.size + 1, 1, none⟩) zV).trans k3
        have c0 := cell_later' c0 hb4
        have c1 := cell_later' c1 hb4
        have c2 := cell_later' c2 hb4
        have c3 := cell_later' c3 hb4
        have z1 : w.heap.size + 1 < w4.heap.size := cell_lt g2
        have z0 : w.heap.size < w4.heap.size := cell_lt g0
        have zf : fb < w4.heap.size := cell_lt c0
        cases hs : selfF x.blocks bb with
        | none =>
          have Hu : Hid (roundsOfF ⟨gs, fs⟩ (kn : Int) (bb : Int) = (0, 0, 0)) := by
            show _ = _
            rw [Hr.out]
            unfold unrF
            rw [hs]
            cases x.blocks[bb]? <;> rfl
          simp only [Option.isSome]
          clear hs hb4 hfp hsel Hfind
          go_wp2_with fail
          have q := set_two (w := w4) (u := .int .i64 0) (v := .int .i64 0) g2 g3
          obtain ⟨V2, hV2⟩ : ∃ V2, V2 = (w4.setCell ⟨w.heap.size + 1, 0, none⟩ (.int .i64 0)).setCell ⟨w.heap.size + 1, 1, none⟩ (.int .i64 0) := ⟨_, rfl⟩
          have hbV2 : Below w.heap.size w V2 := by
            rw [hV2]
            exact (Hw4.out.setCell (p := ⟨w.heap.size + 1, 0, none⟩) (by dsimp only; omega) _).setCell (p := ⟨w.heap.size + 1, 1, none⟩) (by dsimp only; omega) _
          rw [← hV2] at q ⊢
          have hb2' : Below V2.heap.size V2 (V2.alloc (.cells #[.int .i64 lx, .int .i64 ly, .int .i64 lz] 117)) := by (repeat (first | exact Below.refl _ _ | refine Below.alloc ?_ (by first | omega | (simp <;> omega)) _ | refine Below.setCell ?_ (by first | omega | (simp <;> omega)) _ | refine below_drewN ?_ _ | refine Below.drew ?_))
          exact bodyPost_ret (res_r7 (v := .int .i64 0) rfl rfl rfl (c := 0) (a := 0) (cell_later' q.1 hb2') (cell_later' q.2 hb2')) rfl ⟨0, 0, 0, Hu.out, rfl, hbV2.trans (hb2'.mono hbV2.size)⟩
        | some kk =>
          obtain ⟨rfl, rfl⟩ := hsel kk hs
          have hkk := selfF_lt hs
          have hyl : bb < x.blocks.length := by rw [← Hbn.out]; exact hbl
          have hyg : x.blocks[bb]? = some x.blocks[bb] := List.getElem?_eq_getElem hyl
          have hsp : x.blocks[bb].fin.kind = 3 ∧ (predsOf x.blocks 0 bb).length = 2 := by
            have h := hs
            unfold selfF at h
            rw [hyg] at h
            dsimp only at h
            by_cases hc : x.blocks[bb].fin.kind = 3 ∧ (x.blocks[bb].fin.to.getD 0 0 = (bb : Int) ∨ x.blocks[bb].fin.to.getD 1 0 = (bb : Int)) ∧ (predsOf x.blocks 0 bb).length = 2
            · exact ⟨hc.1, hc.2.2⟩
            · rw [if_neg hc] at h; cases h
          have hru : roundsF x.blocks[bb] (bb : Int) kk = unrF x.blocks bb := by
            unfold unrF
            rw [hyg, hs]
          have HR : Hid (∀ w', Below w.heap.size w w' → Calls Tryd.prog 64 #[.agg #[.string x.name, .int .i64 x.params, .int .i64 x.regs, .slice xa bn xc], .agg #[.int .i64 (kk : Int), .int .i64 ((1 - kk : Nat) : Int), .int .i64 lz], .int .i64 (bb : Int)] w' fun e w'' => e = .returned (.int .i64 (unrF x.blocks bb)) ∧ Below w'.heap.size w' w'') := fun w' hV => by
            have h := rounds_any (S := S) x.name xa xc x bb kk lz x.blocks[bb] w' Hfn.out.1 hyg hsp.2 hsp.1 hkk (Hxb.out.mono rBlock_mono (fun _ h => h) (stays_at fun b hb hl => (hV.block b (HS.out b hb)).trans (Hw1.out.block b (HS.out b hb)).symm)) (fun b hb => Nat.lt_of_lt_of_le (HS.out b hb) hV.size)
            rw [hru, ← Hbn.out] at h
            exact h
          simp only [Option.isSome]
          clear hb4 hfp hsel Hfind hru hsp hyg hyl hs
          go_wp2_with fail
          obtain ⟨W5, hW5⟩ : ∃ W5, W5 = w4.alloc (.cells #[.int .i64 (kk : Int), .int .i64 ((1 - kk : Nat) : Int), .int .i64 lz] 117) := ⟨_, rfl⟩
          rw [← hW5]
          have hb5 : Below w4.heap.size w4 W5 := by rw [hW5]; (repeat (first | exact Below.refl _ _ | refine Below.alloc ?_ (by first | omega | (simp <;> omega)) _ | refine Below.setCell ?_ (by first | omega | (simp <;> omega)) _ | refine below_drewN ?_ _ | refine Below.drew ?_))
          have Hw5 : Hid (Below w.heap.size w W5) := Hw4.out.trans (hb5.mono Hw4.out.size)
          have l0 : W5.cell? ⟨w4.heap.size, 0, none⟩ = some (.int .i64 (kk : Int)) := by rw [hW5]; simp
          have l1 : W5.cell? ⟨w4.heap.size, 1, none⟩ = some (.int .i64 ((1 - kk : Nat) : Int)) := by rw [hW5]; simp
          have l2 : W5.cell? ⟨w4.heap.size, 2, none⟩ = some (.int .i64 lz) := by rw [hW5]; simp
          have g1 := cell_later' g1 hb5
          have g2 := cell_later' g2 hb5
          have g3 := cell_later' g3 hb5
          have k2 := (hb5.frozen (p := ⟨w.heap.size + 1, 0, none⟩) z1).trans k2
          have k3 := (hb5.frozen (p := ⟨w.heap.size + 1, 1, none⟩) z1).trans k3
          have c0 := cell_later' c0 hb5
          have c1 := cell_later' c1 hb5
          have c2 := cell_later' c2 hb5
          have c3 := cell_later' c3 hb5
          have z5 : w.heap.size + 1 < W5.heap.size := cell_lt g2
          clear hW5 hb5
          go_region_with (first | (go_at_call 64; (with_reducible refine (HR.out _ ?_).mono ?_); exact Hw5.out.drew; rintro e w6 ⟨rfl, hb6⟩; have hbd : Below W5.heap.size W5 w6 := (Below.refl _ _).drew.trans hb6; have g2 := cell_later' g2 hbd; have g3 := cell_later' g3 hbd; have k2 := (hbd.frozen (p := ⟨w.heap.size + 1, 0, none⟩) z5).trans k2; have k3 := (hbd.frozen (p := ⟨w.heap.size + 1, 1, none⟩) z5).trans k3; have z6 : w.heap.size + 1 < w6.heap.size := cell_lt g2; have Hw6 := hid (Hw5.out.trans (hbd.mono Hw5.out.size)); clear hb6 hbd))
          all_goals
            go_wp2_with fail
            have q := set_two (w := w6) (u := .int .i64 0) (v := .int .i64 0) g2 g3
            exact bodyPost_ret (res_r7 (v := .int .i64 (unrF x.blocks bb)) rfl rfl rfl (c := 0) (a := 0) q.1 q.2) rfl ⟨_, 0, 0, Hr.out, rfl, (Hw6.out.setCell (p := ⟨w.heap.size + 1, 0, none⟩) (by dsimp only; omega) _).setCell (p := ⟨w.heap.size + 1, 1, none⟩) (by dsimp only; omega) _⟩
  · have Hr : Hid (roundsOfF ⟨gs, fs⟩ k b = (0, c, d)) := by
      show _ = _
      unfold roundsOfF
      rw [Hcd.out, if_pos (fun e => hok (by simpa using e))]
    have hq : ((decide (c < 0) || decide (0 < c)) || (decide (d < 0) || decide (0 < d))) = true := by rw [Bool.eq_iff_iff]; simp; omega
    go_wp2_with fail
    obtain ⟨W2, hW2⟩ : ∃ W2, W2 = w1.alloc (.cells #[.int .i64 c, .int .i64 d] 28) := ⟨_, rfl⟩
    rw [← hW2]
    have hb2' : Below w1.heap.size w1 W2 := by rw [hW2]; (repeat (first | exact Below.refl _ _ | refine Below.alloc ?_ (by first | omega | (simp <;> omega)) _ | refine Below.setCell ?_ (by first | omega | (simp <;> omega)) _ | refine below_drewN ?_ _ | refine Below.drew ?_))
    have e0 : W2.cell? ⟨w1.heap.size, 0, none⟩ = some (.int .i64 c) := by rw [hW2]; simp
    have e1 : W2.cell? ⟨w1.heap.size, 1, none⟩ = some (.int .i64 d) := by rw [hW2]; simp
    have e2 := cell_later' g2 hb2'
    have e3 := cell_later' g3 hb2'
    have f2 := (hb2'.frozen (p := ⟨w.heap.size + 1, 0, none⟩) z1).trans k2
    have f3 := (hb2'.frozen (p := ⟨w.heap.size + 1, 1, none⟩) z1).trans k3
    have Hw2 : Hid (Below w.heap.size w W2) := Hw1.out.trans (hb2'.mono Hw1.out.size)
    clear hW2 hb2' g0 g1 g2 g3 k2 k3
    go_region_with (first | fail)
    all_goals go_wp2_with fail
    all_goals
      have q := set_two (w := W2.drew) (u := .int .i64 c) (v := .int .i64 d) e2 e3
      refine bodyPost_ret (res_r7 (v := .int .i64 0) rfl rfl rfl (c := c) (a := d) q.1 q.2) rfl ⟨0, c, d, Hr.out, rfl, ?_⟩
      have h := Hw2.out; (repeat (first | exact Below.refl _ _ | exact (h).mono (by first | omega | (simp <;> omega) | (have hh := (h).size; (try simp at hh); omega) | (have hh := (h).size; (try simp at hh); (try simp); omega)) | refine Below.trans ?_ ((h).mono (by first | omega | (simp <;> omega) | (have hh := (h).size; (try simp at hh); omega) | (have hh := (h).size; (try simp at hh); (try simp); omega))) | refine Below.alloc ?_ (by first | omega | (simp <;> omega) | (have hh := (h).size; (try simp at hh); omega) | (have hh := (h).size; (try simp at hh); (try simp); omega)) _ | refine Below.setCell ?_ (by first | omega | (simp <;> omega) | (have hh := (h).size; (try simp at hh); omega) | (have hh := (h).size; (try simp at hh); (try simp); omega)) _ | refine below_drewN ?_ _ | refine Below.drew ?_))

end Go.Proofs.YtaehkcnankijfaaDoor
