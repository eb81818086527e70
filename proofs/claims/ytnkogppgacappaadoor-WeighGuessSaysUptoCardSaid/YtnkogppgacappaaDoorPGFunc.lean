/- graph.Func: a function of a checked unit, by its number. -/
import Derived.Test.YtnkogppgacappaaDoorPAllF
import Derived.Test.YtnkogppgacappaaDoorPHotW
import Derived.Test.YtnkogppgacappaaDoorPCopy
import Derived.Deep.RegionHeld3
import Derived.BigRegion
namespace Go.Proofs.YtnkogppgacappaaDoor
open Go.RowKit

theorem heap_threeF (w : World) (a b c : Obj) : (((w.alloc a).alloc b).alloc c).heap.size = w.heap.size + 3 ∧ (((w.alloc a).alloc b).alloc c).heap[w.heap.size]? = some a ∧ (((w.alloc a).alloc b).alloc c).heap[w.heap.size + 1]? = some b ∧ (((w.alloc a).alloc b).alloc c).heap[w.heap.size + 1 + 1]? = some c := by
  have hs : ∀ (v : World) (o : Obj), (v.alloc o).heap.size = v.heap.size + 1 := fun v o => by simp
  have s1 := hs w a
  have s2 := hs (w.alloc a) b
  have s3 := hs ((w.alloc a).alloc b) c
  have e1 := heap_alloc_new w a
  have e2 := heap_alloc_new (w.alloc a) b
  have e3 := heap_alloc_new ((w.alloc a).alloc b) c
  rw [s1] at e2
  rw [s2, s1] at e3
  refine ⟨by omega, ?_, ?_, e3⟩
  · rw [Below.heap_alloc _ _ _ (by omega), Below.heap_alloc _ _ _ (by omega)]; exact e1
  · rw [Below.heap_alloc _ _ _ (by omega)]; exact e2
theorem cells_of {w : World} {b : Nat} {cs : List Value} {T : TypeId} {f : Nat × Nat} (h : w.heap[b]? = some (.cells cs.toArray T f)) : CellsAt w b 0 cs := fun j v hj => by
  rw [Nat.zero_add, cell_row h, List.getElem?_toArray]; exact hj
theorem thawed {w : World} {b : Nat} {cur : Array Value} {T : TypeId} (h : w.heap[b]? = some (.cells cur T (0, 0))) (i : Nat) : w.frozen? ⟨b, i, none⟩ = false := by simp [World.frozen?, h]
def sixW (W : World) (UF UX : Nat) (u0 u1 u2 u3 c a : Value) : World := ((((((W.setCell ⟨UF, 0, none⟩ u0).setCell ⟨UF, 1, none⟩ u1).setCell ⟨UF, 2, none⟩ u2).setCell ⟨UF, 3, none⟩ u3).setCell ⟨UX, 0, none⟩ c).setCell ⟨UX, 1, none⟩ a)
theorem func_res {fn : Func} (hfn : fn.results = #[.cell 4 35, .cell 5 28]) {tmps : Array Value} {W : World} {UF UX : Nat} {u0 u1 u2 u3 c a : Value}
    (h4 : tmps.getD 4 undef = .pointer (some ⟨UF, 0, none⟩)) (h5 : tmps.getD 5 undef = .pointer (some ⟨UX, 0, none⟩)) (hF : CellsAt W UF 0 [u0, u1, u2, u3]) (hX : CellsAt W UX 0 [c, a]) :
    (results fn tmps).run Tryd.prog W = .ok (.tuple #[.agg #[u0, u1, u2, u3], .agg #[c, a]]) W := by
  obtain ⟨a0, a1, a2, a3⟩ := hF.get4
  obtain ⟨b0, b1⟩ := hX.get2
  simp only [Array.getD_eq_getD_getElem?] at h4 h5
  simp [results, hfn, h4, h5, go_sem, a0, a1, a2, a3, b0, b1]
theorem six_cells {W : World} {UF UX : Nat} {o0 o1 o2 o3 x0 x1 : Value} (u0 u1 u2 u3 c a : Value) (hF : CellsAt W UF 0 [o0, o1, o2, o3]) (hX : CellsAt W UX 0 [x0, x1]) (hne : UF ≠ UX) :
    CellsAt (sixW W UF UX u0 u1 u2 u3 c a) UF 0 [u0, u1, u2, u3] ∧ CellsAt (sixW W UF UX u0 u1 u2 u3 c a) UX 0 [c, a] := by
  unfold sixW
  have q4 := set4 (u0 := u0) (u1 := u1) (u2 := u2) (u3 := u3) hF
  obtain ⟨W4, hW4⟩ : ∃ W4, W4 = (((W.setCell ⟨UF, 0, none⟩ u0).setCell ⟨UF, 1, none⟩ u1).setCell ⟨UF, 2, none⟩ u2).setCell ⟨UF, 3, none⟩ u3 := ⟨_, rfl⟩
  have hX4 : CellsAt W4 UX 0 [x0, x1] := fun j v hj => by
    rw [hW4, cell_set_ne _ (Ne.symm hne), cell_set_ne _ (Ne.symm hne), cell_set_ne _ (Ne.symm hne), cell_set_ne _ (Ne.symm hne)]; exact hX j v hj
  rw [← hW4] at q4 ⊢
  have q2 := set2 (u0 := c) (u1 := a) hX4
  exact ⟨fun j v hj => by rw [cell_set_ne _ hne, cell_set_ne _ hne]; exact q4 j v hj, q2⟩
theorem CellsAt.drewC {W : World} {b o : Nat} {cs : List Value} (h : CellsAt W b o cs) : CellsAt W.drew b o cs := fun j v hj => h j v hj
theorem below_six {B : Nat} {w W : World} {UF UX : Nat} {u0 u1 u2 u3 c a : Value} (h : Below B w W) (hF : B ≤ UF) (hX : B ≤ UX) : Below B w (sixW W UF UX u0 u1 u2 u3 c a) :=
  (((((h.setCell (p := ⟨UF, 0, none⟩) hF _).setCell (p := ⟨UF, 1, none⟩) hF _).setCell (p := ⟨UF, 2, none⟩) hF _).setCell (p := ⟨UF, 3, none⟩) hF _).setCell (p := ⟨UX, 0, none⟩) hX _).setCell (p := ⟨UX, 1, none⟩) hX _
def fnOf (fs : List DFunc) (k : Int) : Option DFunc := if k < 0 then none else fs[k.toNat]?
/-- What graph.Func tells. -/
def funcF (u : DUnit) (k : Int) : Option DFunc × Int × Int := if (checkF u).1 ≠ 0 then (none, checkF u) else match fnOf u.funcs k with | none => (none, 3, -1) | some f => (some f, 0, 0)
def zeroFn : Value := .agg #[.string ⟨#[]⟩, .int .i64 0, .int .i64 0, .slice none 0 0]
def FuncPost (S : Nat → Prop) (u : DUnit) (k : Int) (w : World) (e : Ending) (w' : World) : Prop :=
  Below w.heap.size w w' ∧
  (∀ f, (funcF u k).1 = some f → ∃ xa xc, e = .returned (.tuple #[.agg #[.string f.name, .int .i64 f.params, .int .i64 f.regs, .slice xa f.blocks.length xc], .agg #[.int .i64 0, .int .i64 0]]) ∧ SlAt S w 6 rBlock (.slice xa f.blocks.length xc) f.blocks) ∧
  ((funcF u k).1 = none → e = .returned (.tuple #[zeroFn, .agg #[.int .i64 (funcF u k).2.1, .int .i64 (funcF u k).2.2]]))

set_option maxRecDepth 100000 in
set_option maxHeartbeats 4000000 in
theorem func_any {S : Nat → Prop} (ga : Option Addr) (gc : Nat) (fa : Option Addr) (fc : Nat) (gs : List DGlobal) (fs : List DFunc) (k : Int) (w : World) (hk : I64 k)
    (hg : SlAt S w 3 rGlobal (.slice ga gs.length gc) gs) (hf : SlAt S w 4 rFunc (.slice fa fs.length fc) fs) (hw : Ways w)
    (hgl : gs.length ≤ 1048576) (hfl : fs.length ≤ 1048576) (hsm : ∀ (k : Nat) (f : DFunc), fs[k]? = some f → manyOf f.blocks ≤ 1048576 ∧ f.blocks.length ≤ 1048576) :
    Calls Tryd.prog 15 #[.agg #[.slice ga gs.length gc, .slice fa fs.length fc], .int .i64 k] w fun e w' => FuncPost S ⟨gs, fs⟩ k w e w' := by
  obtain ⟨hk1, hk2⟩ := hk
  obtain ⟨c, hc⟩ : ∃ c, c = (checkF ⟨gs, fs⟩).1 := ⟨_, rfl⟩
  obtain ⟨d, hd⟩ : ∃ d, d = (checkF ⟨gs, fs⟩).2 := ⟨_, rfl⟩
  have Hcd : Hid (checkF ⟨gs, fs⟩ = (c, d)) := by show _ = _; rw [hc, hd]
  have Hck' : Hid (∀ V, Below w.heap.size w V → Calls Tryd.prog 17 #[.agg #[.slice ga gs.length gc, .slice fa fs.length fc]] V fun e w' => e = .returned (.agg #[.int .i64 c, .int .i64 d]) ∧ Below V.heap.size V w') := fun V hV => by
    have h := check_any (S := S) ga gc fa fc gs fs V (hg.later rGlobal_mono hV) (hf.later rFunc_mono hV) (Ways.below hw hV) hgl hfl hsm
    rw [← hc, ← hd] at h
    exact h
  have Hf := hid hf
  clear hg hf hw hsm hc hd
  go_enter Tryd.func15, Tryd.ntmps15
  go_upto_region 1 with (fail)
  obtain ⟨W, hW⟩ : ∃ W, W = ((w.alloc (.cells #[.slice ga gs.length gc, .slice fa fs.length fc] 25)).alloc (.cells #[.string ⟨#[]⟩, .int .i64 0, .int .i64 0, .slice none 0 0] 35)).alloc (.cells #[.int .i64 0, .int .i64 0] 28) := ⟨_, rfl⟩
  obtain ⟨hWs, h0, h1, h2⟩ := heap_threeF w (.cells #[.slice ga gs.length gc, .slice fa fs.length fc] 25) (.cells #[.string ⟨#[]⟩, .int .i64 0, .int .i64 0, .slice none 0 0] 35) (.cells #[.int .i64 0, .int .i64 0] 28)
  rw [← hW] at hWs h0 h1 h2 ⊢
  have hbW : Below w.heap.size w W := by rw [hW]; (repeat (first | exact Below.refl _ _ | refine Below.alloc ?_ (by first | omega | (simp <;> omega)) _ | refine Below.setCell ?_ (by first | omega | (simp <;> omega)) _ | refine below_drewN ?_ _ | refine Below.drew ?_))
  obtain ⟨UB, hUB⟩ : ∃ UB, UB = w.heap.size := ⟨_, rfl⟩
  obtain ⟨UF, hUF⟩ : ∃ UF, UF = w.heap.size + 1 := ⟨_, rfl⟩
  obtain ⟨UX, hUX⟩ : ∃ UX, UX = w.heap.size + 1 + 1 := ⟨_, rfl⟩
  rw [← hUX] at h2 ⊢
  rw [← hUF] at h1 ⊢
  rw [← hUB] at h0 ⊢
  have HUs : Hid (UB = w.heap.size ∧ UF = w.heap.size + 1 ∧ UX = w.heap.size + 2 ∧ W.heap.size = w.heap.size + 3) := ⟨hUB, hUF, hUX, hWs⟩
  have Hst : Hid (∀ V, Below W.heap.size W V → Below w.heap.size w V ∧ V.heap[UB]? = some (.cells #[.slice ga gs.length gc, .slice fa fs.length fc] 25 (0, 0)) ∧ V.heap[UF]? = some (.cells #[.string ⟨#[]⟩, .int .i64 0, .int .i64 0, .slice none 0 0] 35 (0, 0)) ∧ V.heap[UX]? = some (.cells #[.int .i64 0, .int .i64 0] 28 (0, 0))) :=
    fun V hV => ⟨hbW.trans (hV.mono hbW.size), (hV.block UB (by omega)).trans h0, (hV.block UF (by omega)).trans h1, (hV.block UX (by omega)).trans h2⟩
  have HbW := hid hbW
  obtain ⟨c0, c1⟩ := (cells_of (cs := [_, _]) h0).get2
  have zB : UB < W.heap.size := by omega
  clear hW h0 h1 h2 hbW hUB hUF hUX hWs
  go_upto_region 2 with (go_at_call 17; refine (Hck'.out W HbW.out).mono ?_; rintro e w1 ⟨rfl, hb1⟩; have Hb1 := hid hb1; clear hb1)
  obtain ⟨W2, hW2⟩ : ∃ W2, W2 = w1.alloc (.cells #[.int .i64 c, .int .i64 d] 28) := ⟨_, rfl⟩
  have hb2 : Below w1.heap.size w1 W2 := by rw [hW2]; (repeat (first | exact Below.refl _ _ | refine Below.alloc ?_ (by first | omega | (simp <;> omega)) _ | refine Below.setCell ?_ (by first | omega | (simp <;> omega)) _ | refine below_drewN ?_ _ | refine Below.drew ?_))
  have Hb2 : Hid (Below W.heap.size W W2) := Hb1.out.trans (hb2.mono Hb1.out.size)
  have x0 : W2.cell? ⟨w1.heap.size, 0, none⟩ = some (.int .i64 c) := by rw [hW2]; simp
  have x1 : W2.cell? ⟨w1.heap.size, 1, none⟩ = some (.int .i64 d) := by rw [hW2]; simp
  rw [← hW2]
  obtain ⟨XB, hXB⟩ : ∃ XB, XB = w1.heap.size := ⟨_, rfl⟩
  rw [← hXB] at x0 x1 ⊢
  obtain ⟨Hw2, s0, s1, s2⟩ := Hst.out W2 Hb2.out
  have Hw2 := hid Hw2
  have S1 := hid s1
  have S2 := hid s2
  obtain ⟨a0, a1⟩ := (cells_of (cs := [_, _]) s0).get2
  rw [Nat.zero_add] at a1
  have f0 := thawed s1 0
  have f1 := thawed s1 1
  have f2 := thawed s1 2
  have f3 := thawed s1 3
  have g0 := thawed s2 0
  have g1 := thawed s2 1
  obtain ⟨b0, b1, b2, b3⟩ := (cells_of (cs := [_, _, _, _]) s1).get4
  obtain ⟨d0, d1⟩ := (cells_of (cs := [_, _]) s2).get2
  rw [Nat.zero_add] at b1 b2 b3 d1
  have zB2 : UB < W2.heap.size := cell_lt a0
  have zF2 : UF < W2.heap.size := cell_lt b0
  have zX2 : UX < W2.heap.size := cell_lt d0
  have zXB : XB < W2.heap.size := cell_lt x0
  have hne : ¬ UF = UX := by have := HUs.out; omega
  have hne2 : ¬ UX = UF := by omega
  have hn3 : ¬ XB = UF ∧ ¬ UF = XB ∧ ¬ XB = UX ∧ ¬ UX = XB := by have := HUs.out; have := Hb1.out.size; omega
  obtain ⟨hn3, hn4, hn5, hn6⟩ := hn3
  have hlo : w.heap.size ≤ UF ∧ w.heap.size ≤ UX := by have := HUs.out; omega
  have Hlo := hid hlo
  clear hW2 hb2 hXB s0 s1 s2 c0 c1 zB hlo
  by_cases hc0 : c = 0
  · subst hc0
    have hd0 : d = 0 := by
      have h := checkF_zero (u := ⟨gs, fs⟩) (by rw [Hcd.out])
      rw [Hcd.out] at h
      exact congrArg Prod.snd h
    subst hd0
    obtain ⟨fn, hfn⟩ : ∃ fn, fn = fs.length := ⟨_, rfl⟩
    rw [← hfn] at a1 hfl ⊢
    have Hfn := hid hfn
    have hwi : Hid (decide ((0 : Int) ≤ k ∧ k ≤ (fn : Int) - 1) = (fnOf fs k).isSome) := by
      show _ = _
      unfold fnOf
      by_cases h0 : k < 0
      · rw [if_pos h0, decide_eq_false (by omega)]; rfl
      · rw [if_neg h0]
        by_cases h1 : k < (fn : Int)
        · rw [decide_eq_true (by omega), List.getElem?_eq_getElem (by omega)]; rfl
        · rw [decide_eq_false (by omega), List.getElem?_eq_none (by omega)]; rfl
    have Hwi : Hid (∀ V, Calls Tryd.prog 26 #[.int .i64 k, .int .i64 0, .int .i64 ((fn : Int) - 1)] V fun e w' => e = .returned (.bool (fnOf fs k).isSome) ∧ V = w') := fun V => by
      have h := within_any k 0 ((fn : Int) - 1) V
      rw [hwi.out] at h
      exact h
    clear hwi hfn
    cases hfo : fnOf fs k with
    | none =>
      rw [hfo] at Hwi
      have Hpost : Hid (∀ e w', Below w.heap.size w w' → e = .returned (.tuple #[zeroFn, .agg #[.int .i64 3, .int .i64 (-1)]]) → FuncPost S ⟨gs, fs⟩ k w e w') := fun e w' h1 h2 => by
        have e1 : funcF ⟨gs, fs⟩ k = (none, 3, -1) := by
          unfold funcF
          rw [Hcd.out, if_neg (by simp)]
          dsimp only
          rw [hfo]
        refine ⟨h1, fun f hf => ?_, fun _ => ?_⟩
        · rw [e1] at hf; cases hf
        · rw [e1]; exact h2
      clear hfo
      simp only [Option.isSome_none] at Hwi
      go_wp2_with (first
        | (go_at_call 26; refine (Hwi.out _).mono ?_; rintro e w' ⟨rfl, rfl⟩)
        | (go_at_call 27; refine (fault_any _ _ _).mono ?_; rintro e w5 ⟨rfl, hb5⟩
           obtain ⟨Hw5, s0, s1, s2⟩ := Hst.out w5 (Hb2.out.trans (hb5.mono Hb2.out.size))
           have Hw5 := hid Hw5
           have S1 := hid s1
           have S2 := hid s2
           have f0 := thawed s1 0
           have f1 := thawed s1 1
           have f2 := thawed s1 2
           have f3 := thawed s1 3
           have g0 := thawed s2 0
           have g1 := thawed s2 1
           obtain ⟨b0, b1, b2, b3⟩ := (cells_of (cs := [_, _, _, _]) s1).get4
           obtain ⟨d0, d1⟩ := (cells_of (cs := [_, _]) s2).get2
           rw [Nat.zero_add] at b1 b2 b3 d1
           have zF2 : UF < w5.heap.size := cell_lt b0
           have zX2 : UX < w5.heap.size := cell_lt d0
           clear hb5 s0 s1 s2))
      have hsix := six_cells (.string ⟨#[]⟩) (.int .i64 0) (.int .i64 0) (.slice none 0 0) (.int .i64 3) (.int .i64 (-1)) (cells_of (cs := [_, _, _, _]) S1.out) (cells_of (cs := [_, _]) S2.out) hne
      have hb6 : Below w.heap.size w (sixW w5 UF UX (.string ⟨#[]⟩) (.int .i64 0) (.int .i64 0) (.slice none 0 0) (.int .i64 3) (.int .i64 (-1))) := below_six Hw5.out Hlo.out.1 Hlo.out.2
      exact bodyPost_ret (func_res rfl rfl rfl hsix.1 hsix.2) rfl (Hpost.out _ _ hb6 rfl)
    | some f =>
      rw [hfo] at Hwi
      simp only [Option.isSome_some] at Hwi
      have hfs : 0 ≤ k ∧ fs[k.toNat]? = some f := by
        unfold fnOf at hfo
        by_cases h0 : k < 0
        · rw [if_pos h0] at hfo; cases hfo
        · rw [if_neg h0] at hfo; exact ⟨by omega, hfo⟩
      obtain ⟨kn, rfl⟩ := Int.eq_ofNat_of_zero_le hfs.1
      have hkf : fs[kn]? = some f := by have := hfs.2; rwa [Int.toNat_natCast] at this
      have hkl : kn < fs.length := (List.getElem?_eq_some_iff.1 hkf).1
      have hkn : kn < fn := by rw [Hfn.out]; exact hkl
      obtain ⟨fb, foff, xa, xc, rfl, hcs, hxb, -, -⟩ := func_at (Hf.out.later rFunc_mono Hw2.out) hkl
      have hxe : fs[kn] = f := (List.getElem?_eq_some_iff.1 hkf).2
      have hxb0 := (func_at Hf.out hkl)
      rw [hxe] at hcs
      obtain ⟨q0, q1, q2, q3⟩ := hcs.get4
      have hxbw : SlAt S w 6 rBlock (.slice xa f.blocks.length xc) f.blocks := by
        obtain ⟨fb', foff', xa', xc', e1, hcs', hxb', -, -⟩ := hxb0
        cases e1
        rw [hxe] at hcs' hxb'
        have h3 := (hcs'.later Hw2.out).get4.2.2.2
        rw [q3] at h3
        cases h3
        exact hxb'
      have hff : fb < w.heap.size := by
        obtain ⟨fb', foff', xa', xc', e1, hcs', hxb', -, -⟩ := hxb0
        cases e1
        exact cell_lt hcs'.get4.1
      have hfo1 : ¬ fb = UF := by have := Hlo.out; omega
      have hfo2 : ¬ UF = fb := by have := Hlo.out; omega
      have hfo3 : ¬ fb = UX := by have := Hlo.out; omega
      have hfo4 : ¬ UX = fb := by have := Hlo.out; omega
      have hfb2 : fb < W2.heap.size := cell_lt q0
      have Hpost : Hid (∀ e w', Below w.heap.size w w' → e = .returned (.tuple #[.agg #[.string f.name, .int .i64 f.params, .int .i64 f.regs, .slice xa f.blocks.length xc], .agg #[.int .i64 0, .int .i64 0]]) → FuncPost S ⟨gs, fs⟩ (kn : Int) w e w') := fun e w' h1 h2 => by
        have e1 : funcF ⟨gs, fs⟩ (kn : Int) = (some f, 0, 0) := by
          unfold funcF
          rw [Hcd.out, if_neg (by simp)]
          dsimp only
          rw [hfo]
        refine ⟨h1, fun f' hf => ?_, fun hn => ?_⟩
        · rw [e1] at hf
          cases hf
          exact ⟨xa, xc, h2, hxbw⟩
        · rw [e1] at hn; cases hn
      obtain ⟨nm, hnm⟩ : ∃ nm, nm = f.name := ⟨_, rfl⟩
      obtain ⟨pr, hpr⟩ : ∃ pr, pr = f.params := ⟨_, rfl⟩
      obtain ⟨rg, hrg⟩ : ∃ rg, rg = f.regs := ⟨_, rfl⟩
      obtain ⟨bn, hbn⟩ : ∃ bn, bn = f.blocks.length := ⟨_, rfl⟩
      rw [← hnm] at q0 Hpost
      rw [← hpr] at q1 Hpost
      rw [← hrg] at q2 Hpost
      rw [← hbn] at q3 Hpost
      clear hcs hxb hxb0 hxe hkf hfs hfo hxbw hnm hpr hrg hbn hkl
      go_wp2_with (go_at_call 26; refine (Hwi.out _).mono ?_; rintro e w' ⟨rfl, rfl⟩)
      have hsix := six_cells (.string nm) (.int .i64 pr) (.int .i64 rg) (.slice xa bn xc) (.int .i64 0) (.int .i64 0) (cells_of (cs := [_, _, _, _]) S1.out) (cells_of (cs := [_, _]) S2.out) hne
      have hb6 : Below w.heap.size w (sixW W2 UF UX (.string nm) (.int .i64 pr) (.int .i64 rg) (.slice xa bn xc) (.int .i64 0) (.int .i64 0)) := below_six Hw2.out Hlo.out.1 Hlo.out.2
      exact bodyPost_ret (func_res rfl rfl rfl hsix.1 hsix.2) rfl (Hpost.out _ _ hb6 rfl)
  · have hq : ((decide (c < 0) || decide (0 < c)) || (decide (d < 0) || decide (0 < d))) = true := by rw [Bool.eq_iff_iff]; simp; omega
    have Hpost : Hid (∀ e w', Below w.heap.size w w' → e = .returned (.tuple #[zeroFn, .agg #[.int .i64 c, .int .i64 d]]) → FuncPost S ⟨gs, fs⟩ k w e w') := fun e w' h1 h2 => by
      have e1 : funcF ⟨gs, fs⟩ k = (none, c, d) := by
        unfold funcF
        rw [Hcd.out, if_pos hc0]
      refine ⟨h1, fun f hf => ?_, fun _ => ?_⟩
      · rw [e1] at hf; cases hf
      · rw [e1]; exact h2
    clear hc0
    go_wp2_with fail
    go_region
    have hsix := six_cells (.string ⟨#[]⟩) (.int .i64 0) (.int .i64 0) (.slice none 0 0) (.int .i64 c) (.int .i64 d) (cells_of (cs := [_, _, _, _]) S1.out) (cells_of (cs := [_, _]) S2.out) hne
    have hb6 : Below w.heap.size w (sixW W2 UF UX (.string ⟨#[]⟩) (.int .i64 0) (.int .i64 0) (.slice none 0 0) (.int .i64 c) (.int .i64 d)) := below_six Hw2.out Hlo.out.1 Hlo.out.2
    obtain ⟨W6, hW6⟩ : ∃ W6, W6 = sixW W2 UF UX (.string ⟨#[]⟩) (.int .i64 0) (.int .i64 0) (.slice none 0 0) (.int .i64 c) (.int .i64 d) := ⟨_, rfl⟩
    rw [← hW6] at hsix hb6
    unfold sixW at hW6
    rw [← hW6]
    have Hsix := hid hsix
    have Hb6 := hid hb6
    clear hW6 hsix hb6
    go_wp2_with fail
    refine bodyPost_ret (func_res rfl rfl rfl Hsix.out.1.drewC Hsix.out.2.drewC) rfl (Hpost.out _ _ Hb6.out.drew rfl)

end Go.Proofs.YtnkogppgacappaaDoor
