/- BitsOfSays: the law's walk, and its row and card: where what it reads is of bulk at most 1048576, the law answers true for every input. -/
import Derived.Test.YtaehkcnankijfaaDoorPBitOf
import Derived.Test.YtaehkcnankijfaaDoorPRefTab
import Derived.Test.YtaehkcnankijfaaDoorPOnceW
import Derived.Test.YtaehkcnankijfaaDoorPWrite
import Derived.Deep.RegionWith
namespace Go.Proofs.YtaehkcnankijfaaDoor
open Go.RowKit

theorem gBruijn : Tryd.prog.globalNamed "math/bits.deBruijn64tab" = some 1 := by kernel_rfl
theorem gBruijnType : (Tryd.prog.globals[1]?).map (·.type) = some 230 := by kernel_rfl
theorem cells64 : Tryd.prog.cellsOf 230 = 64 := by kernel_rfl
theorem cells_byte : Tryd.prog.cellsOf 5 = 1 := by kernel_rfl
theorem bruijn_of {W : World} (h : laidMetH Tryd.prog [("math/bits.deBruijn64tab", Rows.laid_math_bits_deBruijn64tab), ("turnery/code.ways", Rows.laid_turnery_code_ways)] W) : Bruijn W := by
  have t : Lib.TabIs Tryd.prog W "math/bits.deBruijn64tab" .u8 (Lib.deBruijn64tab.map fun n : Nat => (n : Int)) := Lib.tabIs_of_head (rest := [("turnery/code.ways", Rows.laid_turnery_code_ways)]) gBruijn gBruijnType Tryd.underlying230 Tryd.underlying5 cells_byte cells64 h
  intro j hj
  have h2 := t.cell gBruijn j (by rw [List.length_map]; exact hj)
  rw [h2]
  congr 2
  rw [List.getD_eq_getElem?_getD, List.getD_eq_getElem?_getD, List.getElem?_map, List.getElem?_eq_getElem hj]
  rfl
theorem ways_of2 {W : World} (h : laidMetH Tryd.prog [("math/bits.deBruijn64tab", Rows.laid_math_bits_deBruijn64tab), ("turnery/code.ways", Rows.laid_turnery_code_ways)] W) : Ways W := by
  obtain ⟨ps, ⟨g0, t0, cs0, f0, p0, q0, -, -, -, -, hrest, -⟩, -⟩ := h
  obtain ⟨g', t', cs, fuel, p, q, hg', ht', hvar, hd, -, -⟩ := hrest
  obtain rfl := Option.some.inj (gWays.symm.trans hg')
  obtain rfl := Option.some.inj (gWaysType.symm.trans ht')
  have t : Lib.TabIs Tryd.prog W "turnery/code.ways" .i64 [0, 0, 1, 2] := by
    unfold Lib.TabIs
    rw [hvar, ← Lib.cells_of_tab Tryd.underlying183 Tryd.underlying3 cells_int cells4 hd]
  exact ⟨t.cell gWays 1 (by decide), t.cell gWays 2 (by decide), t.cell gWays 3 (by decide)⟩

/-- A world for the witness: both tables hold what their initialisers lay. -/
noncomputable def laidWorld2 (os : Os) : World :=
  { laidWorld os with heap := (laidWorld os).heap.modify 1 fun
      | .cells _ t frozen => .cells (Lib.deBruijn64tab.map fun n : Nat => Value.int .u8 (n : Int)).toArray t frozen
      | o => o }
theorem ofF_bad {u : DUnit} {k c d : Int} (h : ssaF u = (c, d)) (hn : ¬ (c = 0 ∧ d = 0)) : bitsOfF u k = ([], c, d) := by
  unfold bitsOfF
  rw [h, if_pos (fun e => hn (by simpa using e))]
theorem ofF_none {u : DUnit} {k : Int} (h : ssaF u = (0, 0)) (hk : fnAt u.funcs k = none) : bitsOfF u k = ([], 3, -1) := by
  unfold bitsOfF
  rw [h, if_neg (by simp), hk]
theorem ofF_some {u : DUnit} {k : Int} {x : DFunc} (h : ssaF u = (0, 0)) (hk : fnAt u.funcs k = some x) : bitsOfF u k = ((tableF x).map pairK, 0, 0) := by
  unfold bitsOfF
  rw [h, if_neg (by simp), hk]

set_option maxRecDepth 100000 in
set_option maxHeartbeats 4000000 in
theorem bitsOfSays_any (w : World) (hw : Ways w) (hB : Bruijn w) (ga : Option Addr) (gc : Nat) (fa : Option Addr) (fc : Nat) (gs : List DGlobal) (fs : List DFunc) (hg : SlAt (fun b => b < w.heap.size) w 3 rGlobal (.slice ga gs.length gc) gs) (hf : SlAt (fun b => b < w.heap.size) w 4 rFunc (.slice fa fs.length fc) fs)
    (hsm : Small gs fs) (k : Int) (hk1 : -9223372036854775808 ≤ k) (hk2 : k ≤ 9223372036854775807) :
    Calls Tryd.prog 9 #[.agg #[.slice ga gs.length gc, .slice fa fs.length fc], .int .i64 k] w fun e w' => e = .returned (.bool true) ∧ Below w.heap.size w w' := by
  have hgl := hsm.globals
  have hfl := hsm.funcs
  have Hsm := hid hsm.many
  have Hg := hid hg
  have Hf := hid hf
  have Hw := hid hw
  have HB := hid hB
  clear hg hf hw hsm hB
  go_enter Tryd.func9, Tryd.ntmps9
  obtain ⟨W, hW⟩ : ∃ W, W = (w.alloc (.cells #[.slice ga gs.length gc, .slice fa fs.length fc] 25)) := ⟨_, rfl⟩
  have hbW : Below w.heap.size w W := by rw [hW]; (repeat (first | exact Below.refl _ _ | refine Below.alloc ?_ (by first | omega | (simp <;> omega)) _ | refine Below.setCell ?_ (by first | omega | (simp <;> omega)) _ | refine below_drewN ?_ _ | refine Below.drew ?_))
  have g0 : W.cell? ⟨w.heap.size, 0, none⟩ = some (.slice ga gs.length gc) := by rw [hW]; simp
  have g1 : W.cell? ⟨w.heap.size, 1, none⟩ = some (.slice fa fs.length fc) := by rw [hW]; simp
  have hWs : W.heap.size = w.heap.size + 1 := by rw [hW]; simp
  go_wp2_with fail
  rw [← hW]
  obtain ⟨UB, hUB⟩ : ∃ UB, UB = w.heap.size := ⟨_, rfl⟩
  rw [← hUB] at g0 g1
  refine (bitsOf_all (S := fun b => b < w.heap.size) ga gc fa fc gs fs k W ⟨hk1, hk2⟩ (Hg.out.later rGlobal_mono hbW) (Hf.out.later rFunc_mono hbW) (Ways.below Hw.out hbW) (HB.out.below hbW) (fun b hb => by omega) hgl hfl Hsm.out).mono ?_
  rintro e w1 ⟨L1, a1, e1, p1, q1, hr1, rfl, hv1, hb1⟩
  have Hr1 := hid hr1
  have Hv1 := hid hv1
  have Hw1 : Hid (Below w.heap.size w w1) := hbW.trans (hb1.mono (by omega))
  have g0 := cell_later' g0 hb1
  have g1 := cell_later' g1 hb1
  have z1 : UB < w1.heap.size := cell_lt g0
  clear hr1 hv1 hb1 hbW hW hWs
  simp only []
  rw [← hUB]
  clear hUB
  go_wp2_with fail
  obtain ⟨W2, hW2⟩ : ∃ W2, W2 = w1.alloc (.cells #[.int .i64 p1, .int .i64 q1] 28) := ⟨_, rfl⟩
  rw [← hW2]
  have hb2 : Below w1.heap.size w1 W2 := by rw [hW2]; (repeat (first | exact Below.refl _ _ | refine Below.alloc ?_ (by first | omega | (simp <;> omega)) _ | refine Below.setCell ?_ (by first | omega | (simp <;> omega)) _ | refine below_drewN ?_ _ | refine Below.drew ?_))
  have Hw2 : Hid (Below w.heap.size w W2) := Hw1.out.trans (hb2.mono Hw1.out.size)
  have g0 := cell_later' g0 hb2
  have g1 := cell_later' g1 hb2
  have g2 : W2.cell? ⟨w1.heap.size, 0, none⟩ = some (.int .i64 p1) := by rw [hW2]; simp
  have g3 : W2.cell? ⟨w1.heap.size, 1, none⟩ = some (.int .i64 q1) := by rw [hW2]; simp
  have Hv2 := hid (Hv1.out.later rPair_mono hb2)
  obtain ⟨F1, hF1⟩ : ∃ F1, F1 = w1.heap.size := ⟨_, rfl⟩
  rw [← hF1] at g2 g3 ⊢
  clear hb2 hW2 hF1 Hv1
  refine (bitsOf_all (S := fun b => b < w.heap.size) ga gc fa fc gs fs (-1) W2 ⟨by omega, by omega⟩ (Hg.out.later rGlobal_mono Hw2.out) (Hf.out.later rFunc_mono Hw2.out) (Ways.below Hw.out Hw2.out) (HB.out.below Hw2.out) (fun b hb => by have := Hw2.out.size; omega) hgl hfl Hsm.out).mono ?_
  rintro e w3 ⟨L2, a2, e2, p2, q2, hr2, rfl, hv2, hb3⟩
  have Hr2 := hid hr2
  have Hw3 : Hid (Below w.heap.size w w3) := Hw2.out.trans (hb3.mono Hw2.out.size)
  have g0 := cell_later' g0 hb3
  have g1 := cell_later' g1 hb3
  have g2 := cell_later' g2 hb3
  have g3 := cell_later' g3 hb3
  have Hv3 := hid (Hv2.out.later rPair_mono hb3)
  have z3 : UB < w3.heap.size := cell_lt g0
  clear hr2 hv2 hb3 Hv2
  simp only []
  go_wp2_with fail
  obtain ⟨W4, hW4⟩ : ∃ W4, W4 = w3.alloc (.cells #[.int .i64 p2, .int .i64 q2] 28) := ⟨_, rfl⟩
  rw [← hW4]
  have hb4 : Below w3.heap.size w3 W4 := by rw [hW4]; (repeat (first | exact Below.refl _ _ | refine Below.alloc ?_ (by first | omega | (simp <;> omega)) _ | refine Below.setCell ?_ (by first | omega | (simp <;> omega)) _ | refine below_drewN ?_ _ | refine Below.drew ?_))
  have Hw4 : Hid (Below w.heap.size w W4) := Hw3.out.trans (hb4.mono Hw3.out.size)
  have g0 := cell_later' g0 hb4
  have g1 := cell_later' g1 hb4
  have g2 := cell_later' g2 hb4
  have g3 := cell_later' g3 hb4
  have g4 : W4.cell? ⟨w3.heap.size, 0, none⟩ = some (.int .i64 p2) := by rw [hW4]; simp
  have g5 : W4.cell? ⟨w3.heap.size, 1, none⟩ = some (.int .i64 q2) := by rw [hW4]; simp
  have Hv4 := hid (Hv3.out.later rPair_mono hb4)
  obtain ⟨F2, hF2⟩ : ∃ F2, F2 = w3.heap.size := ⟨_, rfl⟩
  rw [← hF2] at g4 g5 ⊢
  clear hb4 hW4 hF2 Hv3
  refine (ssaCheck_any (S := fun b => b < w.heap.size) ga gc fa fc gs fs W4 (Hg.out.later rGlobal_mono Hw4.out) (Hf.out.later rFunc_mono Hw4.out) (Ways.below Hw.out Hw4.out) (fun b hb => by have := Hw4.out.size; omega) hgl hfl Hsm.out).mono ?_
  rintro e w5 ⟨rfl, hb5⟩
  have Hw5 : Hid (Below w.heap.size w w5) := Hw4.out.trans (hb5.mono Hw4.out.size)
  have g0 := cell_later' g0 hb5
  have g1 := cell_later' g1 hb5
  have g2 := cell_later' g2 hb5
  have g3 := cell_later' g3 hb5
  have g4 := cell_later' g4 hb5
  have g5 := cell_later' g5 hb5
  have z5 : UB < w5.heap.size := cell_lt g0
  have y5 : F1 < w5.heap.size := cell_lt g2
  have x5 : F2 < w5.heap.size := cell_lt g4
  have Hv5 := hid (Hv4.out.later rPair_mono hb5)
  obtain ⟨c, hc⟩ : ∃ c, c = (ssaF ⟨gs, fs⟩).1 := ⟨_, rfl⟩
  obtain ⟨d, hd⟩ : ∃ d, d = (ssaF ⟨gs, fs⟩).2 := ⟨_, rfl⟩
  have Hcd : Hid (ssaF ⟨gs, fs⟩ = (c, d)) := by show _ = _; rw [hc, hd]
  rw [← hc, ← hd]
  clear hb5 hc hd Hv4
  by_cases hc0 : c = 0
  · subst hc0
    have hd0 : d = 0 := by
      have h := ssaF_code (u := ⟨gs, fs⟩) (by rw [Hcd.out])
      rw [Hcd.out] at h
      exact congrArg Prod.snd h
    subst hd0
    have h2 := Hr2.out
    rw [ofF_none Hcd.out (by unfold fnAt; rfl)] at h2
    cases h2
    go_wp2_with fail
    obtain ⟨W5, hW5⟩ : ∃ W5, W5 = w5.alloc (.cells #[.int .i64 0, .int .i64 0] 28) := ⟨_, rfl⟩
    rw [← hW5]
    have hb6 : Below w5.heap.size w5 W5 := by rw [hW5]; (repeat (first | exact Below.refl _ _ | refine Below.alloc ?_ (by first | omega | (simp <;> omega)) _ | refine Below.setCell ?_ (by first | omega | (simp <;> omega)) _ | refine below_drewN ?_ _ | refine Below.drew ?_))
    have g0 := cell_later' g0 hb6
    have g1 := cell_later' g1 hb6
    have g2 := cell_later' g2 hb6
    have g3 := cell_later' g3 hb6
    have m4 := cell_later' g4 hb6
    have m5 := cell_later' g5 hb6
    have Hw5 : Hid (Below w.heap.size w W5) := Hw5.out.trans (hb6.mono Hw5.out.size)
    have Hv5 := hid (Hv5.out.later rPair_mono hb6)
    have HS4 : Hid (∀ w', Below W5.heap.size W5 w' → w'.cell? ⟨F2, 0, none⟩ = some (.int .i64 3) ∧ w'.cell? ⟨F2, 1, none⟩ = some (.int .i64 (-1))) := fun w' h => ⟨cell_later' m4 h, cell_later' m5 h⟩
    clear hW5 hb6 g4 g5 m4 m5 z5 y5 x5
    go_region_held3 (fun w' => w'.cell? ⟨F2, 0, none⟩ = some (.int .i64 3) ∧ w'.cell? ⟨F2, 1, none⟩ = some (.int .i64 (-1)))
      (exact HS4.out _ (by first | exact (Below.refl _ _).drew | exact hF9))
      ((first | (go_at_call 17; refine (sfault_any _ _ W5.drew).mono ?_; rintro e w9 ⟨rfl, hb9⟩; have hF9 : Below W5.heap.size W5 w9 := (Below.refl W5.heap.size W5).drew.trans hb9)))
    have HF9 := hid hF9
    have g0 := cell_later' g0 hF9
    have g1 := cell_later' g1 hF9
    have g2 := cell_later' g2 hF9
    have g3 := cell_later' g3 hF9
    have Hw5 : Hid (Below w.heap.size w w9) := Hw5.out.trans (hF9.mono Hw5.out.size)
    have Hv5 := hid (Hv5.out.later rPair_mono hF9)
    have z5 : UB < w9.heap.size := cell_lt g0
    have y5 : F1 < w9.heap.size := cell_lt g2
    clear hF9 hb9
    cases hfk : fnAt fs k with
    | none =>
      have h1 := Hr1.out
      rw [ofF_none Hcd.out hfk] at h1
      cases h1
      have hbad := fnAt_none hfk
      by_cases hk0 : k < 0
      · have hq : decide (k < 0) = true := decide_eq_true hk0
        clear hfk hbad
        go_wp2_with fail
        go_ret
        exact ⟨rfl, by have h := Hw5.out; (repeat (first | exact Below.refl _ _ | exact (h).mono (by first | omega | (simp <;> omega) | (have hh := (h).size; (try simp at hh); omega) | (have hh := (h).size; (try simp at hh); (try simp); omega)) | refine Below.trans ?_ ((h).mono (by first | omega | (simp <;> omega) | (have hh := (h).size; (try simp at hh); omega) | (have hh := (h).size; (try simp at hh); (try simp); omega))) | refine Below.alloc ?_ (by first | omega | (simp <;> omega) | (have hh := (h).size; (try simp at hh); omega) | (have hh := (h).size; (try simp at hh); (try simp); omega)) _ | refine Below.setCell ?_ (by first | omega | (simp <;> omega) | (have hh := (h).size; (try simp at hh); omega) | (have hh := (h).size; (try simp at hh); (try simp); omega)) _ | refine below_drewN ?_ _ | refine Below.drew ?_))⟩
      · have hq : decide (k < 0) = false := decide_eq_false hk0
        have hq2 : decide ((fs.length : Int) ≤ k) = true := decide_eq_true (by omega)
        clear hfk hbad
        go_wp2_with fail
        go_ret
        exact ⟨rfl, by have h := Hw5.out; (repeat (first | exact Below.refl _ _ | exact (h).mono (by first | omega | (simp <;> omega) | (have hh := (h).size; (try simp at hh); omega) | (have hh := (h).size; (try simp at hh); (try simp); omega)) | refine Below.trans ?_ ((h).mono (by first | omega | (simp <;> omega) | (have hh := (h).size; (try simp at hh); omega) | (have hh := (h).size; (try simp at hh); (try simp); omega))) | refine Below.alloc ?_ (by first | omega | (simp <;> omega) | (have hh := (h).size; (try simp at hh); omega) | (have hh := (h).size; (try simp at hh); (try simp); omega)) _ | refine Below.setCell ?_ (by first | omega | (simp <;> omega) | (have hh := (h).size; (try simp at hh); omega) | (have hh := (h).size; (try simp at hh); (try simp); omega)) _ | refine below_drewN ?_ _ | refine Below.drew ?_))⟩
    | some x =>
      obtain ⟨kn, rfl, hkf⟩ := fnAt_some hfk
      have h1 := Hr1.out
      rw [ofF_some Hcd.out hfk] at h1
      obtain ⟨hL, rfl, rfl⟩ : (tableF x).map pairK = L1 ∧ 0 = p1 ∧ 0 = q1 := by simpa using h1
      have hkl : kn < fs.length := (List.getElem?_eq_some_iff.1 hkf).1
      have hfn := ssaF_fn Hcd.out hkf
      obtain ⟨W6, hW6⟩ : ∃ W6 : World, W6 = w9 := ⟨_, rfl⟩
      subst hW6
      have Hw6 := Hw5
      have Hv6 := Hv5
      obtain ⟨fb, foff, xa, xc, rfl, hcs, hxb, -, -⟩ := func_at (Hf.out.later rFunc_mono Hw6.out) hkl
      obtain ⟨c0, c1, c2, c3⟩ := hcs.get4
      have zf : fb < W6.heap.size := cell_lt c0
      have hxe : fs[kn] = x := (List.getElem?_eq_some_iff.1 hkf).2
      rw [hxe] at c0 c1 c2 c3 hxb
      have Hfn := hid hfn
      have Hxb := hid hxb
      have HL := hid hL
      obtain ⟨n, hn⟩ : ∃ n, n = x.regs.toNat := ⟨_, rfl⟩
      have Hn := hid hn
      have hLl : L1.length = n := by rw [← hL, List.length_map, table_len hfn.1, hn]
      have hn2 : n ≤ 100 := by have := hfn.1.pr; omega
      rw [hLl] at Hv6 ⊢
      have zz6 : UB < W6.heap.size := cell_lt g0
      have yy6 : F1 < W6.heap.size := cell_lt g2
      clear hfk hkf hfn hcs hxb hxe hL hn h1 hLl Hv5
      go_wp2_with fail
      clear c0 c1 c2 c3
      refine (refTable_any (S := fun b => b < w.heap.size) x.name xa xc x W6 Hfn.out.1 Hxb.out (fun b hb => by have := Hw6.out.size; omega)).mono ?_
      rintro e w7 ⟨la, LB, cap, rfl, hla, hlt, hb7⟩
      rw [← Hn.out] at hla ⊢
      have htt : tableR x = tableF x := (tables_same Hfn.out.1).symm
      rw [htt] at hlt
      have g2 := cell_later' g2 hb7
      have g3 := cell_later' g3 hb7
      have Hv7 := hid (Hv6.out.later rPair_mono hb7)
      have Hlt := hid hlt
      have Hla := hid hla
      have Hw7 : Hid (Below w.heap.size w w7) := Hw6.out.trans (hb7.mono Hw6.out.size)
      have Htl : Hid ((tableF x).length = n) := by show _ = _; rw [table_len Hfn.out.1, Hn.out]
      have y7 : F1 < w7.heap.size := cell_lt g2
      clear htt hlt hla hb7 g0 g1 Hv6
      go_wp2_with fail
      clear g2 g3
      go_loop [11] (fun s11 => ∃ r : Nat, r ≤ n ∧ s11 = .int .i64 r) (fun s11 => n - (intOf s11).toNat)
      case atStart => exact ⟨0, Nat.zero_le _, rfl⟩
      case round =>
        obtain ⟨r, hr, rfl⟩ := hrel
        by_cases hrn : r < n
        · have hlas := Hla.out (by omega)
          subst hlas
          obtain ⟨g, c0, -, -, hrow⟩ := Hlt.out.row r (by rw [Htl.out]; exact hrn)
          have Hrow := hid hrow
          have hLr : L1[r]? = some (pairK (tbAt (tableF x) r)) := by
            rw [← HL.out, List.getElem?_map, List.getElem?_eq_getElem (by rw [Htl.out]; exact hrn), tbAt_lt (by rw [Htl.out]; exact hrn)]; rfl
          obtain ⟨a9, c9, hv9, -, -, hel⟩ := Hv7.out
          obtain ⟨lb, loff, hae, -, hat⟩ := hel (fun e => by rw [e] at hLr; simp at hLr)
          subst hae
          obtain ⟨cs, hcs1, hcs2, hcs3⟩ := hat r _ hLr
          obtain rfl : cs = [.int .i64 (bi (tbAt (tableF x) r).off), .int .i64 (bi (tbAt (tableF x) r).on)] := hcs1
          obtain ⟨d0, d1⟩ := hcs3.get2
          obtain ⟨rfl, -, -⟩ : a1 = some ⟨lb, loff, none⟩ ∧ True ∧ True := by
            injection hv9 with h1 h2 h3
            exact ⟨h1, trivial, trivial⟩
          obtain ⟨m, hm⟩ : ∃ m, m = tbAt (tableF x) r := ⟨_, rfl⟩
          rw [← hm] at d0 d1 Hrow
          clear hrow hLr hv9 hel hat hcs2 hcs3 hm
          go_wp2_with (go_at_call 31; refine (bitsPair_any g m _ Hrow.out).mono ?_; rintro e w' ⟨rfl, rfl⟩)
          go_round
          case rel => exact ⟨r + 1, by omega, by go_num⟩
          case measure => simp [intOf]; omega
        · have hrn' : r = n := by omega
          go_wp2_with fail
          go_ret
          exact ⟨rfl, Hw7.out⟩
  · have hq : (decide (c < 0) || decide (0 < c)) = true := by rw [Bool.eq_iff_iff]; simp; omega
    have h1 := Hr1.out
    have h2 := Hr2.out
    rw [ofF_bad Hcd.out (fun h => hc0 h.1)] at h1 h2
    cases h1
    cases h2
    go_wp2_with fail
    go_ret
    exact ⟨rfl, by have h := Hw5.out; (repeat (first | exact Below.refl _ _ | exact (h).mono (by first | omega | (simp <;> omega) | (have hh := (h).size; (try simp at hh); omega) | (have hh := (h).size; (try simp at hh); (try simp); omega)) | refine Below.trans ?_ ((h).mono (by first | omega | (simp <;> omega) | (have hh := (h).size; (try simp at hh); omega) | (have hh := (h).size; (try simp at hh); (try simp); omega))) | refine Below.alloc ?_ (by first | omega | (simp <;> omega) | (have hh := (h).size; (try simp at hh); omega) | (have hh := (h).size; (try simp at hh); (try simp); omega)) _ | refine Below.setCell ?_ (by first | omega | (simp <;> omega) | (have hh := (h).size; (try simp at hh); omega) | (have hh := (h).size; (try simp at hh); (try simp); omega)) _ | refine below_drewN ?_ _ | refine Below.drew ?_))⟩

end Go.Proofs.YtaehkcnankijfaaDoor

namespace Go.Proofs.YtaehkcnankijfaaDoor
open Go.RowKit Go.ChangeShapes Go.WideShapes Go.ChangeAt Go.Deep

set_option maxRecDepth 100000 in
theorem bitsOfSays_contract (H : Type) (enc : TypeId × Value → H) (W : World) (base : Nat) (args : Array Value) (ds gs : List (DataW H)) (before : List MemPlace)
    (hval : ∀ (j : Nat) t v, Tryd.f9.params[j]? = some t → args[j]? = some v → Value.okWide Tryd.prog W .any base t v)
    (hW : DataW.Whole enc Tryd.prog Tryd.f9.params.toList Rows.bitsOfSaysSpec.vars false W args.toList ds gs before) (hk : Rows.uptoSmall H (ds ++ gs) = true) (hL : laidMetH Tryd.prog Rows.bitsOfSaysRow.laid W) :
    Calls Tryd.prog 9 args W fun e W' => ∃ v, e = .returned v ∧ Rows.bitsOfSaysSpec.post enc Tryd.prog Tryd.f9 false true false false W args v W' := by
  have hW' := hW
  obtain ⟨p, q, hA0, hV, rfl, hfz, hnd⟩ := hW
  have hA : DataW.TrodAll enc Tryd.prog W 0 (fun _ => true) true Tryd.f9.params.toList args.toList ds p := hA0
  have hpar : Tryd.f9.params = #[25, 3] := Tryd.params9
  have hts : ∀ t ∈ Tryd.f9.params.toList, Carried t := by
    intro t ht
    rw [hpar] at ht
    simp only [List.mem_cons, List.not_mem_nil, or_false] at ht
    rcases ht with rfl | rfl
    · exact carried_unit
    · exact carried_int
  rw [hpar] at hA hval
  obtain ⟨v0, vs0, d0, ds0, p0, q0, hargs, rfl, rfl, h0, r0⟩ := trodAll_cons hA
  obtain ⟨v1, vs1, d1, ds1, p1, q1, rfl, rfl, rfl, h1, r1⟩ := trodAll_cons r0
  obtain ⟨rfl, rfl, rfl⟩ := trodAll_nil r1
  obtain rfl : args = #[v0, v1] := by cases args; simp_all
  obtain ⟨rfl, rfl⟩ := trodVars_none hV
  have hbulk := bulk_bound hk
  rw [List.append_nil] at hbulk
  have hways : Ways W := ways_of2 hL
  have hbru : Bruijn W := bruijn_of hL
  have m0 : Rows.uptoBulk d0 ≤ 1048576 := Nat.le_trans (bulk_part (by simp)) hbulk
  obtain ⟨ga, gc, fa, fc, gs, fs, rfl, hg, hf, hu⟩ := arg_unit (hval 0 _ v0 rfl rfl) h0
  have m1 : Rows.uptoBulk d1 ≤ 1048576 := Nat.le_trans (bulk_part (by simp)) hbulk
  obtain ⟨k0, rfl, hd0, -, wk0⟩ := open_int Tryd.underlying3 (hval 1 _ v1 rfl rfl) h1
  have bk0 := bounds_i64 wk0
  refine (bitsOfSays_any W hways hbru ga gc fa fc gs fs hg hf ⟨by omega⟩ k0 bk0.1 bk0.2).mono fun e W' ⟨he, hb⟩ => ?_
  subst he
  exact ⟨_, rfl, law_post rfl rfl (fun ds h => by rw [hpar] at h; obtain ⟨e0, e1, rfl⟩ := list2 h; rfl) hts hW' hb⟩

theorem bitsOfSays_laidMet (os : Os) : laidMet Tryd.prog Rows.bitsOfSaysRow.laid ((laidWorld2 os).forCall (fun _ _ => 0) ⟨#[], #[Value.agg #[.slice none 0 0, .slice none 0 0], Value.int .i64 0], []⟩).memory :=
  laidMet_of_run' 8 (by kernel_rfl) (by kernel_rfl)
theorem bitsOfSays_reads (os : Os) {H : Type} (enc : TypeId × Value → H) : ∃ places, DataW.whole enc Tryd.prog ((laidWorld2 os).forCall (fun _ _ => 0) ⟨#[], #[Value.agg #[.slice none 0 0, .slice none 0 0], Value.int .i64 0], []⟩).memory Tryd.f9.params.toList Rows.bitsOfSaysSpec.vars false (#[Value.agg #[.slice none 0 0, .slice none 0 0], Value.int .i64 0] : Array Value).toList 8 = some ([.agg [.nil, .nil], .lit (.int .i64 0)], [], places) :=
  ⟨[], by kernel_rfl⟩
set_option maxRecDepth 100000 in
theorem bitsOfSays_lifted (os : Os) (started : os.Started) (H : Type) (enc : TypeId × Value → H) (F : Stop.Interp) :
    ReturnsInHanded {} Tryd.checked os 9 .any ((Rows.OpenSpec.upto Rows.bitsOfSaysSpec).preRow enc Tryd.prog Tryd.f9 Rows.bitsOfSaysUptoRow.domain false Rows.bitsOfSaysUptoRow.laid) (((Rows.OpenSpec.upto Rows.bitsOfSaysSpec).at F).post enc Tryd.prog Tryd.f9 false true false false) := by
  obtain ⟨places, hx⟩ := bitsOfSays_reads os enc
  refine returnsInHanded_of_row (C := Tryd.checked) (s := Rows.OpenSpec.upto Rows.bitsOfSaysSpec) own started (by kernel_rfl) Tryd.func9
    (witness_row_at (enc := enc) (C := Tryd.checked) false (laidWorld2 os) #[Value.agg #[.slice none 0 0, .slice none 0 0], Value.int .i64 0] rfl (by kernel_rfl) (by kernel_rfl) (by kernel_rfl)
      (OpenSpec.preRow_of_cond 8 hx (by kernel_rfl) (fun k hk => by cases hk; kernel_rfl) (by kernel_rfl) (bitsOfSays_laidMet os))) ?_
  intro W base args ds gs before hval hW _ hcond _ hL _ _
  exact bitsOfSays_contract H enc W base args ds gs before hval hW (hcond _ rfl) hL
theorem bitsOfSays_saidUpto : Rows.BitsOfSaysUptoSaid :=
  OpenClaim.holds_of_cond 9 Tryd.f9 rfl rfl rfl rfl rfl rfl rfl ⟨rfl, rfl, rfl, rfl, rfl⟩ rfl rfl rfl rfl rfl (by kernel_rfl) Tryd.func9 (by kernel_rfl)
    (of_decide_eq_true (by kernel_rfl)) (by unfold Func.isWrapper; first | (rw [if_pos (by decide +kernel)]; kernel_rfl) | (rw [if_neg (by decide +kernel)]; exact ⟨rfl, rfl⟩))
    (fun os started H enc _ F => by rw [OpenClaim.pre_eq_preRow]; exact bitsOfSays_lifted os started H enc F)
theorem bitsOfSays_plain (f : FuncId) (fn : Func) (hf : Tryd.pinned.checked.prog.funcNamed "turnery/turnerylaw6.BitsOfSays" = some f) (hfn : Tryd.pinned.checked.prog.funcs[f]? = some fn) :
    true = Tryd.pinned.checked.prog.looks [] ∧ ∀ (j : Nat) t, fn.params[j]? = some t → Tryd.pinned.checked.prog.wantsStandIn t = false := by
  obtain rfl : f = 9 := Option.some.inj ((show Tryd.prog.funcNamed "turnery/turnerylaw6.BitsOfSays" = some 9 by kernel_rfl).symm.trans hf) |>.symm
  obtain rfl : fn = Tryd.f9 := (Option.some.inj (Tryd.func9.symm.trans hfn)).symm
  refine ⟨by kernel_rfl, fun j t ht => ?_⟩
  have hpar : Tryd.f9.params = #[25, 3] := Tryd.params9
  rw [hpar] at ht
  have hm := Array.mem_of_getElem? ht
  simp only [List.mem_toArray, List.mem_cons, List.not_mem_nil, or_false] at hm
  rcases hm with rfl | rfl
  · exact (show Tryd.prog.wantsStandIn 25 = false by kernel_rfl)
  · exact (show Tryd.prog.wantsStandIn 3 = false by kernel_rfl)

/-- THE CARD of BitsOfSays, where what it reads is of bulk at most 1048576. -/
theorem bitsOfSays_holds : Rows.BitsOfSaysUptoCardSaid :=
  Claim7.holds_tied_plain_at .later [] _ _ _ _ bitsOfSays_saidUpto (fun _ h => by cases h) (by kernel_rfl) (fun _ h => by cases h) bitsOfSaysUpto_row_tie rfl ⟨rfl, rfl⟩ (by kernel_rfl) rfl bitsOfSays_plain (by kernel_rfl)

end Go.Proofs.YtaehkcnankijfaaDoor
