/- tidy.Do. tidy.Do of a checked unit. WeighTidy: the law's walk. -/
import Derived.Test.YtnkogppgacappaaGreatDoorPGEach
import Derived.Test.YtnkogppgacappaaGreatDoorPHasInt
import Derived.Test.YtnkogppgacappaaGreatDoorPFour
import Derived.Test.YtnkogppgacappaaGreatDoorPTid6
import Derived.Test.YtnkogppgacappaaGreatDoorPBy
import Derived.Test.YtnkogppgacappaaGreatDoorPSameU
import Derived.Test.YtnkogppgacappaaGreatDoorPArgR
import Derived.BigRegion
import Derived.Deep.DeepCutAuto
import Derived.Deep.RegionHeld3
namespace Go.Proofs.YtnkogppgacappaaGreatDoor
open Go.RowKit

def TidyPost (gs : List DGlobal) (fs : List DFunc) (w : World) (e : Ending) (w' : World) : Prop :=
 Below w.heap.size w w' ∧
 ((checkF ⟨gs, fs⟩).1 ≠ 0 → e = .returned (.tuple #[.agg #[.slice none 0 0, .slice none 0 0], .agg #[.int .i64 (checkF ⟨gs, fs⟩).1, .int .i64 (checkF ⟨gs, fs⟩).2]])) ∧
 ((checkF ⟨gs, fs⟩).1 = 0 → ∃ ga gc fa fc, e = .returned (.tuple #[.agg #[.slice ga gs.length gc, .slice fa fs.length fc], .agg #[.int .i64 0, .int .i64 0]]) ∧
    SlAt (iv w.heap.size w'.heap.size) w' 3 rGlobal (.slice ga gs.length gc) gs ∧ SlAt (iv w.heap.size w'.heap.size) w' 4 rFunc (.slice fa fs.length fc) (fs.map tidyFn))

set_option maxRecDepth 100000 in
set_option maxHeartbeats 4000000 in
theorem tidy_any {S : Nat → Prop} (ga : Option Addr) (gc : Nat) (fa : Option Addr) (fc : Nat) (gs : List DGlobal) (fs : List DFunc) (w : World)
 (hg : SlAt S w 3 rGlobal (.slice ga gs.length gc) gs) (hf : SlAt S w 4 rFunc (.slice fa fs.length fc) fs) (hw : Ways w) (hS : ∀ b, S b → b < w.heap.size)
 (hgl : gs.length ≤ 1048576) (hfl : fs.length ≤ 1048576) (hsm : ∀ (k : Nat) (f : DFunc), fs[k]? = some f → manyOf f.blocks ≤ 1048576 ∧ f.blocks.length ≤ 1048576) :
 Calls Tryz.prog 15 #[.agg #[.slice ga gs.length gc, .slice fa fs.length fc]] w fun e w' => TidyPost gs fs w e w' := by
 obtain ⟨c, hc⟩ : ∃ c, c = (checkF ⟨gs, fs⟩).1 := ⟨_, rfl⟩
 obtain ⟨d, hd⟩ : ∃ d, d = (checkF ⟨gs, fs⟩).2 := ⟨_, rfl⟩
 have Hcd : Hid (checkF ⟨gs, fs⟩ = (c, d)) := by show _ = _; rw [hc, hd]
 have Hck' : Hid (∀ V, Below w.heap.size w V → Calls Tryz.prog 8 #[.agg #[.slice ga gs.length gc, .slice fa fs.length fc]] V fun e w' => e = .returned (.agg #[.int .i64 c, .int .i64 d]) ∧ Below V.heap.size V w') := fun V hV => by
  have h := check_any (S := S) ga gc fa fc gs fs V (hg.later rGlobal_mono hV) (hf.later rFunc_mono hV) (Ways.below hw hV) hgl hfl hsm
  rw [← hc, ← hd] at h
  exact h
 have HEa : Hid (c = 0 → ∀ V, Below w.heap.size w V → Calls Tryz.prog 40 #[.agg #[.slice ga gs.length gc, .slice fa fs.length fc], .func (.func 41) #[] #[]] V fun e w' =>
  ∃ ga2 gc2 fa2 fc2, e = .returned (.tuple #[.agg #[.slice ga2 gs.length gc2, .slice fa2 fs.length fc2], .agg #[.int .i64 0, .int .i64 0]]) ∧
    SlAt (iv V.heap.size w'.heap.size) w' 3 rGlobal (.slice ga2 gs.length gc2) gs ∧ SlAt (iv V.heap.size w'.heap.size) w' 4 rFunc (.slice fa2 fs.length fc2) (fs.map tidyFn) ∧ Below V.heap.size V w') := fun h0 V hV =>
  each_any (S := S) ga gc fa fc gs fs V (hg.later rGlobal_mono hV) (hf.later rFunc_mono hV) (fun b hb => Nat.lt_of_lt_of_le (hS b hb) hV.size) (checkF_zero (by rw [Hcd.out]; exact h0))
 clear hg hf hw hsm hc hd hS
 go_enter Tryz.func15, Tryz.ntmps15
 go_upto_region 1 with (fail)
 obtain ⟨W, hW⟩ : ∃ W, W = ((w.alloc (.cells #[.slice ga gs.length gc, .slice fa fs.length fc] 25)).alloc (.cells #[.slice none 0 0, .slice none 0 0] 25)).alloc (.cells #[.int .i64 0, .int .i64 0] 27) := ⟨_, rfl⟩
 obtain ⟨hWs, h0, h1, h2⟩ := heap_threeF w (.cells #[.slice ga gs.length gc, .slice fa fs.length fc] 25) (.cells #[.slice none 0 0, .slice none 0 0] 25) (.cells #[.int .i64 0, .int .i64 0] 27)
 rw [← hW] at hWs h0 h1 h2 ⊢
 have hbW : Below w.heap.size w W := by rw [hW]; (repeat (first | exact Below.refl _ _ | refine Below.alloc ?_ (by first|omega|(simp<;>omega)) _ | refine Below.setCell ?_ (by first|omega|(simp<;>omega)) _ | refine below_drewN ?_ _ | refine Below.drew ?_))
 obtain ⟨UB, hUB⟩ : ∃ UB, UB = w.heap.size := ⟨_, rfl⟩
 obtain ⟨UO, hUO⟩ : ∃ UO, UO = w.heap.size + 1 := ⟨_, rfl⟩
 obtain ⟨UX, hUX⟩ : ∃ UX, UX = w.heap.size + 1 + 1 := ⟨_, rfl⟩
 rw [← hUX] at h2 ⊢
 rw [← hUO] at h1 ⊢
 rw [← hUB] at h0 ⊢
 have HUs : Hid (UB = w.heap.size ∧ UO = w.heap.size + 1 ∧ UX = w.heap.size + 2 ∧ W.heap.size = w.heap.size + 3) := ⟨hUB, hUO, hUX, hWs⟩
 have Hst : Hid (∀ V, Below W.heap.size W V → Below w.heap.size w V ∧ V.heap[UB]? = some (.cells #[.slice ga gs.length gc, .slice fa fs.length fc] 25 (0, 0)) ∧ V.heap[UO]? = some (.cells #[.slice none 0 0, .slice none 0 0] 25 (0, 0)) ∧ V.heap[UX]? = some (.cells #[.int .i64 0, .int .i64 0] 27 (0, 0))) :=
  fun V hV => ⟨hbW.trans (hV.mono hbW.size), (hV.block UB (by omega)).trans h0, (hV.block UO (by omega)).trans h1, (hV.block UX (by omega)).trans h2⟩
 have HbW := hid hbW
 obtain ⟨c0, c1⟩ := (cells_of (cs := [_, _]) h0).get2
 rw [Nat.zero_add] at c1
 have zB : UB < W.heap.size := by omega
 clear hW h0 h1 h2 hbW hUB hUO hUX hWs
 go_upto_region 2 with (go_at_call 8; refine (Hck'.out W HbW.out).mono ?_; rintro e w1 ⟨rfl, hb1⟩; have Hb1 := hid hb1; clear hb1)
 obtain ⟨W2, hW2⟩ : ∃ W2, W2 = w1.alloc (.cells #[.int .i64 c, .int .i64 d] 27) := ⟨_, rfl⟩
 have hb2 : Below w1.heap.size w1 W2 := by rw [hW2]; (repeat (first | exact Below.refl _ _ | refine Below.alloc ?_ (by first|omega|(simp<;>omega)) _ | refine Below.setCell ?_ (by first|omega|(simp<;>omega)) _ | refine below_drewN ?_ _ | refine Below.drew ?_))
 have Hb2 : Hid (Below W.heap.size W W2) := Hb1.out.trans (hb2.mono Hb1.out.size)
 have x0 : W2.cell? ⟨w1.heap.size, 0, none⟩ = some (.int .i64 c) := by rw [hW2]; simp
 have x1 : W2.cell? ⟨w1.heap.size, 1, none⟩ = some (.int .i64 d) := by rw [hW2]; simp
 rw [← hW2]
 obtain ⟨XB, hXB⟩ : ∃ XB, XB = w1.heap.size := ⟨_, rfl⟩
 rw [← hXB] at x0 x1 ⊢
 obtain ⟨Hw2, s0, s1, s2⟩ := Hst.out W2 Hb2.out
 have Hw2 := hid Hw2
 have S1 := hid s1
 have S2 := hid s2
 obtain ⟨a0, a1⟩ := (cells_of (cs := [_, _]) s0).get2
 rw [Nat.zero_add] at a1
 have zB2 : UB < W2.heap.size := cell_lt a0
 have zXB : XB < W2.heap.size := cell_lt x0
 have hne : ¬ UO = UX := by have := HUs.out; omega
 have hlo : w.heap.size ≤ UO ∧ w.heap.size ≤ UX := by have := HUs.out; omega
 have Hlo := hid hlo
 have hn3 : ¬ XB = UO ∧ ¬ UO = XB ∧ ¬ XB = UX ∧ ¬ UX = XB := by have := HUs.out; have := Hb1.out.size; omega
 have Hn3 := hid hn3
 clear hW2 hb2 hXB s0 s1 s2 c0 c1 zB hlo hn3
 by_cases hc0 : c = 0
 · subst hc0
   have hd0 : d = 0 := by
    have h := checkF_zero (u := ⟨gs, fs⟩) (by rw [Hcd.out])
    rw [Hcd.out] at h
    exact congrArg Prod.snd h
   subst hd0
   have Hpost : Hid (∀ e w' ga gc fa fc, Below w.heap.size w w' → e = .returned (.tuple #[.agg #[.slice ga gs.length gc, .slice fa fs.length fc], .agg #[.int .i64 0, .int .i64 0]]) → SlAt (iv w.heap.size w'.heap.size) w' 3 rGlobal (.slice ga gs.length gc) gs → SlAt (iv w.heap.size w'.heap.size) w' 4 rFunc (.slice fa fs.length fc) (fs.map tidyFn) → TidyPost gs fs w e w') := fun e w' ga gc fa fc h1 h2 h3 h4 =>
    ⟨h1, fun h => absurd (by rw [Hcd.out]) h, fun _ => ⟨ga, gc, fa, fc, h2, h3, h4⟩⟩
   have HE1 := hid (HEa.out rfl W2 Hw2.out)
   have zf : w.heap.size ≤ W2.heap.size := Hw2.out.size
   clear HEa Hck'
   go_wp2_with (go_at_call 40; refine HE1.out.mono ?_; rintro e w9 ⟨ga2, gc2, fa2, fc2, rfl, hg9, hf9, hb9⟩
                obtain ⟨Hw9, -, t1, t2⟩ := Hst.out w9 (Hb2.out.trans (hb9.mono Hb2.out.size))
                have T1 := hid t1
                have T2 := hid t2
                have Hw9 := hid Hw9
                have Hg9 := hid hg9
                have Hf9 := hid hf9
                have f0 := thawed t1 0
                have f1 := thawed t1 1
                have g0 := thawed t2 0
                have g1 := thawed t2 1
                obtain ⟨b0, b1⟩ := (cells_of (cs := [_, _]) t1).get2
                obtain ⟨d0, d1⟩ := (cells_of (cs := [_, _]) t2).get2
                rw [Nat.zero_add] at b1 d1
                have zO2 : UO < w9.heap.size := cell_lt b0
                have zX2 : UX < w9.heap.size := cell_lt d0
                have hne2 : ¬ UX = UO := fun e => hne e.symm
                have hUW : UO < W2.heap.size ∧ UX < W2.heap.size := by have := HUs.out; have := Hb2.out.size; omega
                have HUW := hid hUW
                clear hb9 hg9 hf9 t1 t2 hUW)
   have hsix := four_cells (.slice ga2 gs.length gc2) (.slice fa2 fs.length fc2) (.int .i64 0) (.int .i64 0) (cells_of (cs := [_, _]) T1.out) (cells_of (cs := [_, _]) T2.out) hne
   have hb6 : Below w.heap.size w (fourW w9 UO UX (.slice ga2 gs.length gc2) (.slice fa2 fs.length fc2) (.int .i64 0) (.int .i64 0)) := below_fourW Hw9.out Hlo.out.1 Hlo.out.2
   have hh : ∀ b, b ≠ UO → b ≠ UX → (fourW w9 UO UX (.slice ga2 gs.length gc2) (.slice fa2 fs.length fc2) (.int .i64 0) (.int .i64 0)).heap[b]? = w9.heap[b]? := fun b h1 h2 => four_heap h1 h2
   have hs6 : (fourW w9 UO UX (.slice ga2 gs.length gc2) (.slice fa2 fs.length fc2) (.int .i64 0) (.int .i64 0)).heap.size = w9.heap.size := by simp [fourW, World.setCell]
   have hiv : ∀ b, iv W2.heap.size w9.heap.size b → b ≠ UO ∧ b ≠ UX := fun b hb => by have := hb.1; have := HUW.out; omega
   refine bodyPost_ret (unit_res rfl rfl rfl hsix.1 hsix.2) rfl (Hpost.out _ _ ga2 gc2 fa2 fc2 hb6 rfl ?_ ?_)
   · exact Hg9.out.mono rGlobal_mono (fun b hb => ⟨by have := hb.1; omega, Nat.lt_of_lt_of_eq hb.2 hs6.symm⟩) (stays_at fun b hb _ => hh b (hiv b hb).1 (hiv b hb).2)
   · exact Hf9.out.mono rFunc_mono (fun b hb => ⟨by have := hb.1; omega, Nat.lt_of_lt_of_eq hb.2 hs6.symm⟩) (stays_at fun b hb _ => hh b (hiv b hb).1 (hiv b hb).2)
 · have hq : ((decide (c < 0) || decide (0 < c)) || (decide (d < 0) || decide (0 < d))) = true := by rw [Bool.eq_iff_iff]; simp; omega
   have Hpost : Hid (∀ e w', Below w.heap.size w w' → e = .returned (.tuple #[.agg #[.slice none 0 0, .slice none 0 0], .agg #[.int .i64 c, .int .i64 d]]) → TidyPost gs fs w e w') := fun e w' h1 h2 => by
    refine ⟨h1, fun _ => ?_, fun h => ?_⟩
    · rw [Hcd.out]; exact h2
    · rw [Hcd.out] at h; exact absurd h hc0
   have s1 := S1.out
   have s2 := S2.out
   have f0 := thawed s1 0
   have f1 := thawed s1 1
   have g0 := thawed s2 0
   have g1 := thawed s2 1
   obtain ⟨b0, b1⟩ := (cells_of (cs := [_, _]) s1).get2
   obtain ⟨d0, d1⟩ := (cells_of (cs := [_, _]) s2).get2
   rw [Nat.zero_add] at b1 d1
   have zO2 : UO < W2.heap.size := cell_lt b0
   have zX2 : UX < W2.heap.size := cell_lt d0
   obtain ⟨hn3, hn4, hn5, hn6⟩ := Hn3.out
   have hne2 : ¬ UX = UO := by omega
   clear hc0 s1 s2
   go_wp2_with fail
   go_region
   have hsix := four_cells (.slice none 0 0) (.slice none 0 0) (.int .i64 c) (.int .i64 d) (cells_of (cs := [_, _]) S1.out) (cells_of (cs := [_, _]) S2.out) hne
   have hb6 : Below w.heap.size w (fourW W2 UO UX (.slice none 0 0) (.slice none 0 0) (.int .i64 c) (.int .i64 d)) := below_fourW Hw2.out Hlo.out.1 Hlo.out.2
   obtain ⟨W6, hW6⟩ : ∃ W6, W6 = fourW W2 UO UX (.slice none 0 0) (.slice none 0 0) (.int .i64 c) (.int .i64 d) := ⟨_, rfl⟩
   rw [← hW6] at hsix hb6
   unfold fourW at hW6
   rw [← hW6]
   have Hsix := hid hsix
   have Hb6 := hid hb6
   clear hW6 hsix hb6
   go_wp2_with fail
   refine bodyPost_ret (unit_res rfl rfl rfl (fun j v hj => Hsix.out.1 j v hj) (fun j v hj => Hsix.out.2 j v hj)) rfl (Hpost.out _ _ Hb6.out.drew rfl)

end Go.Proofs.YtnkogppgacappaaGreatDoor

namespace Go.Proofs.YtnkogppgacappaaGreatDoor
open Go.RowKit

theorem checkF_many2 {u : DUnit} (h : checkF u = (0, 0)) : ∀ (k : Nat) (f : DFunc), u.funcs[k]? = some f → manyOf f.blocks ≤ 1048576 ∧ f.blocks.length ≤ 1048576 := by
 intro k f hf
 obtain ⟨hh, -⟩ := checkF_at h hf
 obtain ⟨-, -, -, -, -, -, -, h40, hm⟩ := headE_ok hh
 exact ⟨by omega, by omega⟩
theorem tidy_ok {S : Nat → Prop} (ga : Option Addr) (gc : Nat) (fa : Option Addr) (n fc : Nat) (gs : List DGlobal) (fs : List DFunc) (w : World)
 (hg : SlAt S w 3 rGlobal (.slice ga gs.length gc) gs) (hf : SlAt S w 4 rFunc (.slice fa n fc) fs) (hn : fs.length = n) (hw : Ways w) (hS : ∀ b, S b → b < w.heap.size) (hck : checkF ⟨gs, fs⟩ = (0, 0)) :
 Calls Tryz.prog 15 #[.agg #[.slice ga gs.length gc, .slice fa n fc]] w fun e w' => ∃ ga2 gc2 fa2 fc2, e = .returned (.tuple #[.agg #[.slice ga2 gs.length gc2, .slice fa2 n fc2], .agg #[.int .i64 0, .int .i64 0]]) ∧
  SlAt (iv w.heap.size w'.heap.size) w' 3 rGlobal (.slice ga2 gs.length gc2) gs ∧ SlAt (iv w.heap.size w'.heap.size) w' 4 rFunc (.slice fa2 n fc2) (fs.map tidyFn) ∧ Below w.heap.size w w' := by
 subst hn
 obtain ⟨hgl, hfl, -⟩ := checkF_ok (u := ⟨gs, fs⟩) (by rw [hck])
 dsimp only at hgl hfl
 refine (tidy_any (S := S) ga gc fa fc gs fs w hg hf hw hS (by omega) (by omega) (checkF_many2 hck)).mono fun e w' hp => ?_
 obtain ⟨ga2, gc2, fa2, fc2, h1, h2, h3⟩ := hp.2.2 (by rw [hck])
 exact ⟨ga2, gc2, fa2, fc2, h1, h2, h3, hp.1⟩
theorem tidy_small {gs : List DGlobal} {fs : List DFunc} (h : checkF ⟨gs, fs⟩ = (0, 0)) (hn : NumU ⟨gs, fs⟩) : (∀ g ∈ gs, g.init.length ≤ 1048576) ∧ ∀ f ∈ fs.map tidyFn, SmallF f := checkF_small (u := ⟨gs, fs.map tidyFn⟩) (tidyU_check h hn)

end Go.Proofs.YtnkogppgacappaaGreatDoor

namespace Go.Proofs.YtnkogppgacappaaGreatDoor
open Go.RowKit

theorem tidy_by {gs : List DGlobal} {fs : List DFunc} {Cs : List (List Int)} (h : fitsF ⟨gs, fs⟩ Cs = (0, 0)) (hn : NumU ⟨gs, fs⟩) : checkF ⟨gs, byL fs Cs⟩ = (0, 0) ∧ (byL fs Cs).map tidyFn = fs.map tidyFn := by
 obtain ⟨h1, -⟩ := fitsF_inv h
 refine ⟨(fitsF_inv (rest_plain h).1).1, ?_⟩
 apply List.ext_getElem?
 intro k
 rw [List.getElem?_map, List.getElem?_map]
 by_cases hk : k < fs.length
 · have e2 : (byL fs Cs)[k]? = some (byF (fs.getD k noFunc) (Cs.getD k [])) := by
    unfold byL
    rw [List.getElem?_map, List.getElem?_range hk]; rfl
   have e3 : fs.getD k noFunc = fs[k] := by rw [List.getD_eq_getElem?_getD, List.getElem?_eq_getElem hk]; rfl
   rw [e2, List.getElem?_eq_getElem hk, e3]
   obtain ⟨hh, hb⟩ := checkF_at (u := ⟨gs, fs⟩) h1 (List.getElem?_eq_getElem hk)
   obtain ⟨-, -, -, -, -, -, g1, -, -⟩ := headE_ok hh
   obtain ⟨htd, -⟩ := fn_td h1 hn (List.getElem?_eq_getElem hk)
   obtain ⟨hp, h0, -⟩ := lay_perm hb (by omega) (cntOf (Cs.getD k []))
   show some (tidyFn (turnF _ _)) = some _
   rw [tidy_turn htd.ok (body_flow hb) htd.tok hp h0]
 · rw [List.getElem?_eq_none (by rw [byL_len]; omega), List.getElem?_eq_none (by omega)]

set_option maxRecDepth 100000 in
set_option maxHeartbeats 4000000 in
theorem weighTidy_any (w : World) (hw : Ways w) (ga : Option Addr) (gc : Nat) (fa : Option Addr) (fc : Nat) (gs : List DGlobal) (fs : List DFunc) (hg : SlAt (fun b => b < w.heap.size) w 3 rGlobal (.slice ga gs.length gc) gs) (hf : SlAt (fun b => b < w.heap.size) w 4 rFunc (.slice fa fs.length fc) fs)
 (hsm : Small gs fs) (ca : Option Addr) (cc : Nat) (Cs : List (List Int)) (hC : SlAt (fun b => b < w.heap.size) w 1 rRow (.slice ca Cs.length cc) Cs) (hcs : szL (szL szInt) Cs ≤ 1048576) :
 Calls Tryz.prog 6 #[.agg #[.slice ga gs.length gc, .slice fa fs.length fc], .slice ca Cs.length cc] w fun e w' => e = .returned (.bool true) ∧ Below w.heap.size w w' := by
 obtain ⟨hcl, hcm⟩ := rows_small hcs
 have Hnum := hid (NumU_of (gs := gs) hf)
 have hgl := hsm.globals
 have hfl := hsm.funcs
 have Hg := hid hg
 have Hf := hid hf
 have HC := hid hC
 have Hw := hid hw
 have Hsm := hid hsm
 have Hcm := hid hcm
 obtain ⟨rn, hrn⟩ : ∃ rn, rn = Cs.length := ⟨_, rfl⟩
 have Hrn := hid hrn
 rw [← hrn]
 clear hg hf hC hw hsm hcm hcs hrn
 go_enter Tryz.func6, Tryz.ntmps6
 obtain ⟨W, hW⟩ : ∃ W, W = (w.alloc (.cells #[.slice ga gs.length gc, .slice fa fs.length fc] 25)) := ⟨_, rfl⟩
 have hbW : Below w.heap.size w W := by rw [hW]; (repeat (first | exact Below.refl _ _ | refine Below.alloc ?_ (by first|omega|(simp<;>omega)) _ | refine Below.setCell ?_ (by first|omega|(simp<;>omega)) _ | refine below_drewN ?_ _ | refine Below.drew ?_))
 have h0 : W.heap[w.heap.size]? = some (.cells #[.slice ga gs.length gc, .slice fa fs.length fc] 25 (0, 0)) := by rw [hW]; exact heap_alloc_new _ _
 have hWs : W.heap.size = w.heap.size + 1 := by rw [hW]; simp
 go_upto_region 1 with (fail)
 rw [← hW]
 obtain ⟨UB, hUB⟩ : ∃ UB, UB = w.heap.size := ⟨_, rfl⟩
 rw [← hUB] at h0 ⊢
 have HUB : Hid (UB = w.heap.size ∧ W.heap.size = UB + 1) := ⟨hUB, by omega⟩
 have HbW := hid hbW
 have H0 : Hid (∀ V, Below W.heap.size W V → Below w.heap.size w V ∧ V.cell? ⟨UB, 0, none⟩ = some (.slice ga gs.length gc) ∧ V.cell? ⟨UB, 1, none⟩ = some (.slice fa fs.length fc)) := fun V hV => by
  have h1 := (hV.block UB (by omega)).trans h0
  obtain ⟨c0, c1⟩ := (cells_of (cs := [_, _]) h1).get2
  rw [Nat.zero_add] at c1
  exact ⟨hbW.trans (hV.mono hbW.size), c0, c1⟩
 obtain ⟨-, c0, c1⟩ := H0.out W (Below.refl _ _)
 have zB : UB < W.heap.size := cell_lt c0
 have hby := by_any ga gc fa fc gs fs ca cc Cs W (Hg.out.later rGlobal_mono hbW) (Hf.out.later rFunc_mono hbW) (HC.out.later rRow_mono hbW) (Ways.below Hw.out hbW) Hsm.out.globals Hsm.out.funcs hcl Hsm.out.many Hcm.out
 rw [← Hrn.out] at hby
 have Hby : Hid (Calls Tryz.prog 17 #[.agg #[.slice ga gs.length gc, .slice fa fs.length fc], .slice ca rn cc] W fun e w1 => ∃ va vn vc wa wn wc c d, e = .returned (.tuple #[.agg #[.slice va vn vc, .slice wa wn wc], .agg #[.int .i64 c, .int .i64 d]]) ∧ Below W.heap.size W w1 ∧
  ((c ≠ 0 ∧ vn = 0 ∧ wn = 0) ∨ (c = 0 ∧ d = 0 ∧ vn = gs.length ∧ wn = fs.length ∧ fitsF ⟨gs, fs⟩ Cs = (0, 0) ∧ SlAt (iv W.heap.size w1.heap.size) w1 3 rGlobal (.slice va vn vc) gs ∧ SlAt (iv W.heap.size w1.heap.size) w1 4 rFunc (.slice wa wn wc) (byL fs Cs)))) := by
  refine hby.mono fun e w1 hp => ?_
  rcases hp.2 with ⟨c, d, hfit, hcd, e1⟩ | ⟨hfit, ga2, gc2, fa2, fc2, e1, e2, e3⟩
  · have hc : c ≠ 0 := fun e => hcd (by
     have h := fitsF_code (u := ⟨gs, fs⟩) (Cs := Cs) (by rw [hfit]; exact e)
     rw [hfit] at h
     exact ⟨congrArg Prod.fst h, congrArg Prod.snd h⟩)
    exact ⟨none, 0, 0, none, 0, 0, c, d, e1, hp.1, .inl ⟨hc, rfl, rfl⟩⟩
  · exact ⟨ga2, _, gc2, fa2, _, fc2, 0, 0, e1, hp.1, .inr ⟨rfl, rfl, rfl, rfl, hfit, e2, e3⟩⟩
 clear hW hWs hUB hbW h0 hby
 go_upto_region 2 with (go_at_call 17; refine Hby.out.mono ?_; rintro e w1 ⟨va, vn, vc, wa, wn, wc, c, d, rfl, hb1, hcase⟩; have Hb1 := hid hb1; have Hcase := hid hcase; clear hb1 hcase)
 obtain ⟨W2, hW2⟩ : ∃ W2, W2 = (w1.alloc (.cells #[.slice va vn vc, .slice wa wn wc] 25)).alloc (.cells #[.int .i64 c, .int .i64 d] 27) := ⟨_, rfl⟩
 obtain ⟨h2s, hv0, hx0⟩ := two_cells w1 (.cells #[.slice va vn vc, .slice wa wn wc] 25) (.cells #[.int .i64 c, .int .i64 d] 27)
 rw [← hW2] at h2s hv0 hx0 ⊢
 have hb2 : Below w1.heap.size w1 W2 := by rw [hW2]; (repeat (first | exact Below.refl _ _ | refine Below.alloc ?_ (by first|omega|(simp<;>omega)) _ | refine Below.setCell ?_ (by first|omega|(simp<;>omega)) _ | refine below_drewN ?_ _ | refine Below.drew ?_))
 have Hb2 : Hid (Below W.heap.size W W2) := Hb1.out.trans (hb2.mono Hb1.out.size)
 have Hb12 := hid hb2
 obtain ⟨VB, hVB⟩ : ∃ VB, VB = w1.heap.size := ⟨_, rfl⟩
 obtain ⟨FB, hFB⟩ : ∃ FB, FB = w1.heap.size + 1 := ⟨_, rfl⟩
 rw [← hFB] at hx0 ⊢
 rw [← hVB] at hv0 ⊢
 have Hcl : Hid (∀ V, Below W2.heap.size W2 V → Below w.heap.size w V ∧ V.cell? ⟨UB, 0, none⟩ = some (.slice ga gs.length gc) ∧ V.cell? ⟨UB, 1, none⟩ = some (.slice fa fs.length fc) ∧ V.cell? ⟨VB, 0, none⟩ = some (.slice va vn vc) ∧ V.cell? ⟨VB, 1, none⟩ = some (.slice wa wn wc) ∧ V.cell? ⟨FB, 0, none⟩ = some (.int .i64 c) ∧ V.cell? ⟨FB, 1, none⟩ = some (.int .i64 d)) := fun V hV => by
  obtain ⟨h1, h2, h3⟩ := H0.out V (Hb2.out.trans (hV.mono Hb2.out.size))
  obtain ⟨v0, v1⟩ := (cells_of (cs := [_, _]) ((hV.block VB (by omega)).trans hv0)).get2
  obtain ⟨x0, x1⟩ := (cells_of (cs := [_, _]) ((hV.block FB (by omega)).trans hx0)).get2
  rw [Nat.zero_add] at v1 x1
  exact ⟨h1, h2, h3, v0, v1, x0, x1⟩
 obtain ⟨hw2, a0, a1, v0, v1, x0, x1⟩ := Hcl.out W2 (Below.refl _ _)
 have Hw2 := hid hw2
 have zU2 : UB < W2.heap.size := cell_lt a0
 have zV2 : VB < W2.heap.size := cell_lt v0
 have zF2 : FB < W2.heap.size := cell_lt x0
 clear hW2 h2s hv0 hx0 hb2 hVB hFB hw2 c0 c1 zB
 by_cases hc0 : c = 0
 · obtain ⟨rfl, rfl, rfl, Hfit, Hgv, Hfv⟩ : d = 0 ∧ vn = gs.length ∧ wn = fs.length ∧ Hid (fitsF ⟨gs, fs⟩ Cs = (0, 0)) ∧ Hid (SlAt (iv W.heap.size w1.heap.size) w1 3 rGlobal (.slice va vn vc) gs) ∧ Hid (SlAt (iv W.heap.size w1.heap.size) w1 4 rFunc (.slice wa wn wc) (byL fs Cs)) := by
    rcases Hcase.out with h | h
    · exact absurd hc0 h.1
    · exact ⟨h.2.1, h.2.2.1, h.2.2.2.1, h.2.2.2.2.1, h.2.2.2.2.2.1, h.2.2.2.2.2.2⟩
   subst hc0
   have hck : checkF ⟨gs, fs⟩ = (0, 0) := (fitsF_inv Hfit.out).1
   have hck2 := tidy_by Hfit.out Hnum.out
   have hT1 := tidy_ok (S := fun b => b < w.heap.size) ga gc fa fs.length fc gs fs W2 (Hg.out.later rGlobal_mono Hw2.out) (Hf.out.later rFunc_mono Hw2.out) rfl (Ways.below Hw.out Hw2.out) (fun b hb => Nat.lt_of_lt_of_le hb Hw2.out.size) hck
   have HT1 := hid hT1
   have HT2 : Hid (∀ V, Below W2.heap.size W2 V → Calls Tryz.prog 15 #[.agg #[.slice va gs.length vc, .slice wa fs.length wc]] V fun e w' => ∃ ga2 gc2 fa2 fc2, e = .returned (.tuple #[.agg #[.slice ga2 gs.length gc2, .slice fa2 fs.length fc2], .agg #[.int .i64 0, .int .i64 0]]) ∧
    SlAt (iv V.heap.size w'.heap.size) w' 3 rGlobal (.slice ga2 gs.length gc2) gs ∧ SlAt (iv V.heap.size w'.heap.size) w' 4 rFunc (.slice fa2 fs.length fc2) (fs.map tidyFn) ∧ Below V.heap.size V w') := fun V hV => by
    have hb : Below w1.heap.size w1 V := Hb12.out.trans (hV.mono Hb12.out.size)
    have h := tidy_ok (S := iv W.heap.size w1.heap.size) va vc wa fs.length wc gs (byL fs Cs) V (Hgv.out.later rGlobal_mono hb) (Hfv.out.later rFunc_mono hb) (byL_len fs Cs) (Ways.below Hw.out (Hw2.out.trans (hV.mono Hw2.out.size))) (fun b h => Nat.lt_of_lt_of_le h.2 hb.size) hck2.1
    rw [hck2.2] at h
    exact h
   have hsmT := tidy_small hck Hnum.out
   have Hsmg := hid hsmT.1
   have Hsmf := hid hsmT.2
   have hlpos : 0 < fs.length := checkF_pos (u := ⟨gs, fs⟩) hck
   have Hlm : Hid ((fs.map tidyFn).length = fs.length) := by show _ = _; simp
   clear Hcase hck hck2 hT1 hsmT
   go_upto_region 5 with (go_at_call 15; refine HT1.out.mono ?_; rintro e w3 ⟨ta, tc, ua, uc, rfl, hg3, hf3, hb3⟩; have Hg3 := hid hg3; have Hf3 := hid hf3; have Hb3 := hid hb3; clear hg3 hf3 hb3)
   obtain ⟨W4, hW4⟩ : ∃ W4, W4 = (w3.alloc (.cells #[.slice ta gs.length tc, .slice ua fs.length uc] 25)).alloc (.cells #[.int .i64 0, .int .i64 0] 27) := ⟨_, rfl⟩
   obtain ⟨h4s, ht0, hy0⟩ := two_cells w3 (.cells #[.slice ta gs.length tc, .slice ua fs.length uc] 25) (.cells #[.int .i64 0, .int .i64 0] 27)
   rw [← hW4] at h4s ht0 hy0 ⊢
   have hb4 : Below w3.heap.size w3 W4 := by rw [hW4]; (repeat (first | exact Below.refl _ _ | refine Below.alloc ?_ (by first|omega|(simp<;>omega)) _ | refine Below.setCell ?_ (by first|omega|(simp<;>omega)) _ | refine below_drewN ?_ _ | refine Below.drew ?_))
   have Hb34 := hid hb4
   have Hb4 : Hid (Below W2.heap.size W2 W4) := Hb3.out.trans (hb4.mono Hb3.out.size)
   obtain ⟨TB, hTB⟩ : ∃ TB, TB = w3.heap.size := ⟨_, rfl⟩
   obtain ⟨YB, hYB⟩ : ∃ YB, YB = w3.heap.size + 1 := ⟨_, rfl⟩
   rw [← hYB] at hy0 ⊢
   rw [← hTB] at ht0 ⊢
   have Hcl4 : Hid (∀ V, Below W4.heap.size W4 V → V.cell? ⟨TB, 0, none⟩ = some (.slice ta gs.length tc) ∧ V.cell? ⟨TB, 1, none⟩ = some (.slice ua fs.length uc) ∧ V.cell? ⟨YB, 0, none⟩ = some (.int .i64 0) ∧ V.cell? ⟨YB, 1, none⟩ = some (.int .i64 0)) := fun V hV => by
    obtain ⟨v0, v1⟩ := (cells_of (cs := [_, _]) ((hV.block TB (by omega)).trans ht0)).get2
    obtain ⟨x0, x1⟩ := (cells_of (cs := [_, _]) ((hV.block YB (by omega)).trans hy0)).get2
    rw [Nat.zero_add] at v1 x1
    exact ⟨v0, v1, x0, x1⟩
   obtain ⟨-, -, -, v0, v1, -, -⟩ := Hcl.out W4 Hb4.out
   have zV4 : VB < W4.heap.size := cell_lt v0
   have HT2' := hid (HT2.out W4 Hb4.out)
   clear hW4 h4s ht0 hy0 hb4 hTB hYB a0 a1 x0 x1 zU2 zV2 zF2
   go_upto_region 6 with (go_at_call 15; refine HT2'.out.mono ?_; rintro e w5 ⟨ta2, tc2, ua2, uc2, rfl, hg5, hf5, hb5⟩; have Hg5 := hid hg5; have Hf5 := hid hf5; have Hb5 := hid hb5; clear hg5 hf5 hb5)
   obtain ⟨W6, hW6⟩ : ∃ W6, W6 = (w5.alloc (.cells #[.slice ta2 gs.length tc2, .slice ua2 fs.length uc2] 25)).alloc (.cells #[.int .i64 0, .int .i64 0] 27) := ⟨_, rfl⟩
   obtain ⟨h6s, hu0, hz0⟩ := two_cells w5 (.cells #[.slice ta2 gs.length tc2, .slice ua2 fs.length uc2] 25) (.cells #[.int .i64 0, .int .i64 0] 27)
   rw [← hW6] at h6s hu0 hz0 ⊢
   have hb6 : Below w5.heap.size w5 W6 := by rw [hW6]; (repeat (first | exact Below.refl _ _ | refine Below.alloc ?_ (by first|omega|(simp<;>omega)) _ | refine Below.setCell ?_ (by first|omega|(simp<;>omega)) _ | refine below_drewN ?_ _ | refine Below.drew ?_))
   have Hb56 := hid hb6
   have Hb46 : Hid (Below W4.heap.size W4 W6) := Hb5.out.trans (hb6.mono Hb5.out.size)
   have Hb6 : Hid (Below W2.heap.size W2 W6) := Hb4.out.trans (Hb46.out.mono Hb4.out.size)
   obtain ⟨SB, hSB⟩ : ∃ SB, SB = w5.heap.size := ⟨_, rfl⟩
   obtain ⟨ZB, hZB⟩ : ∃ ZB, ZB = w5.heap.size + 1 := ⟨_, rfl⟩
   rw [← hZB] at hz0 ⊢
   rw [← hSB] at hu0 ⊢
   obtain ⟨u0, u1⟩ := (cells_of (cs := [_, _]) hu0).get2
   obtain ⟨z0, z1⟩ := (cells_of (cs := [_, _]) hz0).get2
   rw [Nat.zero_add] at u1 z1
   obtain ⟨t0, t1, y0, y1⟩ := Hcl4.out W6 Hb46.out
   obtain ⟨hw6, -, -, v0, v1, -, -⟩ := Hcl.out W6 Hb6.out
   have Hw6 := hid hw6
   have zV6 := cell_lt v0
   have zT6 := cell_lt t0
   have zY6 := cell_lt y0
   have zS6 := cell_lt u0
   have zZ6 := cell_lt z0
   have Hun := hid (units_same' (S := iv W2.heap.size w3.heap.size) (S' := iv W4.heap.size w5.heap.size) ta ta2 ua ua2 tc tc2 uc uc2 gs (fs.map tidyFn) fs.length W6
    (Hg3.out.later rGlobal_mono (Hb34.out.trans (Hb46.out.mono Hb34.out.size))) (Hg5.out.later rGlobal_mono Hb56.out) (Hf3.out.later rFunc_mono (Hb34.out.trans (Hb46.out.mono Hb34.out.size))) (Hf5.out.later rFunc_mono Hb56.out) Hlm.out hgl Hsmg.out hfl Hsmf.out)
   clear hW6 h6s hu0 hz0 hb6 hSB hZB hw6 zV4
   go_wp2_with (go_at_call 12; refine Hun.out.mono ?_; rintro e w7 ⟨rfl, hb7⟩)
   go_ret
   exact ⟨rfl, by have h := Hw6.out; (have hz0 := (hb7).size; have hy0 := hz0; (try simp at hy0); have hz1 := (h).size; have hy1 := hz1; (try simp at hy1); repeat (first | exact Below.refl _ _ | refine Below.trans ?_ ((hb7).mono (by first|omega|(simp<;>omega))) | refine Below.trans ?_ ((h).mono (by first|omega|(simp<;>omega))) | refine Below.alloc ?_ (by first|omega|(simp<;>omega)) _ | refine Below.setCell ?_ (by first|omega|(simp<;>omega)) _ | refine below_drewN ?_ _ | refine Below.drew ?_))⟩
 · obtain ⟨rfl, rfl⟩ : vn = 0 ∧ wn = 0 := by
    rcases Hcase.out with h | h
    · exact ⟨h.2.1, h.2.2⟩
    · exact absurd h.1 hc0
   have hq : (decide (c < 0) || decide (0 < c)) = true := ne_yes hc0
   clear Hcase hc0
   go_wp2_with (first
    | (go_at_call 9; refine (none_any _ _ _ _ 0 0 _).mono ?_; rintro e w6 ⟨rfl, hb6⟩))
   go_ret
   exact ⟨rfl, by have h := Hw2.out; (have hz0 := (hb6).size; have hy0 := hz0; (try simp at hy0); have hz1 := (h).size; have hy1 := hz1; (try simp at hy1); repeat (first | exact Below.refl _ _ | refine Below.trans ?_ ((hb6).mono (by first|omega|(simp<;>omega))) | refine Below.trans ?_ ((h).mono (by first|omega|(simp<;>omega))) | refine Below.alloc ?_ (by first|omega|(simp<;>omega)) _ | refine Below.setCell ?_ (by first|omega|(simp<;>omega)) _ | refine below_drewN ?_ _ | refine Below.drew ?_))⟩

end Go.Proofs.YtnkogppgacappaaGreatDoor
