/- weigh.Guess and the document's WeighGuess. The document's WeighGuess. weigh.Do. WeighDoSays: the law's walk. -/
import Derived.Test.YtnkogppgacappaaGreatDoorPDeep
import Derived.Test.YtnkogppgacappaaGreatDoorPBy
import Derived.Test.YtnkogppgacappaaGreatDoorPRefBy
import Derived.Test.YtnkogppgacappaaGreatDoorPSameU
import Derived.Test.YtnkogppgacappaaGreatDoorPFits
import Derived.Deep.RegionHeld3
namespace Go.Proofs.YtnkogppgacappaaGreatDoor
open Go.RowKit

def GuessPost (u : DUnit) (k : Int) (w : World) (e : Ending) (w' : World) : Prop :=
  Below w.heap.size w w' ∧
  (∀ f, (funcF u k).1 = some f → ∃ v, e = .returned (.tuple #[v, .agg #[.int .i64 0, .int .i64 0]]) ∧ OwnInts w.heap.size w' v (guessF (deepF f.blocks))) ∧
  ((funcF u k).1 = none → e = .returned (.tuple #[.slice none 0 0, .agg #[.int .i64 (funcF u k).2.1, .int .i64 (funcF u k).2.2]]))
theorem guessF_take (l : List Int) (k : Nat) (h : k < l.length) : guessF (l.take (k + 1)) = guessF (l.take k) ++ [guess1 l[k]] := by
  unfold guessF; rw [List.take_succ_eq_append_getElem h, List.map_append]; rfl
/-- A world in which what was there is as it was, with a row of the call's own. -/
structure GrowI (W0 W : World) (v : Value) (l : List Int) : Prop where
  own : W.ownsRow W0.heap.size 3 1 v l.length (l.map (Value.int .i64))
  old : Below W0.heap.size W0 W

set_option maxRecDepth 100000 in
set_option maxHeartbeats 4000000 in
theorem guess_any {S : Nat → Prop} (ga : Option Addr) (gc : Nat) (fa : Option Addr) (fc : Nat) (gs : List DGlobal) (fs : List DFunc) (k : Int) (w : World) (hk : I64 k)
    (hg : SlAt S w 3 rGlobal (.slice ga gs.length gc) gs) (hf : SlAt S w 4 rFunc (.slice fa fs.length fc) fs) (hw : Ways w) (hS : ∀ b, S b → b < w.heap.size)
    (hgl : gs.length ≤ 1048576) (hfl : fs.length ≤ 1048576) (hsm : ∀ (k : Nat) (f : DFunc), fs[k]? = some f → manyOf f.blocks ≤ 1048576 ∧ f.blocks.length ≤ 1048576) :
    Calls Tryz.prog 18 #[.agg #[.slice ga gs.length gc, .slice fa fs.length fc], .int .i64 k] w fun e w' => GuessPost ⟨gs, fs⟩ k w e w' := by
  have HD : Hid (∀ V, Below w.heap.size w V → Calls Tryz.prog 10 #[.agg #[.slice ga gs.length gc, .slice fa fs.length fc], .int .i64 k] V fun e w' => DeepPost ⟨gs, fs⟩ k V e w') := fun V hV =>
    deep_any (S := S) ga gc fa fc gs fs k V hk (hg.later rGlobal_mono hV) (hf.later rFunc_mono hV) (Ways.below hw hV) (fun b hb => Nat.lt_of_lt_of_le (hS b hb) hV.size) hgl hfl hsm
  obtain ⟨hk1, hk2⟩ := hk
  clear hg hf hw hsm hS
  obtain ⟨i0, hi, hz0, hz1, hz2⟩ := info_parts infoIntA
  go_enter Tryz.func18, Tryz.ntmps18
  go_upto_region 1 with (fail)
  obtain ⟨W, hW⟩ : ∃ W, W = (w.alloc (.cells #[.slice ga gs.length gc, .slice fa fs.length fc] 25)).alloc (.cells #[.int .i64 0, .int .i64 0] 27) := ⟨_, rfl⟩
  obtain ⟨hWs, h0, h1⟩ := two_cells w (.cells #[.slice ga gs.length gc, .slice fa fs.length fc] 25) (.cells #[.int .i64 0, .int .i64 0] 27)
  rw [← hW] at hWs h0 h1 ⊢
  have hbW : Below w.heap.size w W := by rw [hW]; (repeat (first | exact Below.refl _ _ | refine Below.alloc ?_ (by first | omega | (simp <;> omega)) _ | refine Below.setCell ?_ (by first | omega | (simp <;> omega)) _ | refine below_drewN ?_ _ | refine Below.drew ?_))
  obtain ⟨UB, hUB⟩ : ∃ UB, UB = w.heap.size := ⟨_, rfl⟩
  obtain ⟨UX, hUX⟩ : ∃ UX, UX = w.heap.size + 1 := ⟨_, rfl⟩
  rw [← hUX] at h1 ⊢
  rw [← hUB] at h0 ⊢
  have HUs : Hid (UB = w.heap.size ∧ UX = w.heap.size + 1 ∧ W.heap.size = w.heap.size + 2) := ⟨hUB, hUX, hWs⟩
  have Hst : Hid (∀ V, Below W.heap.size W V → Below w.heap.size w V ∧ V.heap[UX]? = some (.cells #[.int .i64 0, .int .i64 0] 27 (0, 0))) :=
    fun V hV => ⟨hbW.trans (hV.mono hbW.size), (hV.block UX (by omega)).trans h1⟩
  have HbW := hid hbW
  obtain ⟨c0, c1⟩ := (cells_of (cs := [_, _]) h0).get2
  rw [Nat.zero_add] at c1
  have zB : UB < W.heap.size := by omega
  clear hW h0 h1 hbW hUB hUX hWs
  cases hfo : (funcF ⟨gs, fs⟩ k).1 with
  | none =>
    obtain ⟨c, hc⟩ : ∃ c, c = (funcF ⟨gs, fs⟩ k).2.1 := ⟨_, rfl⟩
    obtain ⟨d, hd⟩ : ∃ d, d = (funcF ⟨gs, fs⟩ k).2.2 := ⟨_, rfl⟩
    have hc0 : c ≠ 0 := by rw [hc]; exact funcF_none hfo
    have hq : ((decide (c < 0) || decide (0 < c)) || (decide (d < 0) || decide (0 < d))) = true := by rw [Bool.eq_iff_iff]; simp; omega
    have Hpost : Hid (∀ e w', Below w.heap.size w w' → e = .returned (.tuple #[.slice none 0 0, .agg #[.int .i64 c, .int .i64 d]]) → GuessPost ⟨gs, fs⟩ k w e w') := fun e w' h1 h2 => by
      refine ⟨h1, fun f hf => ?_, fun _ => ?_⟩
      · rw [hfo] at hf; cases hf
      · rw [← hc, ← hd]; exact h2
    have HD1 : Hid (Calls Tryz.prog 10 #[.agg #[.slice ga gs.length gc, .slice fa fs.length fc], .int .i64 k] W fun e w' => e = .returned (.tuple #[.slice none 0 0, .agg #[.int .i64 c, .int .i64 d]]) ∧ Below W.heap.size W w') :=
      (HD.out W HbW.out).mono fun e w' h => ⟨by rw [hc, hd]; exact h.2.2 hfo, h.1⟩
    clear hfo hc hd hc0
    go_upto_region 2 with (go_at_call 10; refine HD1.out.mono ?_; rintro e w1 ⟨rfl, hb1⟩; have Hb1 := hid hb1; clear hb1)
    obtain ⟨W2, hW2⟩ : ∃ W2, W2 = w1.alloc (.cells #[.int .i64 c, .int .i64 d] 27) := ⟨_, rfl⟩
    have h2 : W2.heap[w1.heap.size]? = some (.cells #[.int .i64 c, .int .i64 d] 27 (0, 0)) := by rw [hW2]; exact heap_alloc_new _ _
    rw [← hW2]
    have hb2 : Below w1.heap.size w1 W2 := by rw [hW2]; (repeat (first | exact Below.refl _ _ | refine Below.alloc ?_ (by first | omega | (simp <;> omega)) _ | refine Below.setCell ?_ (by first | omega | (simp <;> omega)) _ | refine below_drewN ?_ _ | refine Below.drew ?_))
    obtain ⟨Hw2, s1⟩ := Hst.out W2 (Hb1.out.trans (hb2.mono Hb1.out.size))
    obtain ⟨XB, hXB⟩ : ∃ XB, XB = w1.heap.size := ⟨_, rfl⟩
    rw [← hXB] at h2 ⊢
    obtain ⟨x0, x1⟩ := (cells_of (cs := [_, _]) h2).get2
    obtain ⟨d0, d1⟩ := (cells_of (cs := [_, _]) s1).get2
    rw [Nat.zero_add] at x1 d1
    have g0 := thawed s1 0
    have g1 := thawed s1 1
    have zX : UX < W2.heap.size := cell_lt d0
    have zXB : XB < W2.heap.size := cell_lt x0
    have hn1 : ¬ UX = XB ∧ ¬ XB = UX := by have := HUs.out; have := Hb1.out.size; omega
    obtain ⟨hn1, hn2⟩ := hn1
    have Hw2 := hid Hw2
    have hlo : w.heap.size ≤ UX := by have := HUs.out; omega
    have Hlo := hid hlo
    clear hW2 h2 hb2 hXB s1 hlo c0 c1 zB
    go_wp2_with fail
    go_region
    go_wp2_with fail
    have q := set_two (w := W2) (u := .int .i64 c) (v := .int .i64 d) d0 d1
    refine bodyPost_ret (res_slice5 rfl rfl rfl (c := c) (a := d) (W := _) ?_ ?_) rfl (Hpost.out _ _ ?_ rfl)
    · exact q.1
    · exact q.2
    · exact ((Hw2.out.setCell (p := ⟨UX, 0, none⟩) Hlo.out _).setCell (p := ⟨UX, 1, none⟩) Hlo.out _).drew
  | some f =>
    obtain ⟨hck, -, hfk, hfe⟩ := funcF_some hfo
    have hfn := fnOk (u := ⟨gs, fs⟩) hck hfk
    have hto := hfn.toOk
    have hn40 := hfn.len.2
    have hdi := deepF_i64 hto
    have hdl := deepF_len f.blocks
    obtain ⟨n, hn⟩ : ∃ n, n = f.blocks.length := ⟨_, rfl⟩
    obtain ⟨L, hL⟩ : ∃ L, L = deepF f.blocks := ⟨_, rfl⟩
    rw [← hn] at hn40 hdi hdl
    rw [← hL] at hdi hdl
    have Hpost : Hid (∀ e w' v, Below w.heap.size w w' → e = .returned (.tuple #[v, .agg #[.int .i64 0, .int .i64 0]]) → OwnInts w.heap.size w' v (guessF L) → GuessPost ⟨gs, fs⟩ k w e w') := fun e w' v h1 h2 h3 => by
      refine ⟨h1, fun f' hf => ?_, fun hn => ?_⟩
      · rw [hfo] at hf
        cases hf
        rw [← hL]
        exact ⟨v, h2, h3⟩
      · rw [hfo] at hn; cases hn
    have HD1 : Hid (Calls Tryz.prog 10 #[.agg #[.slice ga gs.length gc, .slice fa fs.length fc], .int .i64 k] W fun e w' => ∃ g, e = .returned (.tuple #[.slice (some ⟨g, 0, none⟩) n n, .agg #[.int .i64 0, .int .i64 0]]) ∧ SlAt (fun b => W.heap.size ≤ b ∧ b < w'.heap.size) w' 1 rInt (.slice (some ⟨g, 0, none⟩) n n) L ∧ Below W.heap.size W w') :=
      (HD.out W HbW.out).mono fun e w' h => by
        obtain ⟨g, e1, e2⟩ := h.2.1 f hfo
        rw [hn, hL]
        exact ⟨g, e1, e2, h.1⟩
    have Hdi := hid hdi
    have Hdl := hid hdl
    clear hfo hck hfk hfe hfn hto hdi hdl hn hL
    go_upto_region 2 with (go_at_call 10; refine HD1.out.mono ?_; rintro e w1 ⟨g, rfl, hsl, hb1⟩; have Hb1 := hid hb1; have Hsl := hid hsl; clear hb1 hsl)
    obtain ⟨W2, hW2⟩ : ∃ W2, W2 = w1.alloc (.cells #[.int .i64 0, .int .i64 0] 27) := ⟨_, rfl⟩
    have h2 : W2.heap[w1.heap.size]? = some (.cells #[.int .i64 0, .int .i64 0] 27 (0, 0)) := by rw [hW2]; exact heap_alloc_new _ _
    rw [← hW2]
    have hb2 : Below w1.heap.size w1 W2 := by rw [hW2]; (repeat (first | exact Below.refl _ _ | refine Below.alloc ?_ (by first | omega | (simp <;> omega)) _ | refine Below.setCell ?_ (by first | omega | (simp <;> omega)) _ | refine below_drewN ?_ _ | refine Below.drew ?_))
    have Hb2 : Hid (Below W.heap.size W W2) := Hb1.out.trans (hb2.mono Hb1.out.size)
    obtain ⟨XB, hXB⟩ : ∃ XB, XB = w1.heap.size := ⟨_, rfl⟩
    rw [← hXB] at h2 ⊢
    obtain ⟨x0, x1⟩ := (cells_of (cs := [_, _]) h2).get2
    rw [Nat.zero_add] at x1
    have zXB : XB < W2.heap.size := cell_lt x0
    have Hsl2 := hid (Hsl.out.later rInt_mono hb2)
    clear hW2 h2 hb2 hXB c0 c1 zB Hsl
    go_wp2_with fail
    clear x0 x1
    go_loopw [8, 24] (fun s8 s24 wr => ∃ (j : Nat) (v : Value), v = s8 ∧ j ≤ n ∧ s24 = .int .i64 (j : Int) ∧ GrowI W2 wr v (guessF (L.take j))) (fun _ s24 _ => n - (intOf s24).toNat)
    case atStart => exact ⟨0, _, rfl, Nat.zero_le _, rfl, by simpa [guessF] using World.ownsRow_nil _ _ _ _, Below.refl _ _⟩
    case round =>
      obtain ⟨wo, hwo⟩ : ∃ wo : World, wo = wr := ⟨_, rfl⟩
      subst hwo
      obtain ⟨j, v, rfl, hj, rfl, hgr⟩ := hrel
      have Hgr := hid hgr
      by_cases hjn : j < n
      · have hjl : j < L.length := by rw [Hdl.out]; exact hjn
        obtain ⟨x, hx⟩ : ∃ x, x = L[j] := ⟨_, rfl⟩
        have hxi := Hdi.out L[j] (List.getElem_mem hjl)
        obtain ⟨xb, xo, hxa, e0⟩ := int_at (Hsl2.out.later rInt_mono hgr.old) hjl
        cases hxa
        rw [← hx, Nat.zero_add] at e0
        rw [← hx] at hxi
        have Hstep : Hid (guessF (L.take (j + 1)) = guessF (L.take j) ++ [guess1 x]) := by show _ = _; rw [guessF_take _ _ hjl, ← hx]
        have zg : g < wo.heap.size := cell_lt e0
        clear hgr hx
        go_wp2_with fail
        obtain ⟨m, hm⟩ := Int.eq_ofNat_of_zero_le (show 0 ≤ min x 8 by omega)
        have hm8 : m ≤ 8 := by omega
        have Hm : Hid (guess1 x = ((10 ^ m : Nat) : Int)) := by show _ = _; unfold guess1; rw [hm, Int.toNat_natCast]
        rw [hm]
        clear e0 hm
        go_loopw [11, 30] (fun s11 s30 wr => ∃ (i q : Nat), i ≤ m ∧ s30 = .int .i64 (i : Int) ∧ s11 = .int .i64 (q : Int) ∧ q = 10 ^ i ∧ wr = wo) (fun _ s30 _ => m - (intOf s30).toNat)
        case atStart => exact ⟨0, 1, Nat.zero_le _, rfl, rfl, rfl, rfl⟩
        case round =>
          obtain ⟨i, q, hi', rfl, rfl, hq, rfl⟩ := hrel
          have hq8 : q ≤ 100000000 := by rw [hq]; exact Nat.pow_le_pow_right (by decide) (by omega : i ≤ 8)
          by_cases him : i < m
          · have Hq : Hid (q * 10 = 10 ^ (i + 1)) := by show _ = _; rw [hq, Nat.pow_succ]
            clear hq
            go_wp2_with fail
            go_roundw
            case rel => exact ⟨i + 1, q * 10, by omega, by go_num, by go_num, Hq.out, by trivial⟩
            case measure => simp [intOf]; omega
          · have hie : i = m := by omega
            have Hq : Hid (guess1 x = (q : Int)) := by show _ = _; rw [Hm.out, hq, hie]
            have Hown : Hid ((wr.alloc (.cells #[.int .i64 (q : Int)] 3)).ownsRow W2.heap.size 3 1 v (guessF (L.take j)).length ((guessF (L.take j)).map (Value.int .i64))) := Hgr.out.own.alloc _
            have hlj : (guessF (L.take j)).length ≤ 40 := by rw [guessF_len, List.length_take]; omega
            have hzo := Hgr.out.old.size
            clear hq hie
            go_wp2_with (at_builtin; refine wpList_append_own_at _ rfl _ _ 33 rfl W2.heap.size 3 i0 (.int .i64 0) 1 8 Tryz.underlying33 hi hz0 hz1 hz2 rfl (by decide) v _ _ rfl Hown.out ⟨wr.heap.size, 0, none⟩ 1 1 [.int .i64 (q : Int)] rfl rfl (cell_one_new _ _ _) ?_ ?_ ?_ ?_ ?_)
            · intro u hu; simp at hu; subst hu; rfl
            · unfold maxLen; omega
            · omega
            · simp; omega
            · intro v7 w7 hown7 hgrow hnil hat
              have hgr7 : GrowI W2 w7 v7 (guessF (L.take (j + 1))) := by
                refine ⟨?_, (Hgr.out.old.alloc hzo _).grown hgrow (by simp; omega) (fun kk hkk => (Hgr.out.own.lt kk hkk).1)⟩
                rw [Hstep.out, List.length_append, List.length_singleton, List.map_append, Hq.out]
                exact hown7
              have Hgr7 := hid hgr7
              clear hown7 hgrow hnil hat hgr7
              go_wp2_with fail
              go_roundw
              case rel => exact ⟨j + 1, v7, rfl, by omega, by go_num, Hgr7.out⟩
              case measure => simp [intOf]; omega
      · have hjn' : j = n := by omega
        have hown := hgr.own
        rw [hjn', ← Hdl.out, List.take_length] at hown
        have Hown := hid hown
        obtain ⟨Hw3, s1⟩ := Hst.out wo (Hb2.out.trans (hgr.old.mono Hb2.out.size))
        have Hw3 := hid Hw3
        obtain ⟨d0, d1⟩ := (cells_of (cs := [_, _]) s1).get2
        rw [Nat.zero_add] at d1
        have g0 := thawed s1 0
        have g1 := thawed s1 1
        have zX : UX < wo.heap.size := cell_lt d0
        have hlo : w.heap.size ≤ UX ∧ w.heap.size ≤ W2.heap.size ∧ UX < W2.heap.size := by have := HUs.out; have := Hb2.out.size; omega
        have Hlo := hid hlo
        clear hgr hjn' hown s1 hlo
        go_wp2_with fail
        have q := set_two (w := wo) (u := .int .i64 0) (v := .int .i64 0) d0 d1
        refine bodyPost_ret (res_slice5 rfl rfl rfl (c := 0) (a := 0) (W := _) ?_ ?_) rfl (Hpost.out _ _ v ?_ rfl ⟨?_, fun x hx => by have := guessF_in L x hx; unfold I64; omega⟩)
        · exact q.1
        · exact q.2
        · exact ((Hw3.out.setCell (p := ⟨UX, 0, none⟩) Hlo.out.1 _).setCell (p := ⟨UX, 1, none⟩) Hlo.out.1 _)
        · have h : ∀ a, World.ownsRow a w.heap.size 3 1 v (guessF L).length ((guessF L).map (Value.int .i64)) = World.ownsRow a w.heap.size 3 1 v (guessF L).length ((guessF L).map fun x => Value.int .i64 x) := fun _ => rfl
          rw [← h]
          have h2 := ownsRow_setCell_below (a := ⟨UX, 1, none⟩) (ownsRow_setCell_below (a := ⟨UX, 0, none⟩) Hown.out Hlo.out.2.2 (.int .i64 0)) Hlo.out.2.2 (.int .i64 0)
          refine ⟨h2.1, ?_⟩
          rcases h2.2 with h1 | ⟨g9, cap, cur, e, h3, h4, h5⟩
          · exact .inl h1
          · exact .inr ⟨g9, cap, cur, e, by have := Hlo.out.2.1; omega, h4, h5⟩

end Go.Proofs.YtnkogppgacappaaGreatDoor

namespace Go.Proofs.YtnkogppgacappaaGreatDoor
open Go.RowKit

def tens : List Int := [1, 10, 100, 1000, 10000, 100000, 1000000, 10000000, 100000000]
theorem tens_at {m : Nat} (h : m ≤ 8) : (tens.map (Value.int .i64))[m]? = some (.int .i64 ((10 ^ m : Nat) : Int)) := by
  match m, h with
  | 0, _ => rfl
  | 1, _ => rfl
  | 2, _ => rfl
  | 3, _ => rfl
  | 4, _ => rfl
  | 5, _ => rfl
  | 6, _ => rfl
  | 7, _ => rfl
  | 8, _ => rfl
  | m + 9, h => omega

set_option maxRecDepth 100000 in
set_option maxHeartbeats 4000000 in
theorem refGuess_any {S : Nat → Prop} (a : Option Addr) (n c : Nat) (L : List Int) (w : World) (hs : SlAt S w 1 rInt (.slice a n c) L) (hn : L.length = n) (hn2 : n ≤ 1048576) (hx : ∀ x ∈ L, 0 ≤ x) :
    Calls Tryz.prog 11 #[.slice a n c] w fun e w' => ∃ v, e = .returned v ∧ OwnInts w.heap.size w' v (guessF L) ∧ Below w.heap.size w w' := by
  have Hs := hid hs
  have Hn := hid hn
  have Hx := hid hx
  clear hs hn hx
  obtain ⟨i0, hi, hz0, hz1, hz2⟩ := info_parts infoIntA
  go_enter Tryz.func11, Tryz.ntmps11
  go_wp2_with fail
  obtain ⟨W, hW⟩ : ∃ W, W = w.alloc (.cells (tens.map (Value.int .i64)).toArray 3) := ⟨_, rfl⟩
  have hW' : W = w.alloc (.cells #[.int .i64 1, .int .i64 10, .int .i64 100, .int .i64 1000, .int .i64 10000, .int .i64 100000, .int .i64 1000000, .int .i64 10000000, .int .i64 100000000] 3) := hW
  rw [← hW']
  obtain ⟨TB, hTB⟩ : ∃ TB, TB = w.heap.size := ⟨_, rfl⟩
  rw [← hTB]
  have hT : W.heap[TB]? = some (.cells (tens.map (Value.int .i64)).toArray 3 (0, 0)) := by rw [hW, hTB]; exact heap_alloc_new _ _
  have hb : Below w.heap.size w W := by rw [hW]; (repeat (first | exact Below.refl _ _ | refine Below.alloc ?_ (by first | omega | (simp <;> omega)) _ | refine Below.setCell ?_ (by first | omega | (simp <;> omega)) _ | refine below_drewN ?_ _ | refine Below.drew ?_))
  have HT := hid hT
  have Hb := hid hb
  have Hs1 := hid (Hs.out.later rInt_mono hb)
  have HTB := hid hTB
  clear hW hW' hT hb hTB
  go_loopw [4, 5] (fun s4 s5 wr => ∃ (j : Nat) (v : Value), v = s4 ∧ j ≤ n ∧ s5 = .int .i64 (j : Int) ∧ GrowI W wr v (guessF (L.take j))) (fun _ s5 _ => n - (intOf s5).toNat)
  case atStart => exact ⟨0, _, rfl, Nat.zero_le _, rfl, by simpa [guessF] using World.ownsRow_nil _ _ _ _, Below.refl _ _⟩
  case round =>
    obtain ⟨wo, hwo⟩ : ∃ wo : World, wo = wr := ⟨_, rfl⟩
    subst hwo
    obtain ⟨j, v, rfl, hj, rfl, hgr⟩ := hrel
    have Hgr := hid hgr
    by_cases hjn : j < n
    · have hjl : j < L.length := by rw [Hn.out]; exact hjn
      obtain ⟨x, hx⟩ : ∃ x, x = L[j] := ⟨_, rfl⟩
      have hxi := Hx.out L[j] (List.getElem_mem hjl)
      obtain ⟨xb, xo, hxa, e0⟩ := int_at (Hs1.out.later rInt_mono hgr.old) hjl
      subst hxa
      rw [← hx] at e0 hxi
      have Hstep : Hid (guessF (L.take (j + 1)) = guessF (L.take j) ++ [guess1 x]) := by show _ = _; rw [guessF_take _ _ hjl, ← hx]
      obtain ⟨m, hm⟩ := Int.eq_ofNat_of_zero_le (show 0 ≤ min x 8 by omega)
      have hm8 : m ≤ 8 := by omega
      have hm3 : max 0 (m : Int) = (m : Int) := by omega
      have hTw := (hgr.old.block TB (Array.getElem?_eq_some_iff.1 HT.out).1).trans HT.out
      have t0 : wo.cell? ⟨TB, m, none⟩ = some (.int .i64 ((10 ^ m : Nat) : Int)) := by rw [cell_row hTw, List.getElem?_toArray]; exact tens_at hm8
      obtain ⟨q, hq⟩ : ∃ q : Nat, q = 10 ^ m := ⟨_, rfl⟩
      rw [← hq] at t0
      have Hq : Hid (guess1 x = (q : Int)) := by show _ = _; unfold guess1; rw [hm, Int.toNat_natCast, hq]
      have zb : xb < wo.heap.size := cell_lt e0
      have zT : TB < wo.heap.size := cell_lt t0
      have Hown : Hid ((wo.alloc (.cells #[.int .i64 (q : Int)] 3)).ownsRow W.heap.size 3 1 v (guessF (L.take j)).length ((guessF (L.take j)).map (Value.int .i64))) := hgr.own.alloc _
      have hlj : (guessF (L.take j)).length ≤ n := by rw [guessF_len, List.length_take]; omega
      have hzo := hgr.old.size
      clear hgr hx hq hTw
      go_wp2_with (at_builtin; refine wpList_append_own_at _ rfl _ _ 33 rfl W.heap.size 3 i0 (.int .i64 0) 1 8 Tryz.underlying33 hi hz0 hz1 hz2 rfl (by decide) v _ _ rfl Hown.out ⟨wo.heap.size, 0, none⟩ 1 1 [.int .i64 (q : Int)] rfl rfl (cell_one_new _ _ _) ?_ ?_ ?_ ?_ ?_)
      · intro u hu; simp at hu; subst hu; rfl
      · unfold maxLen; omega
      · omega
      · simp; omega
      · intro v7 w7 hown7 hgrow hnil hat
        have hgr7 : GrowI W w7 v7 (guessF (L.take (j + 1))) := by
          refine ⟨?_, (Hgr.out.old.alloc hzo _).grown hgrow (by simp; omega) (fun kk hkk => (Hgr.out.own.lt kk hkk).1)⟩
          rw [Hstep.out, List.length_append, List.length_singleton, List.map_append, Hq.out]
          exact hown7
        have Hgr7 := hid hgr7
        clear hown7 hgrow hnil hat hgr7
        go_wp2_with fail
        go_roundw
        case rel => exact ⟨j + 1, v7, rfl, by omega, by go_num, Hgr7.out⟩
        case measure => simp [intOf]; omega
    · have hjn' : j = n := by omega
      have hown := hgr.own
      rw [hjn', ← Hn.out, List.take_length] at hown
      have hbw : Below w.heap.size w wo := Hb.out.trans (hgr.old.mono Hb.out.size)
      have hlo := Hb.out.size
      have Hown := hid hown
      have Hbw := hid hbw
      clear hgr hjn' hown hbw
      go_wp2_with fail
      go_ret
      refine ⟨v, rfl, ⟨⟨Hown.out.1, ?_⟩, fun x hx => by have := guessF_in L x hx; unfold I64; omega⟩, Hbw.out⟩
      rcases Hown.out.2 with h1 | ⟨g9, cap, cur, e, h3, h4, h5⟩
      · exact .inl h1
      · exact .inr ⟨g9, cap, cur, e, by omega, h4, h5⟩

end Go.Proofs.YtnkogppgacappaaGreatDoor

namespace Go.Proofs.YtnkogppgacappaaGreatDoor
open Go.RowKit

/-- The guesses of all functions. -/
def guessL (fs : List DFunc) : List (List Int) := fs.map fun f => guessF (deepF f.blocks)
theorem guessL_len (fs : List DFunc) : (guessL fs).length = fs.length := by unfold guessL; simp
theorem guessL_at {fs : List DFunc} {k : Nat} (h : k < fs.length) : (guessL fs)[k]? = some (guessF (deepF fs[k].blocks)) := by unfold guessL; rw [List.getElem?_map, List.getElem?_eq_getElem h]; rfl
theorem guessL_fits {gs : List DGlobal} {fs : List DFunc} (h : checkF ⟨gs, fs⟩ = (0, 0)) : fitsF ⟨gs, fs⟩ (guessL fs) = (0, 0) := by
  refine fitsF_ok h (guessL_len fs) fun j hj => ?_
  have hj2 : j < fs.length := by rw [guessL_len] at hj; exact hj
  refine (rowE_zero hj2 hj).2 ?_
  have h1 := guessL_at hj2
  rw [List.getElem?_eq_getElem hj] at h1
  rw [Option.some.inj h1, guessF_len, deepF_len]
theorem guessL_small {gs : List DGlobal} {fs : List DFunc} (h : checkF ⟨gs, fs⟩ = (0, 0)) : ∀ C ∈ guessL fs, C.length ≤ 1048576 := by
  intro C hC
  unfold guessL at hC
  obtain ⟨f, hf, rfl⟩ := List.mem_map.1 hC
  obtain ⟨i, hi, rfl⟩ := List.getElem_of_mem hf
  have := (fnOk (u := ⟨gs, fs⟩) h (List.getElem?_eq_getElem hi)).len
  rw [guessF_len, deepF_len]
  omega
theorem funcF_at {gs : List DGlobal} {fs : List DFunc} (h : checkF ⟨gs, fs⟩ = (0, 0)) {k : Nat} (hk : k < fs.length) : (funcF ⟨gs, fs⟩ (k : Int)).1 = some fs[k] := by
  unfold funcF fnOf
  rw [if_neg (by rw [h]; simp), if_neg (by omega), Int.toNat_natCast, List.getElem?_eq_getElem hk]
/-- What weigh.Do hands back. -/
def DoPost (gs : List DGlobal) (fs : List DFunc) (w : World) (e : Ending) (w' : World) : Prop :=
  Below w.heap.size w w' ∧
  ((checkF ⟨gs, fs⟩).1 ≠ 0 → e = .returned (.tuple #[.agg #[.slice none 0 0, .slice none 0 0], .agg #[.int .i64 (checkF ⟨gs, fs⟩).1, .int .i64 (checkF ⟨gs, fs⟩).2]])) ∧
  ((checkF ⟨gs, fs⟩).1 = 0 → ∃ ga gc fa fc, e = .returned (.tuple #[.agg #[.slice ga gs.length gc, .slice fa fs.length fc], .agg #[.int .i64 0, .int .i64 0]]) ∧
      SlAt (iv w.heap.size w'.heap.size) w' 3 rGlobal (.slice ga gs.length gc) gs ∧ SlAt (iv w.heap.size w'.heap.size) w' 4 rFunc (.slice fa fs.length fc) (byL fs (guessL fs)))

def fourW (W : World) (UO UX : Nat) (u0 u1 c a : Value) : World := (((W.setCell ⟨UO, 0, none⟩ u0).setCell ⟨UO, 1, none⟩ u1).setCell ⟨UX, 0, none⟩ c).setCell ⟨UX, 1, none⟩ a
theorem four_cells {W : World} {UO UX : Nat} {o0 o1 x0 x1 : Value} (u0 u1 c a : Value) (hF : CellsAt W UO 0 [o0, o1]) (hX : CellsAt W UX 0 [x0, x1]) (hne : UO ≠ UX) :
    CellsAt (fourW W UO UX u0 u1 c a) UO 0 [u0, u1] ∧ CellsAt (fourW W UO UX u0 u1 c a) UX 0 [c, a] := by
  unfold fourW
  have q4 := set2 (u0 := u0) (u1 := u1) hF
  obtain ⟨W4, hW4⟩ : ∃ W4, W4 = (W.setCell ⟨UO, 0, none⟩ u0).setCell ⟨UO, 1, none⟩ u1 := ⟨_, rfl⟩
  have hX4 : CellsAt W4 UX 0 [x0, x1] := fun j v hj => by
    rw [hW4, cell_set_ne _ (Ne.symm hne), cell_set_ne _ (Ne.symm hne)]; exact hX j v hj
  rw [← hW4] at q4 ⊢
  have q2 := set2 (u0 := c) (u1 := a) hX4
  exact ⟨fun j v hj => by rw [cell_set_ne _ hne, cell_set_ne _ hne]; exact q4 j v hj, q2⟩
theorem below_fourW {B : Nat} {w W : World} {UO UX : Nat} {u0 u1 c a : Value} (h : Below B w W) (hF : B ≤ UO) (hX : B ≤ UX) : Below B w (fourW W UO UX u0 u1 c a) :=
  (((h.setCell (p := ⟨UO, 0, none⟩) hF _).setCell (p := ⟨UO, 1, none⟩) hF _).setCell (p := ⟨UX, 0, none⟩) hX _).setCell (p := ⟨UX, 1, none⟩) hX _
theorem four_heap {W : World} {UO UX : Nat} {u0 u1 c a : Value} {b : Nat} (h1 : b ≠ UO) (h2 : b ≠ UX) : (fourW W UO UX u0 u1 c a).heap[b]? = W.heap[b]? := by
  unfold fourW
  rw [Below.heap_setCell _ _ _ _ (by dsimp only; exact h2), Below.heap_setCell _ _ _ _ (by dsimp only; exact h2), Below.heap_setCell _ _ _ _ (by dsimp only; exact h1), Below.heap_setCell _ _ _ _ (by dsimp only; exact h1)]
theorem unit_res {fn : Func} (hfn : fn.results = #[.cell 2 25, .cell 3 27]) {tmps : Array Value} {W : World} {UO UX : Nat} {u0 u1 c a : Value}
    (h4 : tmps.getD 2 undef = .pointer (some ⟨UO, 0, none⟩)) (h5 : tmps.getD 3 undef = .pointer (some ⟨UX, 0, none⟩)) (hF : CellsAt W UO 0 [u0, u1]) (hX : CellsAt W UX 0 [c, a]) :
    (results fn tmps).run Tryz.prog W = .ok (.tuple #[.agg #[u0, u1], .agg #[c, a]]) W := by
  obtain ⟨a0, a1⟩ := hF.get2
  obtain ⟨b0, b1⟩ := hX.get2
  simp only [Array.getD_eq_getD_getElem?] at h4 h5
  simp [results, hfn, h4, h5, go_sem, a0, a1, b0, b1]

set_option maxRecDepth 100000 in
set_option maxHeartbeats 4000000 in
theorem do_any {S : Nat → Prop} (ga : Option Addr) (gc : Nat) (fa : Option Addr) (fc : Nat) (gs : List DGlobal) (fs : List DFunc) (w : World)
    (hg : SlAt S w 3 rGlobal (.slice ga gs.length gc) gs) (hf : SlAt S w 4 rFunc (.slice fa fs.length fc) fs) (hw : Ways w) (hS : ∀ b, S b → b < w.heap.size)
    (hgl : gs.length ≤ 1048576) (hfl : fs.length ≤ 1048576) (hsm : ∀ (k : Nat) (f : DFunc), fs[k]? = some f → manyOf f.blocks ≤ 1048576 ∧ f.blocks.length ≤ 1048576) :
    Calls Tryz.prog 7 #[.agg #[.slice ga gs.length gc, .slice fa fs.length fc]] w fun e w' => DoPost gs fs w e w' := by
  obtain ⟨c, hc⟩ : ∃ c, c = (checkF ⟨gs, fs⟩).1 := ⟨_, rfl⟩
  obtain ⟨d, hd⟩ : ∃ d, d = (checkF ⟨gs, fs⟩).2 := ⟨_, rfl⟩
  have Hcd : Hid (checkF ⟨gs, fs⟩ = (c, d)) := by show _ = _; rw [hc, hd]
  have Hck' : Hid (∀ V, Below w.heap.size w V → Calls Tryz.prog 8 #[.agg #[.slice ga gs.length gc, .slice fa fs.length fc]] V fun e w' => e = .returned (.agg #[.int .i64 c, .int .i64 d]) ∧ Below V.heap.size V w') := fun V hV => by
    have h := check_any (S := S) ga gc fa fc gs fs V (hg.later rGlobal_mono hV) (hf.later rFunc_mono hV) (Ways.below hw hV) hgl hfl hsm
    rw [← hc, ← hd] at h
    exact h
  have HG : Hid (c = 0 → ∀ V, Below w.heap.size w V → ∀ (k : Nat) (y : List Int), (guessL fs)[k]? = some y → Calls Tryz.prog 18 #[.agg #[.slice ga gs.length gc, .slice fa fs.length fc], .int .i64 (k : Int)] V fun e w' => ∃ a n c, e = .returned (.tuple #[.slice a n c, .agg #[.int .i64 0, .int .i64 0]]) ∧ OwnInts V.heap.size w' (.slice a n c) y ∧ Below V.heap.size V w') := fun h0 V hV k y hy => by
    have hk : k < fs.length := by rw [← guessL_len]; exact (List.getElem?_eq_some_iff.1 hy).1
    rw [guessL_at hk] at hy
    obtain rfl := Option.some.inj hy
    have h := guess_any (S := S) ga gc fa fc gs fs (k : Int) V (by unfold I64; omega) (hg.later rGlobal_mono hV) (hf.later rFunc_mono hV) (Ways.below hw hV) (fun b hb => Nat.lt_of_lt_of_le (hS b hb) hV.size) hgl hfl hsm
    have hz := checkF_zero (u := ⟨gs, fs⟩) (by rw [Hcd.out]; exact h0)
    refine h.mono fun e w' hp => ?_
    obtain ⟨v, e1, e2⟩ := hp.2.1 _ (funcF_at hz hk)
    obtain ⟨a, c, rfl⟩ := e2.shape
    exact ⟨a, _, c, e1, e2, hp.1⟩
  have HBy : Hid (c = 0 → ∀ (V : World) (T : Nat → Prop) (ca : Option Addr) (cn cc : Nat), Below w.heap.size w V → SlAt T V 1 rRow (.slice ca cn cc) (guessL fs) → Calls Tryz.prog 17 #[.agg #[.slice ga gs.length gc, .slice fa fs.length fc], .slice ca cn cc] V fun e w' => Below V.heap.size V w' ∧ ∃ ga2 gc2 fa2 fc2, e = .returned (.tuple #[.agg #[.slice ga2 gs.length gc2, .slice fa2 fs.length fc2], .agg #[.int .i64 0, .int .i64 0]]) ∧
      SlAt (iv V.heap.size w'.heap.size) w' 3 rGlobal (.slice ga2 gs.length gc2) gs ∧ SlAt (iv V.heap.size w'.heap.size) w' 4 rFunc (.slice fa2 fs.length fc2) (byL fs (guessL fs))) := fun h0 V T ca cn cc hV hC => by
    have hz := checkF_zero (u := ⟨gs, fs⟩) (by rw [Hcd.out]; exact h0)
    obtain ⟨ca', cc', hcv, -⟩ := id hC.val
    cases hcv
    have h := by_any (S := S) (S' := T) ga gc fa fc gs fs ca cc (guessL fs) V (hg.later rGlobal_mono hV) (hf.later rFunc_mono hV) hC (Ways.below hw hV) hgl hfl (by rw [guessL_len]; exact hfl) hsm (guessL_small hz)
    refine h.mono fun e w' hp => ⟨hp.1, ?_⟩
    rcases hp.2 with ⟨c1, d1, e1, e2, -⟩ | ⟨-, e1⟩
    · rw [guessL_fits hz] at e1
      cases e1
      exact absurd ⟨rfl, rfl⟩ e2
    · exact e1
  clear hg hf hw hsm hc hd hS
  go_enter Tryz.func7, Tryz.ntmps7
  go_upto_region 1 with (fail)
  obtain ⟨W, hW⟩ : ∃ W, W = ((w.alloc (.cells #[.slice ga gs.length gc, .slice fa fs.length fc] 25)).alloc (.cells #[.slice none 0 0, .slice none 0 0] 25)).alloc (.cells #[.int .i64 0, .int .i64 0] 27) := ⟨_, rfl⟩
  obtain ⟨hWs, h0, h1, h2⟩ := heap_threeF w (.cells #[.slice ga gs.length gc, .slice fa fs.length fc] 25) (.cells #[.slice none 0 0, .slice none 0 0] 25) (.cells #[.int .i64 0, .int .i64 0] 27)
  rw [← hW] at hWs h0 h1 h2 ⊢
  have hbW : Below w.heap.size w W := by rw [hW]; (repeat (first | exact Below.refl _ _ | refine Below.alloc ?_ (by first | omega | (simp <;> omega)) _ | refine Below.setCell ?_ (by first | omega | (simp <;> omega)) _ | refine below_drewN ?_ _ | refine Below.drew ?_))
  obtain ⟨UB, hUB⟩ : ∃ UB, UB = w.heap.size := ⟨_, rfl⟩
  obtain ⟨UO, hUO⟩ : ∃ UO, UO = w.heap.size + 1 := ⟨_, rfl⟩
  obtain ⟨UX, hUX⟩ : ∃ UX, UX = w.heap.size + 1 + 1 := ⟨_, rfl⟩
  rw [← hUX] at h2 ⊢
  rw [← hUO] at h1 ⊢
  rw [← hUB] at h0 ⊢
  have HUs : Hid (UB = w.heap.size ∧ UO = w.heap.size + 1 ∧ UX = w.heap.size + 2 ∧ W.heap.size = w.heap.size + 3) := ⟨hUB, hUO, hUX, hWs⟩
  have Hst : Hid (∀ V, Below W.heap.size W V → Below w.heap.size w V ∧ V.heap[UB]? = some (.cells #[.slice ga gs.length gc, .slice fa fs.length fc] 25 (0, 0)) ∧ V.heap[UO]? = some (.cells #[.slice none 0 0, .slice none 0 0] 25 (0, 0)) ∧ V.heap[UX]? = some (.cells #[.int .i64 0, .int .i64 0] 27 (0, 0))) :=
    fun V hV => ⟨hbW.trans (hV.mono hbW.size), (hV.block UB (by omega)).trans h0, (hV.block UO (by omega)).trans h1, (hV.block UX (by omega)).trans h2⟩
  have HbW := hid hbW
  obtain ⟨c0, c1⟩ := (cells_of (cs := [_, _]) h0).get2
  rw [Nat.zero_add] at c1
  have zB : UB < W.heap.size := by omega
  clear hW h0 h1 h2 hbW hUB hUO hUX hWs
  go_upto_region 2 with (go_at_call 8; refine (Hck'.out W HbW.out).mono ?_; rintro e w1 ⟨rfl, hb1⟩; have Hb1 := hid hb1; clear hb1)
  obtain ⟨W2, hW2⟩ : ∃ W2, W2 = w1.alloc (.cells #[.int .i64 c, .int .i64 d] 27) := ⟨_, rfl⟩
  have hb2 : Below w1.heap.size w1 W2 := by rw [hW2]; (repeat (first | exact Below.refl _ _ | refine Below.alloc ?_ (by first | omega | (simp <;> omega)) _ | refine Below.setCell ?_ (by first | omega | (simp <;> omega)) _ | refine below_drewN ?_ _ | refine Below.drew ?_))
  have Hb2 : Hid (Below W.heap.size W W2) := Hb1.out.trans (hb2.mono Hb1.out.size)
  have x0 : W2.cell? ⟨w1.heap.size, 0, none⟩ = some (.int .i64 c) := by rw [hW2]; simp
  have x1 : W2.cell? ⟨w1.heap.size, 1, none⟩ = some (.int .i64 d) := by rw [hW2]; simp
  rw [← hW2]
  obtain ⟨XB, hXB⟩ : ∃ XB, XB = w1.heap.size := ⟨_, rfl⟩
  rw [← hXB] at x0 x1 ⊢
  obtain ⟨Hw2, s0, s1, s2⟩ := Hst.out W2 Hb2.out
  have Hw2 := hid Hw2
  have S1 := hid s1
  have S2 := hid s2
  obtain ⟨a0, a1⟩ := (cells_of (cs := [_, _]) s0).get2
  rw [Nat.zero_add] at a1
  have zB2 : UB < W2.heap.size := cell_lt a0
  have zXB : XB < W2.heap.size := cell_lt x0
  have hne : ¬ UO = UX := by have := HUs.out; omega
  have hlo : w.heap.size ≤ UO ∧ w.heap.size ≤ UX := by have := HUs.out; omega
  have Hlo := hid hlo
  have hn3 : ¬ XB = UO ∧ ¬ UO = XB ∧ ¬ XB = UX ∧ ¬ UX = XB := by have := HUs.out; have := Hb1.out.size; omega
  have Hn3 := hid hn3
  clear hW2 hb2 hXB s0 s1 s2 c0 c1 zB hlo hn3
  by_cases hc0 : c = 0
  · subst hc0
    have hd0 : d = 0 := by
      have h := checkF_zero (u := ⟨gs, fs⟩) (by rw [Hcd.out])
      rw [Hcd.out] at h
      exact congrArg Prod.snd h
    subst hd0
    have Hpost : Hid (∀ e w' ga gc fa fc, Below w.heap.size w w' → e = .returned (.tuple #[.agg #[.slice ga gs.length gc, .slice fa fs.length fc], .agg #[.int .i64 0, .int .i64 0]]) → SlAt (iv w.heap.size w'.heap.size) w' 3 rGlobal (.slice ga gs.length gc) gs → SlAt (iv w.heap.size w'.heap.size) w' 4 rFunc (.slice fa fs.length fc) (byL fs (guessL fs)) → DoPost gs fs w e w') := fun e w' ga gc fa fc h1 h2 h3 h4 =>
      ⟨h1, fun h => absurd (by rw [Hcd.out]) h, fun _ => ⟨ga, gc, fa, fc, h2, h3, h4⟩⟩
    have HG1 := hid (HG.out rfl)
    have HBy1 := hid (HBy.out rfl)
    obtain ⟨ip, hip, hpz0, hpz1, hpz2⟩ := info_parts infoInts
    obtain ⟨fn, hfn⟩ : ∃ fn, fn = fs.length := ⟨_, rfl⟩
    have hfl2 : fn ≤ 1048576 := by rw [hfn]; exact hfl
    rw [← hfn] at a1 Hst HG1 HBy1 Hpost ⊢
    have Hfn := hid hfn
    clear HG HBy hfn hfl Hck'
    go_wp2_with fail
    clear x0 x1 a0 a1
    go_loopw [5, 19] (fun s5 s19 wr => ∃ (k : Nat) (v : Value), v = s5 ∧ k ≤ fn ∧ s19 = .int .i64 (k : Int) ∧ Build W2 wr 33 1 rRow v ((guessL fs).take k)) (fun _ s19 _ => fn - (intOf s19).toNat)
    case atStart => exact ⟨0, _, rfl, Nat.zero_le _, rfl, Build.start W2 33 1 rRow⟩
    case round =>
      obtain ⟨wo, hwo⟩ : ∃ wo : World, wo = wr := ⟨_, rfl⟩
      subst hwo
      obtain ⟨k, v, rfl, hk, rfl, hbd⟩ := hrel
      have Hbd := hid hbd
      have hbWo : Below W.heap.size W wo := Hb2.out.trans (hbd.old.mono Hb2.out.size)
      obtain ⟨Hwo, s0, s1, s2⟩ := Hst.out wo hbWo
      have Hwo := hid Hwo
      have S1 := hid s1
      have S2 := hid s2
      obtain ⟨a0, a1⟩ := (cells_of (cs := [_, _]) s0).get2
      rw [Nat.zero_add] at a1
      have zB3 : UB < wo.heap.size := cell_lt a0
      have hzo := hbd.old.size
      have Hbd' := hid hbd.old
      by_cases hkn : k < fn
      · have hkl : k < fs.length := by rw [← Hfn.out]; exact hkn
        obtain ⟨y, hy⟩ : ∃ y, (guessL fs)[k]? = some y := ⟨_, guessL_at hkl⟩
        have Hstep : Hid ((guessL fs).take (k + 1) = (guessL fs).take k ++ [y]) := by show _ = _; rw [List.take_add_one, hy]; rfl
        have Hg2 := hid (HG1.out wo Hwo.out k y hy)
        clear hbd hbWo s0 s1 s2 hy
        go_wp2_with (first
          | (go_at_call 18; refine Hg2.out.mono ?_; rintro e w5 ⟨ya, yn, yc, rfl, hy5, hb5⟩
             have Hy5 := hid hy5
             have Hb5 := hid hb5
             clear hy5 hb5)
          | (at_builtin; refine wpList_append_OwnAt rfl _ _ 32 rfl W2.heap.size 33 ip _ 1 24 Tryz.underlying32 hip hpz0 hpz1 hpz2 rfl (by decide) rRow_mono v ((guessL fs).take k) rfl ?_ ⟨w5.heap.size + 1, 0, none⟩ 1 [.slice ya yn yc] y rfl rfl ?_ ?_ ?_ ?_ (by decide) ?_ ?_))
        · exact Hbd.out.own.later rRow_mono (by have h := Hb5.out; (repeat (first | exact Below.refl _ _ | exact (h).mono (by first | omega | (simp <;> omega) | (have hh := (h).size; (try simp at hh); omega) | (have hh := (h).size; (try simp at hh); (try simp); omega)) | refine Below.trans ?_ ((h).mono (by first | omega | (simp <;> omega) | (have hh := (h).size; (try simp at hh); omega) | (have hh := (h).size; (try simp at hh); (try simp); omega))) | refine Below.alloc ?_ (by first | omega | (simp <;> omega) | (have hh := (h).size; (try simp at hh); omega) | (have hh := (h).size; (try simp at hh); (try simp); omega)) _ | refine Below.setCell ?_ (by first | omega | (simp <;> omega) | (have hh := (h).size; (try simp at hh); omega) | (have hh := (h).size; (try simp at hh); (try simp); omega)) _ | refine below_drewN ?_ _ | refine Below.drew ?_)))
        · exact new_cells _ _ _ (by simp)
        · intro u hu; rw [List.mem_singleton] at hu; subst hu; rfl
        · refine ⟨_, rfl, (Hy5.out.sl.later rInt_mono (by (repeat (first | exact Below.refl _ _ | refine Below.alloc ?_ (by first | omega | (simp <;> omega)) _ | refine Below.setCell ?_ (by first | omega | (simp <;> omega)) _ | refine below_drewN ?_ _ | refine Below.drew ?_)))).mono rInt_mono (fun b hb => ⟨?_, ?_, fun e => ?_⟩) (Stays.refl _ _)⟩
          · have := hb.1; omega
          · have := hb.2; simp; omega
          · have := (Hbd.out.own.lt b e).2; have := hb.1; omega
        · rw [List.length_take]; omega
        · have := Hb5.out.size; simp; omega
        · intro v7 w7 hown hgrow hat
          have hb7 : Below W2.heap.size W2 w7 := by
            refine Below.grown ?_ hgrow (by have := Hb5.out.size; simp; omega) (fun q hq => (Hbd.out.own.lt q hq).1)
            have h := Hbd.out.old.trans (Hb5.out.mono hzo)
            (repeat (first | exact Below.refl _ _ | exact (h).mono (by first | omega | (simp <;> omega) | (have hh := (h).size; (try simp at hh); omega) | (have hh := (h).size; (try simp at hh); (try simp); omega)) | refine Below.trans ?_ ((h).mono (by first | omega | (simp <;> omega) | (have hh := (h).size; (try simp at hh); omega) | (have hh := (h).size; (try simp at hh); (try simp); omega))) | refine Below.alloc ?_ (by first | omega | (simp <;> omega) | (have hh := (h).size; (try simp at hh); omega) | (have hh := (h).size; (try simp at hh); (try simp); omega)) _ | refine Below.setCell ?_ (by first | omega | (simp <;> omega) | (have hh := (h).size; (try simp at hh); omega) | (have hh := (h).size; (try simp at hh); (try simp); omega)) _ | refine below_drewN ?_ _ | refine Below.drew ?_))
          rw [← Hstep.out] at hown
          have Hbd7 : Hid (Build W2 w7 33 1 rRow v7 ((guessL fs).take (k + 1))) := ⟨hown, hb7⟩
          clear hown hgrow hat hb7
          go_wp2_with fail
          go_roundw
          case rel => exact ⟨k + 1, v7, rfl, by omega, by go_num, Hbd7.out⟩
          case measure => simp [intOf]; omega
      · have hkn' : k = fn := by omega
        have hsl := hbd.own.toSl rRow_mono (by decide)
        rw [hkn', Hfn.out, ← guessL_len, List.take_length] at hsl
        obtain ⟨ca, cc, rfl, -⟩ := id hsl.val
        obtain ⟨cn, hcn⟩ : ∃ cn, cn = (guessL fs).length := ⟨_, rfl⟩
        rw [← hcn] at hsl ⊢
        have Hby := hid (HBy1.out wo _ ca cn cc Hwo.out hsl)
        have zf : w.heap.size ≤ wo.heap.size := Hwo.out.size
        clear hbd hbWo s0 s1 s2 hkn' hsl hcn Hbd
        go_wp2_with (go_at_call 17; refine Hby.out.mono ?_; rintro e w9 ⟨hb9, ga2, gc2, fa2, fc2, rfl, hg9, hf9⟩
                     have hbW9 : Below W.heap.size W wo := Hb2.out.trans (Hbd'.out.mono Hb2.out.size)
                     obtain ⟨Hw9, -, t1, t2⟩ := Hst.out w9 (hbW9.trans (hb9.mono hbW9.size))
                     have T1 := hid t1
                     have T2 := hid t2
                     have Hw9 := hid Hw9
                     have Hg9 := hid hg9
                     have Hf9 := hid hf9
                     have f0 := thawed t1 0
                     have f1 := thawed t1 1
                     have g0 := thawed t2 0
                     have g1 := thawed t2 1
                     obtain ⟨b0, b1⟩ := (cells_of (cs := [_, _]) t1).get2
                     obtain ⟨d0, d1⟩ := (cells_of (cs := [_, _]) t2).get2
                     rw [Nat.zero_add] at b1 d1
                     have zO2 : UO < w9.heap.size := cell_lt b0
                     have zX2 : UX < w9.heap.size := cell_lt d0
                     have hne2 : ¬ UX = UO := fun e => hne e.symm
                     have hUW : UO < wo.heap.size ∧ UX < wo.heap.size := by have := HUs.out; have := hbW9.size; omega
                     have HUW := hid hUW
                     clear hb9 hg9 hf9 t1 t2 hbW9 hUW)
        have hsix := four_cells (.slice ga2 gs.length gc2) (.slice fa2 fn fc2) (.int .i64 0) (.int .i64 0) (cells_of (cs := [_, _]) T1.out) (cells_of (cs := [_, _]) T2.out) hne
        have hb6 : Below w.heap.size w (fourW w9 UO UX (.slice ga2 gs.length gc2) (.slice fa2 fn fc2) (.int .i64 0) (.int .i64 0)) := below_fourW Hw9.out Hlo.out.1 Hlo.out.2
        have hh : ∀ b, b ≠ UO → b ≠ UX → (fourW w9 UO UX (.slice ga2 gs.length gc2) (.slice fa2 fn fc2) (.int .i64 0) (.int .i64 0)).heap[b]? = w9.heap[b]? := fun b h1 h2 => four_heap h1 h2
        have hs6 : (fourW w9 UO UX (.slice ga2 gs.length gc2) (.slice fa2 fn fc2) (.int .i64 0) (.int .i64 0)).heap.size = w9.heap.size := by simp [fourW, World.setCell]
        have hiv : ∀ b, iv wo.heap.size w9.heap.size b → b ≠ UO ∧ b ≠ UX := fun b hb => by have := hb.1; have := HUW.out; omega
        refine bodyPost_ret (unit_res rfl rfl rfl hsix.1 hsix.2) rfl (Hpost.out _ _ ga2 gc2 fa2 fc2 hb6 rfl ?_ ?_)
        · exact Hg9.out.mono rGlobal_mono (fun b hb => ⟨by have := hb.1; omega, Nat.lt_of_lt_of_eq hb.2 hs6.symm⟩) (stays_at fun b hb _ => hh b (hiv b hb).1 (hiv b hb).2)
        · exact Hf9.out.mono rFunc_mono (fun b hb => ⟨by have := hb.1; omega, Nat.lt_of_lt_of_eq hb.2 hs6.symm⟩) (stays_at fun b hb _ => hh b (hiv b hb).1 (hiv b hb).2)
  · have hq : ((decide (c < 0) || decide (0 < c)) || (decide (d < 0) || decide (0 < d))) = true := by rw [Bool.eq_iff_iff]; simp; omega
    have Hpost : Hid (∀ e w', Below w.heap.size w w' → e = .returned (.tuple #[.agg #[.slice none 0 0, .slice none 0 0], .agg #[.int .i64 c, .int .i64 d]]) → DoPost gs fs w e w') := fun e w' h1 h2 => by
      refine ⟨h1, fun _ => ?_, fun h => ?_⟩
      · rw [Hcd.out]; exact h2
      · rw [Hcd.out] at h; exact absurd h hc0
    have s1 := S1.out
    have s2 := S2.out
    have f0 := thawed s1 0
    have f1 := thawed s1 1
    have g0 := thawed s2 0
    have g1 := thawed s2 1
    obtain ⟨b0, b1⟩ := (cells_of (cs := [_, _]) s1).get2
    obtain ⟨d0, d1⟩ := (cells_of (cs := [_, _]) s2).get2
    rw [Nat.zero_add] at b1 d1
    have zO2 : UO < W2.heap.size := cell_lt b0
    have zX2 : UX < W2.heap.size := cell_lt d0
    obtain ⟨hn3, hn4, hn5, hn6⟩ := Hn3.out
    have hne2 : ¬ UX = UO := by omega
    clear hc0 s1 s2
    go_wp2_with fail
    go_region
    have hsix := four_cells (.slice none 0 0) (.slice none 0 0) (.int .i64 c) (.int .i64 d) (cells_of (cs := [_, _]) S1.out) (cells_of (cs := [_, _]) S2.out) hne
    have hb6 : Below w.heap.size w (fourW W2 UO UX (.slice none 0 0) (.slice none 0 0) (.int .i64 c) (.int .i64 d)) := below_fourW Hw2.out Hlo.out.1 Hlo.out.2
    obtain ⟨W6, hW6⟩ : ∃ W6, W6 = fourW W2 UO UX (.slice none 0 0) (.slice none 0 0) (.int .i64 c) (.int .i64 d) := ⟨_, rfl⟩
    rw [← hW6] at hsix hb6
    unfold fourW at hW6
    rw [← hW6]
    have Hsix := hid hsix
    have Hb6 := hid hb6
    clear hW6 hsix hb6
    go_wp2_with fail
    refine bodyPost_ret (unit_res rfl rfl rfl Hsix.out.1.drewC Hsix.out.2.drewC) rfl (Hpost.out _ _ Hb6.out.drew rfl)

end Go.Proofs.YtnkogppgacappaaGreatDoor

namespace Go.Proofs.YtnkogppgacappaaGreatDoor
open Go.RowKit

theorem byL_smallD {gs : List DGlobal} {fs : List DFunc} {Cs : List (List Int)} (h : fitsF ⟨gs, fs⟩ Cs = (0, 0)) : (∀ g ∈ gs, g.init.length ≤ 1048576) ∧ ∀ f ∈ byL fs Cs, SmallF f := by
  have h2 := (rest_plain h).1
  obtain ⟨h3, -⟩ := fitsF_inv h2
  exact checkF_small (u := ⟨gs, byL fs Cs⟩) h3

set_option maxRecDepth 100000 in
set_option maxHeartbeats 4000000 in
theorem weighDoSays_any (w : World) (hw : Ways w) (ga : Option Addr) (gc : Nat) (fa : Option Addr) (fc : Nat) (gs : List DGlobal) (fs : List DFunc) (hg : SlAt (fun b => b < w.heap.size) w 3 rGlobal (.slice ga gs.length gc) gs) (hf : SlAt (fun b => b < w.heap.size) w 4 rFunc (.slice fa fs.length fc) fs)
    (hsm : Small gs fs) :
    Calls Tryz.prog 3 #[.agg #[.slice ga gs.length gc, .slice fa fs.length fc]] w fun e w' => e = .returned (.bool true) ∧ Below w.heap.size w w' := by
  have hgl := hsm.globals
  have hfl := hsm.funcs
  have Hsm := hid hsm.many
  have Hg := hid hg
  have Hf := hid hf
  have Hw := hid hw
  obtain ⟨c, hc⟩ : ∃ c, c = (checkF ⟨gs, fs⟩).1 := ⟨_, rfl⟩
  obtain ⟨d, hd⟩ : ∃ d, d = (checkF ⟨gs, fs⟩).2 := ⟨_, rfl⟩
  have Hcd : Hid (checkF ⟨gs, fs⟩ = (c, d)) := by show _ = _; rw [hc, hd]
  clear hg hf hw hsm
  go_enter Tryz.func3, Tryz.ntmps3
  obtain ⟨W, hW⟩ : ∃ W, W = (w.alloc (.cells #[.slice ga gs.length gc, .slice fa fs.length fc] 25)) := ⟨_, rfl⟩
  have hbW : Below w.heap.size w W := by rw [hW]; (repeat (first | exact Below.refl _ _ | refine Below.alloc ?_ (by first | omega | (simp <;> omega)) _ | refine Below.setCell ?_ (by first | omega | (simp <;> omega)) _ | refine below_drewN ?_ _ | refine Below.drew ?_))
  have h0 : W.heap[w.heap.size]? = some (.cells #[.slice ga gs.length gc, .slice fa fs.length fc] 25 (0, 0)) := by rw [hW]; exact heap_alloc_new _ _
  have hWs : W.heap.size = w.heap.size + 1 := by rw [hW]; simp
  go_upto_region 1 with (fail)
  rw [← hW]
  obtain ⟨UB, hUB⟩ : ∃ UB, UB = w.heap.size := ⟨_, rfl⟩
  rw [← hUB] at h0 ⊢
  have HUB : Hid (UB = w.heap.size ∧ W.heap.size = UB + 1) := ⟨hUB, by omega⟩
  have HbW := hid hbW
  have H0 : Hid (∀ V, Below W.heap.size W V → Below w.heap.size w V ∧ V.cell? ⟨UB, 0, none⟩ = some (.slice ga gs.length gc) ∧ V.cell? ⟨UB, 1, none⟩ = some (.slice fa fs.length fc)) := fun V hV => by
    have h1 := (hV.block UB (by omega)).trans h0
    obtain ⟨c0, c1⟩ := (cells_of (cs := [_, _]) h1).get2
    rw [Nat.zero_add] at c1
    exact ⟨hbW.trans (hV.mono hbW.size), c0, c1⟩
  obtain ⟨-, c0, c1⟩ := H0.out W (Below.refl _ _)
  have zB : UB < W.heap.size := cell_lt c0
  have hdo := do_any (S := fun b => b < w.heap.size) ga gc fa fc gs fs W (Hg.out.later rGlobal_mono hbW) (Hf.out.later rFunc_mono hbW) (Ways.below Hw.out hbW) (fun b hb => by omega) hgl hfl Hsm.out
  have Hdo : Hid (Calls Tryz.prog 7 #[.agg #[.slice ga gs.length gc, .slice fa fs.length fc]] W fun e w1 => ∃ va vn vc wa wn wc, e = .returned (.tuple #[.agg #[.slice va vn vc, .slice wa wn wc], .agg #[.int .i64 c, .int .i64 d]]) ∧ Below W.heap.size W w1 ∧
      ((c ≠ 0 ∧ vn = 0 ∧ wn = 0) ∨ (c = 0 ∧ d = 0 ∧ vn = gs.length ∧ wn = fs.length ∧ SlAt (iv W.heap.size w1.heap.size) w1 3 rGlobal (.slice va vn vc) gs ∧ SlAt (iv W.heap.size w1.heap.size) w1 4 rFunc (.slice wa wn wc) (byL fs (guessL fs))))) := by
    refine hdo.mono fun e w1 hp => ?_
    by_cases hc0 : (checkF ⟨gs, fs⟩).1 = 0
    · obtain ⟨ga2, gc2, fa2, fc2, e1, e2, e3⟩ := hp.2.2 hc0
      have hz := checkF_zero (u := ⟨gs, fs⟩) hc0
      rw [hz] at hc hd
      exact ⟨ga2, _, gc2, fa2, _, fc2, by rw [hc, hd]; exact e1, hp.1, .inr ⟨hc, hd, rfl, rfl, e2, e3⟩⟩
    · exact ⟨none, 0, 0, none, 0, 0, by rw [hc, hd]; exact hp.2.1 hc0, hp.1, .inl ⟨by rw [hc]; exact hc0, rfl, rfl⟩⟩
  have Hck : Hid (∀ V, Below w.heap.size w V → Calls Tryz.prog 8 #[.agg #[.slice ga gs.length gc, .slice fa fs.length fc]] V fun e w' => e = .returned (.agg #[.int .i64 c, .int .i64 d]) ∧ Below V.heap.size V w') := fun V hV => by
    have h := check_any (S := fun b => b < w.heap.size) ga gc fa fc gs fs V (Hg.out.later rGlobal_mono hV) (Hf.out.later rFunc_mono hV) (Ways.below Hw.out hV) hgl hfl Hsm.out
    rw [← hc, ← hd] at h
    exact h
  clear hW hWs hUB hbW h0 hdo hc hd
  go_upto_region 2 with (go_at_call 7; refine Hdo.out.mono ?_; rintro e w1 ⟨va, vn, vc, wa, wn, wc, rfl, hb1, hcase⟩; have Hb1 := hid hb1; have Hcase := hid hcase; clear hb1 hcase)
  obtain ⟨W2, hW2⟩ : ∃ W2, W2 = (w1.alloc (.cells #[.slice va vn vc, .slice wa wn wc] 25)).alloc (.cells #[.int .i64 c, .int .i64 d] 27) := ⟨_, rfl⟩
  obtain ⟨h2s, hv0, hx0⟩ := two_cells w1 (.cells #[.slice va vn vc, .slice wa wn wc] 25) (.cells #[.int .i64 c, .int .i64 d] 27)
  rw [← hW2] at h2s hv0 hx0 ⊢
  have hb2 : Below w1.heap.size w1 W2 := by rw [hW2]; (repeat (first | exact Below.refl _ _ | refine Below.alloc ?_ (by first | omega | (simp <;> omega)) _ | refine Below.setCell ?_ (by first | omega | (simp <;> omega)) _ | refine below_drewN ?_ _ | refine Below.drew ?_))
  have Hb2 : Hid (Below W.heap.size W W2) := Hb1.out.trans (hb2.mono Hb1.out.size)
  obtain ⟨VB, hVB⟩ : ∃ VB, VB = w1.heap.size := ⟨_, rfl⟩
  obtain ⟨FB, hFB⟩ : ∃ FB, FB = w1.heap.size + 1 := ⟨_, rfl⟩
  rw [← hFB] at hx0 ⊢
  rw [← hVB] at hv0 ⊢
  have Hcl : Hid (∀ V, Below W2.heap.size W2 V → Below w.heap.size w V ∧ V.cell? ⟨UB, 0, none⟩ = some (.slice ga gs.length gc) ∧ V.cell? ⟨UB, 1, none⟩ = some (.slice fa fs.length fc) ∧ V.cell? ⟨VB, 0, none⟩ = some (.slice va vn vc) ∧ V.cell? ⟨VB, 1, none⟩ = some (.slice wa wn wc) ∧ V.cell? ⟨FB, 0, none⟩ = some (.int .i64 c) ∧ V.cell? ⟨FB, 1, none⟩ = some (.int .i64 d)) := fun V hV => by
    obtain ⟨h1, h2, h3⟩ := H0.out V (Hb2.out.trans (hV.mono Hb2.out.size))
    obtain ⟨v0, v1⟩ := (cells_of (cs := [_, _]) ((hV.block VB (by omega)).trans hv0)).get2
    obtain ⟨x0, x1⟩ := (cells_of (cs := [_, _]) ((hV.block FB (by omega)).trans hx0)).get2
    rw [Nat.zero_add] at v1 x1
    exact ⟨h1, h2, h3, v0, v1, x0, x1⟩
  obtain ⟨hw2, a0, a1, v0, v1, x0, x1⟩ := Hcl.out W2 (Below.refl _ _)
  have Hw2 := hid hw2
  have Hz2 := hid hb2
  have zU2 : UB < W2.heap.size := cell_lt a0
  have zV2 : VB < W2.heap.size := cell_lt v0
  have zF2 : FB < W2.heap.size := cell_lt x0
  clear hW2 h2s hv0 hx0 hb2 hVB hFB hw2 c0 c1 zB
  go_upto_region 3 with (go_at_call 8; refine (Hck.out W2 Hw2.out).mono ?_; rintro e w3 ⟨rfl, hb3⟩; have Hb3 := hid hb3; clear hb3)
  obtain ⟨W4, hW4⟩ : ∃ W4, W4 = w3.alloc (.cells #[.int .i64 c, .int .i64 d] 27) := ⟨_, rfl⟩
  have hb4 : Below w3.heap.size w3 W4 := by rw [hW4]; (repeat (first | exact Below.refl _ _ | refine Below.alloc ?_ (by first | omega | (simp <;> omega)) _ | refine Below.setCell ?_ (by first | omega | (simp <;> omega)) _ | refine below_drewN ?_ _ | refine Below.drew ?_))
  have Hb4 : Hid (Below W2.heap.size W2 W4) := Hb3.out.trans (hb4.mono Hb3.out.size)
  have e0 : W4.cell? ⟨w3.heap.size, 0, none⟩ = some (.int .i64 c) := by rw [hW4]; simp
  have e1 : W4.cell? ⟨w3.heap.size, 1, none⟩ = some (.int .i64 d) := by rw [hW4]; simp
  rw [← hW4]
  obtain ⟨EB, hEB⟩ : ∃ EB, EB = w3.heap.size := ⟨_, rfl⟩
  rw [← hEB] at e0 e1 ⊢
  obtain ⟨hw4, a0, a1, v0, v1, x0, x1⟩ := Hcl.out W4 Hb4.out
  have Hw4 := hid hw4
  have zE : EB < W4.heap.size := cell_lt e0
  have zU4 : UB < W4.heap.size := cell_lt a0
  have zV4 : VB < W4.heap.size := cell_lt v0
  have zF4 : FB < W4.heap.size := cell_lt x0
  clear hW4 hb4 hEB hw4 zU2 zV2 zF2
  by_cases hc0 : c = 0
  · obtain ⟨rfl, rfl, rfl, Hgv, Hfv⟩ : d = 0 ∧ vn = gs.length ∧ wn = fs.length ∧ Hid (SlAt (iv W.heap.size w1.heap.size) w1 3 rGlobal (.slice va vn vc) gs) ∧ Hid (SlAt (iv W.heap.size w1.heap.size) w1 4 rFunc (.slice wa wn wc) (byL fs (guessL fs))) := by
      rcases Hcase.out with h | h
      · exact absurd hc0 h.1
      · exact ⟨h.2.1, h.2.2.1, h.2.2.2.1, h.2.2.2.2.1, h.2.2.2.2.2⟩
    subst hc0
    clear Hcase
    have hck : checkF ⟨gs, fs⟩ = (0, 0) := Hcd.out
    have Hck0 := hid hck
    obtain ⟨ip, hip, hpz0, hpz1, hpz2⟩ := info_parts infoInts
    obtain ⟨fn, hfn⟩ : ∃ fn, fn = fs.length := ⟨_, rfl⟩
    have Hfn := hid hfn
    have HD : Hid (∀ V, Below w.heap.size w V → ∀ (k : Nat) (f : DFunc), fs[k]? = some f → Calls Tryz.prog 10 #[.agg #[.slice ga gs.length gc, .slice fa fs.length fc], .int .i64 (k : Int)] V fun e w' => ∃ g, e = .returned (.tuple #[.slice (some ⟨g, 0, none⟩) f.blocks.length f.blocks.length, .agg #[.int .i64 0, .int .i64 0]]) ∧ SlAt (fun b => V.heap.size ≤ b ∧ b < w'.heap.size) w' 1 rInt (.slice (some ⟨g, 0, none⟩) f.blocks.length f.blocks.length) (deepF f.blocks) ∧ Below V.heap.size V w') := fun V hV k f hk => by
      have hkl := (List.getElem?_eq_some_iff.1 hk).1
      have h := deep_any (S := fun b => b < w.heap.size) ga gc fa fc gs fs (k : Int) V (by unfold I64; omega) (Hg.out.later rGlobal_mono hV) (Hf.out.later rFunc_mono hV) (Ways.below Hw.out hV) (fun b hb => Nat.lt_of_lt_of_le hb hV.size) hgl hfl Hsm.out
      have hfo := funcF_at (gs := gs) hck hkl
      rw [(List.getElem?_eq_some_iff.1 hk).2] at hfo
      exact h.mono fun e w' hp => by
        obtain ⟨g, e1, e2⟩ := hp.2.1 f hfo
        exact ⟨g, e1, e2, hp.1⟩
    have HRB : Hid (∀ (V : World) (T : Nat → Prop) (ca : Option Addr) (cc : Nat), Below w.heap.size w V → SlAt T V 1 rRow (.slice ca (guessL fs).length cc) (guessL fs) → Calls Tryz.prog 13 #[.agg #[.slice ga gs.length gc, .slice fa fs.length fc], .slice ca (guessL fs).length cc] V fun e w' =>
      ∃ ga2 gc2 fa2 fc2, e = .returned (.agg #[.slice ga2 gs.length gc2, .slice fa2 fs.length fc2]) ∧ SlAt (iv V.heap.size w'.heap.size) w' 3 rGlobal (.slice ga2 gs.length gc2) gs ∧
        SlAt (iv V.heap.size w'.heap.size) w' 4 rFunc (.slice fa2 fs.length fc2) (byL fs (guessL fs)) ∧ Below V.heap.size V w') := fun V T ca cc hV hC =>
      refBy_any (S := fun b => b < w.heap.size) (S' := T) ga gc fa fc gs fs ca cc (guessL fs) V (Hg.out.later rGlobal_mono hV) (Hf.out.later rFunc_mono hV) hC hgl hfl (guessL_fits hck)
    have hbl := byL_len fs (guessL fs)
    obtain ⟨HsG, HsF⟩ := byL_smallD (guessL_fits hck)
    have HsG := hid HsG
    have HsF := hid HsF
    rw [← hfn] at a1 Hcl HD HRB hbl Hfv ⊢
    have Hbl := hid hbl
    have hfl2 : fn ≤ 1048576 := by rw [hfn]; exact hfl
    clear hck hfn Hck Hdo H0 hfl hbl
    go_wp2_with fail
    clear a0 a1 v0 v1 x0 x1 e0 e1
    go_loopw [6, 7] (fun s6 s7 wr => ∃ (k : Nat) (v : Value), v = s6 ∧ k ≤ fn ∧ s7 = .int .i64 (k : Int) ∧ Build W4 wr 33 1 rRow v ((guessL fs).take k)) (fun _ s7 _ => fn - (intOf s7).toNat)
    case atStart => exact ⟨0, _, rfl, Nat.zero_le _, rfl, Build.start W4 33 1 rRow⟩
    case round =>
      obtain ⟨wo, hwo⟩ : ∃ wo : World, wo = wr := ⟨_, rfl⟩
      subst hwo
      obtain ⟨k, v, rfl, hk, rfl, hbd⟩ := hrel
      have Hbd := hid hbd
      have Hbo : Hid (Below W2.heap.size W2 wo) := Hb4.out.trans (hbd.old.mono Hb4.out.size)
      obtain ⟨hwo, a0, a1, v0, v1, x0, x1⟩ := Hcl.out wo Hbo.out
      have Hwo := hid hwo
      have zU : UB < wo.heap.size := cell_lt a0
      have zV : VB < wo.heap.size := cell_lt v0
      have zF : FB < wo.heap.size := cell_lt x0
      have hzo := hbd.old.size
      have hz4 := Hb4.out.size
      by_cases hkn : k < fn
      · have hkl : k < fs.length := by rw [← Hfn.out]; exact hkn
        obtain ⟨f, hf⟩ : ∃ f, fs[k]? = some f := ⟨_, List.getElem?_eq_getElem hkl⟩
        have hfe := (List.getElem?_eq_some_iff.1 hf).2
        have HD1 := hid (HD.out wo hwo k f hf)
        have hto := (fnOk (u := ⟨gs, fs⟩) Hck0.out hf).toOk
        have hn40 := (fnOk (u := ⟨gs, fs⟩) Hck0.out hf).len.2
        have hdi := deepF_i64 hto
        have hdl := deepF_len f.blocks
        have Hstep : Hid ((guessL fs).take (k + 1) = (guessL fs).take k ++ [guessF (deepF f.blocks)]) := by
          show _ = _
          rw [List.take_add_one, guessL_at hkl, hfe]; rfl
        obtain ⟨fb, foff, xa, xc, hfa, hcs, -, -, -⟩ := func_at (Hf.out.later rFunc_mono hwo) hkl
        subst hfa
        rw [hfe] at hcs
        have q3 := hcs.get4.2.2.2
        obtain ⟨L, hL⟩ : ∃ L, L = deepF f.blocks := ⟨_, rfl⟩
        obtain ⟨bn, hbn⟩ : ∃ bn, bn = f.blocks.length := ⟨_, rfl⟩
        rw [← hL, ← hbn] at HD1
        rw [← hL] at Hstep hdi hdl
        rw [← hbn] at q3 hn40 hdi hdl
        have Hdi := hid hdi
        have Hdl := hid hdl
        have zfb : fb < wo.heap.size := cell_lt q3
        clear hbd hf hfe hto hdi hdl hcs hL hbn hwo v0 v1 x0 x1 zV zF
        go_upto_region 10 with (go_at_call 10; refine HD1.out.mono ?_; rintro e w5 ⟨g, rfl, hsl, hb5⟩; have Hb5 := hid hb5; have Hsl := hid hsl; clear hb5 hsl)
        obtain ⟨W5, hW5⟩ : ∃ W5, W5 = w5.alloc (.cells #[.int .i64 0, .int .i64 0] 27) := ⟨_, rfl⟩
        have hb5 : Below w5.heap.size w5 W5 := by rw [hW5]; (repeat (first | exact Below.refl _ _ | refine Below.alloc ?_ (by first | omega | (simp <;> omega)) _ | refine Below.setCell ?_ (by first | omega | (simp <;> omega)) _ | refine below_drewN ?_ _ | refine Below.drew ?_))
        have Hb55 : Hid (Below wo.heap.size wo W5) := Hb5.out.trans (hb5.mono Hb5.out.size)
        have y0 : W5.cell? ⟨w5.heap.size, 0, none⟩ = some (.int .i64 0) := by rw [hW5]; simp
        rw [← hW5]
        have a0 := cell_later' a0 Hb55.out
        have a1 := cell_later' a1 Hb55.out
        have q3 := cell_later' q3 Hb55.out
        have Hsl5 := hid (Hsl.out.later rInt_mono hb5)
        obtain ⟨GB, hGB⟩ : ∃ GB, GB = w5.heap.size := ⟨_, rfl⟩
        rw [← hGB] at y0 ⊢
        have zG : GB < W5.heap.size := cell_lt y0
        have zU : UB < W5.heap.size := cell_lt a0
        have zfb : fb < W5.heap.size := cell_lt q3
        have Hgs := hid (refGuess_any (S := _) (some ⟨g, 0, none⟩) bn bn L W5 Hsl5.out Hdl.out (by omega) (fun x hx => (Hdi.out x hx).1))
        clear hW5 hb5 hGB Hsl
        go_wp2_with (first
          | (go_at_call 11; refine Hgs.out.mono ?_; rintro e w6 ⟨y, rfl, hy, hb6⟩
             obtain ⟨ya, yc, hyv⟩ := hy.shape
             subst hyv
             have Hy := hid hy
             have Hb6 := hid hb6
             clear hy hb6)
          | (at_builtin; refine wpList_append_OwnAt rfl _ _ 32 rfl W4.heap.size 33 ip _ 1 24 Tryz.underlying32 hip hpz0 hpz1 hpz2 rfl (by decide) rRow_mono v ((guessL fs).take k) rfl ?_ ⟨w6.heap.size, 0, none⟩ 1 [.slice ya (guessF L).length yc] (guessF L) rfl rfl ?_ ?_ ?_ ?_ (by decide) ?_ ?_))
        · exact Hbd.out.own.later rRow_mono (by have h := Hb55.out.trans (Hb6.out.mono Hb55.out.size); (repeat (first | exact Below.refl _ _ | exact (h).mono (by first | omega | (simp <;> omega) | (have hh := (h).size; (try simp at hh); omega) | (have hh := (h).size; (try simp at hh); (try simp); omega)) | refine Below.trans ?_ ((h).mono (by first | omega | (simp <;> omega) | (have hh := (h).size; (try simp at hh); omega) | (have hh := (h).size; (try simp at hh); (try simp); omega))) | refine Below.alloc ?_ (by first | omega | (simp <;> omega) | (have hh := (h).size; (try simp at hh); omega) | (have hh := (h).size; (try simp at hh); (try simp); omega)) _ | refine Below.setCell ?_ (by first | omega | (simp <;> omega) | (have hh := (h).size; (try simp at hh); omega) | (have hh := (h).size; (try simp at hh); (try simp); omega)) _ | refine below_drewN ?_ _ | refine Below.drew ?_)))
        · exact new_cells _ _ _ rfl
        · intro u hu; rw [List.mem_singleton] at hu; subst hu; rfl
        · refine ⟨_, rfl, (Hy.out.sl.later rInt_mono (by (repeat (first | exact Below.refl _ _ | refine Below.alloc ?_ (by first | omega | (simp <;> omega)) _ | refine Below.setCell ?_ (by first | omega | (simp <;> omega)) _ | refine below_drewN ?_ _ | refine Below.drew ?_)))).mono rInt_mono (fun b hb => ⟨?_, ?_, fun e => ?_⟩) (Stays.refl _ _)⟩
          · have := hb.1; have := Hb55.out.size; omega
          · have := hb.2; simp; omega
          · have := (Hbd.out.own.lt b e).2; have := hb.1; have := Hb55.out.size; omega
        · rw [List.length_take]; omega
        · have := Hb6.out.size; have := Hb55.out.size; simp; omega
        · intro v7 w7 hown hgrow hat
          have hb7 : Below W4.heap.size W4 w7 := by
            refine Below.grown ?_ hgrow (by have := Hb6.out.size; have := Hb55.out.size; simp; omega) (fun q hq => (Hbd.out.own.lt q hq).1)
            have h := Hbd.out.old.trans ((Hb55.out.trans (Hb6.out.mono Hb55.out.size)).mono hzo)
            (repeat (first | exact Below.refl _ _ | exact (h).mono (by first | omega | (simp <;> omega) | (have hh := (h).size; (try simp at hh); omega) | (have hh := (h).size; (try simp at hh); (try simp); omega)) | refine Below.trans ?_ ((h).mono (by first | omega | (simp <;> omega) | (have hh := (h).size; (try simp at hh); omega) | (have hh := (h).size; (try simp at hh); (try simp); omega))) | refine Below.alloc ?_ (by first | omega | (simp <;> omega) | (have hh := (h).size; (try simp at hh); omega) | (have hh := (h).size; (try simp at hh); (try simp); omega)) _ | refine Below.setCell ?_ (by first | omega | (simp <;> omega) | (have hh := (h).size; (try simp at hh); omega) | (have hh := (h).size; (try simp at hh); (try simp); omega)) _ | refine below_drewN ?_ _ | refine Below.drew ?_))
          rw [← Hstep.out] at hown
          have Hbd7 : Hid (Build W4 w7 33 1 rRow v7 ((guessL fs).take (k + 1))) := ⟨hown, hb7⟩
          clear hown hgrow hat hb7
          go_wp2_with fail
          go_roundw
          case rel => exact ⟨k + 1, v7, rfl, by omega, by go_num, Hbd7.out⟩
          case measure => simp [intOf]; omega
      · have hkn' : k = fn := by omega
        have hsl := hbd.own.toSl rRow_mono (by decide)
        rw [hkn', Hfn.out, ← guessL_len, List.take_length] at hsl
        obtain ⟨ca, cc, rfl, -⟩ := id hsl.val
        have Hrb := hid (HRB.out wo.drew _ ca cc hwo.drew (hsl.later rRow_mono (Below.refl _ _).drew))
        have HS0 : Hid (wo.cell? ⟨UB, 0, none⟩ = some (.slice ga gs.length gc) ∧ wo.cell? ⟨UB, 1, none⟩ = some (.slice fa fn fc) ∧ wo.cell? ⟨VB, 0, none⟩ = some (.slice va gs.length vc) ∧ wo.cell? ⟨VB, 1, none⟩ = some (.slice wa fn wc) ∧ wo.cell? ⟨FB, 0, none⟩ = some (.int .i64 0) ∧ wo.cell? ⟨FB, 1, none⟩ = some (.int .i64 0)) := ⟨a0, a1, v0, v1, x0, x1⟩
        have HSd : Hid (wo.drew.cell? ⟨UB, 0, none⟩ = some (.slice ga gs.length gc) ∧ wo.drew.cell? ⟨UB, 1, none⟩ = some (.slice fa fn fc) ∧ wo.drew.cell? ⟨VB, 0, none⟩ = some (.slice va gs.length vc) ∧ wo.drew.cell? ⟨VB, 1, none⟩ = some (.slice wa fn wc) ∧ wo.drew.cell? ⟨FB, 0, none⟩ = some (.int .i64 0) ∧ wo.drew.cell? ⟨FB, 1, none⟩ = some (.int .i64 0)) := HS0.out
        have Hb1o : Hid (Below w1.heap.size w1 wo) := Hz2.out.trans (Hbo.out.mono Hz2.out.size)
        clear hbd hsl hkn' hwo Hbd
        go_upto_region 13 with (fail)
        clear a0 a1 v0 v1 x0 x1 zU zV zF
        go_region_held3 (fun w' => w'.cell? ⟨UB, 0, none⟩ = some (.slice ga gs.length gc) ∧ w'.cell? ⟨UB, 1, none⟩ = some (.slice fa fn fc) ∧ w'.cell? ⟨VB, 0, none⟩ = some (.slice va gs.length vc) ∧ w'.cell? ⟨VB, 1, none⟩ = some (.slice wa fn wc) ∧ w'.cell? ⟨FB, 0, none⟩ = some (.int .i64 0) ∧ w'.cell? ⟨FB, 1, none⟩ = some (.int .i64 0)) ((first | with_reducible exact HS8.out | with_reducible exact HS7.out | with_reducible exact HSd.out))
          ((first
            | (go_at_call 13; (with_reducible refine Hrb.out.mono ?_); rintro e w7 ⟨ga7, gc7, fa7, fc7, rfl, hg7, hf7, hb7⟩
               have hb57 : Below wo.heap.size wo w7 := (Below.refl wo.heap.size wo).drew.trans hb7
               have HS7 : Hid (w7.cell? ⟨UB, 0, none⟩ = some (.slice ga gs.length gc) ∧ w7.cell? ⟨UB, 1, none⟩ = some (.slice fa fn fc) ∧ w7.cell? ⟨VB, 0, none⟩ = some (.slice va gs.length vc) ∧ w7.cell? ⟨VB, 1, none⟩ = some (.slice wa fn wc) ∧ w7.cell? ⟨FB, 0, none⟩ = some (.int .i64 0) ∧ w7.cell? ⟨FB, 1, none⟩ = some (.int .i64 0)) := by
                 obtain ⟨s0, s1, s2, s3, s4, s5⟩ := HS0.out
                 exact ⟨cell_later' s0 hb57, cell_later' s1 hb57, cell_later' s2 hb57, cell_later' s3 hb57, cell_later' s4 hb57, cell_later' s5 hb57⟩
               have Hb57 := hid hb57
               have Hg7 := hid hg7
               have Hf7 := hid hf7
               clear hb57 hb7 hg7 hf7)
            | (go_at_call 12; (with_reducible refine (units_same' (S := iv W.heap.size w1.heap.size) (S' := iv wo.drew.heap.size w7.heap.size) va ga7 wa fa7 vc gc7 wc fc7 gs (byL fs (guessL fs)) fn w7 ((Hgv.out.later rGlobal_mono Hb1o.out).later rGlobal_mono Hb57.out) Hg7.out ((Hfv.out.later rFunc_mono Hb1o.out).later rFunc_mono Hb57.out) Hf7.out Hbl.out hgl HsG.out hfl2 HsF.out).mono ?_); rintro e w8 ⟨rfl, hb8⟩
               have HS8 : Hid (w8.cell? ⟨UB, 0, none⟩ = some (.slice ga gs.length gc) ∧ w8.cell? ⟨UB, 1, none⟩ = some (.slice fa fn fc) ∧ w8.cell? ⟨VB, 0, none⟩ = some (.slice va gs.length vc) ∧ w8.cell? ⟨VB, 1, none⟩ = some (.slice wa fn wc) ∧ w8.cell? ⟨FB, 0, none⟩ = some (.int .i64 0) ∧ w8.cell? ⟨FB, 1, none⟩ = some (.int .i64 0)) := by
                 obtain ⟨s0, s1, s2, s3, s4, s5⟩ := HS7.out
                 exact ⟨cell_later' s0 hb8, cell_later' s1 hb8, cell_later' s2 hb8, cell_later' s3 hb8, cell_later' s4 hb8, cell_later' s5 hb8⟩
               have Hw8 : Hid (Below w.heap.size w w8) := Hwo.out.trans ((Hb57.out.trans (hb8.mono Hb57.out.size)).mono Hwo.out.size)
               clear hb8)))
        all_goals
          go_wp2_with fail
          go_ret
          exact ⟨rfl, Hw8.out⟩
  · obtain ⟨rfl, rfl⟩ : vn = 0 ∧ wn = 0 := by
      rcases Hcase.out with h | h
      · exact ⟨h.2.1, h.2.2⟩
      · exact absurd h.1 hc0
    have hq : (decide (c < 0) || decide (0 < c)) = true := ne_yes hc0
    clear Hcase hc0
    go_wp2_with (first
      | (go_at_call 9; refine (none_any _ _ _ _ 0 0 _).mono ?_; rintro e w6 ⟨rfl, hb6⟩))
    go_ret
    exact ⟨rfl, by have h := Hw4.out; (repeat (first | exact Below.refl _ _ | exact (hb6).mono (by first | omega | (simp <;> omega) | (have hh := (hb6).size; (try simp at hh); omega) | (have hh := (hb6).size; (try simp at hh); (try simp); omega) | (have hh := (h).size; (try simp at hh); omega) | (have hh := (h).size; (try simp at hh); (try simp); omega)) | refine Below.trans ?_ ((hb6).mono (by first | omega | (simp <;> omega) | (have hh := (hb6).size; (try simp at hh); omega) | (have hh := (hb6).size; (try simp at hh); (try simp); omega) | (have hh := (h).size; (try simp at hh); omega) | (have hh := (h).size; (try simp at hh); (try simp); omega))) | exact (h).mono (by first | omega | (simp <;> omega) | (have hh := (hb6).size; (try simp at hh); omega) | (have hh := (hb6).size; (try simp at hh); (try simp); omega) | (have hh := (h).size; (try simp at hh); omega) | (have hh := (h).size; (try simp at hh); (try simp); omega)) | refine Below.trans ?_ ((h).mono (by first | omega | (simp <;> omega) | (have hh := (hb6).size; (try simp at hh); omega) | (have hh := (hb6).size; (try simp at hh); (try simp); omega) | (have hh := (h).size; (try simp at hh); omega) | (have hh := (h).size; (try simp at hh); (try simp); omega))) | refine Below.alloc ?_ (by first | omega | (simp <;> omega) | (have hh := (hb6).size; (try simp at hh); omega) | (have hh := (hb6).size; (try simp at hh); (try simp); omega) | (have hh := (h).size; (try simp at hh); omega) | (have hh := (h).size; (try simp at hh); (try simp); omega)) _ | refine Below.setCell ?_ (by first | omega | (simp <;> omega) | (have hh := (hb6).size; (try simp at hh); omega) | (have hh := (hb6).size; (try simp at hh); (try simp); omega) | (have hh := (h).size; (try simp at hh); omega) | (have hh := (h).size; (try simp at hh); (try simp); omega)) _ | refine below_drewN ?_ _ | refine Below.drew ?_))⟩

end Go.Proofs.YtnkogppgacappaaGreatDoor
