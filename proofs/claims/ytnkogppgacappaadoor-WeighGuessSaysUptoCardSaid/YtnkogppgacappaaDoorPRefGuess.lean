/- weigh.Guess and the document's WeighGuess. The document's WeighGuess. -/
import Derived.Test.YtnkogppgacappaaDoorPDeep
namespace Go.Proofs.YtnkogppgacappaaDoor
open Go.RowKit

def GuessPost (u : DUnit) (k : Int) (w : World) (e : Ending) (w' : World) : Prop :=
  Below w.heap.size w w' ∧
  (∀ f, (funcF u k).1 = some f → ∃ v, e = .returned (.tuple #[v, .agg #[.int .i64 0, .int .i64 0]]) ∧ OwnInts w.heap.size w' v (guessF (deepF f.blocks))) ∧
  ((funcF u k).1 = none → e = .returned (.tuple #[.slice none 0 0, .agg #[.int .i64 (funcF u k).2.1, .int .i64 (funcF u k).2.2]]))
theorem guessF_take (l : List Int) (k : Nat) (h : k < l.length) : guessF (l.take (k + 1)) = guessF (l.take k) ++ [guess1 l[k]] := by
  unfold guessF; rw [List.take_succ_eq_append_getElem h, List.map_append]; rfl
/-- A world in which what was there is as it was, with a row of the call's own. -/
structure GrowI (W0 W : World) (v : Value) (l : List Int) : Prop where
  own : W.ownsRow W0.heap.size 3 1 v l.length (l.map (Value.int .i64))
  old : Below W0.heap.size W0 W

set_option maxRecDepth 100000 in
set_option maxHeartbeats 4000000 in
theorem guess_any {S : Nat → Prop} (ga : Option Addr) (gc : Nat) (fa : Option Addr) (fc : Nat) (gs : List DGlobal) (fs : List DFunc) (k : Int) (w : World) (hk : I64 k)
    (hg : SlAt S w 3 rGlobal (.slice ga gs.length gc) gs) (hf : SlAt S w 4 rFunc (.slice fa fs.length fc) fs) (hw : Ways w) (hS : ∀ b, S b → b < w.heap.size)
    (hgl : gs.length ≤ 1048576) (hfl : fs.length ≤ 1048576) (hsm : ∀ (k : Nat) (f : DFunc), fs[k]? = some f → manyOf f.blocks ≤ 1048576 ∧ f.blocks.length ≤ 1048576) :
    Calls Tryd.prog 5 #[.agg #[.slice ga gs.length gc, .slice fa fs.length fc], .int .i64 k] w fun e w' => GuessPost ⟨gs, fs⟩ k w e w' := by
  have HD : Hid (∀ V, Below w.heap.size w V → Calls Tryd.prog 6 #[.agg #[.slice ga gs.length gc, .slice fa fs.length fc], .int .i64 k] V fun e w' => DeepPost ⟨gs, fs⟩ k V e w') := fun V hV =>
    deep_any (S := S) ga gc fa fc gs fs k V hk (hg.later rGlobal_mono hV) (hf.later rFunc_mono hV) (Ways.below hw hV) (fun b hb => Nat.lt_of_lt_of_le (hS b hb) hV.size) hgl hfl hsm
  obtain ⟨hk1, hk2⟩ := hk
  clear hg hf hw hsm hS
  obtain ⟨i0, hi, hz0, hz1, hz2⟩ := info_parts infoIntA
  go_enter Tryd.func5, Tryd.ntmps5
  go_upto_region 1 with (fail)
  obtain ⟨W, hW⟩ : ∃ W, W = (w.alloc (.cells #[.slice ga gs.length gc, .slice fa fs.length fc] 25)).alloc (.cells #[.int .i64 0, .int .i64 0] 28) := ⟨_, rfl⟩
  obtain ⟨hWs, h0, h1⟩ := two_cells w (.cells #[.slice ga gs.length gc, .slice fa fs.length fc] 25) (.cells #[.int .i64 0, .int .i64 0] 28)
  rw [← hW] at hWs h0 h1 ⊢
  have hbW : Below w.heap.size w W := by rw [hW]; (repeat (first | exact Below.refl _ _ | refine Below.alloc ?_ (by first | omega | (simp <;> omega)) _ | refine Below.setCell ?_ (by first | omega | (simp <;> omega)) _ | refine below_drewN ?_ _ | refine Below.drew ?_))
  obtain ⟨UB, hUB⟩ : ∃ UB, UB = w.heap.size := ⟨_, rfl⟩
  obtain ⟨UX, hUX⟩ : ∃ UX, UX = w.heap.size + 1 := ⟨_, rfl⟩
  rw [← hUX] at h1 ⊢
  rw [← hUB] at h0 ⊢
  have HUs : Hid (UB = w.heap.size ∧ UX = w.heap.size + 1 ∧ W.heap.size = w.heap.size + 2) := ⟨hUB, hUX, hWs⟩
  have Hst : Hid (∀ V, Below W.heap.size W V → Below w.heap.size w V ∧ V.heap[UX]? = some (.cells #[.int .i64 0, .int .i64 0] 28 (0, 0))) :=
    fun V hV => ⟨hbW.trans (hV.mono hbW.size), (hV.block UX (by omega)).trans h1⟩
  have HbW := hid hbW
  obtain ⟨c0, c1⟩ := (cells_of (cs := [_, _]) h0).get2
  rw [Nat.zero_add] at c1
  have zB : UB < W.heap.size := by omega
  clear hW h0 h1 hbW hUB hUX hWs
  cases hfo : (funcF ⟨gs, fs⟩ k).1 with
  | none =>
    obtain ⟨c, hc⟩ : ∃ c, c = (funcF ⟨gs, fs⟩ k).2.1 := ⟨_, rfl⟩
    obtain ⟨d, hd⟩ : ∃ d, d = (funcF ⟨gs, fs⟩ k).2.2 := ⟨_, rfl⟩
    have hc0 : c ≠ 0 := by rw [hc]; exact funcF_none hfo
    have hq : ((decide (c < 0) || decide (0 < c)) || (decide (d < 0) || decide (0 < d))) = true := by rw [Bool.eq_iff_iff]; simp; omega
    have Hpost : Hid (∀ e w', Below w.heap.size w w' → e = .returned (.tuple #[.slice none 0 0, .agg #[.int .i64 c, .int .i64 d]]) → GuessPost ⟨gs, fs⟩ k w e w') := fun e w' h1 h2 => by
      refine ⟨h1, fun f hf => ?_, fun _ => ?_⟩
      · rw [hfo] at hf; cases hf
      · rw [← hc, ← hd]; exact h2
    have HD1 : Hid (Calls Tryd.prog 6 #[.agg #[.slice ga gs.length gc, .slice fa fs.length fc], .int .i64 k] W fun e w' => e = .returned (.tuple #[.slice none 0 0, .agg #[.int .i64 c, .int .i64 d]]) ∧ Below W.heap.size W w') :=
      (HD.out W HbW.out).mono fun e w' h => ⟨by rw [hc, hd]; exact h.2.2 hfo, h.1⟩
    clear hfo hc hd hc0
    go_upto_region 2 with (go_at_call 6; refine HD1.out.mono ?_; rintro e w1 ⟨rfl, hb1⟩; have Hb1 := hid hb1; clear hb1)
    obtain ⟨W2, hW2⟩ : ∃ W2, W2 = w1.alloc (.cells #[.int .i64 c, .int .i64 d] 28) := ⟨_, rfl⟩
    have h2 : W2.heap[w1.heap.size]? = some (.cells #[.int .i64 c, .int .i64 d] 28 (0, 0)) := by rw [hW2]; exact heap_alloc_new _ _
    rw [← hW2]
    have hb2 : Below w1.heap.size w1 W2 := by rw [hW2]; (repeat (first | exact Below.refl _ _ | refine Below.alloc ?_ (by first | omega | (simp <;> omega)) _ | refine Below.setCell ?_ (by first | omega | (simp <;> omega)) _ | refine below_drewN ?_ _ | refine Below.drew ?_))
    obtain ⟨Hw2, s1⟩ := Hst.out W2 (Hb1.out.trans (hb2.mono Hb1.out.size))
    obtain ⟨XB, hXB⟩ : ∃ XB, XB = w1.heap.size := ⟨_, rfl⟩
    rw [← hXB] at h2 ⊢
    obtain ⟨x0, x1⟩ := (cells_of (cs := [_, _]) h2).get2
    obtain ⟨d0, d1⟩ := (cells_of (cs := [_, _]) s1).get2
    rw [Nat.zero_add] at x1 d1
    have g0 := thawed s1 0
    have g1 := thawed s1 1
    have zX : UX < W2.heap.size := cell_lt d0
    have zXB : XB < W2.heap.size := cell_lt x0
    have hn1 : ¬ UX = XB ∧ ¬ XB = UX := by have := HUs.out; have := Hb1.out.size; omega
    obtain ⟨hn1, hn2⟩ := hn1
    have Hw2 := hid Hw2
    have hlo : w.heap.size ≤ UX := by have := HUs.out; omega
    have Hlo := hid hlo
    clear hW2 h2 hb2 hXB s1 hlo c0 c1 zB
    go_wp2_with fail
    go_region
    go_wp2_with fail
    have q := set_two (w := W2) (u := .int .i64 c) (v := .int .i64 d) d0 d1
    refine bodyPost_ret (res_slice5 rfl rfl rfl (c := c) (a := d) (W := _) ?_ ?_) rfl (Hpost.out _ _ ?_ rfl)
    · exact q.1
    · exact q.2
    · exact ((Hw2.out.setCell (p := ⟨UX, 0, none⟩) Hlo.out _).setCell (p := ⟨UX, 1, none⟩) Hlo.out _).drew
  | some f =>
    obtain ⟨hck, -, hfk, hfe⟩ := funcF_some hfo
    have hfn := fnOk (u := ⟨gs, fs⟩) hck hfk
    have hto := hfn.toOk
    have hn40 := hfn.len.2
    have hdi := deepF_i64 hto
    have hdl := deepF_len f.blocks
    obtain ⟨n, hn⟩ : ∃ n, n = f.blocks.length := ⟨_, rfl⟩
    obtain ⟨L, hL⟩ : ∃ L, L = deepF f.blocks := ⟨_, rfl⟩
    rw [← hn] at hn40 hdi hdl
    rw [← hL] at hdi hdl
    have Hpost : Hid (∀ e w' v, Below w.heap.size w w' → e = .returned (.tuple #[v, .agg #[.int .i64 0, .int .i64 0]]) → OwnInts w.heap.size w' v (guessF L) → GuessPost ⟨gs, fs⟩ k w e w') := fun e w' v h1 h2 h3 => by
      refine ⟨h1, fun f' hf => ?_, fun hn => ?_⟩
      · rw [hfo] at hf
        cases hf
        rw [← hL]
        exact ⟨v, h2, h3⟩
      · rw [hfo] at hn; cases hn
    have HD1 : Hid (Calls Tryd.prog 6 #[.agg #[.slice ga gs.length gc, .slice fa fs.length fc], .int .i64 k] W fun e w' => ∃ g, e = .returned (.tuple #[.slice (some ⟨g, 0, none⟩) n n, .agg #[.int .i64 0, .int .i64 0]]) ∧ SlAt (fun b => W.heap.size ≤ b ∧ b < w'.heap.size) w' 1 rInt (.slice (some ⟨g, 0, none⟩) n n) L ∧ Below W.heap.size W w') :=
      (HD.out W HbW.out).mono fun e w' h => by
        obtain ⟨g, e1, e2⟩ := h.2.1 f hfo
        rw [hn, hL]
        exact ⟨g, e1, e2, h.1⟩
    have Hdi := hid hdi
    have Hdl := hid hdl
    clear hfo hck hfk hfe hfn hto hdi hdl hn hL
    go_upto_region 2 with (go_at_call 6; refine HD1.out.mono ?_; rintro e w1 ⟨g, rfl, hsl, hb1⟩; have Hb1 := hid hb1; have Hsl := hid hsl; clear hb1 hsl)
    obtain ⟨W2, hW2⟩ : ∃ W2, W2 = w1.alloc (.cells #[.int .i64 0, .int .i64 0] 28) := ⟨_, rfl⟩
    have h2 : W2.heap[w1.heap.size]? = some (.cells #[.int .i64 0, .int .i64 0] 28 (0, 0)) := by rw [hW2]; exact heap_alloc_new _ _
    rw [← hW2]
    have hb2 : Below w1.heap.size w1 W2 := by rw [hW2]; (repeat (first | exact Below.refl _ _ | refine Below.alloc ?_ (by first | omega | (simp <;> omega)) _ | refine Below.setCell ?_ (by first | omega | (simp <;> omega)) _ | refine below_drewN ?_ _ | refine Below.drew ?_))
    have Hb2 : Hid (Below W.heap.size W W2) := Hb1.out.trans (hb2.mono Hb1.out.size)
    obtain ⟨XB, hXB⟩ : ∃ XB, XB = w1.heap.size := ⟨_, rfl⟩
    rw [← hXB] at h2 ⊢
    obtain ⟨x0, x1⟩ := (cells_of (cs := [_, _]) h2).get2
    rw [Nat.zero_add] at x1
    have zXB : XB < W2.heap.size := cell_lt x0
    have Hsl2 := hid (Hsl.out.later rInt_mono hb2)
    clear hW2 h2 hb2 hXB c0 c1 zB Hsl
    go_wp2_with fail
    clear x0 x1
    go_loopw [8, 24] (fun s8 s24 wr => ∃ (j : Nat) (v : Value), v = s8 ∧ j ≤ n ∧ s24 = .int .i64 (j : Int) ∧ GrowI W2 wr v (guessF (L.take j))) (fun _ s24 _ => n - (intOf s24).toNat)
    case atStart => exact ⟨0, _, rfl, Nat.zero_le _, rfl, by simpa [guessF] using World.ownsRow_nil _ _ _ _, Below.refl _ _⟩
    case round =>
      obtain ⟨wo, hwo⟩ : ∃ wo : World, wo = wr := ⟨_, rfl⟩
      subst hwo
      obtain ⟨j, v, rfl, hj, rfl, hgr⟩ := hrel
      have Hgr := hid hgr
      by_cases hjn : j < n
      · have hjl : j < L.length := by rw [Hdl.out]; exact hjn
        obtain ⟨x, hx⟩ : ∃ x, x = L[j] := ⟨_, rfl⟩
        have hxi := Hdi.out L[j] (List.getElem_mem hjl)
        obtain ⟨xb, xo, hxa, e0⟩ := int_at (Hsl2.out.later rInt_mono hgr.old) hjl
        cases hxa
        rw [← hx, Nat.zero_add] at e0
        rw [← hx] at hxi
        have Hstep : Hid (guessF (L.take (j + 1)) = guessF (L.take j) ++ [guess1 x]) := by show _ = _; rw [guessF_take _ _ hjl, ← hx]
        have zg : g < wo.heap.size := cell_lt e0
        clear hgr hx
        go_wp2_with fail
        obtain ⟨m, hm⟩ := Int.eq_ofNat_of_zero_le (show 0 ≤ min x 8 by omega)
        have hm8 : m ≤ 8 := by omega
        have Hm : Hid (guess1 x = ((10 ^ m : Nat) : Int)) := by show _ = _; unfold guess1; rw [hm, Int.toNat_natCast]
        rw [hm]
        clear e0 hm
        go_loopw [11, 30] (fun s11 s30 wr => ∃ (i q : Nat), i ≤ m ∧ s30 = .int .i64 (i : Int) ∧ s11 = .int .i64 (q : Int) ∧ q = 10 ^ i ∧ wr = wo) (fun _ s30 _ => m - (intOf s30).toNat)
        case atStart => exact ⟨0, 1, Nat.zero_le _, rfl, rfl, rfl, rfl⟩
        case round =>
          obtain ⟨i, q, hi', rfl, rfl, hq, rfl⟩ := hrel
          have hq8 : q ≤ 100000000 := by rw [hq]; exact Nat.pow_le_pow_right (by decide) (by omega : i ≤ 8)
          by_cases him : i < m
          · have Hq : Hid (q * 10 = 10 ^ (i + 1)) := by show _ = _; rw [hq, Nat.pow_succ]
            clear hq
            go_wp2_with fail
            go_roundw
            case rel => exact ⟨i + 1, q * 10, by omega, by go_num, by go_num, Hq.out, by trivial⟩
            case measure => simp [intOf]; omega
          · have hie : i = m := by omega
            have Hq : Hid (guess1 x = (q : Int)) := by show _ = _; rw [Hm.out, hq, hie]
            have Hown : Hid ((wr.alloc (.cells #[.int .i64 (q : Int)] 3)).ownsRow W2.heap.size 3 1 v (guessF (L.take j)).length ((guessF (L.take j)).map (Value.int .i64))) := Hgr.out.own.alloc _
            have hlj : (guessF (L.take j)).length ≤ 40 := by rw [guessF_len, List.length_take]; omega
            have hzo := Hgr.out.old.size
            clear hq hie
            go_wp2_with (at_builtin; refine wpList_append_own_at _ rfl _ _ 26 rfl W2.heap.size 3 i0 (.int .i64 0) 1 8 Tryd.underlying26 hi hz0 hz1 hz2 rfl (by decide) v _ _ rfl Hown.out ⟨wr.heap.size, 0, none⟩ 1 1 [.int .i64 (q : Int)] rfl rfl (cell_one_new _ _ _) ?_ ?_ ?_ ?_ ?_)
            · intro u hu; simp at hu; subst hu; rfl
            · unfold maxLen; omega
            · omega
            · simp; omega
            · intro v7 w7 hown7 hgrow hnil hat
              have hgr7 : GrowI W2 w7 v7 (guessF (L.take (j + 1))) := by
                refine ⟨?_, (Hgr.out.old.alloc hzo _).grown hgrow (by simp; omega) (fun kk hkk => (Hgr.out.own.lt kk hkk).1)⟩
                rw [Hstep.out, List.length_append, List.length_singleton, List.map_append, Hq.out]
                exact hown7
              have Hgr7 := hid hgr7
              clear hown7 hgrow hnil hat hgr7
              go_wp2_with fail
              go_roundw
              case rel => exact ⟨j + 1, v7, rfl, by omega, by go_num, Hgr7.out⟩
              case measure => simp [intOf]; omega
      · have hjn' : j = n := by omega
        have hown := hgr.own
        rw [hjn', ← Hdl.out, List.take_length] at hown
        have Hown := hid hown
        obtain ⟨Hw3, s1⟩ := Hst.out wo (Hb2.out.trans (hgr.old.mono Hb2.out.size))
        have Hw3 := hid Hw3
        obtain ⟨d0, d1⟩ := (cells_of (cs := [_, _]) s1).get2
        rw [Nat.zero_add] at d1
        have g0 := thawed s1 0
        have g1 := thawed s1 1
        have zX : UX < wo.heap.size := cell_lt d0
        have hlo : w.heap.size ≤ UX ∧ w.heap.size ≤ W2.heap.size ∧ UX < W2.heap.size := by have := HUs.out; have := Hb2.out.size; omega
        have Hlo := hid hlo
        clear hgr hjn' hown s1 hlo
        go_wp2_with fail
        have q := set_two (w := wo) (u := .int .i64 0) (v := .int .i64 0) d0 d1
        refine bodyPost_ret (res_slice5 rfl rfl rfl (c := 0) (a := 0) (W := _) ?_ ?_) rfl (Hpost.out _ _ v ?_ rfl ⟨?_, fun x hx => by have := guessF_in L x hx; unfold I64; omega⟩)
        · exact q.1
        · exact q.2
        · exact ((Hw3.out.setCell (p := ⟨UX, 0, none⟩) Hlo.out.1 _).setCell (p := ⟨UX, 1, none⟩) Hlo.out.1 _)
        · have h : ∀ a, World.ownsRow a w.heap.size 3 1 v (guessF L).length ((guessF L).map (Value.int .i64)) = World.ownsRow a w.heap.size 3 1 v (guessF L).length ((guessF L).map fun x => Value.int .i64 x) := fun _ => rfl
          rw [← h]
          have h2 := ownsRow_setCell_below (a := ⟨UX, 1, none⟩) (ownsRow_setCell_below (a := ⟨UX, 0, none⟩) Hown.out Hlo.out.2.2 (.int .i64 0)) Hlo.out.2.2 (.int .i64 0)
          refine ⟨h2.1, ?_⟩
          rcases h2.2 with h1 | ⟨g9, cap, cur, e, h3, h4, h5⟩
          · exact .inl h1
          · exact .inr ⟨g9, cap, cur, e, by have := Hlo.out.2.1; omega, h4, h5⟩

end Go.Proofs.YtnkogppgacappaaDoor

namespace Go.Proofs.YtnkogppgacappaaDoor
open Go.RowKit

def tens : List Int := [1, 10, 100, 1000, 10000, 100000, 1000000, 10000000, 100000000]
theorem tens_at {m : Nat} (h : m ≤ 8) : (tens.map (Value.int .i64))[m]? = some (.int .i64 ((10 ^ m : Nat) : Int)) := by
  match m, h with
  | 0, _ => rfl
  | 1, _ => rfl
  | 2, _ => rfl
  | 3, _ => rfl
  | 4, _ => rfl
  | 5, _ => rfl
  | 6, _ => rfl
  | 7, _ => rfl
  | 8, _ => rfl
  | m + 9, h => omega

set_option maxRecDepth 100000 in
set_option maxHeartbeats 4000000 in
theorem refGuess_any {S : Nat → Prop} (a : Option Addr) (n c : Nat) (L : List Int) (w : World) (hs : SlAt S w 1 rInt (.slice a n c) L) (hn : L.length = n) (hn2 : n ≤ 1048576) (hx : ∀ x ∈ L, 0 ≤ x) :
    Calls Tryd.prog 8 #[.slice a n c] w fun e w' => ∃ v, e = .returned v ∧ OwnInts w.heap.size w' v (guessF L) ∧ Below w.heap.size w w' := by
  have Hs := hid hs
  have Hn := hid hn
  have Hx := hid hx
  clear hs hn hx
  obtain ⟨i0, hi, hz0, hz1, hz2⟩ := info_parts infoIntA
  go_enter Tryd.func8, Tryd.ntmps8
  go_wp2_with fail
  obtain ⟨W, hW⟩ : ∃ W, W = w.alloc (.cells (tens.map (Value.int .i64)).toArray 3) := ⟨_, rfl⟩
  have hW' : W = w.alloc (.cells #[.int .i64 1, .int .i64 10, .int .i64 100, .int .i64 1000, .int .i64 10000, .int .i64 100000, .int .i64 1000000, .int .i64 10000000, .int .i64 100000000] 3) := hW
  rw [← hW']
  obtain ⟨TB, hTB⟩ : ∃ TB, TB = w.heap.size := ⟨_, rfl⟩
  rw [← hTB]
  have hT : W.heap[TB]? = some (.cells (tens.map (Value.int .i64)).toArray 3 (0, 0)) := by rw [hW, hTB]; exact heap_alloc_new _ _
  have hb : Below w.heap.size w W := by rw [hW]; (repeat (first | exact Below.refl _ _ | refine Below.alloc ?_ (by first | omega | (simp <;> omega)) _ | refine Below.setCell ?_ (by first | omega | (simp <;> omega)) _ | refine below_drewN ?_ _ | refine Below.drew ?_))
  have HT := hid hT
  have Hb := hid hb
  have Hs1 := hid (Hs.out.later rInt_mono hb)
  have HTB := hid hTB
  clear hW hW' hT hb hTB
  go_loopw [4, 5] (fun s4 s5 wr => ∃ (j : Nat) (v : Value), v = s4 ∧ j ≤ n ∧ s5 = .int .i64 (j : Int) ∧ GrowI W wr v (guessF (L.take j))) (fun _ s5 _ => n - (intOf s5).toNat)
  case atStart => exact ⟨0, _, rfl, Nat.zero_le _, rfl, by simpa [guessF] using World.ownsRow_nil _ _ _ _, Below.refl _ _⟩
  case round =>
    obtain ⟨wo, hwo⟩ : ∃ wo : World, wo = wr := ⟨_, rfl⟩
    subst hwo
    obtain ⟨j, v, rfl, hj, rfl, hgr⟩ := hrel
    have Hgr := hid hgr
    by_cases hjn : j < n
    · have hjl : j < L.length := by rw [Hn.out]; exact hjn
      obtain ⟨x, hx⟩ : ∃ x, x = L[j] := ⟨_, rfl⟩
      have hxi := Hx.out L[j] (List.getElem_mem hjl)
      obtain ⟨xb, xo, hxa, e0⟩ := int_at (Hs1.out.later rInt_mono hgr.old) hjl
      subst hxa
      rw [← hx] at e0 hxi
      have Hstep : Hid (guessF (L.take (j + 1)) = guessF (L.take j) ++ [guess1 x]) := by show _ = _; rw [guessF_take _ _ hjl, ← hx]
      obtain ⟨m, hm⟩ := Int.eq_ofNat_of_zero_le (show 0 ≤ min x 8 by omega)
      have hm8 : m ≤ 8 := by omega
      have hm3 : max 0 (m : Int) = (m : Int) := by omega
      have hTw := (hgr.old.block TB (Array.getElem?_eq_some_iff.1 HT.out).1).trans HT.out
      have t0 : wo.cell? ⟨TB, m, none⟩ = some (.int .i64 ((10 ^ m : Nat) : Int)) := by rw [cell_row hTw, List.getElem?_toArray]; exact tens_at hm8
      obtain ⟨q, hq⟩ : ∃ q : Nat, q = 10 ^ m := ⟨_, rfl⟩
      rw [← hq] at t0
      have Hq : Hid (guess1 x = (q : Int)) := by show _ = _; unfold guess1; rw [hm, Int.toNat_natCast, hq]
      have zb : xb < wo.heap.size := cell_lt e0
      have zT : TB < wo.heap.size := cell_lt t0
      have Hown : Hid ((wo.alloc (.cells #[.int .i64 (q : Int)] 3)).ownsRow W.heap.size 3 1 v (guessF (L.take j)).length ((guessF (L.take j)).map (Value.int .i64))) := hgr.own.alloc _
      have hlj : (guessF (L.take j)).length ≤ n := by rw [guessF_len, List.length_take]; omega
      have hzo := hgr.old.size
      clear hgr hx hq hTw
      go_wp2_with (at_builtin; refine wpList_append_own_at _ rfl _ _ 26 rfl W.heap.size 3 i0 (.int .i64 0) 1 8 Tryd.underlying26 hi hz0 hz1 hz2 rfl (by decide) v _ _ rfl Hown.out ⟨wo.heap.size, 0, none⟩ 1 1 [.int .i64 (q : Int)] rfl rfl (cell_one_new _ _ _) ?_ ?_ ?_ ?_ ?_)
      · intro u hu; simp at hu; subst hu; rfl
      · unfold maxLen; omega
      · omega
      · simp; omega
      · intro v7 w7 hown7 hgrow hnil hat
        have hgr7 : GrowI W w7 v7 (guessF (L.take (j + 1))) := by
          refine ⟨?_, (Hgr.out.old.alloc hzo _).grown hgrow (by simp; omega) (fun kk hkk => (Hgr.out.own.lt kk hkk).1)⟩
          rw [Hstep.out, List.length_append, List.length_singleton, List.map_append, Hq.out]
          exact hown7
        have Hgr7 := hid hgr7
        clear hown7 hgrow hnil hat hgr7
        go_wp2_with fail
        go_roundw
        case rel => exact ⟨j + 1, v7, rfl, by omega, by go_num, Hgr7.out⟩
        case measure => simp [intOf]; omega
    · have hjn' : j = n := by omega
      have hown := hgr.own
      rw [hjn', ← Hn.out, List.take_length] at hown
      have hbw : Below w.heap.size w wo := Hb.out.trans (hgr.old.mono Hb.out.size)
      have hlo := Hb.out.size
      have Hown := hid hown
      have Hbw := hid hbw
      clear hgr hjn' hown hbw
      go_wp2_with fail
      go_ret
      refine ⟨v, rfl, ⟨⟨Hown.out.1, ?_⟩, fun x hx => by have := guessF_in L x hx; unfold I64; omega⟩, Hbw.out⟩
      rcases Hown.out.2 with h1 | ⟨g9, cap, cur, e, h3, h4, h5⟩
      · exact .inl h1
      · exact .inr ⟨g9, cap, cur, e, by omega, h4, h5⟩

end Go.Proofs.YtnkogppgacappaaDoor
