/- loops.Deep: in how many loops each block of a function is. -/
import Derived.Test.YtnkogppgacappaaDoorPGFunc
import Derived.Test.YtnkogppgacappaaDoorPSsa0
namespace Go.Proofs.YtnkogppgacappaaDoor
open Go.RowKit

def DeepPost (u : DUnit) (k : Int) (w : World) (e : Ending) (w' : World) : Prop :=
  Below w.heap.size w w' ∧
  (∀ f, (funcF u k).1 = some f → ∃ g, e = .returned (.tuple #[.slice (some ⟨g, 0, none⟩) f.blocks.length f.blocks.length, .agg #[.int .i64 0, .int .i64 0]]) ∧ SlAt (fun b => w.heap.size ≤ b ∧ b < w'.heap.size) w' 1 rInt (.slice (some ⟨g, 0, none⟩) f.blocks.length f.blocks.length) (deepF f.blocks)) ∧
  ((funcF u k).1 = none → e = .returned (.tuple #[.slice none 0 0, .agg #[.int .i64 (funcF u k).2.1, .int .i64 (funcF u k).2.2]]))
theorem funcF_some {u : DUnit} {k : Int} {f : DFunc} (h : (funcF u k).1 = some f) : checkF u = (0, 0) ∧ 0 ≤ k ∧ u.funcs[k.toNat]? = some f ∧ funcF u k = (some f, 0, 0) := by
  unfold funcF at h ⊢
  by_cases h0 : (checkF u).1 ≠ 0
  · rw [if_pos h0] at h; cases h
  · rw [if_neg h0] at h ⊢
    have hc := checkF_zero (u := u) (Classical.not_not.1 h0)
    cases hf : fnOf u.funcs k with
    | none => rw [hf] at h; cases h
    | some x =>
      rw [hf] at h
      cases h
      unfold fnOf at hf
      by_cases hk : k < 0
      · rw [if_pos hk] at hf; cases hf
      · rw [if_neg hk] at hf; exact ⟨hc, by omega, hf, rfl⟩
theorem funcF_none {u : DUnit} {k : Int} (h : (funcF u k).1 = none) : ((funcF u k).2.1 ≠ 0) := by
  unfold funcF at h ⊢
  by_cases h0 : (checkF u).1 ≠ 0
  · rw [if_pos h0]; exact h0
  · rw [if_neg h0] at h ⊢
    cases hf : fnOf u.funcs k with
    | none => simp
    | some x => rw [hf] at h; cases h
/-- The row of counts. -/
def deepRow (bs : List DBlock) (n k j : Nat) : List Value := (List.range n).map fun b => Value.int .i64 (deepTo bs k j b : Int)
theorem deepRow_len (bs : List DBlock) (n k j : Nat) : (deepRow bs n k j).length = n := by simp [deepRow]
theorem deepRow_at (bs : List DBlock) (n k j : Nat) {b : Nat} (h : b < n) : (deepRow bs n k j)[b]? = some (.int .i64 (deepTo bs k j b : Int)) := by
  unfold deepRow; rw [List.getElem?_map, List.getElem?_range h]; rfl
theorem deepRow_zero (bs : List DBlock) (n : Nat) : deepRow bs n 0 0 = List.replicate n (.int .i64 0) := by
  unfold deepRow
  rw [show (fun b => Value.int .i64 ((deepTo bs 0 0 b : Nat) : Int)) = fun _ => Value.int .i64 0 from funext fun b => by simp [deepTo], List.map_const']
  simp
theorem deepRow_next {bs : List DBlock} {n k j : Nat} (h : k < (allF bs).length) (hj : j = (allF bs)[k].length) : deepRow bs n (k + 1) 0 = deepRow bs n k j := by
  unfold deepRow
  refine List.map_congr_left fun b _ => ?_
  rw [deepTo_next h, hj]
theorem deepRow_step {bs : List DBlock} {n k j q : Nat} (h : k < (allF bs).length) (hj : j < (allF bs)[k].length) (hq : (allF bs)[k][j] = (q : Int)) : (deepRow bs n k j).set q (.int .i64 ((deepTo bs k j q : Int) + 1)) = deepRow bs n k (j + 1) := by
  apply List.ext_getElem?
  intro i
  rw [List.getElem?_set, deepRow_len]
  by_cases hi : i < n
  · rw [deepRow_at bs n _ _ hi, deepRow_at bs n _ _ hi, deepTo_step h hj, hq]
    by_cases e : q = i
    · subst e; rw [if_pos rfl, if_pos hi, if_pos rfl]; rfl
    · rw [if_neg e, if_neg (by omega)]; rfl
  · rw [List.getElem?_eq_none (l := deepRow bs n k (j + 1)) (by rw [deepRow_len]; omega), List.getElem?_eq_none (l := deepRow bs n k j) (by rw [deepRow_len]; omega)]
    split
    · rw [if_neg (by omega)]
    · rfl
theorem deepRow_all {bs : List DBlock} {n : Nat} (hn : n = bs.length) : deepRow bs n n 0 = (deepF bs).map (Value.int .i64) := by
  subst hn
  unfold deepRow deepF
  rw [List.map_map]; rfl
theorem two_cells (w : World) (a b : Obj) : ((w.alloc a).alloc b).heap.size = w.heap.size + 2 ∧ ((w.alloc a).alloc b).heap[w.heap.size]? = some a ∧ ((w.alloc a).alloc b).heap[w.heap.size + 1]? = some b := by
  have hs : ∀ (v : World) (o : Obj), (v.alloc o).heap.size = v.heap.size + 1 := fun v o => by simp
  have s1 := hs w a
  have s2 := hs (w.alloc a) b
  have e1 := heap_alloc_new w a
  have e2 := heap_alloc_new (w.alloc a) b
  rw [s1] at e2
  exact ⟨by omega, by rw [Below.heap_alloc _ _ _ (by omega)]; exact e1, e2⟩
theorem res_slice5 {fn : Func} (hfn : fn.results = #[.tmp 4, .cell 5 28]) {tmps : Array Value} {b : Nat} {v : Value} (hv : tmps.getD 4 undef = v) (ht : tmps.getD 5 undef = .pointer (some ⟨b, 0, none⟩)) {c a : Int} {W : World}
    (h0 : W.cell? ⟨b, 0, none⟩ = some (.int .i64 c)) (h1 : W.cell? ⟨b, 1, none⟩ = some (.int .i64 a)) : (results fn tmps).run Tryd.prog W = .ok (.tuple #[v, .agg #[.int .i64 c, .int .i64 a]]) W := by
  simp only [Array.getD_eq_getD_getElem?] at ht hv
  simp [results, hfn, ht, hv, go_sem, h0, h1]

set_option maxRecDepth 100000 in
set_option maxHeartbeats 4000000 in
theorem deep_any {S : Nat → Prop} (ga : Option Addr) (gc : Nat) (fa : Option Addr) (fc : Nat) (gs : List DGlobal) (fs : List DFunc) (k : Int) (w : World) (hk : I64 k)
    (hg : SlAt S w 3 rGlobal (.slice ga gs.length gc) gs) (hf : SlAt S w 4 rFunc (.slice fa fs.length fc) fs) (hw : Ways w) (hS : ∀ b, S b → b < w.heap.size)
    (hgl : gs.length ≤ 1048576) (hfl : fs.length ≤ 1048576) (hsm : ∀ (k : Nat) (f : DFunc), fs[k]? = some f → manyOf f.blocks ≤ 1048576 ∧ f.blocks.length ≤ 1048576) :
    Calls Tryd.prog 6 #[.agg #[.slice ga gs.length gc, .slice fa fs.length fc], .int .i64 k] w fun e w' => DeepPost ⟨gs, fs⟩ k w e w' := by
  have HF : Hid (∀ V, Below w.heap.size w V → Calls Tryd.prog 15 #[.agg #[.slice ga gs.length gc, .slice fa fs.length fc], .int .i64 k] V fun e w' => FuncPost S ⟨gs, fs⟩ k V e w') := fun V hV =>
    func_any (S := S) ga gc fa fc gs fs k V hk (hg.later rGlobal_mono hV) (hf.later rFunc_mono hV) (Ways.below hw hV) hgl hfl hsm
  obtain ⟨hk1, hk2⟩ := hk
  have HS := hid hS
  clear hg hf hw hsm hS
  go_enter Tryd.func6, Tryd.ntmps6
  go_upto_region 1 with (fail)
  obtain ⟨W, hW⟩ : ∃ W, W = (w.alloc (.cells #[.slice ga gs.length gc, .slice fa fs.length fc] 25)).alloc (.cells #[.int .i64 0, .int .i64 0] 28) := ⟨_, rfl⟩
  obtain ⟨hWs, h0, h1⟩ := two_cells w (.cells #[.slice ga gs.length gc, .slice fa fs.length fc] 25) (.cells #[.int .i64 0, .int .i64 0] 28)
  rw [← hW] at hWs h0 h1 ⊢
  have hbW : Below w.heap.size w W := by rw [hW]; (repeat (first | exact Below.refl _ _ | refine Below.alloc ?_ (by first | omega | (simp <;> omega)) _ | refine Below.setCell ?_ (by first | omega | (simp <;> omega)) _ | refine below_drewN ?_ _ | refine Below.drew ?_))
  obtain ⟨UB, hUB⟩ : ∃ UB, UB = w.heap.size := ⟨_, rfl⟩
  obtain ⟨UX, hUX⟩ : ∃ UX, UX = w.heap.size + 1 := ⟨_, rfl⟩
  rw [← hUX] at h1 ⊢
  rw [← hUB] at h0 ⊢
  have HUs : Hid (UB = w.heap.size ∧ UX = w.heap.size + 1 ∧ W.heap.size = w.heap.size + 2) := ⟨hUB, hUX, hWs⟩
  have Hst : Hid (∀ V, Below W.heap.size W V → Below w.heap.size w V ∧ V.heap[UX]? = some (.cells #[.int .i64 0, .int .i64 0] 28 (0, 0))) :=
    fun V hV => ⟨hbW.trans (hV.mono hbW.size), (hV.block UX (by omega)).trans h1⟩
  have HbW := hid hbW
  obtain ⟨c0, c1⟩ := (cells_of (cs := [_, _]) h0).get2
  rw [Nat.zero_add] at c1
  have zB : UB < W.heap.size := by omega
  clear hW h0 h1 hbW hUB hUX hWs
  cases hfo : (funcF ⟨gs, fs⟩ k).1 with
  | none =>
    have Hfo := hid hfo
    obtain ⟨c, hc⟩ : ∃ c, c = (funcF ⟨gs, fs⟩ k).2.1 := ⟨_, rfl⟩
    obtain ⟨d, hd⟩ : ∃ d, d = (funcF ⟨gs, fs⟩ k).2.2 := ⟨_, rfl⟩
    have hc0 : c ≠ 0 := by rw [hc]; exact funcF_none hfo
    have hq : ((decide (c < 0) || decide (0 < c)) || (decide (d < 0) || decide (0 < d))) = true := by rw [Bool.eq_iff_iff]; simp; omega
    have Hpost : Hid (∀ e w', Below w.heap.size w w' → e = .returned (.tuple #[.slice none 0 0, .agg #[.int .i64 c, .int .i64 d]]) → DeepPost ⟨gs, fs⟩ k w e w') := fun e w' h1 h2 => by
      refine ⟨h1, fun f hf => ?_, fun _ => ?_⟩
      · rw [hfo] at hf; cases hf
      · rw [← hc, ← hd]; exact h2
    have HF1 : Hid (Calls Tryd.prog 15 #[.agg #[.slice ga gs.length gc, .slice fa fs.length fc], .int .i64 k] W fun e w' => e = .returned (.tuple #[zeroFn, .agg #[.int .i64 c, .int .i64 d]]) ∧ Below W.heap.size W w') :=
      (HF.out W HbW.out).mono fun e w' h => ⟨by rw [hc, hd]; exact h.2.2 hfo, h.1⟩
    unfold zeroFn at HF1
    clear hfo hc hd hc0
    go_upto_region 2 with (go_at_call 15; refine HF1.out.mono ?_; rintro e w1 ⟨rfl, hb1⟩; have Hb1 := hid hb1; clear hb1)
    obtain ⟨W2, hW2⟩ : ∃ W2, W2 = (w1.alloc (.cells #[.string ⟨#[]⟩, .int .i64 0, .int .i64 0, .slice none 0 0] 35)).alloc (.cells #[.int .i64 c, .int .i64 d] 28) := ⟨_, rfl⟩
    obtain ⟨h2s, -, h2⟩ := two_cells w1 (.cells #[.string ⟨#[]⟩, .int .i64 0, .int .i64 0, .slice none 0 0] 35) (.cells #[.int .i64 c, .int .i64 d] 28)
    rw [← hW2] at h2s h2 ⊢
    have hb2 : Below w1.heap.size w1 W2 := by rw [hW2]; (repeat (first | exact Below.refl _ _ | refine Below.alloc ?_ (by first | omega | (simp <;> omega)) _ | refine Below.setCell ?_ (by first | omega | (simp <;> omega)) _ | refine below_drewN ?_ _ | refine Below.drew ?_))
    obtain ⟨Hw2, s1⟩ := Hst.out W2 (Hb1.out.trans (hb2.mono Hb1.out.size))
    obtain ⟨XB, hXB⟩ : ∃ XB, XB = w1.heap.size + 1 := ⟨_, rfl⟩
    rw [← hXB] at h2 ⊢
    obtain ⟨x0, x1⟩ := (cells_of (cs := [_, _]) h2).get2
    obtain ⟨d0, d1⟩ := (cells_of (cs := [_, _]) s1).get2
    rw [Nat.zero_add] at x1 d1
    have g0 := thawed s1 0
    have g1 := thawed s1 1
    have zX : UX < W2.heap.size := cell_lt d0
    have zXB : XB < W2.heap.size := cell_lt x0
    have hn1 : ¬ UX = XB ∧ ¬ XB = UX := by have := HUs.out; have := Hb1.out.size; omega
    obtain ⟨hn1, hn2⟩ := hn1
    have Hw2 := hid Hw2
    have hlo : w.heap.size ≤ UX := by have := HUs.out; omega
    have Hlo := hid hlo
    clear hW2 h2s h2 hb2 hXB s1 hlo c0 c1 zB
    go_wp2_with fail
    go_region
    go_wp2_with fail
    have q := set_two (w := W2) (u := .int .i64 c) (v := .int .i64 d) d0 d1
    refine bodyPost_ret (res_slice5 rfl rfl rfl (c := c) (a := d) (W := _) ?_ ?_) rfl (Hpost.out _ _ ?_ rfl)
    · first | exact q.1 | skip
    · first | exact q.2 | skip
    · exact ((Hw2.out.setCell (p := ⟨UX, 0, none⟩) Hlo.out _).setCell (p := ⟨UX, 1, none⟩) Hlo.out _).drew
  | some f =>
    obtain ⟨hck, -, hfk, hfe⟩ := funcF_some hfo
    have hfn := fnOk (u := ⟨gs, fs⟩) hck hfk
    have hto := hfn.toOk
    have hn40 := hfn.len.2
    obtain ⟨bs, hbs⟩ : ∃ bs, bs = f.blocks := ⟨_, rfl⟩
    obtain ⟨n, hn⟩ : ∃ n, n = bs.length := ⟨_, rfl⟩
    obtain ⟨nm, hnm⟩ : ∃ nm, nm = f.name := ⟨_, rfl⟩
    obtain ⟨pr, hpr⟩ : ∃ pr, pr = f.params := ⟨_, rfl⟩
    obtain ⟨rg, hrg⟩ : ∃ rg, rg = f.regs := ⟨_, rfl⟩
    rw [← hbs] at hto hn40
    rw [← hn] at hn40
    have Hpost : Hid (∀ e w' g, Below w.heap.size w w' → e = .returned (.tuple #[.slice (some ⟨g, 0, none⟩) n n, .agg #[.int .i64 0, .int .i64 0]]) → SlAt (fun b => w.heap.size ≤ b ∧ b < w'.heap.size) w' 1 rInt (.slice (some ⟨g, 0, none⟩) n n) (deepF bs) → DeepPost ⟨gs, fs⟩ k w e w') := fun e w' g h1 h2 h3 => by
      refine ⟨h1, fun f' hf => ?_, fun hn => ?_⟩
      · rw [hfo] at hf
        cases hf
        rw [← hbs, ← hn]
        exact ⟨g, h2, h3⟩
      · rw [hfo] at hn; cases hn
    have HF1 : Hid (Calls Tryd.prog 15 #[.agg #[.slice ga gs.length gc, .slice fa fs.length fc], .int .i64 k] W fun e w' => ∃ xa xc, e = .returned (.tuple #[.agg #[.string nm, .int .i64 pr, .int .i64 rg, .slice xa n xc], .agg #[.int .i64 0, .int .i64 0]]) ∧ SlAt S W 6 rBlock (.slice xa n xc) bs ∧ Below W.heap.size W w') :=
      (HF.out W HbW.out).mono fun e w' h => by
        obtain ⟨xa, xc, e1, e2⟩ := h.2.1 f hfo
        rw [hn, hbs, hnm, hpr, hrg]
        exact ⟨xa, xc, e1, e2, h.1⟩
    have Hto := hid hto
    have Hn := hid hn
    clear hfo hck hfk hfe hfn hto hbs hn hnm hpr hrg
    go_upto_region 2 with (go_at_call 15; refine HF1.out.mono ?_; rintro e w1 ⟨xa, xc, rfl, hxb, hb1⟩; have Hb1 := hid hb1; have Hxb := hid hxb; clear hb1 hxb)
    obtain ⟨W2, hW2⟩ : ∃ W2, W2 = (w1.alloc (.cells #[.string nm, .int .i64 pr, .int .i64 rg, .slice xa n xc] 35)).alloc (.cells #[.int .i64 0, .int .i64 0] 28) := ⟨_, rfl⟩
    obtain ⟨h2s, h3, h2⟩ := two_cells w1 (.cells #[.string nm, .int .i64 pr, .int .i64 rg, .slice xa n xc] 35) (.cells #[.int .i64 0, .int .i64 0] 28)
    rw [← hW2] at h2s h3 h2 ⊢
    have hb2 : Below w1.heap.size w1 W2 := by rw [hW2]; (repeat (first | exact Below.refl _ _ | refine Below.alloc ?_ (by first | omega | (simp <;> omega)) _ | refine Below.setCell ?_ (by first | omega | (simp <;> omega)) _ | refine below_drewN ?_ _ | refine Below.drew ?_))
    have Hb2 : Hid (Below W.heap.size W W2) := Hb1.out.trans (hb2.mono Hb1.out.size)
    obtain ⟨XB, hXB⟩ : ∃ XB, XB = w1.heap.size + 1 := ⟨_, rfl⟩
    obtain ⟨FB, hFB⟩ : ∃ FB, FB = w1.heap.size := ⟨_, rfl⟩
    rw [← hXB] at h2 ⊢
    rw [← hFB] at h3 ⊢
    obtain ⟨x0, x1⟩ := (cells_of (cs := [_, _]) h2).get2
    obtain ⟨y0, y1, y2, y3⟩ := (cells_of (cs := [_, _, _, _]) h3).get4
    rw [Nat.zero_add] at x1 y1 y2 y3
    have X0 := hid x0
    have X1 := hid x1
    have zXB : XB < W2.heap.size := cell_lt x0
    have zFB : FB < W2.heap.size := cell_lt y0
    have hne : ¬ UX = XB ∧ ¬ XB = UX ∧ ¬ FB = UX := by have := HUs.out; have := Hb1.out.size; omega
    have Hne := hid hne
    have hxb2 := (Hxb.out.later rBlock_mono Hb2.out)
    have Hall := hid (fun (V : World) (hV : Below W2.heap.size W2 V) => allOf_any (S := S) nm pr rg xa n xc bs V (hxb2.later rBlock_mono hV) (fun b hb => by have := HS.out b hb; have := HbW.out.size; have := Hb2.out.size; have := hV.size; omega) Hn.out.symm (by omega) Hto.out)
    have hmk := run_make_row' (P := Tryd.prog) 26 3 (.int .i64 0) 8 Tryd.underlying26 infoIntR rfl .i64 .i64 n (by omega) (by omega)
    clear hW2 h2s h2 h3 hb2 hXB hFB c0 c1 zB hne hxb2
    go_wp2_with (go_at_call 16; refine (Hall.out _ ?_).mono ?_; ((repeat (first | exact Below.refl _ _ | refine Below.alloc ?_ (by first | omega | (simp <;> omega)) _ | refine Below.setCell ?_ (by first | omega | (simp <;> omega)) _ | refine below_drewN ?_ _ | refine Below.drew ?_))); rintro e V0 ⟨OB, rfl, hsl, hb5⟩; have Hsl := hid hsl; have Hb5 := hid hb5; clear hsl hb5)
    obtain ⟨DB, hDB⟩ : ∃ DB, DB = W2.heap.size := ⟨_, rfl⟩
    obtain ⟨W3, hW3⟩ : ∃ W3, W3 = W2.alloc (.cells (madeCells #[.int .i64 0] n) 3) := ⟨_, rfl⟩
    have hb3 : Below W2.heap.size W2 W3 := by rw [hW3]; (repeat (first | exact Below.refl _ _ | refine Below.alloc ?_ (by first | omega | (simp <;> omega)) _ | refine Below.setCell ?_ (by first | omega | (simp <;> omega)) _ | refine below_drewN ?_ _ | refine Below.drew ?_))
    have h3s : W3.heap.size = DB + 1 := by rw [hW3, hDB]; simp
    have hD3 : W3.heap[DB]? = some (.cells (madeCells #[.int .i64 0] n) 3 (0, 0)) := by rw [hW3, hDB]; exact heap_alloc_new _ _
    rw [← hW3] at Hsl Hb5
    rw [← hDB]
    have hD0 : V0.heap[DB]? = some (.cells (deepRow bs n 0 0).toArray 3 (0, 0)) := by
      rw [Hb5.out.block DB (by omega), hD3, deepRow_zero, madeCells_rep]
    have Hst0 : Hid (RowSt V0 V0 DB 3 (deepRow bs n 0 0)) := ⟨Nat.le_refl _, fun _ _ _ => rfl, ⟨rfl, rfl, rfl⟩, hD0⟩
    have Hb20 : Hid (Below W2.heap.size W2 V0) := hb3.trans (Hb5.out.mono hb3.size)
    have HSD : Hid (∀ b, W3.heap.size ≤ b ∧ b < V0.heap.size → b ≠ DB) := fun b hb => by have := hb.1; omega
    have HDW : Hid (W2.heap.size ≤ DB ∧ DB < V0.heap.size) := ⟨by omega, (Array.getElem?_eq_some_iff.1 hD0).1⟩
    have Hall2 : Hid ((allF bs).length = n) := by show _ = _; rw [allF_len, Hn.out]
    clear hDB hW3 hb3 h3s hD3 hD0 hmk Hall y0 y1 y2 y3 x0 x1 zXB zFB
    go_loopw [30] (fun s30 wr => ∃ k : Nat, k ≤ n ∧ s30 = .int .i64 (k : Int) ∧ RowSt V0 wr DB 3 (deepRow bs n k 0)) (fun s30 _ => n - (intOf s30).toNat)
    case atStart => exact ⟨0, Nat.zero_le _, rfl, Hst0.out⟩
    case round =>
      obtain ⟨wo, hwo⟩ : ∃ wo : World, wo = wr := ⟨_, rfl⟩
      subst hwo
      obtain ⟨kk, hkk, rfl, hst⟩ := hrel
      have Hst1 := hid hst
      by_cases hkn : kk < n
      · have hkl : kk < (allF bs).length := by rw [Hall2.out]; exact hkn
        obtain ⟨rb, roff, cs, hO, -, ⟨rv, rfl, hrow⟩, -, hcs⟩ := Hsl.out.get hkl
        cases hO
        have hrc := hcs.get1
        rw [Nat.mul_one, Nat.zero_add] at hrc
        have hLin : ∀ x ∈ (allF bs)[kk], 0 ≤ x ∧ x < (n : Int) := fun x hx => by
          rw [allF_at hkl] at hx
          have := (allN_ok Hto.out kk).have_ x hx
          rw [← Hn.out] at this
          exact this
        have Hnext : Hid (∀ j, j = ((allF bs)[kk]).length → deepRow bs n (kk + 1) 0 = deepRow bs n kk j) := fun j hj => deepRow_next hkl hj
        have Hstep0 : Hid (∀ (L : List Int), L = (allF bs)[kk] → ∀ (j q : Nat) (hj : j < L.length), L[j] = (q : Int) → (deepRow bs n kk j).set q (.int .i64 ((deepTo bs kk j q : Int) + 1)) = deepRow bs n kk (j + 1)) := fun L hL j q hj hq => by subst hL; exact deepRow_step hkl hj hq
        have Hle : Hid (∀ j q, deepTo bs kk j q ≤ n + 1) := fun j q => by have := deepTo_le Hto.out kk j q (by rw [← Hn.out]; omega); rw [← Hn.out] at this; exact this
        obtain ⟨L, hL⟩ : ∃ L, L = (allF bs)[kk] := ⟨_, rfl⟩
        rw [← hL] at hrow hLin Hnext
        have Hstep := hid (Hstep0.out L hL)
        clear Hstep0
        obtain ⟨pa, pc, rfl, hpl⟩ := hrow.val
        obtain ⟨ln, hln⟩ : ∃ ln, ln = L.length := ⟨_, rfl⟩
        have r0 := hst.cellOf hrc (by have := (Hsl.out.live (by decide) live_row).get hkl; obtain ⟨_, _, _, e, h5, -⟩ := this; cases e; exact HSD.out _ h5.1)
        rw [← hln] at hrow r0 hpl Hnext
        have Hrow := hid hrow
        have HLin := hid hLin
        have Hln := hid hln
        have zO : OB < wo.heap.size := cell_lt r0
        clear hst hcs hrc hLin hL hln hrow
        go_wp2_with fail
        clear r0
        go_loopw [36] (fun s36 wr => ∃ j : Nat, j ≤ ln ∧ s36 = .int .i64 (j : Int) ∧ RowSt V0 wr DB 3 (deepRow bs n kk j)) (fun s36 _ => ln - (intOf s36).toNat)
        case atStart => exact ⟨0, Nat.zero_le _, rfl, Hst1.out⟩
        case round =>
          obtain ⟨j, hj, rfl, hstj⟩ := hrel
          have Hstj := hid hstj
          by_cases hjl : j < ln
          · have hjL : j < L.length := by rw [← Hln.out]; exact hjl
            have hxi := HLin.out L[j] (List.getElem_mem hjL)
            obtain ⟨q, hq⟩ := Int.eq_ofNat_of_zero_le hxi.1
            have hqn : q < n := by omega
            obtain ⟨xb, xo, hxa, e0⟩ := int_at (hstj.sl rInt_mono HSD.out Hrow.out) hjL
            subst hxa
            rw [hq] at e0
            have d0 := hstj.at (deepRow_at bs n kk j hqn)
            have f0 := hstj.fz q
            have hset := hstj.set q (.int .i64 ((deepTo bs kk j q : Int) + 1))
            rw [Hstep.out j q hjL hq] at hset
            have hle := Hle.out j q
            obtain ⟨m, hm⟩ : ∃ m, m = deepTo bs kk j q := ⟨_, rfl⟩
            rw [← hm] at d0 hset hle
            have Hset := hid hset
            have zx : xb < wr.heap.size := cell_lt e0
            have zD : DB < wr.heap.size := cell_lt d0
            clear hstj hxi hq hset hm
            go_wp2_with fail
            go_roundw
            case rel => exact ⟨j + 1, by omega, by go_num, Hset.out⟩
            case measure => simp [intOf]; omega
          · have hjn : j = ln := by omega
            have Hs2 : Hid (RowSt V0 wr DB 3 (deepRow bs n (kk + 1) 0)) := by rw [Hnext.out j hjn]; exact hstj
            clear hstj hjn
            go_wp2_with fail
            go_roundw
            case rel => exact ⟨kk + 1, by omega, by go_num, Hs2.out⟩
            case measure => simp [intOf]; omega
      · have hkk' : kk = n := by omega
        subst hkk'
        obtain ⟨Hw3, s1⟩ := Hst.out V0 (Hb2.out.trans (Hb20.out.mono Hb2.out.size))
        have hw3 := hid Hw3
        have hUD : UX ≠ DB := by have := HDW.out.1; have := HUs.out; have := Hb2.out.size; omega
        have hXD : XB ≠ DB := by have h1 := cell_lt X0.out; have := HDW.out.1; omega
        have x0 := hst.cellOf (cell_later' X0.out Hb20.out) hXD
        have x1 := hst.cellOf (cell_later' X1.out Hb20.out) hXD
        obtain ⟨d0, d1⟩ := (cells_of (cs := [_, _]) s1).get2
        rw [Nat.zero_add] at d1
        have hsU : wo.heap[UX]? = some (.cells #[.int .i64 0, .int .i64 0] 28 (0, 0)) := (hst.keep UX (Array.getElem?_eq_some_iff.1 s1).1 hUD).trans s1
        obtain ⟨d0, d1⟩ := (cells_of (cs := [_, _]) hsU).get2
        rw [Nat.zero_add] at d1
        have g0 := thawed hsU 0
        have g1 := thawed hsU 1
        have zX : UX < wo.heap.size := cell_lt d0
        have zXB : XB < wo.heap.size := cell_lt x0
        have hlo : w.heap.size ≤ UX ∧ w.heap.size ≤ DB := by have := HUs.out; have := HDW.out.1; have := Hb2.out.size; omega
        have Hlo := hid hlo
        have Hbw : Hid (Below w.heap.size w wo) := hst.below hw3.out hlo.2
        have hrw := hst.row
        rw [deepRow_all Hn.out] at hrw
        have Hrw := hid hrw
        have HUD := hid hUD
        obtain ⟨hn1, hn2, -⟩ := Hne.out
        clear hst s1 hsU hrw hUD hXD hlo Hw3
        go_wp2_with fail
        go_region
        go_wp2_with fail
        have q := set_two (w := wo) (u := .int .i64 0) (v := .int .i64 0) d0 d1
        obtain ⟨W9, hW9⟩ : ∃ W9, W9 = ((wo.setCell ⟨UX, 0, none⟩ (.int .i64 0)).setCell ⟨UX, 1, none⟩ (.int .i64 0)).drew := ⟨_, rfl⟩
        have hrow9 : W9.heap[DB]? = some (.cells ((deepF bs).map (Value.int .i64)).toArray 3 (0, 0)) := by
          have h : ((wo.setCell ⟨UX, 0, none⟩ (.int .i64 0)).setCell ⟨UX, 1, none⟩ (.int .i64 0)).heap[DB]? = wo.heap[DB]? := by
            rw [Below.heap_setCell _ _ _ _ (by dsimp only; exact Ne.symm HUD.out), Below.heap_setCell _ _ _ _ (by dsimp only; exact Ne.symm HUD.out)]
          rw [hW9]
          exact h.trans Hrw.out
        have hb9 : Below w.heap.size w W9 := by
          rw [hW9]
          exact ((Hbw.out.setCell (p := ⟨UX, 0, none⟩) Hlo.out.1 _).setCell (p := ⟨UX, 1, none⟩) Hlo.out.1 _).drew
        have hc9 : W9.cell? ⟨UX, 0, none⟩ = some (.int .i64 0) ∧ W9.cell? ⟨UX, 1, none⟩ = some (.int .i64 0) := by rw [hW9]; exact q
        rw [← hW9]
        refine bodyPost_ret (res_slice5 rfl rfl rfl (c := 0) (a := 0) hc9.1 hc9.2) rfl (Hpost.out _ _ DB hb9 rfl ?_)
        have hown := (row_ints (base := w.heap.size) (n := kk) ((deepF_len bs).trans Hn.out.symm) (by omega) hrow9 Hlo.out.2 (fun x hx => by have := deepF_i64 Hto.out x hx; rw [← Hn.out] at this; unfold I64; omega)).sl
        exact hown

end Go.Proofs.YtnkogppgacappaaDoor
