/- turneryref6.EverTells. EverTellsSays: the law's walk. -/
import Derived.Test.YtaehkcnankijfaaDoorPRefCo
import Derived.Test.YtaehkcnankijfaaDoorPRefOr
import Derived.Test.YtaehkcnankijfaaDoorPTellsG
import Derived.Test.YtaehkcnankijfaaDoorPFits
import Derived.BigRegion
import Derived.BigQuiet
namespace Go.Proofs.YtaehkcnankijfaaDoor
open Go.RowKit Go.Sort

/-- A world in which, of what was there, only two rows are turned. -/
structure TwoSt (w0 W : World) (KB NB : Nat) (t : List Told) : Prop where
  size : w0.heap.size ≤ W.heap.size
  keep : ∀ b, b < w0.heap.size → b ≠ KB → b ≠ NB → W.heap[b]? = w0.heap[b]?
  env : W.os = w0.os ∧ W.tape = w0.tape ∧ W.output = w0.output
  ne : KB ≠ NB
  kin : W.heap[KB]? = some (.cells (t.map fun p => Value.int .i64 p.1).toArray 3 (0, 0))
  nin : W.heap[NB]? = some (.cells (t.map fun p => Value.int .i64 p.2).toArray 3 (0, 0))
section
variable {w0 W W' : World} {KB NB : Nat} {t : List Told}
theorem TwoSt.cellOf (h : TwoSt w0 W KB NB t) {b o : Nat} {u : Value} (hc : w0.cell? ⟨b, o, none⟩ = some u) (h2 : b ≠ KB ∧ b ≠ NB) : W.cell? ⟨b, o, none⟩ = some u := by
  rw [World.cell?_of_block (w := w0) (a := ⟨b, o, none⟩) (h.keep b (cell_lt hc) h2.1 h2.2)]; exact hc
theorem TwoSt.at (h : TwoSt w0 W KB NB t) {i : Nat} (hi : i < t.length) : W.cell? ⟨KB, i, none⟩ = some (.int .i64 (t.getD i (0, 0)).1) ∧ W.cell? ⟨NB, i, none⟩ = some (.int .i64 (t.getD i (0, 0)).2) := by
  constructor
  · rw [cell_row h.kin, List.getElem?_toArray, List.getElem?_map, List.getD_eq_getElem?_getD, List.getElem?_eq_getElem hi]; rfl
  · rw [cell_row h.nin, List.getElem?_toArray, List.getElem?_map, List.getD_eq_getElem?_getD, List.getElem?_eq_getElem hi]; rfl
theorem TwoSt.fz (h : TwoSt w0 W KB NB t) (i : Nat) : W.frozen? ⟨KB, i, none⟩ = false ∧ W.frozen? ⟨NB, i, none⟩ = false := ⟨by simp [World.frozen?, h.kin], by simp [World.frozen?, h.nin]⟩
theorem TwoSt.lt (h : TwoSt w0 W KB NB t) : KB < W.heap.size ∧ NB < W.heap.size := ⟨(Array.getElem?_eq_some_iff.1 h.kin).1, (Array.getElem?_eq_some_iff.1 h.nin).1⟩
theorem TwoSt.set (h : TwoSt w0 W KB NB t) (i : Nat) (a b : Int) : TwoSt w0 ((W.setCell ⟨KB, i, none⟩ (.int .i64 a)).setCell ⟨NB, i, none⟩ (.int .i64 b)) KB NB (t.set i (a, b)) := by
  have hne := h.ne
  refine ⟨by simpa [World.setCell] using h.size, fun c h1 h2 h3 => ?_, h.env, h.ne, ?_, ?_⟩
  · rw [Below.heap_setCell _ _ _ _ (by dsimp only; exact h3), Below.heap_setCell _ _ _ _ (by dsimp only; exact h2)]; exact h.keep c h1 h2 h3
  · rw [Below.heap_setCell _ _ _ _ (by dsimp only; exact hne), heap_set_row h.kin, List.map_set]; simp
  · rw [heap_set_row (w := W.setCell ⟨KB, i, none⟩ (.int .i64 a)) (cur := (t.map fun p => Value.int .i64 p.2).toArray) (by rw [Below.heap_setCell _ _ _ _ (by dsimp only; exact hne.symm)]; exact h.nin), List.map_set]; simp
theorem TwoSt.later (h : TwoSt w0 W KB NB t) (hb : Below W.heap.size W W') : TwoSt w0 W' KB NB t :=
  ⟨Nat.le_trans h.size hb.size, fun b h1 h2 h3 => (hb.block b (Nat.lt_of_lt_of_le h1 h.size)).trans (h.keep b h1 h2 h3), ⟨hb.os.trans h.env.1, hb.tape.trans h.env.2.1, hb.output.trans h.env.2.2⟩, h.ne, (hb.block KB h.lt.1).trans h.kin, (hb.block NB h.lt.2).trans h.nin⟩
theorem TwoSt.below {w : World} (h : TwoSt w0 W KB NB t) (hb : Below w.heap.size w w0) (h1 : w.heap.size ≤ KB ∧ w.heap.size ≤ NB) : Below w.heap.size w W := by
  have hz := hb.size
  exact ⟨h.env.1.trans hb.os, h.env.2.1.trans hb.tape, h.env.2.2.trans hb.output, Nat.le_trans hz h.size, fun k hk => (h.keep k (by omega) (by omega) (by omega)).trans (hb.block k hk)⟩
theorem TwoSt.sl {α : Type} {r : Rp α} (hr : r.Mono) {S : Nat → Prop} {sz : Nat} {v : Value} {l : List α} (h : TwoSt w0 W KB NB t) (hS : ∀ b, S b → b ≠ KB ∧ b ≠ NB) (hs : SlAt S w0 sz r v l) : SlAt S W sz r v l :=
  hs.mono hr (fun _ h => h) (stays_at fun b hb hl => h.keep b hl (hS b hb).1 (hS b hb).2)
end
theorem checkF_many' {u : DUnit} (h : checkF u = (0, 0)) : ∀ (k : Nat) (f : DFunc), u.funcs[k]? = some f → manyOf f.blocks ≤ 1048576 ∧ f.blocks.length ≤ 1048576 := by
  intro k f hf
  obtain ⟨hh, -⟩ := checkF_at h hf
  obtain ⟨-, -, -, -, -, -, -, h40, hm⟩ := headE_ok hh
  exact ⟨by omega, by omega⟩
structure Kept (T : Prop) : Prop where out : T
theorem have_two {T G : Prop} (h : Kept T → G) (k : T) : G := h ⟨k⟩
theorem heap_two' (w : World) (a b : Obj) : ((w.alloc a).alloc b).heap[w.heap.size]? = some a ∧ ((w.alloc a).alloc b).heap[w.heap.size + 1]? = some b := by
  have hs : ∀ (v : World) (o : Obj), (v.alloc o).heap.size = v.heap.size + 1 := fun v o => by simp
  have s1 := hs w a
  have e1 := heap_alloc_new w a
  have e2 := heap_alloc_new (w.alloc a) b
  rw [s1] at e2
  exact ⟨by rw [Below.heap_alloc _ _ _ (by omega)]; exact e1, e2⟩
theorem seen_succ {f : DFunc} {kn : List Told} {m : Nat} (h : m < f.blocks.length) : (retsF f kn (m + 1)).foldl seenF ((0, 0), false) = if f.blocks[m].fin.kind = 1 then seenF ((retsF f kn m).foldl seenF ((0, 0), false)) (comesF f f.blocks[m].list kn f.blocks[m].list.length f.blocks[m].fin.on) else (retsF f kn m).foldl seenF ((0, 0), false) := by
  rw [retsF_succ h, List.foldl_append]
  by_cases hk : f.blocks[m].fin.kind = 1
  · rw [if_pos hk, if_pos hk]; rfl
  · rw [if_neg hk, if_neg hk]; rfl

set_option maxRecDepth 100000 in
set_option maxHeartbeats 4000000 in
theorem refTells_any {S : Nat → Prop} (ga : Option Addr) (gn gc : Nat) (fa : Option Addr) (fc n : Nat) (gs : List DGlobal) (fs : List DFunc) (w : World) (hf : SlAt S w 4 rFunc (.slice fa n fc) fs) (hS : ∀ b, S b → b < w.heap.size) (hn : fs.length = n) (hck : checkF ⟨gs, fs⟩ = (0, 0)) :
    Calls Tryd.prog 35 #[.agg #[.slice ga gn gc, .slice fa n fc]] w fun e w' => ∃ KB NB, e = .returned (.tuple #[.slice (some ⟨KB, 0, none⟩) n n, .slice (some ⟨NB, 0, none⟩) n n]) ∧ KB < w'.heap.size ∧ NB < w'.heap.size ∧
      (∀ i, i < n → w'.cell? ⟨KB, i, none⟩ = some (.int .i64 ((tellsF fs).getD i (0, 0)).1) ∧ w'.cell? ⟨NB, i, none⟩ = some (.int .i64 ((tellsF fs).getD i (0, 0)).2)) ∧ Below w.heap.size w w' := by
  have Hn := hid hn
  have HS := hid hS
  have Hck := hid hck
  have hn10 : n ≤ 10 := by have h := (checkF_ok (u := ⟨gs, fs⟩) (by rw [hck])).2.1; rw [← hn]; exact h
  have Ha : Hid (∀ k x, callB fs k x = true → x < n) := fun k x h => by rw [← hn]; exact callB_lt (u := ⟨gs, fs⟩) hck k x h
  have Hsm : Hid (∀ (k : Nat) (f : DFunc), fs[k]? = some f → manyOf f.blocks ≤ 1048576 ∧ f.blocks.length ≤ 1048576) := checkF_many' (u := ⟨gs, fs⟩) hck
  have Hsm2 : Hid (∀ k, k < n → (fs.getD k noFunc).blocks.length ≤ 1048576 ∧ ∀ b ∈ (fs.getD k noFunc).blocks, b.list.length ≤ 1048576) := fun k hk => by
    obtain ⟨h1, h2⟩ := Hsm.out k _ (getD_some (d := noFunc) (by rw [hn]; exact hk))
    exact ⟨h2, fun b hb => by have := manyOf_mem hb; omega⟩
  obtain ⟨W, hW⟩ : ∃ W, W = w.alloc (.cells #[.slice ga gn gc, .slice fa n fc] 25) := ⟨_, rfl⟩
  have hbW : Below w.heap.size w W := by rw [hW]; (repeat (first | exact Below.refl _ _ | refine Below.alloc ?_ (by first | omega | (simp <;> omega)) _ | refine Below.setCell ?_ (by first | omega | (simp <;> omega)) _ | refine below_drewN ?_ _ | refine Below.drew ?_))
  have u0 : W.cell? ⟨w.heap.size, 0, none⟩ = some (.slice ga gn gc) := by rw [hW]; simp
  have u1 : W.cell? ⟨w.heap.size, 1, none⟩ = some (.slice fa n fc) := by rw [hW]; simp
  have Hord := hid (fun (V : World) (hV : Below w.heap.size w V) => callsOrder_any (S := S) ga gn gc fa fc n fs V (hf.later rFunc_mono hV) (fun b hb => Nat.lt_of_lt_of_le (hS b hb) hV.size) hn (by omega) Ha.out Hsm2.out)
  have Hf := hid (hf.later rFunc_mono hbW)
  have HW := hid hW
  have HbW := hid hbW
  have zU0 : w.heap.size < W.heap.size := cell_lt u0
  have hmi := run_make_row' (P := Tryd.prog) 26 3 (.int .i64 0) 8 Tryd.underlying26 infoInt' rfl .i64 .i64 n (by omega) (by omega)
  clear hf hS hn hck hW hbW
  go_enter Tryd.func35, Tryd.ntmps35
  go_upto_region 1 with (fail)
  rw [← HW.out]
  obtain ⟨UB, hUB⟩ : ∃ UB, UB = w.heap.size := ⟨_, rfl⟩
  rw [← hUB] at u0 u1 zU0 ⊢
  have HUB := hid hUB
  clear hUB
  apply have_two
  · intro key
    go_region
    all_goals
      first
      | (show Exit.then _ _ _ (Act.mk (List.toArray (_ :: _ :: _ :: _ :: Value.slice (some ⟨W.heap.size, 0, none⟩) n n :: _)) _) _
         obtain ⟨KB, hKB⟩ : ∃ KB, KB = W.heap.size := ⟨_, rfl⟩
         obtain ⟨NB, hNB⟩ : ∃ NB, NB = W.heap.size + 1 := ⟨_, rfl⟩
         obtain ⟨W2, hW2⟩ : ∃ W2, W2 = ((W.alloc (.cells (madeCells #[.int .i64 0] n) 3)).alloc (.cells (madeCells #[.int .i64 0] n) 3)).drew := ⟨_, rfl⟩
         rw [← hW2, ← hNB, ← hKB])
      | (obtain ⟨KB, hKB⟩ : ∃ KB, KB = W.heap.size + 1 := ⟨_, rfl⟩
         obtain ⟨NB, hNB⟩ : ∃ NB, NB = W.heap.size := ⟨_, rfl⟩
         obtain ⟨W2, hW2⟩ : ∃ W2, W2 = ((W.alloc (.cells (madeCells #[.int .i64 0] n) 3)).alloc (.cells (madeCells #[.int .i64 0] n) 3)).drew := ⟨_, rfl⟩
         rw [← hW2, ← hKB, ← hNB])
    all_goals
      have hb2 : Below W.heap.size W W2 := by rw [hW2]; (repeat (first | exact Below.refl _ _ | refine Below.alloc ?_ (by first | omega | (simp <;> omega)) _ | refine Below.setCell ?_ (by first | omega | (simp <;> omega)) _ | refine below_drewN ?_ _ | refine Below.drew ?_))
      have hr1 : W2.heap[W.heap.size]? = some (.cells (madeCells #[.int .i64 0] n) 3 (0, 0)) := by rw [hW2]; exact (heap_two' _ _ _).1
      have hr2 : W2.heap[W.heap.size + 1]? = some (.cells (madeCells #[.int .i64 0] n) 3 (0, 0)) := by rw [hW2]; exact (heap_two' _ _ _).2
      have Hst0 : Hid (TwoSt W2 W2 KB NB (tellsSt fs (ordU fs) 0)) := by
        refine ⟨Nat.le_refl _, fun _ _ _ _ => rfl, ⟨rfl, rfl, rfl⟩, by omega, ?_, ?_⟩
        · rw [tellsSt, List.map_replicate, Hn.out, ← madeCells_rep, hKB]; first | exact hr1 | exact hr2
        · rw [tellsSt, List.map_replicate, Hn.out, ← madeCells_rep, hNB]; first | exact hr1 | exact hr2
      have HKz : Hid (UB < KB ∧ UB < NB ∧ w.heap.size ≤ KB ∧ w.heap.size ≤ NB ∧ KB < W2.heap.size ∧ NB < W2.heap.size) := by
        show _ ∧ _
        have h1 := (Array.getElem?_eq_some_iff.1 hr1).1
        have h2 := (Array.getElem?_eq_some_iff.1 hr2).1
        have := HUB.out
        omega
      clear hr1 hr2 hW2 hKB hNB
      revert KB NB W2
      exact key.out
  · intro KB NB W2 hb2 Hst0 HKz
    have Hb2 := hid hb2
    have Hw2 : Hid (Below w.heap.size w W2) := HbW.out.trans (hb2.mono HbW.out.size)
    have U0 := hid (cell_later' u0 hb2)
    have U1 := hid (cell_later' u1 hb2)
    have u0 := U0.out
    have u1 := U1.out
    have zU : UB < W2.heap.size := cell_lt u0
    clear hb2 zU0
    go_upto_region 3 with (go_at_call 69; (with_reducible refine (Hord.out W2 Hw2.out).mono ?_); rintro e w1 ⟨ov, rfl, hov, hb1⟩; have Hov := hid hov; have Hb1 := hid hb1; clear hov hb1)
    have Hord2 := hid (ordU_ok (u := ⟨gs, fs⟩) Hck.out)
    have hou : ordF (callB fs) (ringF (viaF (callB fs) n) n) n = ordU fs := by rw [← Hn.out]; rfl
    rw [hou] at Hov
    have hol : (ordU fs).length = n := by rw [← Hn.out]; exact Hord2.out.many
    obtain ⟨oa, oc, hovs⟩ := Hov.out.shape
    rw [hol] at hovs
    subst hovs
    have Hol := hid hol
    have Hrg : Hid (∀ x ∈ ordU fs, 0 ≤ x ∧ x < (n : Int)) := fun x hx => by rw [← Hn.out]; exact Hord2.out.range x hx
    have Hnd : Hid ((ordU fs).Nodup) := Hord2.out.nodup
    have Hst1 := hid (Hst0.out.later Hb1.out)
    have Hst2 : Hid (TwoSt w1 w1 KB NB (tellsSt fs (ordU fs) 0)) := ⟨Nat.le_refl _, fun _ _ _ _ => rfl, ⟨rfl, rfl, rfl⟩, Hst1.out.ne, Hst1.out.kin, Hst1.out.nin⟩
    have Hw1 : Hid (Below w.heap.size w w1) := Hw2.out.trans (Hb1.out.mono Hw2.out.size)
    have HW1 : Hid (Below W.heap.size W w1) := Hb2.out.trans (Hb1.out.mono Hb2.out.size)
    have Hosl : Hid (SlAt _ w1 1 rInt (.slice oa n oc) (ordU fs)) := Hov.out.sl
    have HSO : Hid (∀ b, iv W2.heap.size w1.heap.size b → b ≠ KB ∧ b ≠ NB) := fun b hb => by have := hb.1; have := HKz.out; omega
    have U0' := hid (cell_later' U0.out Hb1.out)
    have U1' := hid (cell_later' U1.out Hb1.out)
    have HSK : Hid (∀ b, S b → b ≠ KB ∧ b ≠ NB) := fun b hb => by have := HS.out b hb; have := HKz.out; omega
    have HS1 : Hid (∀ b, S b → b < w1.heap.size) := fun b hb => Nat.lt_of_lt_of_le (HS.out b hb) Hw1.out.size
    have Hf1 := hid (Hf.out.later rFunc_mono (HW1.out))
    have hUK : UB ≠ KB ∧ UB ≠ NB := by have := HKz.out; omega
    clear hou hol Hst0 Hst1 U0 U1 Hord2 Hov Ha u0 u1 zU hmi
    go_wp2_with fail
    go_loopw [7] (fun s7 wr => ∃ i : Nat, i ≤ n ∧ s7 = .int .i64 (i : Int) ∧ TwoSt w1 wr KB NB (tellsSt fs (ordU fs) i)) (fun s7 _ => n - (intOf s7).toNat)
    case atStart => exact ⟨0, Nat.zero_le _, rfl, Hst2.out⟩
    case round =>
      obtain ⟨i, hi, rfl, hst⟩ := hrel
      have Hst := hid hst
      have u0 := hst.cellOf U0'.out hUK
      have u1 := hst.cellOf U1'.out hUK
      have zU : UB < wr.heap.size := cell_lt u1
      by_cases hin : i < n
      · have hil : i < (ordU fs).length := by rw [Hol.out]; exact hin
        obtain ⟨ob, ooff, hoae, o0⟩ := int_at9 (hst.sl rInt_mono HSO.out Hosl.out) hil
        subst hoae
        have hrx := Hrg.out _ (List.getElem_mem hil)
        obtain ⟨kk, hkk⟩ := Int.eq_ofNat_of_zero_le hrx.1
        have hkn : kk < n := by omega
        have hkf : kk < fs.length := by rw [Hn.out]; exact hkn
        obtain ⟨hstep, hnone⟩ := tells_step fs Hnd.out (fun x hx => (Hrg.out x hx).1) hil hkk
        rw [hkk] at o0
        have hgd : fs.getD kk noFunc = fs[kk] := by rw [List.getD_eq_getElem?_getD, List.getElem?_eq_getElem hkf]; rfl
        rw [hgd] at hstep
        have Hstep := hid hstep
        obtain ⟨fb, foff, xa, xc, hfae, hcs, hxb, -, -⟩ := func_at (hst.sl rFunc_mono HSK.out Hf1.out) hkf
        subst hfae
        have hfg : fs[kk]? = some fs[kk] := List.getElem?_eq_getElem hkf
        have hsmk := Hsm.out kk _ hfg
        have Hmn : Hid (∀ x ∈ fs[kk].blocks, x.phis.length ≤ 1048576 ∧ x.list.length ≤ 1048576) := fun x hx => by have := manyOf_mem hx; omega
        have Hfit : Hid (∀ (b : Nat) (x : DBlock), fs[kk].blocks[b]? = some x → CallsFit x.list (tellsSt fs (ordU fs) i)) := fun b x hx => calls_fit (u := ⟨gs, fs⟩) Hck.out (ordU fs) i hfg hx
        obtain ⟨f, hfe⟩ : ∃ f, f = fs[kk] := ⟨_, rfl⟩
        rw [← hfe] at hcs hxb hsmk Hmn Hfit Hstep
        obtain ⟨kn, hkne⟩ : ∃ kn, kn = tellsSt fs (ordU fs) i := ⟨_, rfl⟩
        rw [← hkne] at Hst Hfit Hstep
        have Hknl : Hid (kn.length = n) := by show _ = _; rw [hkne, tellsSt_len, Hn.out]
        obtain ⟨c0, c1, c2, c3⟩ := hcs.get4
        obtain ⟨bn, hbn⟩ : ∃ bn, bn = f.blocks.length := ⟨_, rfl⟩
        have hbn1 : bn ≤ 1048576 := by rw [hbn]; exact hsmk.2
        rw [← hbn] at c3
        have Hbn := hid hbn
        have Hxb := hid hxb
        have zf : fb < wr.heap.size := cell_lt c3
        have zo : ob < wr.heap.size := cell_lt o0
        obtain ⟨pr, hpr⟩ : ∃ pr, pr = f.params := ⟨_, rfl⟩
        obtain ⟨rs, hrs⟩ : ∃ rs, rs = f.regs := ⟨_, rfl⟩
        obtain ⟨fnm, hfnm⟩ : ∃ fnm, fnm = f.name := ⟨_, rfl⟩
        have Hpr := hid hpr
        have Hrs := hid hrs
        rw [← hfnm] at c0
        rw [← hpr] at c1
        rw [← hrs] at c2
        have i0 : (0 : Int) ≤ (kk : Int) := by omega
        have i1 : (kk : Int) < (n : Int) := by omega
        have i2 : (0 : Int) ≤ (i : Int) := by omega
        have i3 : (i : Int) < (n : Int) := by omega
        clear hst hcs hxb hsmk hfe hkne hbn hstep hnone hkk hrx hgd hfg hpr hrs hfnm
        go_upto_region 6 with (fail)
        go_region
        obtain ⟨V1, hV1⟩ : ∃ V1, V1 = (wr.alloc (.cells #[.string fnm, .int .i64 pr, .int .i64 rs, .slice xa bn xc] 35)).drew := ⟨_, rfl⟩
        have hbV : Below wr.heap.size wr V1 := by rw [hV1]; (repeat (first | exact Below.refl _ _ | refine Below.alloc ?_ (by first | omega | (simp <;> omega)) _ | refine Below.setCell ?_ (by first | omega | (simp <;> omega)) _ | refine below_drewN ?_ _ | refine Below.drew ?_))
        have v0 : V1.cell? ⟨wr.heap.size, 0, none⟩ = some (.string fnm) := by rw [hV1]; simp
        have v1 : V1.cell? ⟨wr.heap.size, 1, none⟩ = some (.int .i64 pr) := by rw [hV1]; simp
        have v2 : V1.cell? ⟨wr.heap.size, 2, none⟩ = some (.int .i64 rs) := by rw [hV1]; simp
        have v3 : V1.cell? ⟨wr.heap.size, 3, none⟩ = some (.slice xa bn xc) := by rw [hV1]; simp
        obtain ⟨FB, hFB⟩ : ∃ FB, FB = wr.heap.size := ⟨_, rfl⟩
        rw [← hFB] at v0 v1 v2 v3
        have V0 := hid v0
        have V1' := hid v1
        have V2 := hid v2
        have V3 := hid v3
        have Hst1 := hid (Hst.out.later hbV)
        have Hxb1 := hid (Hxb.out.later rBlock_mono hbV)
        have HS2 : Hid (∀ b, S b → b < V1.heap.size) := fun b hb => Nat.lt_of_lt_of_le (HS1.out b hb) (Nat.le_trans Hst.out.size hbV.size)
        have O0 := hid (cell_later' o0 hbV)
        rw [← hFB, ← hV1]
        have HFB := hid hFB
        clear hV1 hbV v0 v1 v2 v3 c0 c1 c2 c3 o0 u0 u1 hFB zf zo zU
        go_wp2_with fail
        go_loopw [9, 10, 11, 12] (fun s9 s10 s11 s12 wi => ∃ (j : Nat) (t : Told × Bool), j ≤ bn ∧ t = (retsF f kn j).foldl seenF ((0, 0), false) ∧ s9 = .int .i64 t.1.1 ∧ s10 = .int .i64 t.1.2 ∧ s11 = .bool t.2 ∧ s12 = .int .i64 (j : Int) ∧ Below V1.heap.size V1 wi) (fun _ _ _ s12 _ => bn - (intOf s12).toNat)
        case atStart => exact ⟨0, _, Nat.zero_le _, rfl, rfl, rfl, rfl, rfl, Below.refl _ _⟩
        case round =>
          obtain ⟨j, t, hj, ht, rfl, rfl, rfl, rfl, hbi⟩ := hrel
          have Hbi := hid hbi
          have Ht := hid ht
          have hst := Hst1.out.later hbi
          have c0 := cell_later' V0.out hbi
          have c1 := cell_later' V1'.out hbi
          have c2 := cell_later' V2.out hbi
          have c3 := cell_later' V3.out hbi
          have zF : FB < wr.heap.size := cell_lt c0
          by_cases hjb : j < bn
          · have hjf : j < f.blocks.length := by rw [← Hbn.out]; exact hjb
            obtain ⟨xb, xoff, pa, pc, la, lc, ta, tc, hbae, hcb, -, -, -, -, -, -⟩ := block_at (Hxb1.out.later rBlock_mono hbi) hjf
            subst hbae
            obtain ⟨x, hx⟩ : ∃ x, x = f.blocks[j]'hjf := ⟨_, rfl⟩
            rw [← hx] at hcb
            have hxg : f.blocks[j]? = some x := by rw [hx]; exact List.getElem?_eq_getElem hjf
            have hsz := Hmn.out x (by rw [hx]; exact List.getElem_mem _)
            have hsucc := seen_succ (kn := kn) hjf
            rw [← hx, ← ht] at hsucc
            have hcm : ∀ V, Below wr.heap.size wr V → Calls Tryd.prog 70 #[.agg #[.string fnm, .int .i64 f.params, .int .i64 f.regs, .slice (some ⟨xb, xoff, none⟩) bn xc], .int .i64 (j : Int), .int .i64 (x.list.length : Int), .agg #[.bool x.fin.on.reg, .int .i64 x.fin.on.n], .slice (some ⟨KB, 0, none⟩) n n, .slice (some ⟨NB, 0, none⟩) n n] V fun e w' =>
                e = .returned (.tuple #[.int .i64 (comesF f x.list kn x.list.length x.fin.on).1, .int .i64 (comesF f x.list kn x.list.length x.fin.on).2]) ∧ Below V.heap.size V w' := fun V hV => by
              have hb1 : Below V1.heap.size V1 V := Hbi.out.trans (hV.mono Hbi.out.size)
              have hkt := Hst1.out.later hb1
              exact everComes_any (S := S) fnm f (some ⟨xb, xoff, none⟩) xc bn j x KB NB n kn Hbn.out.symm hbn1 hjb hxg hsz.2 Hmn.out (Hfit.out j x hxg) Hknl.out (by omega) _ V (by rw [Hbn.out]; exact Hxb1.out.later rBlock_mono hb1) (fun b hb => Nat.lt_of_lt_of_le (HS2.out b hb) hb1.size)
                (fun i hi => (hkt.at (by rw [Hknl.out]; exact hi)).1) (fun i hi => (hkt.at (by rw [Hknl.out]; exact hi)).2)
            rw [← Hpr.out, ← Hrs.out] at hcm
            obtain ⟨d0, d1, d2, d3, d4, d5⟩ := hcb.get6
            obtain ⟨kd, hkd⟩ : ∃ kd, kd = x.fin.kind := ⟨_, rfl⟩
            obtain ⟨ln, hln⟩ : ∃ ln, ln = x.list.length := ⟨_, rfl⟩
            obtain ⟨er, her⟩ : ∃ er, er = x.fin.on.reg := ⟨_, rfl⟩
            obtain ⟨en, hen⟩ : ∃ en, en = x.fin.on.n := ⟨_, rfl⟩
            obtain ⟨p1, hp1⟩ : ∃ p1, p1 = (comesF f x.list kn x.list.length x.fin.on).1 := ⟨_, rfl⟩
            obtain ⟨p2, hp2⟩ : ∃ p2, p2 = (comesF f x.list kn x.list.length x.fin.on).2 := ⟨_, rfl⟩
            have hpp : comesF f x.list kn x.list.length x.fin.on = (p1, p2) := by rw [hp1, hp2]
            rw [hpp, ← hkd] at hsucc
            rw [← hp1, ← hp2, ← hln, ← her, ← hen] at hcm
            rw [← hln] at d1
            rw [← hkd] at d2
            rw [← her] at d3
            rw [← hen] at d4
            have Hcm := hid hcm
            have Hsucc := hid hsucc
            have zx : xb < wr.heap.size := cell_lt d0
            obtain ⟨t1, t2, sn, hte⟩ : ∃ t1 t2 sn, t = ((t1, t2), sn) := ⟨t.1.1, t.1.2, t.2, rfl⟩
            subst hte
            dsimp only
            have i4 : (0 : Int) ≤ (j : Int) := by omega
            have i5 : (j : Int) < (bn : Int) := by omega
            clear hcm hsucc hpp hp1 hp2 hkd hln her hen hxg hx hsz hcb hst hbi ht
            by_cases hk : kd = 1
            · have q0 : (decide (kd < 1) || decide (1 < kd)) = false := ne_no hk
              have Hs1 : Hid ((retsF f kn (j + 1)).foldl seenF ((0, 0), false) = seenF ((t1, t2), sn) (p1, p2)) := by show _ = _; rw [Hsucc.out, if_pos hk]
              have HcW : Hid (∀ m d os, CallsIn Fence.wide m Tryd.prog 70 #[.agg #[.string fnm, .int .i64 pr, .int .i64 rs, .slice (some ⟨xb, xoff, none⟩) bn xc], .int .i64 (j : Int), .int .i64 (ln : Int), .agg #[.bool er, .int .i64 en], .slice (some ⟨KB, 0, none⟩) n n, .slice (some ⟨NB, 0, none⟩) n n] (grow (redrawn wr d) os) fun e w'' => e = .returned (.tuple #[.int .i64 p1, .int .i64 p2]) ∧ ∃ p : Regrown, w'' = grow (redrawn wr p.d) p.os) := fun m d os =>
                CallsIn.regrown_of (callsIn_wide (n := m).2 (Hcm.out _ (below_regrown wr d os)))
              clear hk
              go_upto_region 12 with (fail)
              have k0 := cell_regrown c0
              have k1 := cell_regrown c1
              have k2 := cell_regrown c2
              have k3 := cell_regrown c3
              have e1 := cell_regrown d1
              have e3 := cell_regrown d3
              have e4 := cell_regrown d4
              refine wp_region_quiet_open (by kernel_rfl) (by kernel_rfl) ?_
              repeat (gi_big_quiet_step (fail))
              refine wpQuietIn_step (fun _ _ _ _ => trivial) (fun K hK => ?_)
              go_simp
              refine ⟨_, fun _ => HcW.out _ _ _, hK _ ?_⟩
              clear hK K
              repeat (gi_big_quiet_step (fail))
              refine wpQuietIn_nil ?_
              intro W' hw'
              obtain ⟨rg, hrg⟩ := hw'
              have hbg : Below wr.heap.size wr W' := by rw [hrg]; exact below_regrown _ _ _
              have Hbg := hid (Hbi.out.trans (hbg.mono Hbi.out.size))
              clear hrg k0 k1 k2 k3 e1 e3 e4 hbg
              have fin : ∀ (r : Told × Bool), r = seenF ((t1, t2), sn) (p1, p2) → r = (retsF f kn (j + 1)).foldl seenF ((0, 0), false) := fun r h => by rw [Hs1.out, h]
              have Hfin := hid fin
              clear fin
              cases sn with
              | false =>
                go_wp2_with fail
                go_roundw
                case rel => exact ⟨j + 1, _, by omega, Hfin.out ((p1, p2), true) (by simp [seenF]), rfl, rfl, rfl, by go_num, Hbg.out⟩
                case measure => simp [intOf]; omega
              | true =>
                by_cases h0 : t1 = 0
                · have q3 : (decide (t1 < 0) || decide (0 < t1)) = false := ne_no h0
                  by_cases h1 : p1 = t1
                  · have q1 : (decide (p1 < t1) || decide (t1 < p1)) = false := ne_no h1
                    by_cases h2 : p2 = t2
                    · have q2 : (decide (p2 < t2) || decide (t2 < p2)) = false := ne_no h2
                      have hF := Hfin.out ((t1, t2), true) (by simp [seenF, h0])
                      have HF := hid hF
                      clear hF h0 h1 h2
                      go_wp2_with fail
                      go_roundw
                      case rel => exact ⟨j + 1, _, by omega, HF.out, rfl, rfl, rfl, by go_num, Hbg.out⟩
                      case measure => simp [intOf]; omega
                    · have q2 : (decide (p2 < t2) || decide (t2 < p2)) = true := ne_yes h2
                      have hF := Hfin.out ((t1, t2), true) (by simp [seenF, h0])
                      have HF := hid hF
                      clear hF h0 h1 h2
                      go_wp2_with fail
                      go_roundw
                      case rel => exact ⟨j + 1, _, by omega, HF.out, rfl, rfl, rfl, by go_num, Hbg.out⟩
                      case measure => simp [intOf]; omega
                  · have q1 : (decide (p1 < t1) || decide (t1 < p1)) = true := ne_yes h1
                    have hF := Hfin.out ((t1, t2), true) (by simp [seenF, h0])
                    have HF := hid hF
                    clear hF h0 h1
                    go_wp2_with fail
                    go_roundw
                    case rel => exact ⟨j + 1, _, by omega, HF.out, rfl, rfl, rfl, by go_num, Hbg.out⟩
                    case measure => simp [intOf]; omega
                · have q3 : (decide (t1 < 0) || decide (0 < t1)) = true := ne_yes h0
                  by_cases h1 : p1 = t1
                  · have q1 : (decide (p1 < t1) || decide (t1 < p1)) = false := ne_no h1
                    by_cases h2 : p2 = t2
                    · have q2 : (decide (p2 < t2) || decide (t2 < p2)) = false := ne_no h2
                      have hF := Hfin.out ((p1, p2), true) (by simp [seenF, h0, h1, h2])
                      have HF := hid hF
                      clear hF h0 h1 h2
                      go_wp2_with fail
                      go_roundw
                      case rel => exact ⟨j + 1, _, by omega, HF.out, rfl, rfl, rfl, by go_num, Hbg.out⟩
                      case measure => simp [intOf]; omega
                    · have q2 : (decide (p2 < t2) || decide (t2 < p2)) = true := ne_yes h2
                      have hF := Hfin.out ((0, 0), true) (by simp [seenF, h0, h1, h2])
                      have HF := hid hF
                      clear hF h0 h1 h2
                      go_wp2_with fail
                      go_roundw
                      case rel => exact ⟨j + 1, _, by omega, HF.out, rfl, rfl, rfl, by go_num, Hbg.out⟩
                      case measure => simp [intOf]; omega
                  · have q1 : (decide (p1 < t1) || decide (t1 < p1)) = true := ne_yes h1
                    have hF := Hfin.out ((0, 0), true) (by simp [seenF, h0, h1])
                    have HF := hid hF
                    clear hF h0 h1
                    go_wp2_with fail
                    go_roundw
                    case rel => exact ⟨j + 1, _, by omega, HF.out, rfl, rfl, rfl, by go_num, Hbg.out⟩
                    case measure => simp [intOf]; omega
            · have q0 : (decide (kd < 1) || decide (1 < kd)) = true := ne_yes hk
              have Hs1 : Hid ((retsF f kn (j + 1)).foldl seenF ((0, 0), false) = ((t1, t2), sn)) := by show _ = _; rw [Hsucc.out, if_neg hk]
              clear hk
              go_wp2_with fail
              go_roundw
              case rel => exact ⟨j + 1, _, by omega, Hs1.out.symm, rfl, rfl, rfl, by go_num, Hbi.out⟩
              case measure => simp [intOf]; omega
          · have hjn : j = bn := by omega
            have hte : t = (allSameF (retsF f kn bn), decide (retsF f kn bn ≠ [])) := by
              rw [ht, hjn]
              refine seen_one _ (fun t ht h => ?_)
              unfold retsF at ht
              obtain ⟨x, -, rfl⟩ := List.mem_map.1 ht
              exact comes_zero _ _ h
            have hstp : tellsSt fs (ordU fs) (i + 1) = kn.set kk (t.1.1, t.1.2) := by rw [Hstep.out, ← Hbn.out, hte]
            have Hstp := hid hstp
            have o0 := cell_later' O0.out hbi
            have zo : ob < wr.heap.size := cell_lt o0
            have Hsti := hid hst
            have fz := hst.fz kk
            have hkt := hst.at (i := kk) (by rw [Hknl.out]; exact hkn)
            have f0 := fz.1
            have f1 := fz.2
            have k0 := hkt.1
            have k1 := hkt.2
            have zK : KB < wr.heap.size := cell_lt k0
            have zN : NB < wr.heap.size := cell_lt k1
            obtain ⟨a1, ha1⟩ : ∃ a, a = t.1.1 := ⟨_, rfl⟩
            obtain ⟨a2, ha2⟩ : ∃ a, a = t.1.2 := ⟨_, rfl⟩
            rw [← ha1, ← ha2] at Hstp
            rw [← ha1, ← ha2]
            have hne := hst.ne
            clear ht hte hst hstp fz hkt hbi ha1 ha2
            go_upto_region 18 with (fail)
            go_region
            obtain ⟨V2, hV2⟩ : ∃ V2, V2 = ((wr.setCell ⟨KB, kk, none⟩ (.int .i64 a1)).setCell ⟨NB, kk, none⟩ (.int .i64 a2)).drew := ⟨_, rfl⟩
            have HF : Hid (TwoSt w1 V2 KB NB (tellsSt fs (ordU fs) (i + 1))) := by
              show TwoSt _ _ _ _ _
              rw [hV2, Hstp.out]
              exact (Hsti.out.set kk a1 a2).later (by (repeat (first | exact Below.refl _ _ | refine Below.alloc ?_ (by first | omega | (simp <;> omega)) _ | refine Below.setCell ?_ (by first | omega | (simp <;> omega)) _ | refine below_drewN ?_ _ | refine Below.drew ?_)))
            rw [← hV2]
            clear hV2
            go_wp2_with fail
            go_roundw
            case rel => exact ⟨i + 1, by omega, by go_num, HF.out⟩
            case measure => simp [intOf]; omega
      · have hie : i = n := by omega
        have HF : Hid (TwoSt w1 wr KB NB (tellsF fs)) := by
          have h := hst
          rw [hie] at h
          unfold tellsF
          rw [Hn.out]
          exact h
        clear hst Hst hie
        go_wp2_with fail
        go_ret2
        have h := HF.out
        refine ⟨KB, NB, rfl, h.lt.1, h.lt.2, fun i hi => h.at (by unfold tellsF; rw [tellsSt_len, Hn.out]; exact hi), h.below Hw1.out ⟨HKz.out.2.2.1, HKz.out.2.2.2.1⟩⟩

end Go.Proofs.YtaehkcnankijfaaDoor

namespace Go.Proofs.YtaehkcnankijfaaDoor
open Go.RowKit

set_option maxRecDepth 100000 in
set_option maxHeartbeats 4000000 in
theorem everTellsSays_any (w : World) (hw : Ways w) (ga : Option Addr) (gc : Nat) (fa : Option Addr) (fc : Nat) (gs : List DGlobal) (fs : List DFunc) (hg : SlAt (fun b => b < w.heap.size) w 3 rGlobal (.slice ga gs.length gc) gs) (hf : SlAt (fun b => b < w.heap.size) w 4 rFunc (.slice fa fs.length fc) fs)
    (hsm : Small gs fs) :
    Calls Tryd.prog 13 #[.agg #[.slice ga gs.length gc, .slice fa fs.length fc]] w fun e w' => e = .returned (.bool true) ∧ Below w.heap.size w w' := by
  have hgl := hsm.globals
  have hfl := hsm.funcs
  have Hsm := hid hsm.many
  have Hg := hid hg
  have Hf := hid hf
  have Hw := hid hw
  obtain ⟨c, hc⟩ : ∃ c, c = (checkF ⟨gs, fs⟩).1 := ⟨_, rfl⟩
  obtain ⟨d, hd⟩ : ∃ d, d = (checkF ⟨gs, fs⟩).2 := ⟨_, rfl⟩
  have Hcd : Hid (checkF ⟨gs, fs⟩ = (c, d)) := by show _ = _; rw [hc, hd]
  clear hg hf hw hsm hc hd
  go_enter Tryd.func13, Tryd.ntmps13
  obtain ⟨W, hW⟩ : ∃ W, W = (w.alloc (.cells #[.slice ga gs.length gc, .slice fa fs.length fc] 25)) := ⟨_, rfl⟩
  have hbW : Below w.heap.size w W := by rw [hW]; (repeat (first | exact Below.refl _ _ | refine Below.alloc ?_ (by first | omega | (simp <;> omega)) _ | refine Below.setCell ?_ (by first | omega | (simp <;> omega)) _ | refine below_drewN ?_ _ | refine Below.drew ?_))
  have W0 : Hid (W.cell? ⟨w.heap.size, 0, none⟩ = some (.slice ga gs.length gc)) := by show _ = _; rw [hW]; simp
  have W1 : Hid (W.cell? ⟨w.heap.size, 1, none⟩ = some (.slice fa fs.length fc)) := by show _ = _; rw [hW]; simp
  have hWs : W.heap.size = w.heap.size + 1 := by rw [hW]; simp
  have g0 := W0.out
  have g1 := W1.out
  by_cases hc0 : c = 0
  · subst hc0
    have hd0 : d = 0 := by
      have h := checkF_zero (u := ⟨gs, fs⟩) (by rw [Hcd.out])
      rw [Hcd.out] at h
      exact congrArg Prod.snd h
    subst hd0
    have hfl10 : fs.length ≤ 10 := (checkF_ok (u := ⟨gs, fs⟩) (by rw [Hcd.out])).2.1
    go_wp2_with fail
    rw [← hW]
    refine (tellsOk_any (S := fun b => b < w.heap.size) ga gc fa fc gs fs W (Hg.out.later rGlobal_mono hbW) (Hf.out.later rFunc_mono hbW) (Ways.below Hw.out hbW) (fun b hb => by omega) hgl hfl Hsm.out Hcd.out).mono ?_
    rintro e w1 ⟨LB, rfl, hLB, hrow, hb1⟩
    have Hrow := hid hrow
    have Hw1 : Hid (Below w.heap.size w w1) := hbW.trans (hb1.mono (by omega))
    have g0' := cell_later' g0 hb1
    have g1' := cell_later' g1 hb1
    have z1 : w.heap.size < w1.heap.size := cell_lt g0'
    have zL1 : LB < w1.heap.size := (Array.getElem?_eq_some_iff.1 hrow).1
    obtain ⟨UB, hUB⟩ : ∃ UB, UB = w.heap.size := ⟨_, rfl⟩
    rw [← hUB] at g0' g1' z1
    clear hb1 hrow hbW hW g0 g1 hWs
    rw [← hUB]
    clear hUB W0 W1
    try simp only []
    go_wp2_with fail
    obtain ⟨W2, hW2⟩ : ∃ W2, W2 = w1.alloc (.cells #[.int .i64 0, .int .i64 0] 28) := ⟨_, rfl⟩
    rw [← hW2]
    have hb2 : Below w1.heap.size w1 W2 := by rw [hW2]; (repeat (first | exact Below.refl _ _ | refine Below.alloc ?_ (by first | omega | (simp <;> omega)) _ | refine Below.setCell ?_ (by first | omega | (simp <;> omega)) _ | refine below_drewN ?_ _ | refine Below.drew ?_))
    have Hw2 : Hid (Below w.heap.size w W2) := Hw1.out.trans (hb2.mono Hw1.out.size)
    have q0 := cell_later' g0' hb2
    have q1 := cell_later' g1' hb2
    have q2 : W2.cell? ⟨w1.heap.size, 0, none⟩ = some (.int .i64 0) := by rw [hW2]; simp
    have q3 : W2.cell? ⟨w1.heap.size, 1, none⟩ = some (.int .i64 0) := by rw [hW2]; simp
    have Hrow2 := hid ((hb2.block LB zL1).trans Hrow.out)
    obtain ⟨F1, hF1⟩ : ∃ F1, F1 = w1.heap.size := ⟨_, rfl⟩
    rw [← hF1] at q2 q3 ⊢
    clear hW2 hb2 g0' g1' z1 hF1
    refine (check_any ga gc fa fc gs fs W2 (Hg.out.later rGlobal_mono Hw2.out) (Hf.out.later rFunc_mono Hw2.out) (Ways.below Hw.out Hw2.out) hgl hfl Hsm.out).mono ?_
    rintro e w3 ⟨rfl, hb3⟩
    rw [Hcd.out]
    try dsimp only
    have Hw3 : Hid (Below w.heap.size w w3) := Hw2.out.trans (hb3.mono Hw2.out.size)
    have r0 := cell_later' q0 hb3
    have r1 := cell_later' q1 hb3
    have r2 := cell_later' q2 hb3
    have r3 := cell_later' q3 hb3
    have Hrow3 := hid ((hb3.block LB (Array.getElem?_eq_some_iff.1 Hrow2.out).1).trans Hrow2.out)
    have z3 : UB < w3.heap.size := cell_lt r0
    have z4 : F1 < w3.heap.size := cell_lt r2
    clear hb3 q0 q1 q2 q3 zL1 Hrow Hrow2 Hw1
    try simp only []
    go_wp2_with fail
    obtain ⟨W4, hW4⟩ : ∃ W4, W4 = w3.alloc (.cells #[.int .i64 0, .int .i64 0] 28) := ⟨_, rfl⟩
    rw [← hW4]
    have hb4 : Below w3.heap.size w3 W4 := by rw [hW4]; (repeat (first | exact Below.refl _ _ | refine Below.alloc ?_ (by first | omega | (simp <;> omega)) _ | refine Below.setCell ?_ (by first | omega | (simp <;> omega)) _ | refine below_drewN ?_ _ | refine Below.drew ?_))
    have Hw4 : Hid (Below w.heap.size w W4) := Hw3.out.trans (hb4.mono Hw3.out.size)
    have r0 := cell_later' r0 hb4
    have r2 := cell_later' r2 hb4
    have r3 := cell_later' r3 hb4
    have Hrow4 := hid ((hb4.block LB (Array.getElem?_eq_some_iff.1 Hrow3.out).1).trans Hrow3.out)
    clear hW4 hb4 r1 z3 z4
    refine (refTells_any (S := fun b => b < w.heap.size) ga gs.length gc fa fc fs.length gs fs W4 (Hf.out.later rFunc_mono Hw4.out) (fun b hb => Nat.lt_of_lt_of_le hb Hw4.out.size) rfl Hcd.out).mono ?_
    rintro e w5 ⟨KB, NB, rfl, hKz, hNz, hcs, hb5⟩
    have Hcs := hid hcs
    have Hw5 : Hid (Below w.heap.size w w5) := Hw4.out.trans (hb5.mono Hw4.out.size)
    have r2 := cell_later' r2 hb5
    have r3 := cell_later' r3 hb5
    have Hrow5 := hid ((hb5.block LB (Array.getElem?_eq_some_iff.1 Hrow4.out).1).trans Hrow4.out)
    have zF : F1 < w5.heap.size := cell_lt r2
    obtain ⟨n, hn⟩ : ∃ n, n = fs.length := ⟨_, rfl⟩
    have Htl : Hid ((tellsF fs).length = n) := by show _ = _; unfold tellsF; rw [tellsSt_len, hn]
    rw [← hn] at Hcs hfl10 ⊢
    clear hcs hb5 r0 Hrow3 Hrow4 hfl Hg Hf Hsm Hcd hn
    try simp only []
    go_wp2_with fail
    go_loopw [8] (fun s8 wr => ∃ k : Nat, k ≤ n ∧ s8 = .int .i64 (k : Int) ∧ Below w5.heap.size w5 wr) (fun s8 _ => n - (intOf s8).toNat)
    case atStart => exact ⟨0, Nat.zero_le _, rfl, Below.refl _ _⟩
    case round =>
      obtain ⟨k, hk, rfl, hbk⟩ := hrel
      have Hbk := hid hbk
      by_cases hkn : k < n
      · obtain ⟨h0, h1⟩ := Hcs.out k hkn
        have hl := flatP_at (t := tellsF fs) (r := k) (by rw [Htl.out]; exact hkn)
        have hgd : (tellsF fs)[k]'(by rw [Htl.out]; exact hkn) = (tellsF fs).getD k (0, 0) := by rw [List.getD_eq_getElem?_getD, List.getElem?_eq_getElem (by rw [Htl.out]; exact hkn)]; rfl
        rw [hgd] at hl
        obtain ⟨p1, hp1⟩ : ∃ p, p = ((tellsF fs).getD k (0, 0)).1 := ⟨_, rfl⟩
        obtain ⟨p2, hp2⟩ : ∃ p, p = ((tellsF fs).getD k (0, 0)).2 := ⟨_, rfl⟩
        rw [← hp1, ← hp2] at hl
        rw [← hp1] at h0
        rw [← hp2] at h1
        have l0 : w5.cell? ⟨LB, k * 2, none⟩ = some (.int .i64 p1) := by rw [cell_row Hrow5.out, List.getElem?_toArray]; exact hl.1
        have l1 : w5.cell? ⟨LB, k * 2 + 1, none⟩ = some (.int .i64 p2) := by rw [cell_row Hrow5.out, List.getElem?_toArray]; exact hl.2
        have h0 := cell_later' h0 hbk
        have h1 := cell_later' h1 hbk
        have l0 := cell_later' l0 hbk
        have l1 := cell_later' l1 hbk
        have zK : KB < wr.heap.size := cell_lt h0
        have zN : NB < wr.heap.size := cell_lt h1
        have zL : LB < wr.heap.size := cell_lt l0
        have i0 : (0 : Int) ≤ (k : Int) := by omega
        have i1 : (k : Int) < (n : Int) := by omega
        clear hl hgd hp1 hp2 hbk
        go_wp2_with fail
        go_quiet (fail)
        go_wp2_with fail
        go_roundw
        case rel => exact ⟨k + 1, by omega, by go_num, by have h := Hbk.out; (repeat (first | exact Below.refl _ _ | exact (h).mono (by first | omega | (simp <;> omega) | (have hh := (h).size; (try simp at hh); omega) | (have hh := (h).size; (try simp at hh); (try simp); omega)) | refine Below.trans ?_ ((h).mono (by first | omega | (simp <;> omega) | (have hh := (h).size; (try simp at hh); omega) | (have hh := (h).size; (try simp at hh); (try simp); omega))) | refine Below.alloc ?_ (by first | omega | (simp <;> omega) | (have hh := (h).size; (try simp at hh); omega) | (have hh := (h).size; (try simp at hh); (try simp); omega)) _ | refine Below.setCell ?_ (by first | omega | (simp <;> omega) | (have hh := (h).size; (try simp at hh); omega) | (have hh := (h).size; (try simp at hh); (try simp); omega)) _ | refine below_drewN ?_ _ | refine Below.drew ?_))⟩
        case measure => simp [intOf]; omega
      · have hkn' : k = n := by omega
        rw [hkn']
        clear hkn hkn' hbk
        go_wp2_with fail
        go_ret
        exact ⟨rfl, Hw5.out.trans (Hbk.out.mono Hw5.out.size)⟩
  · have hq : (decide (c < 0) || decide (0 < c)) = true := by rw [Bool.eq_iff_iff]; simp; omega
    go_wp2_with fail
    rw [← hW]
    refine (tellsBad_any (S := fun b => b < w.heap.size) ga gc fa fc gs fs W (Hg.out.later rGlobal_mono hbW) (Hf.out.later rFunc_mono hbW) (Ways.below Hw.out hbW) hgl hfl Hsm.out c d Hcd.out hc0).mono ?_
    rintro e w1 ⟨rfl, hb1⟩
    have Hw1 : Hid (Below w.heap.size w w1) := hbW.trans (hb1.mono (by omega))
    have g0' := cell_later' g0 hb1
    have g1' := cell_later' g1 hb1
    have z1 : w.heap.size < w1.heap.size := cell_lt g0'
    obtain ⟨UB, hUB⟩ : ∃ UB, UB = w.heap.size := ⟨_, rfl⟩
    rw [← hUB] at g0' g1' z1
    clear hb1 hbW hW g0 g1 hWs
    rw [← hUB]
    clear hUB W0 W1
    try simp only []
    go_wp2_with fail
    obtain ⟨W2, hW2⟩ : ∃ W2, W2 = w1.alloc (.cells #[.int .i64 c, .int .i64 d] 28) := ⟨_, rfl⟩
    rw [← hW2]
    have hb2 : Below w1.heap.size w1 W2 := by rw [hW2]; (repeat (first | exact Below.refl _ _ | refine Below.alloc ?_ (by first | omega | (simp <;> omega)) _ | refine Below.setCell ?_ (by first | omega | (simp <;> omega)) _ | refine below_drewN ?_ _ | refine Below.drew ?_))
    have Hw2 : Hid (Below w.heap.size w W2) := Hw1.out.trans (hb2.mono Hw1.out.size)
    have q0 := cell_later' g0' hb2
    have q1 := cell_later' g1' hb2
    have q2 : W2.cell? ⟨w1.heap.size, 0, none⟩ = some (.int .i64 c) := by rw [hW2]; simp
    have q3 : W2.cell? ⟨w1.heap.size, 1, none⟩ = some (.int .i64 d) := by rw [hW2]; simp
    obtain ⟨F1, hF1⟩ : ∃ F1, F1 = w1.heap.size := ⟨_, rfl⟩
    rw [← hF1] at q2 q3 ⊢
    clear hW2 hb2 g0' g1' z1 hF1
    refine (check_any ga gc fa fc gs fs W2 (Hg.out.later rGlobal_mono Hw2.out) (Hf.out.later rFunc_mono Hw2.out) (Ways.below Hw.out Hw2.out) hgl hfl Hsm.out).mono ?_
    rintro e w3 ⟨rfl, hb3⟩
    rw [Hcd.out]
    try dsimp only
    have Hw3 : Hid (Below w.heap.size w w3) := Hw2.out.trans (hb3.mono Hw2.out.size)
    have r2 := cell_later' q2 hb3
    have r3 := cell_later' q3 hb3
    have z4 : F1 < w3.heap.size := cell_lt r2
    clear hb3 q0 q1 q2 q3 Hw1
    try simp only []
    go_wp2_with fail
    go_ret
    exact ⟨rfl, by have h := Hw3.out; (repeat (first | exact Below.refl _ _ | exact (h).mono (by first | omega | (simp <;> omega) | (have hh := (h).size; (try simp at hh); omega) | (have hh := (h).size; (try simp at hh); (try simp); omega)) | refine Below.trans ?_ ((h).mono (by first | omega | (simp <;> omega) | (have hh := (h).size; (try simp at hh); omega) | (have hh := (h).size; (try simp at hh); (try simp); omega))) | refine Below.alloc ?_ (by first | omega | (simp <;> omega) | (have hh := (h).size; (try simp at hh); omega) | (have hh := (h).size; (try simp at hh); (try simp); omega)) _ | refine Below.setCell ?_ (by first | omega | (simp <;> omega) | (have hh := (h).size; (try simp at hh); omega) | (have hh := (h).size; (try simp at hh); (try simp); omega)) _ | refine below_drewN ?_ _ | refine Below.drew ?_))⟩

end Go.Proofs.YtaehkcnankijfaaDoor
