/- bits.Of. -/
import Derived.Test.YtaehkcnankijfaaDoorPTabC
import Derived.Test.YtaehkcnankijfaaDoorPRowB
import Derived.Deep.RegionWith
namespace Go.Proofs.YtaehkcnankijfaaDoor
open Go.RowKit

theorem ssaF_zero {u : DUnit} (h : ssaF u = (0, 0)) : checkF u = (0, 0) ∧ ∀ (k : Nat) (f : DFunc), u.funcs[k]? = some f → ssaOf f = 0 := by
  unfold ssaF at h
  by_cases h1 : checkF u ≠ (0, 0)
  · rw [if_pos h1] at h; exact absurd h h1
  rw [if_neg h1] at h
  by_cases h2 : posF (ssaE u.funcs) u.funcs.length < u.funcs.length
  · rw [if_pos h2] at h
    exact absurd (congrArg Prod.fst h) (posF_ne h2)
  · refine ⟨Classical.not_not.1 h1, fun k f hf => ?_⟩
    have := posF_inv h2 k (List.getElem?_eq_some_iff.1 hf).1
    unfold ssaE at this
    rw [hf] at this
    exact this
theorem ssaF_code {u : DUnit} (h : (ssaF u).1 = 0) : ssaF u = (0, 0) := by
  unfold ssaF at h ⊢
  by_cases h1 : checkF u ≠ (0, 0)
  · rw [if_pos h1] at h
    exact absurd (checkF_zero h) h1
  rw [if_neg h1] at h ⊢
  by_cases h2 : posF (ssaE u.funcs) u.funcs.length < u.funcs.length
  · rw [if_pos h2] at h
    exact absurd h (posF_ne h2)
  · rw [if_neg h2]
/-- A unit that is in static single assignment. -/
theorem ssaF_fn {u : DUnit} (h : ssaF u = (0, 0)) {k : Nat} {f : DFunc} (hf : u.funcs[k]? = some f) : FnOk f ∧ ssaOf f = 0 :=
  ⟨fnOk (ssaF_zero h).1 hf, (ssaF_zero h).2 k f hf⟩

def rPair : Rp (Int × Int) := fun _ _ cs x => cs = [.int .i64 x.1, .int .i64 x.2]
theorem rPair_mono : rPair.Mono := ⟨fun _ _ _ _ _ _ _ _ h => h⟩
theorem infoPair : (Tryd.prog.info? 66).map (fun i => (i.zero, i.size, i.bytes)) = some (some (.agg #[.int .i64 0, .int .i64 0]), 2, 16) := by kernel_rfl
def pairK (k : Kn) : Int × Int := (bi k.off, bi k.on)
def fnAt (fs : List DFunc) (k : Int) : Option DFunc := if k < 0 then none else fs[k.toNat]?
/-- What bits.Of tells. -/
def bitsOfF (u : DUnit) (k : Int) : List (Int × Int) × Int × Int :=
  if ssaF u ≠ (0, 0) then ([], (ssaF u).1, (ssaF u).2)
  else match fnAt u.funcs k with
    | none => ([], 3, -1)
    | some f => ((tableF f).map pairK, 0, 0)
theorem res_of5 {fn : Func} (hfn : fn.results = #[.tmp 4, .cell 5 28]) {tmps : Array Value} {b : Nat} {v : Value} (hv : tmps.getD 4 undef = v) (ht : tmps.getD 5 undef = .pointer (some ⟨b, 0, none⟩)) {c a : Int} {W : World}
    (h0 : W.cell? ⟨b, 0, none⟩ = some (.int .i64 c)) (h1 : W.cell? ⟨b, 1, none⟩ = some (.int .i64 a)) : (results fn tmps).run Tryd.prog W = .ok (.tuple #[v, .agg #[.int .i64 c, .int .i64 a]]) W := by
  simp only [Array.getD_eq_getD_getElem?] at ht hv
  simp [results, hfn, ht, hv, go_sem, h0, h1]
theorem sl_none' {α : Type} {S : Nat → Prop} {W : World} {sz : Nat} {r : Rp α} : SlAt S W sz r (.slice none 0 0) ([] : List α) := ⟨none, 0, rfl, Nat.le_refl _, by omega, fun h => absurd rfl h⟩
theorem table_len {f : DFunc} (h : FnOk f) : (tableF f).length = f.regs.toNat := (table_ok h).1.1.trans (tb0_len f)
theorem fnAt_some {fs : List DFunc} {k : Int} {f : DFunc} (h : fnAt fs k = some f) : ∃ n : Nat, k = (n : Int) ∧ fs[n]? = some f := by
  unfold fnAt at h
  by_cases h0 : k < 0
  · rw [if_pos h0] at h; cases h
  · rw [if_neg h0] at h; exact ⟨k.toNat, by omega, h⟩
theorem fnAt_none {fs : List DFunc} {k : Int} (h : fnAt fs k = none) : k < 0 ∨ (fs.length : Int) ≤ k := by
  unfold fnAt at h
  by_cases h0 : k < 0
  · exact .inl h0
  · rw [if_neg h0] at h
    have := List.getElem?_eq_none_iff.1 h
    exact .inr (by omega)

set_option maxRecDepth 100000 in
set_option maxHeartbeats 4000000 in
theorem bitsOf_all {S : Nat → Prop} (ga : Option Addr) (gc : Nat) (fa : Option Addr) (fc : Nat) (gs : List DGlobal) (fs : List DFunc) (k : Int) (w : World) (hk : I64 k)
    (hg : SlAt S w 3 rGlobal (.slice ga gs.length gc) gs) (hf : SlAt S w 4 rFunc (.slice fa fs.length fc) fs) (hw : Ways w) (hB : Bruijn w) (hS : ∀ b, S b → b < w.heap.size)
    (hgl : gs.length ≤ 1048576) (hfl : fs.length ≤ 1048576) (hsm : ∀ (k : Nat) (f : DFunc), fs[k]? = some f → manyOf f.blocks ≤ 1048576 ∧ f.blocks.length ≤ 1048576) :
    Calls Tryd.prog 28 #[.agg #[.slice ga gs.length gc, .slice fa fs.length fc], .int .i64 k] w fun e w' =>
      ∃ L a c p q, bitsOfF ⟨gs, fs⟩ k = (L, p, q) ∧ e = .returned (.tuple #[.slice a L.length c, .agg #[.int .i64 p, .int .i64 q]]) ∧ SlAt (fun b => w.heap.size ≤ b) w' 2 rPair (.slice a L.length c) L ∧ Below w.heap.size w w' := by
  obtain ⟨hk1, hk2⟩ := hk
  have Hg := hid hg
  have Hf := hid hf
  have Hw := hid hw
  have HB := hid hB
  have Hsm := hid hsm
  have HS := hid hS
  clear hg hf hw hsm hS hB
  obtain ⟨ip, hip, hpz0, hpz1, hpz2⟩ := info_parts infoPair
  go_enter Tryd.func28, Tryd.ntmps28
  obtain ⟨W, hW⟩ : ∃ W, W = (w.alloc (.cells #[.slice ga gs.length gc, .slice fa fs.length fc] 25)).alloc (.cells #[.int .i64 0, .int .i64 0] 28) := ⟨_, rfl⟩
  have hbW : Below w.heap.size w W := by rw [hW]; (repeat (first | exact Below.refl _ _ | refine Below.alloc ?_ (by first | omega | (simp <;> omega)) _ | refine Below.setCell ?_ (by first | omega | (simp <;> omega)) _ | refine below_drewN ?_ _ | refine Below.drew ?_))
  have HbW := hid hbW
  have W0 : Hid (W.cell? ⟨w.heap.size, 0, none⟩ = some (.slice ga gs.length gc)) := by show _ = _; rw [hW]; simp
  have W1 : Hid (W.cell? ⟨w.heap.size, 1, none⟩ = some (.slice fa fs.length fc)) := by show _ = _; rw [hW]; simp
  have R0 : Hid (W.cell? ⟨w.heap.size + 1, 0, none⟩ = some (.int .i64 0)) := by show _ = _; rw [hW]; simp
  have R1 : Hid (W.cell? ⟨w.heap.size + 1, 1, none⟩ = some (.int .i64 0)) := by show _ = _; rw [hW]; simp
  have F0 : Hid (W.frozen? ⟨w.heap.size + 1, 0, none⟩ = false) := by show _ = _; rw [hW]; simp
  have F1 : Hid (W.frozen? ⟨w.heap.size + 1, 1, none⟩ = false) := by show _ = _; rw [hW]; simp
  have hWs : W.heap.size = w.heap.size + 2 := by rw [hW]; simp
  go_wp2_with fail
  rw [← hW]
  have hwW : Ways W := Ways.below Hw.out hbW
  refine (ssaCheck_any (S := S) ga gc fa fc gs fs W (Hg.out.later rGlobal_mono hbW) (Hf.out.later rFunc_mono hbW) hwW (fun b hb => by have := HS.out b hb; omega) hgl hfl Hsm.out).mono ?_
  rintro e w1 ⟨rfl, hb1⟩
  have g0 := cell_later' W0.out hb1
  have g1 := cell_later' W1.out hb1
  have g2 := cell_later' R0.out hb1
  have g3 := cell_later' R1.out hb1
  have k2 := (hb1.frozen (p := ⟨w.heap.size + 1, 0, none⟩) (by simp; omega)).trans F0.out
  have k3 := (hb1.frozen (p := ⟨w.heap.size + 1, 1, none⟩) (by simp; omega)).trans F1.out
  have z1 : w.heap.size + 1 < w1.heap.size := cell_lt g2
  have z0 : w.heap.size < w1.heap.size := cell_lt g0
  obtain ⟨c, hc⟩ : ∃ c, c = (ssaF ⟨gs, fs⟩).1 := ⟨_, rfl⟩
  obtain ⟨d, hd⟩ : ∃ d, d = (ssaF ⟨gs, fs⟩).2 := ⟨_, rfl⟩
  have Hcd : Hid (ssaF ⟨gs, fs⟩ = (c, d)) := by show _ = _; rw [hc, hd]
  rw [← hc, ← hd]
  have Hw1 : Hid (Below w.heap.size w w1) := HbW.out.trans (hb1.mono (by omega))
  clear hb1 hW hbW hc hd hwW W0 W1 R0 R1 F0 F1 hWs
  by_cases hok : c = 0 ∧ d = 0
  · obtain ⟨rfl, rfl⟩ := hok
    cases hfk : fnAt fs k with
    | none =>
      have Hr : Hid (bitsOfF ⟨gs, fs⟩ k = ([], 3, -1)) := by
        show _ = _
        unfold bitsOfF
        rw [Hcd.out, if_neg (by simp)]
        dsimp only
        rw [hfk]
      have hbad := fnAt_none hfk
      clear hfk
      by_cases hk0 : k < 0
      all_goals
        go_wp2_with fail
        have q := set_two (w := w1) (u := .int .i64 3) (v := .int .i64 (-1)) g2 g3
        obtain ⟨V, hV⟩ : ∃ V, V = (w1.setCell ⟨w.heap.size + 1, 0, none⟩ (.int .i64 3)).setCell ⟨w.heap.size + 1, 1, none⟩ (.int .i64 (-1)) := ⟨_, rfl⟩
        have hbV : Below w.heap.size w V := by
          rw [hV]
          exact (Hw1.out.setCell (p := ⟨w.heap.size + 1, 0, none⟩) (by dsimp only; omega) _).setCell (p := ⟨w.heap.size + 1, 1, none⟩) (by dsimp only; omega) _
        rw [← hV] at q ⊢
        have hb2 : Below V.heap.size V (V.alloc (.cells #[.int .i64 0, .int .i64 0] 28)) := by (repeat (first | exact Below.refl _ _ | refine Below.alloc ?_ (by first | omega | (simp <;> omega)) _ | refine Below.setCell ?_ (by first | omega | (simp <;> omega)) _ | refine below_drewN ?_ _ | refine Below.drew ?_))
        refine bodyPost_ret (res_of5 rfl rfl rfl (c := 3) (a := -1) (cell_later' q.1 hb2) (cell_later' q.2 hb2)) rfl ⟨_, _, _, _, _, Hr.out, rfl, sl_none', hbV.trans (hb2.mono hbV.size)⟩
    | some x =>
      obtain ⟨kn, rfl, hkf⟩ := fnAt_some hfk
      have Hr : Hid (bitsOfF ⟨gs, fs⟩ (kn : Int) = ((tableF x).map pairK, 0, 0)) := by
        show _ = _
        unfold bitsOfF
        rw [Hcd.out, if_neg (by simp)]
        dsimp only
        rw [hfk]
      have hkl : kn < fs.length := (List.getElem?_eq_some_iff.1 hkf).1
      have hfn := ssaF_fn Hcd.out hkf
      obtain ⟨fb, foff, xa, xc, rfl, hcs, hxb, -, -⟩ := func_at (Hf.out.later rFunc_mono Hw1.out) hkl
      obtain ⟨c0, c1, c2, c3⟩ := hcs.get4
      have zf : fb < w1.heap.size := cell_lt c0
      have hxe : fs[kn] = x := (List.getElem?_eq_some_iff.1 hkf).2
      rw [hxe] at c0 c1 c2 c3 hxb
      have Hfn := hid hfn
      have Hxb := hid hxb
      obtain ⟨L, hL⟩ : ∃ L, L = (tableF x).map pairK := ⟨_, rfl⟩
      rw [← hL] at Hr
      obtain ⟨n, hn⟩ : ∃ n, n = x.regs.toNat := ⟨_, rfl⟩
      have HLl : Hid (L.length = n) := by show _ = _; rw [hL, List.length_map, table_len hfn.1, hn]
      have hn2 : n ≤ 100 := by have := hfn.1.pr; omega
      have Hn := hid hn
      have HL := hid hL
      clear hfk hkf hfn hcs hxb hxe hL hn
      go_wp2_with fail
      clear c0 c1 c2 c3
      obtain ⟨W2, hW2⟩ : ∃ W2, W2 = w1.alloc (.cells #[.int .i64 0, .int .i64 0] 28) := ⟨_, rfl⟩
      rw [← hW2]
      have hb2 : Below w1.heap.size w1 W2 := by rw [hW2]; (repeat (first | exact Below.refl _ _ | refine Below.alloc ?_ (by first | omega | (simp <;> omega)) _ | refine Below.setCell ?_ (by first | omega | (simp <;> omega)) _ | refine below_drewN ?_ _ | refine Below.drew ?_))
      have Hw2 : Hid (Below w.heap.size w W2) := Hw1.out.trans (hb2.mono Hw1.out.size)
      refine (table_any (S := S) x.name xa xc x W2 (HB.out.below Hw2.out) Hfn.out.1 (Hxb.out.later rBlock_mono hb2) (fun b hb => by have := HS.out b hb; have := Hw2.out.size; omega)).mono ?_
      rintro e w3 ⟨RB, rfl, hRB, hrow, hb3⟩
      rw [← Hn.out]
      have hb13 := hb2.trans (hb3.mono hb2.size)
      have E2 := hid (cell_later' g2 hb13)
      have E3 := hid (cell_later' g3 hb13)
      have F2 := hid ((hb13.frozen (p := ⟨w.heap.size + 1, 0, none⟩) z1).trans k2)
      have F3 := hid ((hb13.frozen (p := ⟨w.heap.size + 1, 1, none⟩) z1).trans k3)
      have Hw3 : Hid (Below w.heap.size w w3) := Hw1.out.trans (hb13.mono Hw1.out.size)
      have Hrow := hid hrow
      have z3 : w.heap.size + 1 < w3.heap.size := cell_lt E2.out
      have htl : (tableF x).length = n := by rw [table_len Hfn.out.1, Hn.out]
      have Htl := hid htl
      clear hW2 hb2 hb3 hb13 hrow g0 g1 g2 g3 k2 k3 htl
      go_wp2_with fail
      go_loopw [7, 33] (fun v7 s33 wr => ∃ (j : Nat) (v : Value), v = v7 ∧ j ≤ n ∧ s33 = .int .i64 j ∧ Build w3 wr 66 2 rPair v (L.take j)) (fun _ s33 _ => n - (intOf s33).toNat)
      case atStart => exact ⟨0, _, rfl, Nat.zero_le _, rfl, Build.start w3 66 2 rPair⟩
      case round =>
        obtain ⟨j, v, rfl, hj, rfl, hbd⟩ := hrel
        have Hbd := hid hbd
        have hrw : wr.heap[RB]? = some (.cells (rowK (tableF x)) 109 (0, 0)) := (hbd.old.block RB (Array.getElem?_eq_some_iff.1 Hrow.out).1).trans Hrow.out
        by_cases hjl : j < n
        · have c0 : wr.cell? ⟨RB, j * 2, none⟩ = some (.int .i64 (bi (tbAt (tableF x) j).off)) := by rw [cell_row hrw]; exact (rowK_at (by rw [Htl.out]; exact hjl)).1
          have c1 : wr.cell? ⟨RB, j * 2 + 1, none⟩ = some (.int .i64 (bi (tbAt (tableF x) j).on)) := by rw [cell_row hrw]; exact (rowK_at (by rw [Htl.out]; exact hjl)).2
          obtain ⟨m, hm⟩ : ∃ m, m = tbAt (tableF x) j := ⟨_, rfl⟩
          rw [← hm] at c0 c1
          have hLj : L[j]? = some (pairK m) := by
            rw [HL.out, List.getElem?_map, List.getElem?_eq_getElem (by rw [Htl.out]; exact hjl), hm, tbAt_lt (by rw [Htl.out]; exact hjl)]; rfl
          have Hst : Hid (L.take (j + 1) = L.take j ++ [pairK m]) := by
            show _ = _
            rw [List.take_add_one, hLj]; rfl
          have zR : RB < wr.heap.size := cell_lt c0
          have z4 := hbd.old.size
          clear hbd hrw hm hLj
          go_wp2_with (at_builtin; refine wpList_append_Own rfl _ _ 60 rfl w3.heap.size 66 ip _ 2 16 Tryd.underlying60 hip hpz0 hpz1 hpz2 rfl (by decide) rPair_mono v (L.take j) rfl ?_ ⟨wr.heap.size + 1, 0, none⟩ 1 [.int .i64 (bi m.off), .int .i64 (bi m.on)] (pairK m) rfl rfl ?_ ?_ ?_ ?_ (by decide) ?_ ?_)
          · exact Hbd.out.own.later rPair_mono (by (repeat (first | exact Below.refl _ _ | refine Below.alloc ?_ (by first | omega | (simp <;> omega)) _ | refine Below.setCell ?_ (by first | omega | (simp <;> omega)) _ | refine below_drewN ?_ _ | refine Below.drew ?_)))
          · exact new_cells _ _ _ (by simp)
          · intro u hu; simp at hu; rcases hu with rfl | rfl <;> rfl
          · rfl
          · rw [List.length_take]; omega
          · simp; omega
          · intro v2 w4 hown hgrow g2 cap2 hv2
            have hb4 : Below w3.heap.size w3 w4 := by
              refine Below.grown ?_ hgrow (by simp; omega) (fun g hg => (Hbd.out.own.lt g hg).1)
              have h := Hbd.out.old
              (repeat (first | exact Below.refl _ _ | exact (h).mono (by first | omega | (simp <;> omega) | (have hh := (h).size; (try simp at hh); omega) | (have hh := (h).size; (try simp at hh); (try simp); omega)) | refine Below.trans ?_ ((h).mono (by first | omega | (simp <;> omega) | (have hh := (h).size; (try simp at hh); omega) | (have hh := (h).size; (try simp at hh); (try simp); omega))) | refine Below.alloc ?_ (by first | omega | (simp <;> omega) | (have hh := (h).size; (try simp at hh); omega) | (have hh := (h).size; (try simp at hh); (try simp); omega)) _ | refine Below.setCell ?_ (by first | omega | (simp <;> omega) | (have hh := (h).size; (try simp at hh); omega) | (have hh := (h).size; (try simp at hh); (try simp); omega)) _ | refine below_drewN ?_ _ | refine Below.drew ?_))
            have Hbd4 : Hid (Build w3 w4 66 2 rPair v2 (L.take (j + 1))) := ⟨by rw [Hst.out]; exact hown, hb4⟩
            clear hown hgrow hb4 hv2
            go_wp2_with fail
            go_roundw
            case rel => exact ⟨j + 1, v2, rfl, by omega, by go_num, Hbd4.out⟩
            case measure => simp [intOf]; omega
        · have hjn : j = n := by omega
          have hsl := hbd.own.toSl rPair_mono (by decide)
          rw [hjn, ← HLl.out, List.take_length] at hsl
          obtain ⟨a, ac, hv, -⟩ := hsl.val
          subst hv
          have Hsl := hid hsl
          have e2 := cell_later' E2.out hbd.old
          have e3 := cell_later' E3.out hbd.old
          have f2 := (hbd.old.frozen (p := ⟨w.heap.size + 1, 0, none⟩) z3).trans F2.out
          have f3 := (hbd.old.frozen (p := ⟨w.heap.size + 1, 1, none⟩) z3).trans F3.out
          have Hw4 : Hid (Below w.heap.size w wr) := Hw3.out.trans (hbd.old.mono Hw3.out.size)
          have z4 : w.heap.size + 1 < wr.heap.size := cell_lt e2
          have hz3 := Hw3.out.size
          clear hsl hbd hjn hrw Hbd
          go_wp2_with fail
          have q := set_two (w := wr) (u := .int .i64 0) (v := .int .i64 0) e2 e3
          refine bodyPost_ret (res_of5 rfl rfl rfl (c := 0) (a := 0) q.1 q.2) rfl ⟨L, a, ac, 0, 0, Hr.out, rfl, ?_, ?_⟩
          · refine Hsl.out.mono rPair_mono (fun b hb => by have := hb.1; show w.heap.size ≤ b; omega) ((stays_set _ ?_).trans (stays_set _ ?_))
            · intro b hb; have := hb.1; dsimp only; omega
            · intro b hb; have := hb.1; dsimp only; omega
          · exact (Hw4.out.setCell (p := ⟨w.heap.size + 1, 0, none⟩) (by dsimp only; omega) _).setCell (p := ⟨w.heap.size + 1, 1, none⟩) (by dsimp only; omega) _
  · have Hr : Hid (bitsOfF ⟨gs, fs⟩ k = ([], c, d)) := by
      show _ = _
      unfold bitsOfF
      rw [Hcd.out, if_pos (fun e => hok (by simpa using e))]
    have hq : ((decide (c < 0) || decide (0 < c)) || (decide (d < 0) || decide (0 < d))) = true := by rw [Bool.eq_iff_iff]; simp; omega
    go_wp2_with fail
    obtain ⟨W2, hW2⟩ : ∃ W2, W2 = w1.alloc (.cells #[.int .i64 c, .int .i64 d] 28) := ⟨_, rfl⟩
    rw [← hW2]
    have hb2 : Below w1.heap.size w1 W2 := by rw [hW2]; (repeat (first | exact Below.refl _ _ | refine Below.alloc ?_ (by first | omega | (simp <;> omega)) _ | refine Below.setCell ?_ (by first | omega | (simp <;> omega)) _ | refine below_drewN ?_ _ | refine Below.drew ?_))
    have e0 : W2.cell? ⟨w1.heap.size, 0, none⟩ = some (.int .i64 c) := by rw [hW2]; simp
    have e1 : W2.cell? ⟨w1.heap.size, 1, none⟩ = some (.int .i64 d) := by rw [hW2]; simp
    have e2 := cell_later' g2 hb2
    have e3 := cell_later' g3 hb2
    have f2 := (hb2.frozen (p := ⟨w.heap.size + 1, 0, none⟩) z1).trans k2
    have f3 := (hb2.frozen (p := ⟨w.heap.size + 1, 1, none⟩) z1).trans k3
    have Hw2 : Hid (Below w.heap.size w W2) := Hw1.out.trans (hb2.mono Hw1.out.size)
    clear hW2 hb2 g0 g1 g2 g3 k2 k3
    go_region_with (first | fail)
    all_goals go_wp2_with fail
    all_goals
      have q := set_two (w := W2.drew) (u := .int .i64 c) (v := .int .i64 d) e2 e3
      refine bodyPost_ret (res_of5 rfl rfl rfl (c := c) (a := d) q.1 q.2) rfl ⟨_, none, 0, _, _, Hr.out, rfl, sl_none', ?_⟩
      have h := Hw2.out; (repeat (first | exact Below.refl _ _ | exact (h).mono (by first | omega | (simp <;> omega) | (have hh := (h).size; (try simp at hh); omega) | (have hh := (h).size; (try simp at hh); (try simp); omega)) | refine Below.trans ?_ ((h).mono (by first | omega | (simp <;> omega) | (have hh := (h).size; (try simp at hh); omega) | (have hh := (h).size; (try simp at hh); (try simp); omega))) | refine Below.alloc ?_ (by first | omega | (simp <;> omega) | (have hh := (h).size; (try simp at hh); omega) | (have hh := (h).size; (try simp at hh); (try simp); omega)) _ | refine Below.setCell ?_ (by first | omega | (simp <;> omega) | (have hh := (h).size; (try simp at hh); omega) | (have hh := (h).size; (try simp at hh); (try simp); omega)) _ | refine below_drewN ?_ _ | refine Below.drew ?_))

end Go.Proofs.YtaehkcnankijfaaDoor
