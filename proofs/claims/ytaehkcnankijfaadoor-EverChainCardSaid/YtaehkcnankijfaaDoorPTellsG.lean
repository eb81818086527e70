/- ever.tells: what each function always tells, in the order of who calls whom. ever.Tells of a unit: of a checked one what its functions always tell, else the fault. -/
import Derived.Test.YtaehkcnankijfaaDoorPRefCo
import Derived.Test.YtaehkcnankijfaaDoorPCompP
import Derived.Test.YtaehkcnankijfaaDoorPWrites
import Derived.Test.YtaehkcnankijfaaDoorPOrderG
namespace Go.Proofs.YtaehkcnankijfaaDoor
open Go.RowKit

/-- The cells of a row of pairs. -/
def flatP (t : List Told) : List Value := t.flatMap fun p => [Value.int .i64 p.1, Value.int .i64 p.2]
theorem flatP_row (t : List Told) : (flatP t).toArray = rowP t := rfl
theorem flatP_at {t : List Told} {r : Nat} (hr : r < t.length) : (flatP t)[r * 2]? = some (.int .i64 t[r].1) ∧ (flatP t)[r * 2 + 1]? = some (.int .i64 t[r].2) := by
  have h := rowP_at hr
  rw [← flatP_row, List.getElem?_toArray, List.getElem?_toArray] at h
  exact h
theorem flatP_set {t : List Told} {r : Nat} (hr : r < t.length) (b a : Int) : ((flatP t).set (r * 2) (.int .i64 b)).set (r * 2 + 1) (.int .i64 a) = flatP (t.set r (b, a)) := by
  have h := rowP_set hr b a
  rw [← flatP_row, ← flatP_row] at h
  simp only [List.setIfInBounds_toArray] at h
  exact congrArg Array.toList h
theorem flatP_rep (n : Nat) (x y : Int) : flatP (List.replicate n (x, y)) = pairs n (.int .i64 x) (.int .i64 y) := by
  have h := rowP_rep n x y
  rw [← flatP_row] at h
  exact congrArg Array.toList h
/-- A row of pairs, seen as a list in memory. -/
theorem pairs_sl {W : World} {g n : Nat} {e : TypeId} {t : List Told} (h : W.heap[g]? = some (.cells (flatP t).toArray e (0, 0))) (hn : t.length = n) (hn1 : n ≤ 1048576) : SlAt (fun b => b = g) W 2 rPair (.slice (some ⟨g, 0, none⟩) n n) t := by
  subst hn
  refine ⟨_, t.length, rfl, Nat.le_refl _, by omega, fun _ => ⟨g, 0, rfl, rfl, fun i x hx => ?_⟩⟩
  obtain ⟨hi, rfl⟩ := List.getElem?_eq_some_iff.1 hx
  obtain ⟨h0, h1⟩ := flatP_at hi
  refine ⟨[.int .i64 t[i].1, .int .i64 t[i].2], rfl, rfl, .cons ?_ (.cons ?_ (.nil _ _ _))⟩
  · rw [cell_row h, List.getElem?_toArray, Nat.zero_add]; exact h0
  · rw [cell_row h, List.getElem?_toArray, Nat.zero_add]; exact h1

/-- slices.Compact of a row of pairs of the call's own. -/
theorem compactP_own (base : Nat) (w : World) (v : Value) (l : List Told) (h : Own base w 66 2 rPair v l) (hl : l.length ≤ 1048576) :
    Calls Tryd.prog 115 #[v] w fun e w' => CompPost w v l e w' := by
  have hsl := h.toSl rPair_mono (by decide)
  obtain ⟨xss, h1, h2, h3, h4⟩ := h
  rcases id h1.2 with ⟨rfl, h0⟩ | ⟨g, cap, cur, rfl, hg, hh, hn, hm, hsz, ht⟩
  · have hl0 : l = [] := List.length_eq_zero_iff.1 h0
    subst hl0
    clear hsl h1 h2 h3 h4 h0 hl
    go_enter Tryd.func115, Tryd.ntmps115
    go_wp2_with fail
    go_ret
    exact ⟨none, 0, 0, rfl, Nat.le_refl _, ⟨rfl, rfl, rfl, Nat.le_refl _, fun _ _ _ => rfl⟩, .inr ⟨by decide, rfl⟩⟩
  · unfold maxLen at hm
    refine compactP_any w g l.length cap _ l rfl rfl hl hn hm ⟨⟨rfl, rfl, rfl, Nat.le_refl _, fun _ _ _ => rfl⟩, fun i hi => ?_, fun i => by simp [World.frozen?, hh], fun j hj _ => ?_⟩
    · rw [cell_row hh]
      exact ⟨_, Array.getElem?_eq_getElem (by rw [hsz]; omega)⟩
    · obtain ⟨b, off, cs, hab, -, hr, -, hcs⟩ := hsl.get hj
      cases hab
      rw [hr] at hcs
      obtain ⟨c0, c1⟩ := hcs.get2
      rw [Nat.zero_add] at c0 c1
      rw [List.getD_eq_getElem?_getD, List.getElem?_eq_getElem hj]
      exact ⟨c0, c1⟩

/-- What is known fits the calls of a checked unit. -/
theorem calls_fit {u : DUnit} (hu : checkF u = (0, 0)) (ord : List Int) (i : Nat) {k : Nat} {f : DFunc} (hf : u.funcs[k]? = some f) {b : Nat} {x : DBlock} (hx : f.blocks[b]? = some x) : CallsFit x.list (tellsSt u.funcs ord i) := by
  intro y hy hop
  obtain ⟨h1, h2⟩ := call_ok hu hf hx hy hop
  rw [tellsSt_len]
  refine ⟨h1, fun h => ?_⟩
  have h3 := tells_ok hu ord i _ h
  rw [h2]
  exact h3
theorem tells_step (fs : List DFunc) {ord : List Int} (hnd : ord.Nodup) (hr : ∀ x ∈ ord, 0 ≤ x) {i k : Nat} (hi : i < ord.length) (hk : ord[i] = (k : Int)) :
    tellsSt fs ord (i + 1) = (tellsSt fs ord i).set k (allSameF (retsF (fs.getD k noFunc) (tellsSt fs ord i) (fs.getD k noFunc).blocks.length)) ∧ (tellsSt fs ord i).getD k (0, 0) = (0, 0) := by
  have he : (ord.getD i 0).toNat = k := by rw [List.getD_eq_getElem?_getD, List.getElem?_eq_getElem hi]; show (ord[i]).toNat = k; rw [hk]; rfl
  refine ⟨by rw [tellsSt, he], tells_none i (fun j hj e => ?_)⟩
  have hjl : j < ord.length := by omega
  rw [List.getD_eq_getElem?_getD, List.getElem?_eq_getElem hjl] at e
  have h0 := hr _ (List.getElem_mem hjl)
  have e2 : ord[j] = ord[i] := by
    have e' : (ord[j]).toNat = k := e
    omega
  exact List.pairwise_iff_getElem.1 hnd j i hjl hi hj e2

set_option maxRecDepth 100000 in
set_option maxHeartbeats 4000000 in
theorem tells_any {S S' : Nat → Prop} (ga fa oa : Option Addr) (gn gc fc m oc n : Nat) (gs : List DGlobal) (fs : List DFunc) (ord : List Int) (w : World) (hf : SlAt S w 4 rFunc (.slice fa n fc) fs) (hS : ∀ b, S b → b < w.heap.size) (hS' : ∀ b, S' b → b < w.heap.size) (hn : fs.length = n) (hn1 : n ≤ 1048576)
    (hsm : ∀ (k : Nat) (f : DFunc), fs[k]? = some f → manyOf f.blocks ≤ 1048576 ∧ f.blocks.length ≤ 1048576) (hck : checkF ⟨gs, fs⟩ = (0, 0))
    (ho : SlAt S' w 1 rInt (.slice oa m oc) ord) (hm : ord.length = m) (hm1 : m ≤ 1048576) (hr : ∀ x ∈ ord, 0 ≤ x ∧ x < (n : Int)) (hnd : ord.Nodup) :
    Calls Tryd.prog 68 #[.agg #[.slice ga gn gc, .slice fa n fc], .slice oa m oc] w fun e w' =>
      ∃ KB, e = .returned (.slice (some ⟨KB, 0, none⟩) n n) ∧ w.heap.size ≤ KB ∧ w'.heap[KB]? = some (.cells (flatP (tellsSt fs ord m)).toArray 66 (0, 0)) ∧ Below w.heap.size w w' := by
  have Hn := hid hn
  have Hsm := hid hsm
  have Hck := hid hck
  have Hm := hid hm
  have Hr := hid hr
  have Hnd := hid hnd
  obtain ⟨ip, hip, hpz0, hpz1, hpz2⟩ := info_parts infoPair
  have hmk := run_make_pairs (P := Tryd.prog) 60 66 (.int .i64 0) (.int .i64 0) 16 Tryd.underlying60 infoPair rfl .i64 .i64 n (by omega) (by omega)
  obtain ⟨W, hW⟩ : ∃ W, W = (w.alloc (.cells #[.slice ga gn gc, .slice fa n fc] 25)).alloc (.cells (pairs n (.int .i64 0) (.int .i64 0)).toArray 66) := ⟨_, rfl⟩
  have hbW : Below w.heap.size w W := by rw [hW]; (repeat (first | exact Below.refl _ _ | refine Below.alloc ?_ (by first | omega | (simp <;> omega)) _ | refine Below.setCell ?_ (by first | omega | (simp <;> omega)) _ | refine below_drewN ?_ _ | refine Below.drew ?_))
  have hWs : W.heap.size = w.heap.size + 2 := by rw [hW]; simp
  obtain ⟨KB, hKB⟩ : ∃ KB, KB = w.heap.size + 1 := ⟨_, rfl⟩
  have hrow : W.heap[KB]? = some (.cells (flatP (tellsSt fs ord 0)).toArray 66 (0, 0)) := by
    have h := heap_alloc_new (w.alloc (.cells #[.slice ga gn gc, .slice fa n fc] 25)) (.cells (pairs n (.int .i64 0) (.int .i64 0)).toArray 66)
    rw [show (w.alloc (.cells #[.slice ga gn gc, .slice fa n fc] 25)).heap.size = w.heap.size + 1 by simp] at h
    rw [hW, hKB, h, tellsSt, flatP_rep, hn]
  have u1 : W.cell? ⟨w.heap.size, 1, none⟩ = some (.slice fa n fc) := by rw [hW]; simp
  have Hst0 : Hid (RowSt W W KB 66 (flatP (tellsSt fs ord 0))) := ⟨Nat.le_refl _, fun _ _ _ => rfl, ⟨rfl, rfl, rfl⟩, hrow⟩
  have U1 := hid u1
  have HW := hid hW
  have HbW := hid hbW
  have HWs := hid hWs
  have HKB := hid hKB
  have Hf := hid (hf.later rFunc_mono hbW)
  have Ho := hid (ho.later rInt_mono hbW)
  have hSK : ∀ b, S b → b ≠ KB := fun b hb => by have := hS b hb; omega
  have hSK' : ∀ b, S' b → b ≠ KB := fun b hb => by have := hS' b hb; omega
  have HSK := hid hSK
  have HSK' := hid hSK'
  have Hlen : Hid (∀ i, (tellsSt fs ord i).length = n) := fun i => by rw [tellsSt_len, hn]
  clear hf hn hsm hck ho hm hr hnd hW hbW hWs hKB hrow hSK hSK' hS hS'
  go_enter Tryd.func68, Tryd.ntmps68
  go_wp2_with fail
  rw [← HW.out, ← HKB.out]
  clear hmk u1
  go_loopw [18] (fun s18 wr => ∃ i : Nat, i ≤ m ∧ s18 = .int .i64 (i : Int) ∧ RowSt W wr KB 66 (flatP (tellsSt fs ord i))) (fun s18 _ => m - (intOf s18).toNat)
  case atStart => exact ⟨0, Nat.zero_le _, rfl, Hst0.out⟩
  case round =>
    obtain ⟨i, hi, rfl, hst⟩ := hrel
    have Hst := hid hst
    have u1 := hst.cellOf U1.out (by have := HKB.out; omega)
    have zU : w.heap.size < wr.heap.size := cell_lt u1
    by_cases him : i < m
    · have hil : i < ord.length := by rw [Hm.out]; exact him
      obtain ⟨ob, ooff, hoae, o0⟩ := int_at9 (hst.sl rInt_mono HSK'.out Ho.out) hil
      subst hoae
      have hrx := Hr.out _ (List.getElem_mem hil)
      obtain ⟨kk, hkk⟩ := Int.eq_ofNat_of_zero_le hrx.1
      have hkn : kk < n := by omega
      have hkf : kk < fs.length := by rw [Hn.out]; exact hkn
      obtain ⟨hstep, hnone⟩ := tells_step fs Hnd.out (fun x hx => (Hr.out x hx).1) hil hkk
      rw [hkk] at o0
      have hgd : fs.getD kk noFunc = fs[kk] := by rw [List.getD_eq_getElem?_getD, List.getElem?_eq_getElem hkf]; rfl
      rw [hgd] at hstep
      have Hstep := hid hstep
      have Hnone := hid hnone
      obtain ⟨fb, foff, xa, xc, hfae, hcs, hxb, -, -⟩ := func_at (hst.sl rFunc_mono HSK.out Hf.out) hkf
      subst hfae
      have hfg : fs[kk]? = some fs[kk] := List.getElem?_eq_getElem hkf
      have hsmk := Hsm.out kk _ hfg
      have Hmn : Hid (∀ x ∈ fs[kk].blocks, x.phis.length ≤ 1048576 ∧ x.list.length ≤ 1048576) := fun x hx => by have := manyOf_mem hx; omega
      have Hfit : Hid (∀ (b : Nat) (x : DBlock), fs[kk].blocks[b]? = some x → CallsFit x.list (tellsSt fs ord i)) := fun b x hx => calls_fit (u := ⟨gs, fs⟩) Hck.out ord i hfg hx
      obtain ⟨f, hfe⟩ : ∃ f, f = fs[kk] := ⟨_, rfl⟩
      rw [← hfe] at hcs hxb hsmk Hmn Hfit Hstep
      obtain ⟨kn, hkne⟩ : ∃ kn, kn = tellsSt fs ord i := ⟨_, rfl⟩
      rw [← hkne] at Hst Hfit Hstep Hnone
      have Hknl : Hid (kn.length = n) := by show _ = _; rw [hkne]; exact Hlen.out i
      obtain ⟨c0, c1, c2, c3⟩ := hcs.get4
      obtain ⟨bn, hbn⟩ : ∃ bn, bn = f.blocks.length := ⟨_, rfl⟩
      have hbn1 : bn ≤ 1048576 := by rw [hbn]; exact hsmk.2
      rw [← hbn] at c3
      have Hbn := hid hbn
      have Hxb := hid hxb
      have zf : fb < wr.heap.size := cell_lt c3
      have zo : ob < wr.heap.size := cell_lt o0
      have hRl : Hid (∀ j, (retsF f kn j).length ≤ j) := fun j => by
        unfold retsF
        rw [List.length_map]
        exact Nat.le_trans (List.length_filter_le _ _) (by rw [List.length_take]; omega)
      obtain ⟨pr, hpr⟩ : ∃ pr, pr = f.params := ⟨_, rfl⟩
      obtain ⟨rs, hrs⟩ : ∃ rs, rs = f.regs := ⟨_, rfl⟩
      obtain ⟨fnm, hfnm⟩ : ∃ fnm, fnm = f.name := ⟨_, rfl⟩
      have Hpr := hid hpr
      have Hrs := hid hrs
      rw [← hfnm] at c0
      rw [← hpr] at c1
      rw [← hrs] at c2
      have i0 : (0 : Int) ≤ (kk : Int) := by omega
      have i1 : (kk : Int) < (n : Int) := by omega
      clear hst hcs hxb hsmk hfe hkne hbn hstep hnone hkk hrx hgd hfg hpr hrs hfnm
      go_wp2_with fail
      obtain ⟨V1, hV1⟩ : ∃ V1, V1 = wr.alloc (.cells #[.string fnm, .int .i64 pr, .int .i64 rs, .slice xa bn xc] 35) := ⟨_, rfl⟩
      have hbV : Below wr.heap.size wr V1 := by rw [hV1]; (repeat (first | exact Below.refl _ _ | refine Below.alloc ?_ (by first | omega | (simp <;> omega)) _ | refine Below.setCell ?_ (by first | omega | (simp <;> omega)) _ | refine below_drewN ?_ _ | refine Below.drew ?_))
      have v0 : V1.cell? ⟨wr.heap.size, 0, none⟩ = some (.string fnm) := by rw [hV1]; simp
      have v1 : V1.cell? ⟨wr.heap.size, 1, none⟩ = some (.int .i64 pr) := by rw [hV1]; simp
      have v2 : V1.cell? ⟨wr.heap.size, 2, none⟩ = some (.int .i64 rs) := by rw [hV1]; simp
      have v3 : V1.cell? ⟨wr.heap.size, 3, none⟩ = some (.slice xa bn xc) := by rw [hV1]; simp
      obtain ⟨FB, hFB⟩ : ∃ FB, FB = wr.heap.size := ⟨_, rfl⟩
      rw [← hFB] at v0 v1 v2 v3
      have V0 := hid v0
      have V1' := hid v1
      have V2 := hid v2
      have V3 := hid v3
      have Hst1 := hid (Hst.out.later hbV)
      have Hxb1 := hid (Hxb.out.later rBlock_mono hbV)
      have zFV : FB < V1.heap.size := cell_lt v0
      have HbV := hid hbV
      have Hwr := hid (Hst.out.size)
      rw [← hFB, ← hV1]
      have HFB := hid hFB
      clear hV1 hbV v0 v1 v2 v3 c0 c1 c2 c3 o0 u1 hFB
      go_loopw [9, 30] (fun s9 s30 wi => ∃ (j : Nat) (v : Value), v = s9 ∧ j ≤ bn ∧ s30 = .int .i64 (j : Int) ∧ Build V1 wi 66 2 rPair v (retsF f kn j)) (fun _ s30 _ => bn - (intOf s30).toNat)
      case atStart => exact ⟨0, _, rfl, Nat.zero_le _, rfl, Build.start V1 66 2 rPair⟩
      case round =>
        obtain ⟨j, v, rfl, hj, rfl, hbd⟩ := hrel
        have Hbd := hid hbd
        have c0 := cell_later' V0.out hbd.old
        have c1 := cell_later' V1'.out hbd.old
        have c2 := cell_later' V2.out hbd.old
        have c3 := cell_later' V3.out hbd.old
        have zV := hbd.old.size
        have zF : FB < wr.heap.size := cell_lt c0
        by_cases hjb : j < bn
        · have hjf : j < f.blocks.length := by rw [← Hbn.out]; exact hjb
          obtain ⟨xb, xoff, pa, pc, la, lc, ta, tc, hbae, hcb, -, -, -, -, -, -⟩ := block_at (Hxb1.out.later rBlock_mono hbd.old) hjf
          subst hbae
          obtain ⟨x, hx⟩ : ∃ x, x = f.blocks[j]'hjf := ⟨_, rfl⟩
          rw [← hx] at hcb
          have hxg : f.blocks[j]? = some x := by rw [hx]; exact List.getElem?_eq_getElem hjf
          have hsz := Hmn.out x (by rw [hx]; exact List.getElem_mem _)
          have hsucc := retsF_succ (kn := kn) hjf
          rw [← hx] at hsucc
          have hcm : ∀ V, Below wr.heap.size wr V → Calls Tryd.prog 114 #[.agg #[.string fnm, .int .i64 f.params, .int .i64 f.regs, .slice (some ⟨xb, xoff, none⟩) bn xc], .int .i64 (j : Int), .int .i64 (x.list.length : Int), .agg #[.bool x.fin.on.reg, .int .i64 x.fin.on.n], .slice (some ⟨KB, 0, none⟩) n n] V fun e w' =>
              e = .returned (.agg #[.int .i64 (comesF f x.list kn x.list.length x.fin.on).1, .int .i64 (comesF f x.list kn x.list.length x.fin.on).2]) ∧ Below V.heap.size V w' := fun V hV => by
            have hb1 : Below V1.heap.size V1 V := Hbd.out.old.trans (hV.mono Hbd.out.old.size)
            exact comes_any (S := S) (S' := fun b => b = KB) fnm f (some ⟨xb, xoff, none⟩) xc bn j x (some ⟨KB, 0, none⟩) n n kn Hbn.out.symm hbn1 hjb hxg hsz.2 Hmn.out (Hfit.out j x hxg) Hknl.out hn1 _ _ V (Nat.le_refl _) (by rw [Hbn.out]; exact Hxb1.out.later rBlock_mono hb1) (pairs_sl (Hst1.out.later hb1).row Hknl.out hn1)
          rw [← Hpr.out, ← Hrs.out] at hcm
          obtain ⟨d0, d1, d2, d3, d4, d5⟩ := hcb.get6
          obtain ⟨kd, hkd⟩ : ∃ kd, kd = x.fin.kind := ⟨_, rfl⟩
          obtain ⟨ln, hln⟩ : ∃ ln, ln = x.list.length := ⟨_, rfl⟩
          obtain ⟨pn, hpn⟩ : ∃ pn, pn = x.phis.length := ⟨_, rfl⟩
          obtain ⟨tn, htn⟩ : ∃ tn, tn = x.fin.to.length := ⟨_, rfl⟩
          obtain ⟨er, her⟩ : ∃ er, er = x.fin.on.reg := ⟨_, rfl⟩
          obtain ⟨en, hen⟩ : ∃ en, en = x.fin.on.n := ⟨_, rfl⟩
          obtain ⟨p1, hp1⟩ : ∃ p1, p1 = (comesF f x.list kn x.list.length x.fin.on).1 := ⟨_, rfl⟩
          obtain ⟨p2, hp2⟩ : ∃ p2, p2 = (comesF f x.list kn x.list.length x.fin.on).2 := ⟨_, rfl⟩
          have hpp : comesF f x.list kn x.list.length x.fin.on = (p1, p2) := by rw [hp1, hp2]
          rw [hpp, ← hkd] at hsucc
          rw [← hp1, ← hp2, ← hln, ← her, ← hen] at hcm
          rw [← hpn] at d0
          rw [← hln] at d1
          rw [← hkd] at d2
          rw [← her] at d3
          rw [← hen] at d4
          rw [← htn] at d5
          have Hcm := hid hcm
          have Hsucc := hid hsucc
          have zx : xb < wr.heap.size := cell_lt d0
          clear hbd hcb hx hxg hsz hsucc hcm hkd hln hpn htn her hen hp1 hp2 hpp hjf
          by_cases hk : kd = 1
          · have q0 : (decide (kd ≤ 1) && decide (1 ≤ kd)) = true := eq_yes hk
            have Hs2 : Hid (retsF f kn (j + 1) = retsF f kn j ++ [(p1, p2)]) := by show _ = _; rw [Hsucc.out, if_pos hk]
            clear hk
            go_wp2_with (first
              | (go_at_call 114; (with_reducible refine (Hcm.out _ ?_).mono ?_); ((repeat (first | exact Below.refl _ _ | refine Below.alloc ?_ (by first | omega | (simp <;> omega)) _ | refine Below.setCell ?_ (by first | omega | (simp <;> omega)) _ | refine below_drewN ?_ _ | refine Below.drew ?_))); rintro e w4 ⟨rfl, hb4⟩
                 have hb04 : Below wr.heap.size wr w4 := (Below.alloc (Below.refl _ _) (Nat.le_refl _) _).trans (hb4.mono (by simp))
                 have Hb04 := hid hb04
                 have z4 := hb04.size
                 clear hb4 hb04)
              | (at_builtin; refine wpList_append_Own rfl _ _ 60 rfl V1.heap.size 66 ip _ 2 16 Tryd.underlying60 hip hpz0 hpz1 hpz2 rfl (by decide) rPair_mono v (retsF f kn j) rfl ?_ ⟨w4.heap.size, 0, none⟩ 1 [.int .i64 p1, .int .i64 p2] (p1, p2) rfl rfl ?_ ?_ ?_ ?_ (by decide) ?_ ?_))
            · exact (Hbd.out.own.later rPair_mono Hb04.out).later rPair_mono (by (repeat (first | exact Below.refl _ _ | refine Below.alloc ?_ (by first | omega | (simp <;> omega)) _ | refine Below.setCell ?_ (by first | omega | (simp <;> omega)) _ | refine below_drewN ?_ _ | refine Below.drew ?_)))
            · exact new_cells _ _ _ rfl
            · intro u hu; simp at hu; rcases hu with rfl | rfl <;> rfl
            · rfl
            · have := hRl.out j; omega
            · simp; omega
            · intro v2 w5 hown hgrow g2 cap2 hv2
              have hb5 : Below V1.heap.size V1 w5 := by
                refine Below.grown ?_ hgrow (by simp; omega) (fun g hg => (Hbd.out.own.lt g hg).1)
                have h := Hbd.out.old.trans (Hb04.out.mono Hbd.out.old.size)
                (repeat (first | exact Below.refl _ _ | exact (h).mono (by first | omega | (simp <;> omega) | (have hh := (h).size; (try simp at hh); omega) | (have hh := (h).size; (try simp at hh); (try simp); omega)) | refine Below.trans ?_ ((h).mono (by first | omega | (simp <;> omega) | (have hh := (h).size; (try simp at hh); omega) | (have hh := (h).size; (try simp at hh); (try simp); omega))) | refine Below.alloc ?_ (by first | omega | (simp <;> omega) | (have hh := (h).size; (try simp at hh); omega) | (have hh := (h).size; (try simp at hh); (try simp); omega)) _ | refine Below.setCell ?_ (by first | omega | (simp <;> omega) | (have hh := (h).size; (try simp at hh); omega) | (have hh := (h).size; (try simp at hh); (try simp); omega)) _ | refine below_drewN ?_ _ | refine Below.drew ?_))
              have Hbd5 : Hid (Build V1 w5 66 2 rPair v2 (retsF f kn (j + 1))) := ⟨by rw [Hs2.out]; exact hown, hb5⟩
              clear hown hgrow hb5
              subst hv2
              go_wp2_with fail
              go_roundw
              case rel => exact ⟨j + 1, _, rfl, by omega, by go_num, Hbd5.out⟩
              case measure => simp [intOf]; omega
          · have q0 : (decide (kd ≤ 1) && decide (1 ≤ kd)) = false := eq_no hk
            have Hs2 : Hid (retsF f kn (j + 1) = retsF f kn j) := by show _ = _; rw [Hsucc.out, if_neg hk, List.append_nil]
            clear hk
            go_wp2_with fail
            go_roundw
            case rel => exact ⟨j + 1, _, rfl, by omega, by go_num, by rw [Hs2.out]; exact ⟨Hbd.out.own.later rPair_mono (by (repeat (first | exact Below.refl _ _ | refine Below.alloc ?_ (by first | omega | (simp <;> omega)) _ | refine Below.setCell ?_ (by first | omega | (simp <;> omega)) _ | refine below_drewN ?_ _ | refine Below.drew ?_))), by have h := Hbd.out.old; (repeat (first | exact Below.refl _ _ | exact (h).mono (by first | omega | (simp <;> omega) | (have hh := (h).size; (try simp at hh); omega) | (have hh := (h).size; (try simp at hh); (try simp); omega)) | refine Below.trans ?_ ((h).mono (by first | omega | (simp <;> omega) | (have hh := (h).size; (try simp at hh); omega) | (have hh := (h).size; (try simp at hh); (try simp); omega))) | refine Below.alloc ?_ (by first | omega | (simp <;> omega) | (have hh := (h).size; (try simp at hh); omega) | (have hh := (h).size; (try simp at hh); (try simp); omega)) _ | refine Below.setCell ?_ (by first | omega | (simp <;> omega) | (have hh := (h).size; (try simp at hh); omega) | (have hh := (h).size; (try simp at hh); (try simp); omega)) _ | refine below_drewN ?_ _ | refine Below.drew ?_))⟩⟩
            case measure => simp [intOf]; omega
        · have hjb' : j = bn := by omega
          have hown := hbd.own
          have hst2 := Hst1.out.later hbd.old
          rw [hjb', Hbn.out] at hown
          have hlr : (retsF f kn f.blocks.length).length ≤ 1048576 := by have h := hRl.out f.blocks.length; have := Hbn.out; omega
          have Hcomp := hid (compactP_own V1.heap.size wr v _ hown hlr)
          have Hst2 := hid hst2
          have hvlt := hown.lt
          have Hvlt := hid hvlt
          obtain ⟨R, hR⟩ : ∃ R, R = retsF f kn f.blocks.length := ⟨_, rfl⟩
          rw [← hR] at Hcomp Hstep hlr
          have hKV := Hst1.out.lt
          obtain ⟨va, vc, hvs⟩ := hown.shape
          rw [hvs] at Hcomp Hvlt ⊢
          have e : (j : Int) = (bn : Int) := by omega
          clear hbd hown hst2 hvlt Hbd hR c0 c1 c2 hjb hvs
          rw [hjb']
          clear hjb' e
          go_upto_region 14 with (go_at_call 115; (with_reducible refine Hcomp.out.mono ?_); intro e w5 hpost; obtain ⟨a5, m5, n5, rfl, hm5, hg5, hor5⟩ := (show ∃ a m c, e = .returned (.slice a m c) ∧ m ≤ R.length ∧ _ from hpost); clear hpost; have Hst5 := hid (Hst2.out.grown hg5 (fun g hg => by have := (Hvlt.out g hg).1; exact ⟨by have := Hst1.out.size; omega, by omega⟩)); have Hor5 := hid hor5; clear hg5 hor5)
          rcases Hor5.out with ⟨hm1, g5, rfl, p0, p1⟩ | ⟨hne, hz⟩
          · subst hm1
            have hkl : kk < kn.length := by rw [Hknl.out]; exact hkn
            have k0 : w5.cell? ⟨KB, kk * 2, none⟩ = some (.int .i64 (kn[kk]'hkl).1) := Hst5.out.at (flatP_at hkl).1
            have k1 : w5.cell? ⟨KB, kk * 2 + 1, none⟩ = some (.int .i64 (kn[kk]'hkl).2) := Hst5.out.at (flatP_at hkl).2
            have f0 := Hst5.out.fz (kk * 2)
            have f1 := Hst5.out.fz (kk * 2 + 1)
            have hset := (Hst5.out.set (kk * 2) (.int .i64 (allSameF R).1)).set (kk * 2 + 1) (.int .i64 (allSameF R).2)
            rw [flatP_set hkl] at hset
            have Hset : Hid (RowSt W ((w5.setCell ⟨KB, kk * 2, none⟩ (.int .i64 (allSameF R).1)).setCell ⟨KB, kk * 2 + 1, none⟩ (.int .i64 (allSameF R).2)) KB 66 (flatP (tellsSt fs ord (i + 1)))) := by
              show RowSt _ _ _ _ _
              rw [Hstep.out]
              exact hset
            obtain ⟨q1, hq1⟩ : ∃ q1, q1 = (allSameF R).1 := ⟨_, rfl⟩
            obtain ⟨q2, hq2⟩ : ∃ q2, q2 = (allSameF R).2 := ⟨_, rfl⟩
            rw [← hq1] at p0
            rw [← hq2] at p1
            rw [← hq1, ← hq2] at Hset
            have zg : g5 < w5.heap.size := cell_lt p0
            have zK : KB < w5.heap.size := cell_lt k0
            clear hset Hor5 hq1 hq2
            go_wp2_with fail
            go_roundw
            case rel => exact ⟨i + 1, by omega, by go_num, Hset.out⟩
            case measure => simp [intOf]; omega
          · have t0 : (decide ((m5 : Int) ≤ 1) && decide ((1 : Int) ≤ (m5 : Int))) = false := eq_no (by omega)
            rw [hz, set_same Hnone.out] at Hstep
            clear hne hz Hor5
            go_wp2_with fail
            go_roundw
            case rel => exact ⟨i + 1, by omega, by go_num, by rw [Hstep.out]; exact Hst5.out⟩
            case measure => simp [intOf]; omega
    · have him' : i = m := by omega
      have hrow := hst.row
      rw [him'] at hrow
      have Hrow := hid hrow
      have Hbel := hid (hst.below HbW.out (by have := HKB.out; omega))
      clear hst hrow
      go_wp2_with fail
      go_ret
      exact ⟨KB, rfl, by have := HKB.out; omega, Hrow.out, Hbel.out⟩

end Go.Proofs.YtaehkcnankijfaaDoor

namespace Go.Proofs.YtaehkcnankijfaaDoor
open Go.RowKit

/-- What the functions of a unit always tell. -/
def tellsF (fs : List DFunc) : List Told := tellsSt fs (ordU fs) fs.length

set_option maxRecDepth 100000 in
set_option maxHeartbeats 4000000 in
theorem tellsOk_any {S : Nat → Prop} (ga : Option Addr) (gc : Nat) (fa : Option Addr) (fc : Nat) (gs : List DGlobal) (fs : List DFunc) (w : World)
    (hg : SlAt S w 3 rGlobal (.slice ga gs.length gc) gs) (hf : SlAt S w 4 rFunc (.slice fa fs.length fc) fs) (hw : Ways w) (hS : ∀ b, S b → b < w.heap.size)
    (hgl : gs.length ≤ 1048576) (hfl : fs.length ≤ 1048576) (hsm : ∀ (k : Nat) (f : DFunc), fs[k]? = some f → manyOf f.blocks ≤ 1048576 ∧ f.blocks.length ≤ 1048576) (hck : checkF ⟨gs, fs⟩ = (0, 0)) :
    Calls Tryd.prog 34 #[.agg #[.slice ga gs.length gc, .slice fa fs.length fc]] w fun e w' => ∃ KB, e = .returned (.tuple #[.slice (some ⟨KB, 0, none⟩) fs.length fs.length, .agg #[.int .i64 0, .int .i64 0]]) ∧ w.heap.size ≤ KB ∧ w'.heap[KB]? = some (.cells (flatP (tellsF fs)).toArray 66 (0, 0)) ∧ Below w.heap.size w w' := by
  have Hg := hid hg
  have Hf := hid hf
  have Hw := hid hw
  have Hsm := hid hsm
  have HS := hid hS
  have Hck := hid hck
  clear hg hf hw hsm hS hck
  go_enter Tryd.func34, Tryd.ntmps34
  obtain ⟨W, hW⟩ : ∃ W, W = (w.alloc (.cells #[.slice ga gs.length gc, .slice fa fs.length fc] 25)).alloc (.cells #[.int .i64 0, .int .i64 0] 28) := ⟨_, rfl⟩
  have hbW : Below w.heap.size w W := by rw [hW]; (repeat (first | exact Below.refl _ _ | refine Below.alloc ?_ (by first | omega | (simp <;> omega)) _ | refine Below.setCell ?_ (by first | omega | (simp <;> omega)) _ | refine below_drewN ?_ _ | refine Below.drew ?_))
  have HbW := hid hbW
  have W0 : Hid (W.cell? ⟨w.heap.size, 0, none⟩ = some (.slice ga gs.length gc)) := by show _ = _; rw [hW]; simp
  have W1 : Hid (W.cell? ⟨w.heap.size, 1, none⟩ = some (.slice fa fs.length fc)) := by show _ = _; rw [hW]; simp
  have R0 : Hid (W.cell? ⟨w.heap.size + 1, 0, none⟩ = some (.int .i64 0)) := by show _ = _; rw [hW]; simp
  have R1 : Hid (W.cell? ⟨w.heap.size + 1, 1, none⟩ = some (.int .i64 0)) := by show _ = _; rw [hW]; simp
  have F0 : Hid (W.frozen? ⟨w.heap.size + 1, 0, none⟩ = false) := by show _ = _; rw [hW]; simp
  have F1 : Hid (W.frozen? ⟨w.heap.size + 1, 1, none⟩ = false) := by show _ = _; rw [hW]; simp
  have hWs : W.heap.size = w.heap.size + 2 := by rw [hW]; simp
  go_wp2_with fail
  rw [← hW]
  refine (orderOk_any (S := S) ga gc fa fc gs fs W (Hg.out.later rGlobal_mono hbW) (Hf.out.later rFunc_mono hbW) (Ways.below Hw.out hbW) (fun b hb => by have := HS.out b hb; omega) hgl hfl Hsm.out Hck.out).mono ?_
  rintro e w1 ⟨v, rfl, hown, hb1⟩
  obtain ⟨oa, oc, hv⟩ := hown.shape
  subst hv
  have hord := ordU_ok (u := ⟨gs, fs⟩) Hck.out
  have hol : (ordU fs).length = fs.length := hord.many
  rw [hol] at hown ⊢
  have Hord := hid hord
  have Hol := hid hol
  have g0 := cell_later' W0.out hb1
  have g1 := cell_later' W1.out hb1
  have g2 := cell_later' R0.out hb1
  have g3 := cell_later' R1.out hb1
  have k2 := (hb1.frozen (p := ⟨w.heap.size + 1, 0, none⟩) (by simp; omega)).trans F0.out
  have k3 := (hb1.frozen (p := ⟨w.heap.size + 1, 1, none⟩) (by simp; omega)).trans F1.out
  have z1 : w.heap.size + 1 < w1.heap.size := cell_lt g2
  have z0 : w.heap.size < w1.heap.size := cell_lt g0
  have Hw1 : Hid (Below w.heap.size w w1) := HbW.out.trans (hb1.mono (by omega))
  obtain ⟨UB, hUB⟩ : ∃ UB, UB = w.heap.size := ⟨_, rfl⟩
  have HUB := hid hUB
  rw [← hUB] at g0 g1 g2 g3 k2 k3 z1 z0
  have Hosl := hid hown.sl
  clear hb1 hW hbW hWs W0 W1 R0 R1 F0 F1 hown hord hol
  rw [← hUB]
  clear hUB
  simp only []
  go_wp2_with fail
  obtain ⟨W2, hW2⟩ : ∃ W2, W2 = w1.alloc (.cells #[.int .i64 0, .int .i64 0] 28) := ⟨_, rfl⟩
  have hb2 : Below w1.heap.size w1 W2 := by rw [hW2]; (repeat (first | exact Below.refl _ _ | refine Below.alloc ?_ (by first | omega | (simp <;> omega)) _ | refine Below.setCell ?_ (by first | omega | (simp <;> omega)) _ | refine below_drewN ?_ _ | refine Below.drew ?_))
  have HbW2 := hid hb2
  have e0 := cell_later' g0 hb2
  have e1 := cell_later' g1 hb2
  have e2 := cell_later' g2 hb2
  have e3 := cell_later' g3 hb2
  have f2 := (hb2.frozen (p := ⟨UB + 1, 0, none⟩) z1).trans k2
  have f3 := (hb2.frozen (p := ⟨UB + 1, 1, none⟩) z1).trans k3
  have z2 : UB + 1 < W2.heap.size := cell_lt e2
  have Hw2 : Hid (Below w.heap.size w W2) := Hw1.out.trans (hb2.mono Hw1.out.size)
  rw [← hW2]
  clear hW2 hb2 g0 g1 g2 g3 k2 k3
  have hz12 := HbW2.out.size
  refine (tells_any (S := S) ga fa oa gs.length gc fc fs.length oc fs.length gs fs (ordU fs) W2 (Hf.out.later rFunc_mono Hw2.out) (fun b hb => Nat.lt_of_lt_of_le (HS.out b hb) Hw2.out.size) (fun b hb => Nat.lt_of_lt_of_le hb.2 hz12) rfl hfl Hsm.out Hck.out (Hosl.out.later rInt_mono HbW2.out) Hol.out hfl (fun x hx => Hord.out.range x hx) Hord.out.nodup).mono ?_
  rintro e w3 ⟨AB, rfl, hAB, hrow, hb3⟩
  have Hrow := hid hrow
  have g2 := cell_later' e2 hb3
  have g3 := cell_later' e3 hb3
  have k2 := (hb3.frozen (p := ⟨UB + 1, 0, none⟩) z2).trans f2
  have k3 := (hb3.frozen (p := ⟨UB + 1, 1, none⟩) z2).trans f3
  have z3 : UB + 1 < w3.heap.size := cell_lt g2
  have Hw3 : Hid (Below w.heap.size w w3) := Hw2.out.trans (hb3.mono Hw2.out.size)
  have HW2z : Hid (w.heap.size ≤ W2.heap.size ∧ UB + 1 < W2.heap.size) := ⟨Hw2.out.size, z2⟩
  clear hrow hb3 e0 e1 e2 e3 f2 f3
  simp only []
  go_wp2_with fail
  have q := set_two (w := w3) (u := .int .i64 0) (v := .int .i64 0) g2 g3
  refine bodyPost_ret (res_ord (v := .slice (some ⟨AB, 0, none⟩) fs.length fs.length) rfl rfl rfl (c := 0) (a := 0) q.1 q.2) rfl ?_
  have h1 := HW2z.out
  refine ⟨AB, rfl, by omega, ?_, ?_⟩
  · rw [Below.heap_setCell _ _ _ _ (by dsimp only; omega), Below.heap_setCell _ _ _ _ (by dsimp only; omega)]
    exact Hrow.out
  · exact (Hw3.out.setCell (p := ⟨UB + 1, 0, none⟩) (by dsimp only; rw [HUB.out]; omega) _).setCell (p := ⟨UB + 1, 1, none⟩) (by dsimp only; rw [HUB.out]; omega) _

set_option maxRecDepth 100000 in
set_option maxHeartbeats 4000000 in
theorem tellsBad_any {S : Nat → Prop} (ga : Option Addr) (gc : Nat) (fa : Option Addr) (fc : Nat) (gs : List DGlobal) (fs : List DFunc) (w : World)
    (hg : SlAt S w 3 rGlobal (.slice ga gs.length gc) gs) (hf : SlAt S w 4 rFunc (.slice fa fs.length fc) fs) (hw : Ways w)
    (hgl : gs.length ≤ 1048576) (hfl : fs.length ≤ 1048576) (hsm : ∀ (k : Nat) (f : DFunc), fs[k]? = some f → manyOf f.blocks ≤ 1048576 ∧ f.blocks.length ≤ 1048576) (c d : Int) (hck : checkF ⟨gs, fs⟩ = (c, d)) (hc0 : c ≠ 0) :
    Calls Tryd.prog 34 #[.agg #[.slice ga gs.length gc, .slice fa fs.length fc]] w fun e w' => e = .returned (.tuple #[.slice none 0 0, .agg #[.int .i64 c, .int .i64 d]]) ∧ Below w.heap.size w w' := by
  have Hg := hid hg
  have Hf := hid hf
  have Hw := hid hw
  have Hsm := hid hsm
  have Hck := hid hck
  have Hc0 := hid hc0
  clear hg hf hw hsm hck hc0
  go_enter Tryd.func34, Tryd.ntmps34
  obtain ⟨W, hW⟩ : ∃ W, W = (w.alloc (.cells #[.slice ga gs.length gc, .slice fa fs.length fc] 25)).alloc (.cells #[.int .i64 0, .int .i64 0] 28) := ⟨_, rfl⟩
  have hbW : Below w.heap.size w W := by rw [hW]; (repeat (first | exact Below.refl _ _ | refine Below.alloc ?_ (by first | omega | (simp <;> omega)) _ | refine Below.setCell ?_ (by first | omega | (simp <;> omega)) _ | refine below_drewN ?_ _ | refine Below.drew ?_))
  have HbW := hid hbW
  have R0 : Hid (W.cell? ⟨w.heap.size + 1, 0, none⟩ = some (.int .i64 0)) := by show _ = _; rw [hW]; simp
  have R1 : Hid (W.cell? ⟨w.heap.size + 1, 1, none⟩ = some (.int .i64 0)) := by show _ = _; rw [hW]; simp
  have F0 : Hid (W.frozen? ⟨w.heap.size + 1, 0, none⟩ = false) := by show _ = _; rw [hW]; simp
  have F1 : Hid (W.frozen? ⟨w.heap.size + 1, 1, none⟩ = false) := by show _ = _; rw [hW]; simp
  have hWs : W.heap.size = w.heap.size + 2 := by rw [hW]; simp
  go_wp2_with fail
  rw [← hW]
  refine (orderBad_any (S := S) ga gc fa fc gs fs W (Hg.out.later rGlobal_mono hbW) (Hf.out.later rFunc_mono hbW) (Ways.below Hw.out hbW) hgl hfl Hsm.out c d Hck.out Hc0.out).mono ?_
  rintro e w1 ⟨rfl, hb1⟩
  have g2 := cell_later' R0.out hb1
  have g3 := cell_later' R1.out hb1
  have k2 := (hb1.frozen (p := ⟨w.heap.size + 1, 0, none⟩) (by simp; omega)).trans F0.out
  have k3 := (hb1.frozen (p := ⟨w.heap.size + 1, 1, none⟩) (by simp; omega)).trans F1.out
  have z1 : w.heap.size + 1 < w1.heap.size := cell_lt g2
  have Hw1 : Hid (Below w.heap.size w w1) := HbW.out.trans (hb1.mono (by omega))
  obtain ⟨UB, hUB⟩ : ∃ UB, UB = w.heap.size := ⟨_, rfl⟩
  have HUB := hid hUB
  rw [← hUB] at g2 g3 k2 k3 z1
  clear hb1 hW hbW hWs R0 R1 F0 F1
  rw [← hUB]
  have hq : ((decide (c < 0) || decide (0 < c)) || (decide (d < 0) || decide (0 < d))) = true := by have := Hc0.out; rw [Bool.eq_iff_iff]; simp; omega
  clear hUB
  simp only []
  go_wp2_with fail
  obtain ⟨W2, hW2⟩ : ∃ W2, W2 = w1.alloc (.cells #[.int .i64 c, .int .i64 d] 28) := ⟨_, rfl⟩
  have hb2 : Below w1.heap.size w1 W2 := by rw [hW2]; (repeat (first | exact Below.refl _ _ | refine Below.alloc ?_ (by first | omega | (simp <;> omega)) _ | refine Below.setCell ?_ (by first | omega | (simp <;> omega)) _ | refine below_drewN ?_ _ | refine Below.drew ?_))
  have c0 : W2.cell? ⟨w1.heap.size, 0, none⟩ = some (.int .i64 c) := by rw [hW2]; simp
  have c1 : W2.cell? ⟨w1.heap.size, 1, none⟩ = some (.int .i64 d) := by rw [hW2]; simp
  have e2 := cell_later' g2 hb2
  have e3 := cell_later' g3 hb2
  have f2 := (hb2.frozen (p := ⟨UB + 1, 0, none⟩) z1).trans k2
  have f3 := (hb2.frozen (p := ⟨UB + 1, 1, none⟩) z1).trans k3
  have z2 : UB + 1 < W2.heap.size := cell_lt e2
  have Hw2 : Hid (Below w.heap.size w W2) := Hw1.out.trans (hb2.mono Hw1.out.size)
  rw [← hW2]
  clear hW2 hb2 g2 g3 k2 k3
  go_region_with (first | fail)
  all_goals go_wp2_with fail
  all_goals
    have q := set_two (w := W2.drew) (u := .int .i64 c) (v := .int .i64 d) e2 e3
    refine bodyPost_ret (res_ord (v := .slice none 0 0) rfl rfl rfl (c := c) (a := d) q.1 q.2) rfl ⟨rfl, ?_⟩
    have h := Hw2.out
    have hUB := HUB.out
    (repeat (first | exact Below.refl _ _ | exact (h).mono (by first | omega | (simp <;> omega) | (have hh := (h).size; (try simp at hh); omega) | (have hh := (h).size; (try simp at hh); (try simp); omega)) | refine Below.trans ?_ ((h).mono (by first | omega | (simp <;> omega) | (have hh := (h).size; (try simp at hh); omega) | (have hh := (h).size; (try simp at hh); (try simp); omega))) | refine Below.alloc ?_ (by first | omega | (simp <;> omega) | (have hh := (h).size; (try simp at hh); omega) | (have hh := (h).size; (try simp at hh); (try simp); omega)) _ | refine Below.setCell ?_ (by first | omega | (simp <;> omega) | (have hh := (h).size; (try simp at hh); omega) | (have hh := (h).size; (try simp at hh); (try simp); omega)) _ | refine below_drewN ?_ _ | refine Below.drew ?_))

end Go.Proofs.YtaehkcnankijfaaDoor
