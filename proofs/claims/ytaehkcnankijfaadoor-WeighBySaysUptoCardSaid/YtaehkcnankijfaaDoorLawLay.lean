/- The law WeighLaySays: its walk. -/
import Derived.Test.YtaehkcnankijfaaDoorOnceW
import Derived.Test.YtaehkcnankijfaaDoorRefLay
import Derived.Deep.RegionWith
import Derived.Deep.RegionHeld3
namespace Go.Proofs.YtaehkcnankijfaaDoor
open Go.RowKit

theorem refLay_any' {S S' : Nat → Prop} (nm : ByteArray) (p r : Int) (ba : Option Addr) (bc : Nat) (bs : List DBlock) (ca : Option Addr) (cc : Nat) (C : List Int) (n : Nat) (w : World) (hb : SlAt S w 6 rBlock (.slice ba bs.length bc) bs) (hC : SlAt S' w 1 rInt (.slice ca C.length cc) C)
    (hn0 : 0 < n) (hn : n ≤ 1048576) (hbn : bs.length = n) (hcn : C.length = n) (hto : ∀ (k : Nat) (x : DBlock), bs[k]? = some x → ∀ t ∈ x.fin.to, 0 ≤ t ∧ t < (bs.length : Int)) (R : List Int) (hR : R = (layF bs (cntOf C)).map fun b : Nat => (b : Int)) :
    Calls Tryd.prog 19 #[.agg #[.string nm, .int .i64 p, .int .i64 r, .slice ba n bc], .slice ca n cc] w fun e w' =>
      ∃ a c, e = .returned (.slice a R.length c) ∧ SlAt (fun b => w.heap.size ≤ b) w' 1 rInt (.slice a R.length c) R ∧ Below w.heap.size w w' := by
  subst hbn
  have h := refLay_any nm p r ba bc bs ca cc C w hb hC hn0 hn hcn hto
  rw [hcn, ← hR] at h
  refine h.mono ?_
  rintro e w' ⟨v, rfl, hv, hb⟩
  obtain ⟨a, c, rfl⟩ := sl_len hv
  exact ⟨a, c, rfl, hv, hb⟩

set_option maxRecDepth 100000 in
set_option maxHeartbeats 4000000 in
theorem weighLaySays_any (w : World) (hw : Ways w) (ga : Option Addr) (gc : Nat) (fa : Option Addr) (fc : Nat) (gs : List DGlobal) (fs : List DFunc) (hg : SlAt (fun b => b < w.heap.size) w 3 rGlobal (.slice ga gs.length gc) gs) (hf : SlAt (fun b => b < w.heap.size) w 4 rFunc (.slice fa fs.length fc) fs)
    (hsm : Small gs fs) (k : Int) (hk1 : -9223372036854775808 ≤ k) (hk2 : k ≤ 9223372036854775807) (ca : Option Addr) (cc : Nat) (C : List Int) (hC : SlAt (fun b => b < w.heap.size) w 1 rInt (.slice ca C.length cc) C) (hcl : C.length ≤ 1048576) :
    Calls Tryd.prog 3 #[.agg #[.slice ga gs.length gc, .slice fa fs.length fc], .int .i64 k, .slice ca C.length cc] w fun e w' => e = .returned (.bool true) ∧ Below w.heap.size w w' := by
  have hgl := hsm.globals
  have hfl := hsm.funcs
  have Hsm := hid hsm.many
  have Hg := hid hg
  have Hf := hid hf
  have HC := hid hC
  have Hw := hid hw
  clear hg hf hC hw hsm
  go_enter Tryd.func3, Tryd.ntmps3
  obtain ⟨W, hW⟩ : ∃ W, W = (w.alloc (.cells #[.slice ga gs.length gc, .slice fa fs.length fc] 25)) := ⟨_, rfl⟩
  have hbW : Below w.heap.size w W := by rw [hW]; (repeat (first | exact Below.refl _ _ | refine Below.alloc ?_ (by first | omega | (simp <;> omega)) _ | refine Below.setCell ?_ (by first | omega | (simp <;> omega)) _ | refine below_drewN ?_ _ | refine Below.drew ?_))
  have HbW := hid hbW
  have W0 : Hid (W.cell? ⟨w.heap.size, 0, none⟩ = some (.slice ga gs.length gc)) := by show _ = _; rw [hW]; simp
  have W1 : Hid (W.cell? ⟨w.heap.size, 1, none⟩ = some (.slice fa fs.length fc)) := by show _ = _; rw [hW]; simp
  have hWs : W.heap.size = w.heap.size + 1 := by rw [hW]; simp
  have g0 := W0.out
  have g1 := W1.out
  go_wp2_with fail
  rw [← hW]
  have hwW : Ways W := Ways.below Hw.out hbW
  have HwW := hid hwW
  refine (Lay_any ga gc fa fc gs fs k ca cc C W (Hg.out.later rGlobal_mono hbW) (Hf.out.later rFunc_mono hbW) (HC.out.later rInt_mono hbW) hwW hgl hfl hcl Hsm.out).mono ?_
  rintro e w1 ⟨v1, rfl, hv1, hb1⟩
  obtain ⟨a1, e1, rfl⟩ := sl_len hv1
  obtain ⟨L1, c1, d1, hr1⟩ : ∃ L1 c1 d1, layS ⟨gs, fs⟩ k C = (L1, c1, d1) := ⟨_, _, _, rfl⟩
  rw [hr1] at hv1 ⊢
  have Hr1 := hid hr1
  have Hv1 := hid hv1
  have Hb1 := hid hb1
  have Hw1 : Hid (Below w.heap.size w w1) := hbW.trans (hb1.mono (by omega))
  have z1 : w.heap.size < w1.heap.size := by have := hb1.size; omega
  have g0' := cell_later' g0 hb1
  have g1' := cell_later' g1 hb1
  clear hr1 hv1 hb1 hbW hwW hW g0 g1
  simp only []
  go_wp2_with fail
  obtain ⟨W2, hW2⟩ : ∃ W2, W2 = w1.alloc (.cells #[.int .i64 c1, .int .i64 d1] 28) := ⟨_, rfl⟩
  rw [← hW2]
  have hb2 : Below w.heap.size w W2 := by rw [hW2]; have h := Hw1.out; (repeat (first | exact Below.refl _ _ | exact (h).mono (by first | omega | (simp <;> omega) | (have hh := (h).size; (try simp at hh); omega) | (have hh := (h).size; (try simp at hh); (try simp); omega)) | refine Below.trans ?_ ((h).mono (by first | omega | (simp <;> omega) | (have hh := (h).size; (try simp at hh); omega) | (have hh := (h).size; (try simp at hh); (try simp); omega))) | refine Below.alloc ?_ (by first | omega | (simp <;> omega) | (have hh := (h).size; (try simp at hh); omega) | (have hh := (h).size; (try simp at hh); (try simp); omega)) _ | refine Below.setCell ?_ (by first | omega | (simp <;> omega) | (have hh := (h).size; (try simp at hh); omega) | (have hh := (h).size; (try simp at hh); (try simp); omega)) _ | refine below_drewN ?_ _ | refine Below.drew ?_))
  have q0 : W2.cell? ⟨w.heap.size, 0, none⟩ = some (.slice ga gs.length gc) := by rw [hW2, World.cell?_alloc_past _ _ _ z1]; exact g0'
  have q1 : W2.cell? ⟨w.heap.size, 1, none⟩ = some (.slice fa fs.length fc) := by rw [hW2, World.cell?_alloc_past _ _ _ z1]; exact g1'
  have q2 : W2.cell? ⟨w1.heap.size, 0, none⟩ = some (.int .i64 c1) := by rw [hW2]; simp
  have q3 : W2.cell? ⟨w1.heap.size, 1, none⟩ = some (.int .i64 d1) := by rw [hW2]; simp
  have hV2 : SlAt (fun b => W.heap.size ≤ b) W2 1 rInt (.slice a1 L1.length e1) L1 := Hv1.out.later rInt_mono (by rw [hW2]; (repeat (first | exact Below.refl _ _ | refine Below.alloc ?_ (by first | omega | (simp <;> omega)) _ | refine Below.setCell ?_ (by first | omega | (simp <;> omega)) _ | refine below_drewN ?_ _ | refine Below.drew ?_)))
  have hwW2 : Ways W2 := Ways.below Hw.out hb2
  have hz2 : W2.heap.size = w1.heap.size + 1 := by rw [hW2]; simp
  refine (Lay_any ga gc fa fc gs fs (-1) ca cc C W2 (Hg.out.later rGlobal_mono hb2) (Hf.out.later rFunc_mono hb2) (HC.out.later rInt_mono hb2) hwW2 hgl hfl hcl Hsm.out).mono ?_
  rintro e w3 ⟨v2, rfl, hv2, hb3⟩
  obtain ⟨a2, e2, rfl⟩ := sl_len hv2
  obtain ⟨L2, c2, d2, hr2⟩ : ∃ L2 c2 d2, layS ⟨gs, fs⟩ (-1) C = (L2, c2, d2) := ⟨_, _, _, rfl⟩
  rw [hr2] at hv2 ⊢
  have Hr2 := hid hr2
  have Hw3 : Hid (Below w.heap.size w w3) := hb2.trans (hb3.mono (by omega))
  have r0 := cell_later' q0 hb3
  have r1 := cell_later' q1 hb3
  have r2 := cell_later' q2 hb3
  have r3 := cell_later' q3 hb3
  have z3 : w.heap.size < w3.heap.size := cell_lt r0
  have z4 : w1.heap.size < w3.heap.size := cell_lt r2
  have HV3 := hid (hV2.later rInt_mono hb3)
  have Hv2 := hid hv2
  clear hr2 hv2 hb3 hb2 q0 q1 q2 q3 hV2 hwW2 hW2 g0' g1' Hv1
  simp only []
  go_wp2_with fail
  obtain ⟨W4, hW4⟩ : ∃ W4, W4 = w3.alloc (.cells #[.int .i64 c2, .int .i64 d2] 28) := ⟨_, rfl⟩
  rw [← hW4]
  have hb4 : Below w.heap.size w W4 := by rw [hW4]; have h := Hw3.out; (repeat (first | exact Below.refl _ _ | exact (h).mono (by first | omega | (simp <;> omega) | (have hh := (h).size; (try simp at hh); omega) | (have hh := (h).size; (try simp at hh); (try simp); omega)) | refine Below.trans ?_ ((h).mono (by first | omega | (simp <;> omega) | (have hh := (h).size; (try simp at hh); omega) | (have hh := (h).size; (try simp at hh); (try simp); omega))) | refine Below.alloc ?_ (by first | omega | (simp <;> omega) | (have hh := (h).size; (try simp at hh); omega) | (have hh := (h).size; (try simp at hh); (try simp); omega)) _ | refine Below.setCell ?_ (by first | omega | (simp <;> omega) | (have hh := (h).size; (try simp at hh); omega) | (have hh := (h).size; (try simp at hh); (try simp); omega)) _ | refine below_drewN ?_ _ | refine Below.drew ?_))
  have q0 : W4.cell? ⟨w.heap.size, 0, none⟩ = some (.slice ga gs.length gc) := by rw [hW4, World.cell?_alloc_past _ _ _ z3]; exact r0
  have q1 : W4.cell? ⟨w.heap.size, 1, none⟩ = some (.slice fa fs.length fc) := by rw [hW4, World.cell?_alloc_past _ _ _ z3]; exact r1
  have q2 : W4.cell? ⟨w1.heap.size, 0, none⟩ = some (.int .i64 c1) := by rw [hW4, World.cell?_alloc_past _ _ _ z4]; exact r2
  have q3 : W4.cell? ⟨w1.heap.size, 1, none⟩ = some (.int .i64 d1) := by rw [hW4, World.cell?_alloc_past _ _ _ z4]; exact r3
  have q4 : W4.cell? ⟨w3.heap.size, 0, none⟩ = some (.int .i64 c2) := by rw [hW4]; simp
  have q5 : W4.cell? ⟨w3.heap.size, 1, none⟩ = some (.int .i64 d2) := by rw [hW4]; simp
  have hV4 : SlAt (fun b => W.heap.size ≤ b) W4 1 rInt (.slice a1 L1.length e1) L1 := HV3.out.later rInt_mono (by rw [hW4]; (repeat (first | exact Below.refl _ _ | refine Below.alloc ?_ (by first | omega | (simp <;> omega)) _ | refine Below.setCell ?_ (by first | omega | (simp <;> omega)) _ | refine below_drewN ?_ _ | refine Below.drew ?_)))
  have hz4 : W4.heap.size = w3.heap.size + 1 := by rw [hW4]; simp
  refine (check_any ga gc fa fc gs fs W4 (Hg.out.later rGlobal_mono hb4) (Hf.out.later rFunc_mono hb4) (Ways.below Hw.out hb4) hgl hfl Hsm.out).mono ?_
  rintro e w5 ⟨rfl, hb5⟩
  have Hw5 : Hid (Below w.heap.size w w5) := hb4.trans (hb5.mono (by omega))
  have g0 := cell_later' q0 hb5
  have g1 := cell_later' q1 hb5
  have g2 := cell_later' q2 hb5
  have g3 := cell_later' q3 hb5
  have g4 := cell_later' q4 hb5
  have g5 := cell_later' q5 hb5
  have Hv5 := hid (hV4.later rInt_mono hb5)
  have y0 : w.heap.size < w5.heap.size := cell_lt g0
  have y1 : w1.heap.size < w5.heap.size := cell_lt g2
  have y2 : w3.heap.size < w5.heap.size := cell_lt g4
  obtain ⟨c, hc⟩ : ∃ c, c = (checkF ⟨gs, fs⟩).1 := ⟨_, rfl⟩
  obtain ⟨d, hd⟩ : ∃ d, d = (checkF ⟨gs, fs⟩).2 := ⟨_, rfl⟩
  have Hcd : Hid (checkF ⟨gs, fs⟩ = (c, d)) := by show _ = _; rw [hc, hd]
  rw [← hc, ← hd]
  clear hb5 hb4 q0 q1 q2 q3 q4 q5 hV4 hW4 hc hd r0 r1 r2 r3 HV3 z1 z3 z4 hz2 hz4
  by_cases hc0 : c = 0
  · subst hc0
    have hd0 : d = 0 := by
      have h := checkF_zero (u := ⟨gs, fs⟩) (by rw [Hcd.out])
      rw [Hcd.out] at h
      exact congrArg Prod.snd h
    subst hd0
    have h2 : layS ⟨gs, fs⟩ (-1) C = ([], 3, -1) := by
      unfold layS
      rw [Hcd.out, if_neg (by simp), if_pos (by decide)]
    rw [Hr2.out] at h2
    cases h2
    go_wp2_with fail
    go_region_with (first | (go_at_call 17; refine (sfault_x _ _ _).mono ?_; rintro e w' ⟨rfl, rfl⟩))
    all_goals
      by_cases hk0 : k < 0
      · have hq : decide (k < 0) = true := decide_eq_true hk0
        have h1 : layS ⟨gs, fs⟩ k C = ([], 3, -1) := by
          unfold layS
          rw [Hcd.out, if_neg (by simp), if_pos hk0]
        rw [Hr1.out] at h1
        cases h1
        go_wp2_with fail
        go_ret
        exact ⟨rfl, by have h := Hw5.out; (repeat (first | exact Below.refl _ _ | exact (h).mono (by first | omega | (simp <;> omega) | (have hh := (h).size; (try simp at hh); omega) | (have hh := (h).size; (try simp at hh); (try simp); omega)) | refine Below.trans ?_ ((h).mono (by first | omega | (simp <;> omega) | (have hh := (h).size; (try simp at hh); omega) | (have hh := (h).size; (try simp at hh); (try simp); omega))) | refine Below.alloc ?_ (by first | omega | (simp <;> omega) | (have hh := (h).size; (try simp at hh); omega) | (have hh := (h).size; (try simp at hh); (try simp); omega)) _ | refine Below.setCell ?_ (by first | omega | (simp <;> omega) | (have hh := (h).size; (try simp at hh); omega) | (have hh := (h).size; (try simp at hh); (try simp); omega)) _ | refine below_drewN ?_ _ | refine Below.drew ?_))⟩
      · have hq : decide (k < 0) = false := decide_eq_false hk0
        by_cases hkn : k.toNat < fs.length
        · obtain ⟨kk, rfl⟩ := Int.eq_ofNat_of_zero_le (by omega : 0 ≤ k)
          rw [Int.toNat_natCast] at hkn
          obtain ⟨b, off, cs, rfl, -, hx, -, hcs⟩ := Hf.out.get hkn
          obtain ⟨xa, xc, rfl, hxb, -, -, -⟩ := hx.opens
          obtain ⟨c0, c1', c2', c3⟩ := (hcs.later Hw5.out).get4
          obtain ⟨n1, n2, n3⟩ := checkF_func (u := ⟨gs, fs⟩) (k := kk) (f := fs[kk]) (by rw [Hcd.out]) (List.getElem?_eq_getElem hkn)
          have N3 := hid n3
          have Hxb := hid hxb
          have hb9 : b < w5.heap.size := cell_lt c3
          clear hcs hx n3 hxb
          by_cases hlen : C.length = fs[kk].blocks.length
          · have h1 : layS ⟨gs, fs⟩ (kk : Int) C = ((layF fs[kk].blocks (cntOf C)).map fun b : Nat => (b : Int), 0, 0) := by
              unfold layS
              rw [Hcd.out, if_neg (by simp), if_neg hk0]
              dsimp only
              rw [Int.toNat_natCast, List.getElem?_eq_getElem hkn]
              dsimp only
              rw [if_neg (by simpa using hlen)]
            obtain ⟨R, hR⟩ : ∃ R : List Int, R = (layF fs[kk].blocks (cntOf C)).map fun b : Nat => (b : Int) := ⟨_, rfl⟩
            rw [Hr1.out, ← hR] at h1
            obtain ⟨e1', e2', e3'⟩ : L1 = R ∧ c1 = 0 ∧ d1 = 0 := by simpa using h1
            have HR : Hid (L1 = (layF fs[kk].blocks (cntOf C)).map fun b : Nat => (b : Int)) := e1'.trans hR
            subst e2' e3'
            clear hR e1' h1
            have hto : ∀ (i : Nat) (x : DBlock), fs[kk].blocks[i]? = some x → ∀ t ∈ x.fin.to, 0 ≤ t ∧ t < (fs[kk].blocks.length : Int) := by
              intro i x hx t ht
              have h := endE_ok (N3.out i x hx)
              have := h.2.2.2.1 t ht
              omega
            have hol : L1.length ≤ 1048576 := by
              have h := layF_once (c := cntOf C) (bs := fs[kk].blocks) (by omega) (targets_lt hto)
              rw [HR.out, List.length_map, h.2.1]; omega
            have Hto := hid hto
            have Hol := hid hol
            have hq3 : C.length = fs[kk].blocks.length := hlen
            clear hto hol
            go_wp2_with fail
            refine Calls.mono (refLay_any' _ _ _ xa xc fs[kk].blocks ca cc C _ _ (Hxb.out.later rBlock_mono ?_) (HC.out.later rInt_mono ?_) (by omega) (by omega) rfl hlen Hto.out L1 HR.out) ?_
            · have h := Hw5.out; (repeat (first | exact Below.refl _ _ | exact (h).mono (by first | omega | (simp <;> omega) | (have hh := (h).size; (try simp at hh); omega) | (have hh := (h).size; (try simp at hh); (try simp); omega)) | refine Below.trans ?_ ((h).mono (by first | omega | (simp <;> omega) | (have hh := (h).size; (try simp at hh); omega) | (have hh := (h).size; (try simp at hh); (try simp); omega))) | refine Below.alloc ?_ (by first | omega | (simp <;> omega) | (have hh := (h).size; (try simp at hh); omega) | (have hh := (h).size; (try simp at hh); (try simp); omega)) _ | refine Below.setCell ?_ (by first | omega | (simp <;> omega) | (have hh := (h).size; (try simp at hh); omega) | (have hh := (h).size; (try simp at hh); (try simp); omega)) _ | refine below_drewN ?_ _ | refine Below.drew ?_))
            · have h := Hw5.out; (repeat (first | exact Below.refl _ _ | exact (h).mono (by first | omega | (simp <;> omega) | (have hh := (h).size; (try simp at hh); omega) | (have hh := (h).size; (try simp at hh); (try simp); omega)) | refine Below.trans ?_ ((h).mono (by first | omega | (simp <;> omega) | (have hh := (h).size; (try simp at hh); omega) | (have hh := (h).size; (try simp at hh); (try simp); omega))) | refine Below.alloc ?_ (by first | omega | (simp <;> omega) | (have hh := (h).size; (try simp at hh); omega) | (have hh := (h).size; (try simp at hh); (try simp); omega)) _ | refine Below.setCell ?_ (by first | omega | (simp <;> omega) | (have hh := (h).size; (try simp at hh); omega) | (have hh := (h).size; (try simp at hh); (try simp); omega)) _ | refine below_drewN ?_ _ | refine Below.drew ?_))
            · rintro e w6 ⟨a6, e6, rfl, hv6, hb6⟩
              have Hv6 := hid hv6
              have Hb6 := hid hb6
              clear hv6
              go_wp2_with fail
              refine (ints_any _ _ _ _ _ _ _ (Hv5.out.later rInt_mono ?_) Hv6.out Hol.out Hol.out).mono ?_
              · have h := Hb6.out; (repeat (first | exact Below.refl _ _ | exact (h).mono (by first | omega | (simp <;> omega) | (have hh := (h).size; (try simp at hh); omega) | (have hh := (h).size; (try simp at hh); (try simp); omega)) | refine Below.trans ?_ ((h).mono (by first | omega | (simp <;> omega) | (have hh := (h).size; (try simp at hh); omega) | (have hh := (h).size; (try simp at hh); (try simp); omega))) | refine Below.alloc ?_ (by first | omega | (simp <;> omega) | (have hh := (h).size; (try simp at hh); omega) | (have hh := (h).size; (try simp at hh); (try simp); omega)) _ | refine Below.setCell ?_ (by first | omega | (simp <;> omega) | (have hh := (h).size; (try simp at hh); omega) | (have hh := (h).size; (try simp at hh); (try simp); omega)) _ | refine below_drewN ?_ _ | refine Below.drew ?_))
              · rintro e w7 ⟨rfl, hb7⟩
                have Hb7 := hid hb7
                clear hb7
                simp only [decide_true]
                go_wp2_with fail
                go_ret
                exact ⟨rfl, by have h := Hw5.out; have h2 := Hb6.out; have h3 := Hb7.out; (repeat (first | exact Below.refl _ _ | exact (h3).mono (by first | omega | (simp <;> omega) | (have hh := (h3).size; (try simp at hh); omega) | (have hh := (h3).size; (try simp at hh); (try simp); omega) | (have hh := (h2).size; (try simp at hh); omega) | (have hh := (h2).size; (try simp at hh); (try simp); omega) | (have hh := (h).size; (try simp at hh); omega) | (have hh := (h).size; (try simp at hh); (try simp); omega)) | refine Below.trans ?_ ((h3).mono (by first | omega | (simp <;> omega) | (have hh := (h3).size; (try simp at hh); omega) | (have hh := (h3).size; (try simp at hh); (try simp); omega) | (have hh := (h2).size; (try simp at hh); omega) | (have hh := (h2).size; (try simp at hh); (try simp); omega) | (have hh := (h).size; (try simp at hh); omega) | (have hh := (h).size; (try simp at hh); (try simp); omega))) | exact (h2).mono (by first | omega | (simp <;> omega) | (have hh := (h3).size; (try simp at hh); omega) | (have hh := (h3).size; (try simp at hh); (try simp); omega) | (have hh := (h2).size; (try simp at hh); omega) | (have hh := (h2).size; (try simp at hh); (try simp); omega) | (have hh := (h).size; (try simp at hh); omega) | (have hh := (h).size; (try simp at hh); (try simp); omega)) | refine Below.trans ?_ ((h2).mono (by first | omega | (simp <;> omega) | (have hh := (h3).size; (try simp at hh); omega) | (have hh := (h3).size; (try simp at hh); (try simp); omega) | (have hh := (h2).size; (try simp at hh); omega) | (have hh := (h2).size; (try simp at hh); (try simp); omega) | (have hh := (h).size; (try simp at hh); omega) | (have hh := (h).size; (try simp at hh); (try simp); omega))) | exact (h).mono (by first | omega | (simp <;> omega) | (have hh := (h3).size; (try simp at hh); omega) | (have hh := (h3).size; (try simp at hh); (try simp); omega) | (have hh := (h2).size; (try simp at hh); omega) | (have hh := (h2).size; (try simp at hh); (try simp); omega) | (have hh := (h).size; (try simp at hh); omega) | (have hh := (h).size; (try simp at hh); (try simp); omega)) | refine Below.trans ?_ ((h).mono (by first | omega | (simp <;> omega) | (have hh := (h3).size; (try simp at hh); omega) | (have hh := (h3).size; (try simp at hh); (try simp); omega) | (have hh := (h2).size; (try simp at hh); omega) | (have hh := (h2).size; (try simp at hh); (try simp); omega) | (have hh := (h).size; (try simp at hh); omega) | (have hh := (h).size; (try simp at hh); (try simp); omega))) | refine Below.alloc ?_ (by first | omega | (simp <;> omega) | (have hh := (h3).size; (try simp at hh); omega) | (have hh := (h3).size; (try simp at hh); (try simp); omega) | (have hh := (h2).size; (try simp at hh); omega) | (have hh := (h2).size; (try simp at hh); (try simp); omega) | (have hh := (h).size; (try simp at hh); omega) | (have hh := (h).size; (try simp at hh); (try simp); omega)) _ | refine Below.setCell ?_ (by first | omega | (simp <;> omega) | (have hh := (h3).size; (try simp at hh); omega) | (have hh := (h3).size; (try simp at hh); (try simp); omega) | (have hh := (h2).size; (try simp at hh); omega) | (have hh := (h2).size; (try simp at hh); (try simp); omega) | (have hh := (h).size; (try simp at hh); omega) | (have hh := (h).size; (try simp at hh); (try simp); omega)) _ | refine below_drewN ?_ _ | refine Below.drew ?_))⟩
          · have h1 : layS ⟨gs, fs⟩ (kk : Int) C = ([], 9, -1) := by
              unfold layS
              rw [Hcd.out, if_neg (by simp), if_neg hk0]
              dsimp only
              rw [Int.toNat_natCast, List.getElem?_eq_getElem hkn]
              dsimp only
              rw [if_pos hlen]
            rw [Hr1.out] at h1
            cases h1
            go_wp2_with fail
            obtain ⟨W6, hW6⟩ : ∃ W6, W6 = ((w5.alloc (.cells #[.int .i64 0, .int .i64 0] 28)).alloc (.cells #[.int .i64 3, .int .i64 (-1)] 28)).drew := ⟨_, rfl⟩
            rw [← hW6]
            have hb6 : Below w5.heap.size w5 W6 := by rw [hW6]; (repeat (first | exact Below.refl _ _ | refine Below.alloc ?_ (by first | omega | (simp <;> omega)) _ | refine Below.setCell ?_ (by first | omega | (simp <;> omega)) _ | refine below_drewN ?_ _ | refine Below.drew ?_))
            have m0 := cell_later' g2 hb6
            have m1 := cell_later' g3 hb6
            have Hb6 := hid hb6
            clear hW6 hb6 g0 g1 g2 g3 g4 g5
            go_region_held3 (fun w' => w'.cell? ⟨w1.heap.size, 0, none⟩ = some (.int .i64 9) ∧ w'.cell? ⟨w1.heap.size, 1, none⟩ = some (.int .i64 (-1))) (simp [go_sem, *]) ((go_at_call 17; refine (sfault_any _ _ _).mono ?_; rintro e w7 ⟨rfl, hb7⟩; have m2 : w7.cell? ⟨w1.heap.size, 0, none⟩ = some (.int .i64 9) := (hb7.cell (p := ⟨w1.heap.size, 0, none⟩) (cell_lt m0)).trans m0; have m3 : w7.cell? ⟨w1.heap.size, 1, none⟩ = some (.int .i64 (-1)) := (hb7.cell (p := ⟨w1.heap.size, 1, none⟩) (cell_lt m1)).trans m1))
            all_goals
              go_wp2_with fail
              go_ret
              exact ⟨rfl, by have h := Hw5.out; have h2 := Hb6.out; (repeat (first | exact Below.refl _ _ | exact (hb7).mono (by first | omega | (simp <;> omega) | (have hh := (hb7).size; (try simp at hh); omega) | (have hh := (hb7).size; (try simp at hh); (try simp); omega) | (have hh := (h2).size; (try simp at hh); omega) | (have hh := (h2).size; (try simp at hh); (try simp); omega) | (have hh := (h).size; (try simp at hh); omega) | (have hh := (h).size; (try simp at hh); (try simp); omega)) | refine Below.trans ?_ ((hb7).mono (by first | omega | (simp <;> omega) | (have hh := (hb7).size; (try simp at hh); omega) | (have hh := (hb7).size; (try simp at hh); (try simp); omega) | (have hh := (h2).size; (try simp at hh); omega) | (have hh := (h2).size; (try simp at hh); (try simp); omega) | (have hh := (h).size; (try simp at hh); omega) | (have hh := (h).size; (try simp at hh); (try simp); omega))) | exact (h2).mono (by first | omega | (simp <;> omega) | (have hh := (hb7).size; (try simp at hh); omega) | (have hh := (hb7).size; (try simp at hh); (try simp); omega) | (have hh := (h2).size; (try simp at hh); omega) | (have hh := (h2).size; (try simp at hh); (try simp); omega) | (have hh := (h).size; (try simp at hh); omega) | (have hh := (h).size; (try simp at hh); (try simp); omega)) | refine Below.trans ?_ ((h2).mono (by first | omega | (simp <;> omega) | (have hh := (hb7).size; (try simp at hh); omega) | (have hh := (hb7).size; (try simp at hh); (try simp); omega) | (have hh := (h2).size; (try simp at hh); omega) | (have hh := (h2).size; (try simp at hh); (try simp); omega) | (have hh := (h).size; (try simp at hh); omega) | (have hh := (h).size; (try simp at hh); (try simp); omega))) | exact (h).mono (by first | omega | (simp <;> omega) | (have hh := (hb7).size; (try simp at hh); omega) | (have hh := (hb7).size; (try simp at hh); (try simp); omega) | (have hh := (h2).size; (try simp at hh); omega) | (have hh := (h2).size; (try simp at hh); (try simp); omega) | (have hh := (h).size; (try simp at hh); omega) | (have hh := (h).size; (try simp at hh); (try simp); omega)) | refine Below.trans ?_ ((h).mono (by first | omega | (simp <;> omega) | (have hh := (hb7).size; (try simp at hh); omega) | (have hh := (hb7).size; (try simp at hh); (try simp); omega) | (have hh := (h2).size; (try simp at hh); omega) | (have hh := (h2).size; (try simp at hh); (try simp); omega) | (have hh := (h).size; (try simp at hh); omega) | (have hh := (h).size; (try simp at hh); (try simp); omega))) | refine Below.alloc ?_ (by first | omega | (simp <;> omega) | (have hh := (hb7).size; (try simp at hh); omega) | (have hh := (hb7).size; (try simp at hh); (try simp); omega) | (have hh := (h2).size; (try simp at hh); omega) | (have hh := (h2).size; (try simp at hh); (try simp); omega) | (have hh := (h).size; (try simp at hh); omega) | (have hh := (h).size; (try simp at hh); (try simp); omega)) _ | refine Below.setCell ?_ (by first | omega | (simp <;> omega) | (have hh := (hb7).size; (try simp at hh); omega) | (have hh := (hb7).size; (try simp at hh); (try simp); omega) | (have hh := (h2).size; (try simp at hh); omega) | (have hh := (h2).size; (try simp at hh); (try simp); omega) | (have hh := (h).size; (try simp at hh); omega) | (have hh := (h).size; (try simp at hh); (try simp); omega)) _ | refine below_drewN ?_ _ | refine Below.drew ?_))⟩
        · have hq2 : decide (k < (fs.length : Int)) = false := decide_eq_false (by omega)
          have h1 : layS ⟨gs, fs⟩ k C = ([], 3, -1) := by
            unfold layS
            rw [Hcd.out, if_neg (by simp), if_neg hk0]
            dsimp only
            rw [List.getElem?_eq_none (by omega)]
          rw [Hr1.out] at h1
          cases h1
          go_wp2_with fail
          go_ret
          exact ⟨rfl, by have h := Hw5.out; (repeat (first | exact Below.refl _ _ | exact (h).mono (by first | omega | (simp <;> omega) | (have hh := (h).size; (try simp at hh); omega) | (have hh := (h).size; (try simp at hh); (try simp); omega)) | refine Below.trans ?_ ((h).mono (by first | omega | (simp <;> omega) | (have hh := (h).size; (try simp at hh); omega) | (have hh := (h).size; (try simp at hh); (try simp); omega))) | refine Below.alloc ?_ (by first | omega | (simp <;> omega) | (have hh := (h).size; (try simp at hh); omega) | (have hh := (h).size; (try simp at hh); (try simp); omega)) _ | refine Below.setCell ?_ (by first | omega | (simp <;> omega) | (have hh := (h).size; (try simp at hh); omega) | (have hh := (h).size; (try simp at hh); (try simp); omega)) _ | refine below_drewN ?_ _ | refine Below.drew ?_))⟩
  · have hq : (decide (c < 0) || decide (0 < c)) = true := by rw [Bool.eq_iff_iff]; simp; omega
    have h1 : layS ⟨gs, fs⟩ k C = ([], c, d) := by
      unfold layS
      rw [Hcd.out, if_pos (fun e => hc0 (congrArg Prod.fst e))]
    have h2 : layS ⟨gs, fs⟩ (-1) C = ([], c, d) := by
      unfold layS
      rw [Hcd.out, if_pos (fun e => hc0 (congrArg Prod.fst e))]
    rw [Hr1.out] at h1
    rw [Hr2.out] at h2
    cases h1
    cases h2
    go_wp2_with fail
    go_ret
    exact ⟨rfl, by have h := Hw5.out; (repeat (first | exact Below.refl _ _ | exact (h).mono (by first | omega | (simp <;> omega) | (have hh := (h).size; (try simp at hh); omega) | (have hh := (h).size; (try simp at hh); (try simp); omega)) | refine Below.trans ?_ ((h).mono (by first | omega | (simp <;> omega) | (have hh := (h).size; (try simp at hh); omega) | (have hh := (h).size; (try simp at hh); (try simp); omega))) | refine Below.alloc ?_ (by first | omega | (simp <;> omega) | (have hh := (h).size; (try simp at hh); omega) | (have hh := (h).size; (try simp at hh); (try simp); omega)) _ | refine Below.setCell ?_ (by first | omega | (simp <;> omega) | (have hh := (h).size; (try simp at hh); omega) | (have hh := (h).size; (try simp at hh); (try simp); omega)) _ | refine below_drewN ?_ _ | refine Below.drew ?_))⟩

end Go.Proofs.YtaehkcnankijfaaDoor
