/- calls.Graph: of a checked unit the graph, else the fault. calls.Order of a unit: of a checked one the order, else the fault. -/
import Derived.Test.YtaehkcnankijfaaDoorPGraph
import Derived.Test.YtaehkcnankijfaaDoorPHotW
namespace Go.Proofs.YtaehkcnankijfaaDoor
open Go.RowKit

set_option maxRecDepth 100000 in
set_option maxHeartbeats 4000000 in
theorem graphOk_any {S : Nat → Prop} (ga : Option Addr) (gc : Nat) (fa : Option Addr) (fc : Nat) (gs : List DGlobal) (fs : List DFunc) (w : World)
    (hg : SlAt S w 3 rGlobal (.slice ga gs.length gc) gs) (hf : SlAt S w 4 rFunc (.slice fa fs.length fc) fs) (hw : Ways w) (hS : ∀ b, S b → b < w.heap.size)
    (hgl : gs.length ≤ 1048576) (hfl : fs.length ≤ 1048576) (hsm : ∀ (k : Nat) (f : DFunc), fs[k]? = some f → manyOf f.blocks ≤ 1048576 ∧ f.blocks.length ≤ 1048576) (hck : checkF ⟨gs, fs⟩ = (0, 0)) :
    Calls Tryd.prog 109 #[.agg #[.slice ga gs.length gc, .slice fa fs.length fc]] w fun e w' => GraphPost fs fs.length w e w' := by
  have Hg := hid hg
  have Hf := hid hf
  have Hw := hid hw
  have Hsm := hid hsm
  have HS := hid hS
  have Hck := hid hck
  clear hg hf hw hsm hS hck
  go_enter Tryd.func109, Tryd.ntmps109
  obtain ⟨W, hW⟩ : ∃ W, W = (w.alloc (.cells #[.slice ga gs.length gc, .slice fa fs.length fc] 25)).alloc (.cells #[.int .i64 0, .int .i64 0] 28) := ⟨_, rfl⟩
  have hbW : Below w.heap.size w W := by rw [hW]; (repeat (first | exact Below.refl _ _ | refine Below.alloc ?_ (by first | omega | (simp <;> omega)) _ | refine Below.setCell ?_ (by first | omega | (simp <;> omega)) _ | refine below_drewN ?_ _ | refine Below.drew ?_))
  have HbW := hid hbW
  have W0 : Hid (W.cell? ⟨w.heap.size, 0, none⟩ = some (.slice ga gs.length gc)) := by show _ = _; rw [hW]; simp
  have W1 : Hid (W.cell? ⟨w.heap.size, 1, none⟩ = some (.slice fa fs.length fc)) := by show _ = _; rw [hW]; simp
  have R0 : Hid (W.cell? ⟨w.heap.size + 1, 0, none⟩ = some (.int .i64 0)) := by show _ = _; rw [hW]; simp
  have R1 : Hid (W.cell? ⟨w.heap.size + 1, 1, none⟩ = some (.int .i64 0)) := by show _ = _; rw [hW]; simp
  have F0 : Hid (W.frozen? ⟨w.heap.size + 1, 0, none⟩ = false) := by show _ = _; rw [hW]; simp
  have F1 : Hid (W.frozen? ⟨w.heap.size + 1, 1, none⟩ = false) := by show _ = _; rw [hW]; simp
  have hWs : W.heap.size = w.heap.size + 2 := by rw [hW]; simp
  go_wp2_with fail
  rw [← hW]
  refine (check_any (S := S) ga gc fa fc gs fs W (Hg.out.later rGlobal_mono hbW) (Hf.out.later rFunc_mono hbW) (Ways.below Hw.out hbW) hgl hfl Hsm.out).mono ?_
  rintro e w1 ⟨rfl, hb1⟩
  rw [Hck.out]
  have g0 := cell_later' W0.out hb1
  have g1 := cell_later' W1.out hb1
  have g2 := cell_later' R0.out hb1
  have g3 := cell_later' R1.out hb1
  have k2 := (hb1.frozen (p := ⟨w.heap.size + 1, 0, none⟩) (by simp; omega)).trans F0.out
  have k3 := (hb1.frozen (p := ⟨w.heap.size + 1, 1, none⟩) (by simp; omega)).trans F1.out
  have z1 : w.heap.size + 1 < w1.heap.size := cell_lt g2
  have z0 : w.heap.size < w1.heap.size := cell_lt g0
  have Hw1 : Hid (Below w.heap.size w w1) := HbW.out.trans (hb1.mono (by omega))
  obtain ⟨UB, hUB⟩ : ∃ UB, UB = w.heap.size := ⟨_, rfl⟩
  have HUB := hid hUB
  rw [← hUB] at g0 g1 g2 g3 k2 k3 z1 z0
  clear hb1 hW hbW hWs W0 W1 R0 R1 F0 F1
  rw [← hUB]
  clear hUB
  simp only []
  go_wp2_with fail
  obtain ⟨W2, hW2⟩ : ∃ W2, W2 = w1.alloc (.cells #[.int .i64 0, .int .i64 0] 28) := ⟨_, rfl⟩
  have hb2 : Below w1.heap.size w1 W2 := by rw [hW2]; (repeat (first | exact Below.refl _ _ | refine Below.alloc ?_ (by first | omega | (simp <;> omega)) _ | refine Below.setCell ?_ (by first | omega | (simp <;> omega)) _ | refine below_drewN ?_ _ | refine Below.drew ?_))
  have e0 := cell_later' g0 hb2
  have e1 := cell_later' g1 hb2
  have e2 := cell_later' g2 hb2
  have e3 := cell_later' g3 hb2
  have f2 := (hb2.frozen (p := ⟨UB + 1, 0, none⟩) z1).trans k2
  have f3 := (hb2.frozen (p := ⟨UB + 1, 1, none⟩) z1).trans k3
  have z2 : UB + 1 < W2.heap.size := cell_lt e2
  have Hw2 : Hid (Below w.heap.size w W2) := Hw1.out.trans (hb2.mono Hw1.out.size)
  rw [← hW2]
  clear hW2 hb2 g0 g1 g2 g3 k2 k3
  refine (graph_any (S := S) ga fa gs.length gc fc fs W2 (Hf.out.later rFunc_mono Hw2.out) (fun b hb => Nat.lt_of_lt_of_le (HS.out b hb) Hw2.out.size) hfl Hsm.out).mono ?_
  rintro e w3 ⟨AB, rfl, hsl, hb3⟩
  have Hsl := hid hsl
  have g2 := cell_later' e2 hb3
  have g3 := cell_later' e3 hb3
  have k2 := (hb3.frozen (p := ⟨UB + 1, 0, none⟩) z2).trans f2
  have k3 := (hb3.frozen (p := ⟨UB + 1, 1, none⟩) z2).trans f3
  have z3 : UB + 1 < w3.heap.size := cell_lt g2
  have Hw3 : Hid (Below w.heap.size w w3) := Hw2.out.trans (hb3.mono Hw2.out.size)
  have HW2z : Hid (w.heap.size ≤ W2.heap.size ∧ UB + 1 < W2.heap.size) := ⟨Hw2.out.size, z2⟩
  clear hsl hb3 e0 e1 e2 e3 f2 f3
  simp only []
  go_wp2_with fail
  have q := set_two (w := w3) (u := .int .i64 0) (v := .int .i64 0) g2 g3
  refine bodyPost_ret (res_ord (v := .slice (some ⟨AB, 0, none⟩) fs.length fs.length) rfl rfl rfl (c := 0) (a := 0) q.1 q.2) rfl ?_
  have hz1 : ((w3.setCell ⟨UB + 1, 0, none⟩ (.int .i64 0)).setCell ⟨UB + 1, 1, none⟩ (.int .i64 0)).heap.size = w3.heap.size := by simp [World.setCell]
  refine ⟨some ⟨AB, 0, none⟩, fs.length, graphF fs, rfl, graphF_ok (u := ⟨gs, fs⟩) Hck.out, ?_, graphF_len (fun k f h => (Hsm.out k f h).1), ?_⟩
  · have h1 := HW2z.out
    exact Hsl.out.mono rRow_mono (fun b hb => ⟨by have := hb.1; omega, by rw [hz1]; exact hb.2⟩) (stays_at fun b hb _ => by
      have := hb.1
      rw [Below.heap_setCell _ _ _ _ (by dsimp only; omega), Below.heap_setCell _ _ _ _ (by dsimp only; omega)])
  · exact (Hw3.out.setCell (p := ⟨UB + 1, 0, none⟩) (by dsimp only; rw [HUB.out]; omega) _).setCell (p := ⟨UB + 1, 1, none⟩) (by dsimp only; rw [HUB.out]; omega) _

set_option maxRecDepth 100000 in
set_option maxHeartbeats 4000000 in
theorem graphBad_any {S : Nat → Prop} (ga : Option Addr) (gc : Nat) (fa : Option Addr) (fc : Nat) (gs : List DGlobal) (fs : List DFunc) (w : World)
    (hg : SlAt S w 3 rGlobal (.slice ga gs.length gc) gs) (hf : SlAt S w 4 rFunc (.slice fa fs.length fc) fs) (hw : Ways w)
    (hgl : gs.length ≤ 1048576) (hfl : fs.length ≤ 1048576) (hsm : ∀ (k : Nat) (f : DFunc), fs[k]? = some f → manyOf f.blocks ≤ 1048576 ∧ f.blocks.length ≤ 1048576) (c d : Int) (hck : checkF ⟨gs, fs⟩ = (c, d)) (hc0 : c ≠ 0) :
    Calls Tryd.prog 109 #[.agg #[.slice ga gs.length gc, .slice fa fs.length fc]] w fun e w' => e = .returned (.tuple #[.slice none 0 0, .agg #[.int .i64 c, .int .i64 d]]) ∧ Below w.heap.size w w' := by
  have Hg := hid hg
  have Hf := hid hf
  have Hw := hid hw
  have Hsm := hid hsm
  have Hck := hid hck
  clear hg hf hw hsm hck
  go_enter Tryd.func109, Tryd.ntmps109
  obtain ⟨W, hW⟩ : ∃ W, W = (w.alloc (.cells #[.slice ga gs.length gc, .slice fa fs.length fc] 25)).alloc (.cells #[.int .i64 0, .int .i64 0] 28) := ⟨_, rfl⟩
  have hbW : Below w.heap.size w W := by rw [hW]; (repeat (first | exact Below.refl _ _ | refine Below.alloc ?_ (by first | omega | (simp <;> omega)) _ | refine Below.setCell ?_ (by first | omega | (simp <;> omega)) _ | refine below_drewN ?_ _ | refine Below.drew ?_))
  have HbW := hid hbW
  have R0 : Hid (W.cell? ⟨w.heap.size + 1, 0, none⟩ = some (.int .i64 0)) := by show _ = _; rw [hW]; simp
  have R1 : Hid (W.cell? ⟨w.heap.size + 1, 1, none⟩ = some (.int .i64 0)) := by show _ = _; rw [hW]; simp
  have F0 : Hid (W.frozen? ⟨w.heap.size + 1, 0, none⟩ = false) := by show _ = _; rw [hW]; simp
  have F1 : Hid (W.frozen? ⟨w.heap.size + 1, 1, none⟩ = false) := by show _ = _; rw [hW]; simp
  have hWs : W.heap.size = w.heap.size + 2 := by rw [hW]; simp
  go_wp2_with fail
  rw [← hW]
  refine (check_any (S := S) ga gc fa fc gs fs W (Hg.out.later rGlobal_mono hbW) (Hf.out.later rFunc_mono hbW) (Ways.below Hw.out hbW) hgl hfl Hsm.out).mono ?_
  rintro e w1 ⟨rfl, hb1⟩
  rw [Hck.out]
  have g2 := cell_later' R0.out hb1
  have g3 := cell_later' R1.out hb1
  have k2 := (hb1.frozen (p := ⟨w.heap.size + 1, 0, none⟩) (by simp; omega)).trans F0.out
  have k3 := (hb1.frozen (p := ⟨w.heap.size + 1, 1, none⟩) (by simp; omega)).trans F1.out
  have z1 : w.heap.size + 1 < w1.heap.size := cell_lt g2
  have Hw1 : Hid (Below w.heap.size w w1) := HbW.out.trans (hb1.mono (by omega))
  obtain ⟨UB, hUB⟩ : ∃ UB, UB = w.heap.size := ⟨_, rfl⟩
  have HUB := hid hUB
  rw [← hUB] at g2 g3 k2 k3 z1
  clear hb1 hW hbW hWs R0 R1 F0 F1
  rw [← hUB]
  have hq : ((decide (c < 0) || decide (0 < c)) || (decide (d < 0) || decide (0 < d))) = true := by rw [Bool.eq_iff_iff]; simp; omega
  clear hUB hc0
  simp only []
  go_wp2_with fail
  obtain ⟨W2, hW2⟩ : ∃ W2, W2 = w1.alloc (.cells #[.int .i64 c, .int .i64 d] 28) := ⟨_, rfl⟩
  have hb2 : Below w1.heap.size w1 W2 := by rw [hW2]; (repeat (first | exact Below.refl _ _ | refine Below.alloc ?_ (by first | omega | (simp <;> omega)) _ | refine Below.setCell ?_ (by first | omega | (simp <;> omega)) _ | refine below_drewN ?_ _ | refine Below.drew ?_))
  have c0 : W2.cell? ⟨w1.heap.size, 0, none⟩ = some (.int .i64 c) := by rw [hW2]; simp
  have c1 : W2.cell? ⟨w1.heap.size, 1, none⟩ = some (.int .i64 d) := by rw [hW2]; simp
  have e2 := cell_later' g2 hb2
  have e3 := cell_later' g3 hb2
  have f2 := (hb2.frozen (p := ⟨UB + 1, 0, none⟩) z1).trans k2
  have f3 := (hb2.frozen (p := ⟨UB + 1, 1, none⟩) z1).trans k3
  have z2 : UB + 1 < W2.heap.size := cell_lt e2
  have Hw2 : Hid (Below w.heap.size w W2) := Hw1.out.trans (hb2.mono Hw1.out.size)
  rw [← hW2]
  clear hW2 hb2 g2 g3 k2 k3
  go_region_with (first | fail)
  all_goals go_wp2_with fail
  all_goals
    have q := set_two (w := W2.drew) (u := .int .i64 c) (v := .int .i64 d) e2 e3
    refine bodyPost_ret (res_ord (v := .slice none 0 0) rfl rfl rfl (c := c) (a := d) q.1 q.2) rfl ⟨rfl, ?_⟩
    have h := Hw2.out
    have hUB := HUB.out
    (repeat (first | exact Below.refl _ _ | exact (h).mono (by first | omega | (simp <;> omega) | (have hh := (h).size; (try simp at hh); omega) | (have hh := (h).size; (try simp at hh); (try simp); omega)) | refine Below.trans ?_ ((h).mono (by first | omega | (simp <;> omega) | (have hh := (h).size; (try simp at hh); omega) | (have hh := (h).size; (try simp at hh); (try simp); omega))) | refine Below.alloc ?_ (by first | omega | (simp <;> omega) | (have hh := (h).size; (try simp at hh); omega) | (have hh := (h).size; (try simp at hh); (try simp); omega)) _ | refine Below.setCell ?_ (by first | omega | (simp <;> omega) | (have hh := (h).size; (try simp at hh); omega) | (have hh := (h).size; (try simp at hh); (try simp); omega)) _ | refine below_drewN ?_ _ | refine Below.drew ?_))

end Go.Proofs.YtaehkcnankijfaaDoor

namespace Go.Proofs.YtaehkcnankijfaaDoor
open Go.RowKit

/-- The order of a unit's functions. -/
def ordU (fs : List DFunc) : List Int := ordF (callB fs) (ringF (viaF (callB fs) fs.length) fs.length) fs.length
theorem ordU_ok {u : DUnit} (hu : checkF u = (0, 0)) : OrdOk u.funcs.length u.funcs.length (ordSt (callB u.funcs) (ringF (viaF (callB u.funcs) u.funcs.length) u.funcs.length) u.funcs.length u.funcs.length) :=
  ord_ok (fun _ _ => viaF_reach (callB_lt hu)) _ (Nat.le_refl _)

theorem orderOk_any {S : Nat → Prop} (ga : Option Addr) (gc : Nat) (fa : Option Addr) (fc : Nat) (gs : List DGlobal) (fs : List DFunc) (w : World)
    (hg : SlAt S w 3 rGlobal (.slice ga gs.length gc) gs) (hf : SlAt S w 4 rFunc (.slice fa fs.length fc) fs) (hw : Ways w) (hS : ∀ b, S b → b < w.heap.size)
    (hgl : gs.length ≤ 1048576) (hfl : fs.length ≤ 1048576) (hsm : ∀ (k : Nat) (f : DFunc), fs[k]? = some f → manyOf f.blocks ≤ 1048576 ∧ f.blocks.length ≤ 1048576) (hck : checkF ⟨gs, fs⟩ = (0, 0)) :
    Calls Tryd.prog 67 #[.agg #[.slice ga gs.length gc, .slice fa fs.length fc]] w fun e w' => ∃ v, e = .returned (.tuple #[v, .agg #[.int .i64 0, .int .i64 0]]) ∧ OwnInts w.heap.size w' v (ordU fs) ∧ Below w.heap.size w w' :=
  order_any (.slice ga gs.length gc) (.slice fa fs.length fc) fs fs.length w hfl (callB_lt (u := ⟨gs, fs⟩) hck)
    (fun W hb => graphOk_any (S := S) ga gc fa fc gs fs W (hg.later rGlobal_mono hb) (hf.later rFunc_mono hb) (Ways.below hw hb) (fun b h => Nat.lt_of_lt_of_le (hS b h) hb.size) hgl hfl hsm hck)
    ⟨_, _, _, _, _, _, rfl, rfl⟩

set_option maxRecDepth 100000 in
set_option maxHeartbeats 4000000 in
theorem orderBad_any {S : Nat → Prop} (ga : Option Addr) (gc : Nat) (fa : Option Addr) (fc : Nat) (gs : List DGlobal) (fs : List DFunc) (w : World)
    (hg : SlAt S w 3 rGlobal (.slice ga gs.length gc) gs) (hf : SlAt S w 4 rFunc (.slice fa fs.length fc) fs) (hw : Ways w)
    (hgl : gs.length ≤ 1048576) (hfl : fs.length ≤ 1048576) (hsm : ∀ (k : Nat) (f : DFunc), fs[k]? = some f → manyOf f.blocks ≤ 1048576 ∧ f.blocks.length ≤ 1048576) (c d : Int) (hck : checkF ⟨gs, fs⟩ = (c, d)) (hc0 : c ≠ 0) :
    Calls Tryd.prog 67 #[.agg #[.slice ga gs.length gc, .slice fa fs.length fc]] w fun e w' => e = .returned (.tuple #[.slice none 0 0, .agg #[.int .i64 c, .int .i64 d]]) ∧ Below w.heap.size w w' := by
  have Hg := hid hg
  have Hf := hid hf
  have Hw := hid hw
  have Hsm := hid hsm
  have Hck := hid hck
  have Hc0 := hid hc0
  clear hg hf hw hsm hck hc0
  go_enter Tryd.func67, Tryd.ntmps67
  obtain ⟨W, hW⟩ : ∃ W, W = (w.alloc (.cells #[.slice ga gs.length gc, .slice fa fs.length fc] 25)).alloc (.cells #[.int .i64 0, .int .i64 0] 28) := ⟨_, rfl⟩
  have hbW : Below w.heap.size w W := by rw [hW]; (repeat (first | exact Below.refl _ _ | refine Below.alloc ?_ (by first | omega | (simp <;> omega)) _ | refine Below.setCell ?_ (by first | omega | (simp <;> omega)) _ | refine below_drewN ?_ _ | refine Below.drew ?_))
  have HbW := hid hbW
  have R0 : Hid (W.cell? ⟨w.heap.size + 1, 0, none⟩ = some (.int .i64 0)) := by show _ = _; rw [hW]; simp
  have R1 : Hid (W.cell? ⟨w.heap.size + 1, 1, none⟩ = some (.int .i64 0)) := by show _ = _; rw [hW]; simp
  have F0 : Hid (W.frozen? ⟨w.heap.size + 1, 0, none⟩ = false) := by show _ = _; rw [hW]; simp
  have F1 : Hid (W.frozen? ⟨w.heap.size + 1, 1, none⟩ = false) := by show _ = _; rw [hW]; simp
  have HW := hid hW
  have hWs : W.heap.size = w.heap.size + 2 := by rw [hW]; simp
  have HWs := hid hWs
  clear hW hbW hWs
  go_wp2_with fail
  go_step3
  go_wp2_with fail
  rw [← HW.out]
  refine (graphBad_any (S := S) ga gc fa fc gs fs W (Hg.out.later rGlobal_mono HbW.out) (Hf.out.later rFunc_mono HbW.out) (Ways.below Hw.out HbW.out) hgl hfl Hsm.out c d Hck.out Hc0.out).mono ?_
  rintro e w1 ⟨rfl, hb1⟩
  have g2 := cell_later' R0.out hb1
  have g3 := cell_later' R1.out hb1
  have k2 := (hb1.frozen (p := ⟨w.heap.size + 1, 0, none⟩) (by have := HWs.out; dsimp only; omega)).trans F0.out
  have k3 := (hb1.frozen (p := ⟨w.heap.size + 1, 1, none⟩) (by have := HWs.out; dsimp only; omega)).trans F1.out
  have z1 : w.heap.size + 1 < w1.heap.size := cell_lt g2
  have Hw1 : Hid (Below w.heap.size w w1) := HbW.out.trans (hb1.mono (by have := HWs.out; omega))
  obtain ⟨UB, hUB⟩ : ∃ UB, UB = w.heap.size := ⟨_, rfl⟩
  have HUB := hid hUB
  rw [← hUB] at g2 g3 k2 k3 z1
  clear hb1 R0 R1 F0 F1
  rw [← hUB]
  have hq : ((decide (c < 0) || decide (0 < c)) || (decide (d < 0) || decide (0 < d))) = true := by have := Hc0.out; rw [Bool.eq_iff_iff]; simp; omega
  clear hUB
  simp only []
  go_wp2_with fail
  obtain ⟨W2, hW2⟩ : ∃ W2, W2 = (w1.alloc (.cells #[.slice none 0 0] 53)).alloc (.cells #[.int .i64 c, .int .i64 d] 28) := ⟨_, rfl⟩
  have hb2 : Below w1.heap.size w1 W2 := by rw [hW2]; (repeat (first | exact Below.refl _ _ | refine Below.alloc ?_ (by first | omega | (simp <;> omega)) _ | refine Below.setCell ?_ (by first | omega | (simp <;> omega)) _ | refine below_drewN ?_ _ | refine Below.drew ?_))
  have c0 : W2.cell? ⟨w1.heap.size + 1, 0, none⟩ = some (.int .i64 c) := by rw [hW2]; simp
  have c1 : W2.cell? ⟨w1.heap.size + 1, 1, none⟩ = some (.int .i64 d) := by rw [hW2]; simp
  have e2 := cell_later' g2 hb2
  have e3 := cell_later' g3 hb2
  have f2 := (hb2.frozen (p := ⟨UB + 1, 0, none⟩) z1).trans k2
  have f3 := (hb2.frozen (p := ⟨UB + 1, 1, none⟩) z1).trans k3
  have z2 : UB + 1 < W2.heap.size := cell_lt e2
  have Hw2 : Hid (Below w.heap.size w W2) := Hw1.out.trans (hb2.mono Hw1.out.size)
  rw [← hW2]
  clear hW2 hb2 g2 g3 k2 k3
  go_region_with (first | fail)
  all_goals go_wp2_with fail
  all_goals try rw [Exit.noGoto_ret]
  all_goals try go_wp2_with fail
  all_goals
    have q := set_two (w := W2.drew) (u := .int .i64 c) (v := .int .i64 d) e2 e3
    refine bodyPost_ret (res_ord (v := .slice none 0 0) rfl rfl rfl (c := c) (a := d) q.1 q.2) rfl ⟨rfl, ?_⟩
    have h := Hw2.out
    have hUB := HUB.out
    (repeat (first | exact Below.refl _ _ | exact (h).mono (by first | omega | (simp <;> omega) | (have hh := (h).size; (try simp at hh); omega) | (have hh := (h).size; (try simp at hh); (try simp); omega)) | refine Below.trans ?_ ((h).mono (by first | omega | (simp <;> omega) | (have hh := (h).size; (try simp at hh); omega) | (have hh := (h).size; (try simp at hh); (try simp); omega))) | refine Below.alloc ?_ (by first | omega | (simp <;> omega) | (have hh := (h).size; (try simp at hh); omega) | (have hh := (h).size; (try simp at hh); (try simp); omega)) _ | refine Below.setCell ?_ (by first | omega | (simp <;> omega) | (have hh := (h).size; (try simp at hh); omega) | (have hh := (h).size; (try simp at hh); (try simp); omega)) _ | refine below_drewN ?_ _ | refine Below.drew ?_))

end Go.Proofs.YtaehkcnankijfaaDoor
