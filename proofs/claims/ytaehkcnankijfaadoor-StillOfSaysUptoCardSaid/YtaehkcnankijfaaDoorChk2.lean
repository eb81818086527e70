/- Contracts of core.Shapes, slices.IndexFunc and ContainsFunc at ints, and of the checker's end. -/
import Derived.Test.YtaehkcnankijfaaDoorChk1
namespace Go.Proofs.YtaehkcnankijfaaDoor
open Go.RowKit

/-- What an instruction has: a Dst, an A, a B. -/
def shpD (op : Int) : Bool := decide (1 ≤ op ∧ op ≤ 18) || decide (20 ≤ op ∧ op ≤ 21)
def shpA (op : Int) : Bool := decide (1 ≤ op ∧ op ≤ 19) || decide (op = 22)
def shpB (op : Int) : Bool := decide (2 ≤ op ∧ op ≤ 15) || decide (op = 19)

theorem shp_mid {op : Int} (h : 2 ≤ op ∧ op ≤ 15) : shpD op = true ∧ shpA op = true ∧ shpB op = true := by
  simp only [shpD, shpA, shpB, Bool.or_eq_true, decide_eq_true_eq]; omega
theorem shp_out {op : Int} (h : op < 1 ∨ 22 < op) : shpD op = false ∧ shpA op = false ∧ shpB op = false := by
  simp only [shpD, shpA, shpB, Bool.or_eq_false_iff, decide_eq_false_iff_not]; omega

theorem below_set {w : World} (o : Obj) (a : Addr) (v : Value) (h : w.heap.size ≤ a.block) : Below w.heap.size w ((w.alloc o).setCell a v) :=
  ((Below.refl _ _).alloc (by simp) _).setCell h _

set_option maxHeartbeats 1000000 in
theorem shapes_any (op : Int) (w : World) :
    Calls Tryd.prog 107 #[.int .i64 op] w fun e w' => e = .returned (.agg #[.bool (shpD op), .bool (shpA op), .bool (shpB op)]) ∧ Below w.heap.size w w' := by
  have hc : op = 1 ∨ op = 16 ∨ op = 17 ∨ op = 18 ∨ (2 ≤ op ∧ op ≤ 15) ∨ op = 19 ∨ op = 20 ∨ op = 21 ∨ op = 22 ∨ op < 1 ∨ 22 < op := by omega
  rcases hc with rfl | rfl | rfl | rfl | h | rfl | rfl | rfl | rfl | h | h
  all_goals
    go_enter Tryd.func107, Tryd.ntmps107
    go_wp2
  all_goals
    refine bodyPost_ret (v := _) ?_ rfl ⟨rfl, ?_⟩
  all_goals first
    | ((repeat (first | exact Below.refl _ _ | refine Below.alloc ?_ (by simp) _ | refine Below.setCell ?_ (by simp) _)); done)
    | skip
  all_goals
    simp [results, Tryd.results107, go_sem]
  all_goals first
    | (refine ⟨?_, ?_, ?_⟩ <;> rfl)
    | skip
  · obtain ⟨e1, e2, e3⟩ := shp_mid h
    simp [e1, e2, e3]
  all_goals
    obtain ⟨e1, e2, e3⟩ := shp_out (op := op) (by omega)
    simp [e1, e2, e3]

end Go.Proofs.YtaehkcnankijfaaDoor
