/- Two structs held against each other: api.Val and api.Fault. -/
import Derived.Test.YtaehkcnankijfaaDoorLib
namespace Go.Proofs.YtaehkcnankijfaaDoor
open Go.RowKit

@[go_sem ↓] theorem run_neq_val (r s : Bool) (n m : Int) (w : World) :
    (binOp .neq 41 (.agg #[.bool r, .int .i64 n]) (.agg #[.bool s, .int .i64 m])).run Tryd.prog w = .ok (.bool ((r != s) || (decide (n < m) || decide (m < n)))) w := by
  cases r <;> cases s <;> simp [binOp, Op.equal, Op.maxDepth, go_sem, Tryd.underlying41]
  all_goals
    split
    · have : n < m ∨ m < n := by omega
      rcases this with h | h <;> simp [h]
    · have h1 : ¬ n < m := by omega
      have h2 : ¬ m < n := by omega
      simp [h1, h2]
@[go_sem ↓] theorem run_eql_val (r s : Bool) (n m : Int) (w : World) :
    (binOp .eql 41 (.agg #[.bool r, .int .i64 n]) (.agg #[.bool s, .int .i64 m])).run Tryd.prog w = .ok (.bool ((r == s) && (decide (n ≤ m) && decide (m ≤ n)))) w := by
  cases r <;> cases s <;> simp [binOp, Op.equal, Op.maxDepth, go_sem, Tryd.underlying41]
  all_goals
    split
    · have : ¬ n ≤ m ∨ ¬ m ≤ n := by omega
      rcases this with h | h <;> simp [h]
    · have h1 : n ≤ m := by omega
      have h2 : m ≤ n := by omega
      simp [h1, h2]
@[go_sem ↓] theorem run_neq_fault (a b c d : Int) (w : World) :
    (binOp .neq 28 (.agg #[.int .i64 a, .int .i64 b]) (.agg #[.int .i64 c, .int .i64 d])).run Tryd.prog w = .ok (.bool ((decide (a < c) || decide (c < a)) || (decide (b < d) || decide (d < b)))) w := by
  simp [binOp, Op.equal, Op.maxDepth, go_sem, Tryd.underlying28]
  repeat' split
  all_goals
    refine congrArg (fun b => Result.ok (Value.bool b) w) ?_
    rw [Bool.eq_iff_iff]
    simp
    omega
@[go_sem ↓] theorem run_eql_fault (a b c d : Int) (w : World) :
    (binOp .eql 28 (.agg #[.int .i64 a, .int .i64 b]) (.agg #[.int .i64 c, .int .i64 d])).run Tryd.prog w = .ok (.bool ((decide (a ≤ c) && decide (c ≤ a)) && (decide (b ≤ d) && decide (d ≤ b)))) w := by
  simp [binOp, Op.equal, Op.maxDepth, go_sem, Tryd.underlying28]
  repeat' split
  all_goals
    refine congrArg (fun b => Result.ok (Value.bool b) w) ?_
    rw [Bool.eq_iff_iff]
    simp
    omega

end Go.Proofs.YtaehkcnankijfaaDoor
