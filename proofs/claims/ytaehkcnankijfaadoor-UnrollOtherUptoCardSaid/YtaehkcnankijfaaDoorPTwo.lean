/- core.Two and turneryref5.Two: what an instruction makes of two numbers. -/
import Derived.Test.YtaehkcnankijfaaDoorPMakes
import Derived.Test.YtaehkcnankijfaaDoorPBitsR0
namespace Go.Proofs.YtaehkcnankijfaaDoor
open Go.RowKit

@[go_sem] theorem bits_xor_bv (x y : BitVec 64) : bits .xor .i64 (bi x) (bi y) = bi (x ^^^ y) := by
  show IntKind.i64.wrap ((BitVec.ofInt 64 x.toInt ^^^ BitVec.ofInt 64 y.toInt).toNat : Int) = _
  rw [BitVec.ofInt_toInt, BitVec.ofInt_toInt, wrap_bi, ofInt_nat]
theorem shl_bi' (x : BitVec 64) (n : Nat) : wrap64 (bi x * 2 ^ n) = bi (x <<< n) := by
  rw [wrap64_bi]
  congr 1
  rw [show ((2 : Int) ^ n) = ((2 ^ n : Nat) : Int) by norm_cast, BitVec.ofInt_mul]
  unfold bi
  rw [BitVec.ofInt_toInt, BitVec.ofInt_natCast]
  apply BitVec.eq_of_toNat_eq
  rw [BitVec.toNat_mul, BitVec.toNat_ofNat, BitVec.toNat_shiftLeft, Nat.shiftLeft_eq, Nat.mul_mod_mod]
theorem shr_bi' (x : BitVec 64) (n : Nat) : bi x / 2 ^ n = bi (x.sshiftRight n) := by
  unfold bi
  rw [BitVec.toInt_sshiftRight, Int.shiftRight_eq_div_pow]
  norm_cast
theorem not_bi (x : BitVec 64) : -1 - bi x = bi (~~~x) := by
  have h := bits_not_bv x
  unfold bi
  rw [BitVec.toInt_not]
  have := bi_range x
  unfold bi at this
  have hx := x.isLt
  rw [BitVec.toInt_eq_toNat_bmod] at this ⊢
  simp only [Int.bmod] at *
  split at this <;> split <;> omega
theorem tmod_bi (x y : BitVec 64) : (bi x).tmod (bi y) = bi (bvOf ((bi x).tmod (bi y))) := by
  refine (bi_of ?_).symm
  have h := bi_range x
  have h4 : ((bi x).tmod (bi y)).natAbs ≤ (bi x).natAbs := by rw [Int.natAbs_tmod]; exact Nat.mod_le _ _
  unfold I64
  rcases Int.le_total 0 (bi x) with h1 | h1
  · omega
  · have e : bi x = -(-bi x) := by omega
    have h2 := Int.tmod_nonneg (bi y) (show 0 ≤ -bi x by omega)
    have h3 : (bi x).tmod (bi y) = -((-bi x).tmod (bi y)) := by rw [← Int.neg_tmod, Int.neg_neg]
    omega
/-- What an instruction makes of two numbers; nothing: divided by 0. -/
def twoF (op : Int) (x y : BitVec 64) : Option (BitVec 64) :=
  if op = 1 then some x
  else if op = 2 then some (x + y)
  else if op = 3 then some (x - y)
  else if op = 4 then some (x * y)
  else if op = 5 then if y = 0#64 then none else some (bvOf ((bi x).tdiv (bi y)))
  else if op = 6 then if y = 0#64 then none else some (bvOf ((bi x).tmod (bi y)))
  else if op = 7 then some (x &&& y)
  else if op = 8 then some (x ||| y)
  else if op = 9 then some (x ^^^ y)
  else if op = 10 then some (x <<< shX y)
  else if op = 11 then some (x.sshiftRight (shX y))
  else if op = 12 then some (if bi x = bi y then 1#64 else 0#64)
  else if op = 13 then some (if bi x = bi y then 0#64 else 1#64)
  else if op = 14 then some (if bi x < bi y then 1#64 else 0#64)
  else if op = 15 then some (if bi x ≤ bi y then 1#64 else 0#64)
  else if op = 16 then some (-x)
  else some (~~~x)
/-- The same as a value: the number, and whether there is one. -/
def twoV : Option (BitVec 64) → Value
  | some z => .tuple #[.int .i64 (bi z), .bool true]
  | none => .tuple #[.int .i64 0, .bool false]
theorem ret_two {a b : Int} (h : a = b) : Ending.returned (.tuple #[.int .i64 a, .bool true]) = .returned (.tuple #[.int .i64 b, .bool true]) := by rw [h]
theorem sh_u64 (x : BitVec 64) : IntKind.u64.wrap (shX x : Int) = (shX x : Int) := by have := shX_lt x; rw [IntKind.wrap_u64]; omega

set_option maxHeartbeats 400000 in
theorem yes_any (b : Bool) (w : World) : Calls Tryd.prog 144 #[.bool b] w fun e w' => e = .returned (.int .i64 (bi (if b = true then 1#64 else 0#64))) ∧ w = w' := by
  cases b <;> (go_enter Tryd.func144, Tryd.ntmps144; go_wp2_with fail; go_ret; exact ⟨rfl, rfl⟩)

set_option maxRecDepth 100000 in
set_option maxHeartbeats 1000000 in
theorem two_r_1 (x y : BitVec 64) (w : World) : Calls Tryd.prog 66 #[.int .i64 1, .int .i64 (bi x), .int .i64 (bi y)] w fun e w' => e = .returned (twoV (twoF 1 x y)) ∧ w = w' := by
  have Hr : Hid (twoF 1 x y = some x) := by show _ = _; unfold twoF; simp
  go_enter Tryd.func66, Tryd.ntmps66
  go_wp2_with fail
  go_ret2
  refine ⟨?_, rfl⟩
  rw [Hr.out]
  exact rfl
set_option maxRecDepth 100000 in
set_option maxHeartbeats 1000000 in
theorem two_r_2 (x y : BitVec 64) (w : World) : Calls Tryd.prog 66 #[.int .i64 2, .int .i64 (bi x), .int .i64 (bi y)] w fun e w' => e = .returned (twoV (twoF 2 x y)) ∧ w = w' := by
  have Hr : Hid (twoF 2 x y = some (x + y)) := by show _ = _; unfold twoF; simp
  go_enter Tryd.func66, Tryd.ntmps66
  go_wp2_with fail
  go_ret2
  refine ⟨?_, rfl⟩
  rw [Hr.out]
  exact ret_two (add_bi x y)
set_option maxRecDepth 100000 in
set_option maxHeartbeats 1000000 in
theorem two_r_3 (x y : BitVec 64) (w : World) : Calls Tryd.prog 66 #[.int .i64 3, .int .i64 (bi x), .int .i64 (bi y)] w fun e w' => e = .returned (twoV (twoF 3 x y)) ∧ w = w' := by
  have Hr : Hid (twoF 3 x y = some (x - y)) := by show _ = _; unfold twoF; simp
  go_enter Tryd.func66, Tryd.ntmps66
  go_wp2_with fail
  go_ret2
  refine ⟨?_, rfl⟩
  rw [Hr.out]
  exact ret_two (sub_bi x y)
set_option maxRecDepth 100000 in
set_option maxHeartbeats 1000000 in
theorem two_r_4 (x y : BitVec 64) (w : World) : Calls Tryd.prog 66 #[.int .i64 4, .int .i64 (bi x), .int .i64 (bi y)] w fun e w' => e = .returned (twoV (twoF 4 x y)) ∧ w = w' := by
  have Hr : Hid (twoF 4 x y = some (x * y)) := by show _ = _; unfold twoF; simp
  go_enter Tryd.func66, Tryd.ntmps66
  go_wp2_with fail
  go_ret2
  refine ⟨?_, rfl⟩
  rw [Hr.out]
  exact ret_two (mul_bi x y)
set_option maxRecDepth 100000 in
set_option maxHeartbeats 1000000 in
theorem two_r_5z (x y : BitVec 64) (w : World) (h : y = 0#64) : Calls Tryd.prog 66 #[.int .i64 5, .int .i64 (bi x), .int .i64 (bi y)] w fun e w' => e = .returned (twoV (twoF 5 x y)) ∧ w = w' := by
  have Hr : Hid (twoF 5 x y = none) := by show _ = _; unfold twoF; simp [*]
  have q0 : (decide (bi y ≤ 0) && decide (0 ≤ bi y)) = true := eq_yes (by rw [h]; rfl)
  clear h
  go_enter Tryd.func66, Tryd.ntmps66
  go_wp2_with fail
  go_ret2
  refine ⟨?_, rfl⟩
  rw [Hr.out]
  exact rfl
set_option maxRecDepth 100000 in
set_option maxHeartbeats 1000000 in
theorem two_r_5 (x y : BitVec 64) (w : World) (h : ¬ y = 0#64) (h0 : ¬ bi y = 0) : Calls Tryd.prog 66 #[.int .i64 5, .int .i64 (bi x), .int .i64 (bi y)] w fun e w' => e = .returned (twoV (twoF 5 x y)) ∧ w = w' := by
  have Hr : Hid (twoF 5 x y = some (bvOf ((bi x).tdiv (bi y)))) := by show _ = _; unfold twoF; simp [*]
  have q0 : (decide (bi y ≤ 0) && decide (0 ≤ bi y)) = false := eq_no h0
  have q1 : ¬ bi y = 0 := h0
  clear h h0
  go_enter Tryd.func66, Tryd.ntmps66
  go_wp2_with fail
  go_ret2
  refine ⟨?_, rfl⟩
  rw [Hr.out]
  exact ret_two (wrap64_bi _)
set_option maxRecDepth 100000 in
set_option maxHeartbeats 1000000 in
theorem two_r_6z (x y : BitVec 64) (w : World) (h : y = 0#64) : Calls Tryd.prog 66 #[.int .i64 6, .int .i64 (bi x), .int .i64 (bi y)] w fun e w' => e = .returned (twoV (twoF 6 x y)) ∧ w = w' := by
  have Hr : Hid (twoF 6 x y = none) := by show _ = _; unfold twoF; simp [*]
  have q0 : (decide (bi y ≤ 0) && decide (0 ≤ bi y)) = true := eq_yes (by rw [h]; rfl)
  clear h
  go_enter Tryd.func66, Tryd.ntmps66
  go_wp2_with fail
  go_ret2
  refine ⟨?_, rfl⟩
  rw [Hr.out]
  exact rfl
set_option maxRecDepth 100000 in
set_option maxHeartbeats 1000000 in
theorem two_r_6 (x y : BitVec 64) (w : World) (h : ¬ y = 0#64) (h0 : ¬ bi y = 0) : Calls Tryd.prog 66 #[.int .i64 6, .int .i64 (bi x), .int .i64 (bi y)] w fun e w' => e = .returned (twoV (twoF 6 x y)) ∧ w = w' := by
  have Hr : Hid (twoF 6 x y = some (bvOf ((bi x).tmod (bi y)))) := by show _ = _; unfold twoF; simp [*]
  have q0 : (decide (bi y ≤ 0) && decide (0 ≤ bi y)) = false := eq_no h0
  have q1 : ¬ bi y = 0 := h0
  clear h h0
  go_enter Tryd.func66, Tryd.ntmps66
  go_wp2_with fail
  go_ret2
  refine ⟨?_, rfl⟩
  rw [Hr.out]
  exact ret_two (tmod_bi x y)
set_option maxRecDepth 100000 in
set_option maxHeartbeats 1000000 in
theorem two_r_7 (x y : BitVec 64) (w : World) : Calls Tryd.prog 66 #[.int .i64 7, .int .i64 (bi x), .int .i64 (bi y)] w fun e w' => e = .returned (twoV (twoF 7 x y)) ∧ w = w' := by
  have Hr : Hid (twoF 7 x y = some (x &&& y)) := by show _ = _; unfold twoF; simp
  go_enter Tryd.func66, Tryd.ntmps66
  go_wp2_with fail
  go_ret2
  refine ⟨?_, rfl⟩
  rw [Hr.out]
  exact rfl
set_option maxRecDepth 100000 in
set_option maxHeartbeats 1000000 in
theorem two_r_8 (x y : BitVec 64) (w : World) : Calls Tryd.prog 66 #[.int .i64 8, .int .i64 (bi x), .int .i64 (bi y)] w fun e w' => e = .returned (twoV (twoF 8 x y)) ∧ w = w' := by
  have Hr : Hid (twoF 8 x y = some (x ||| y)) := by show _ = _; unfold twoF; simp
  go_enter Tryd.func66, Tryd.ntmps66
  go_wp2_with fail
  go_ret2
  refine ⟨?_, rfl⟩
  rw [Hr.out]
  exact rfl
set_option maxRecDepth 100000 in
set_option maxHeartbeats 1000000 in
theorem two_r_9 (x y : BitVec 64) (w : World) : Calls Tryd.prog 66 #[.int .i64 9, .int .i64 (bi x), .int .i64 (bi y)] w fun e w' => e = .returned (twoV (twoF 9 x y)) ∧ w = w' := by
  have Hr : Hid (twoF 9 x y = some (x ^^^ y)) := by show _ = _; unfold twoF; simp
  go_enter Tryd.func66, Tryd.ntmps66
  go_wp2_with fail
  go_ret2
  refine ⟨?_, rfl⟩
  rw [Hr.out]
  exact rfl
set_option maxRecDepth 100000 in
set_option maxHeartbeats 1000000 in
theorem two_r_10 (x y : BitVec 64) (w : World) : Calls Tryd.prog 66 #[.int .i64 10, .int .i64 (bi x), .int .i64 (bi y)] w fun e w' => e = .returned (twoV (twoF 10 x y)) ∧ w = w' := by
  have Hr : Hid (twoF 10 x y = some (x <<< shX y)) := by show _ = _; unfold twoF; simp
  have hlt := shX_lt y
  have hsu := sh_u64 y
  go_enter Tryd.func66, Tryd.ntmps66
  go_wp2_with fail
  go_ret2
  refine ⟨?_, rfl⟩
  rw [Hr.out]
  exact ret_two (shl_bi' x _)
set_option maxRecDepth 100000 in
set_option maxHeartbeats 1000000 in
theorem two_r_11 (x y : BitVec 64) (w : World) : Calls Tryd.prog 66 #[.int .i64 11, .int .i64 (bi x), .int .i64 (bi y)] w fun e w' => e = .returned (twoV (twoF 11 x y)) ∧ w = w' := by
  have Hr : Hid (twoF 11 x y = some (x.sshiftRight (shX y))) := by show _ = _; unfold twoF; simp
  have hlt := shX_lt y
  have hsu := sh_u64 y
  go_enter Tryd.func66, Tryd.ntmps66
  go_wp2_with fail
  go_ret2
  refine ⟨?_, rfl⟩
  rw [Hr.out]
  exact ret_two (shr_bi' x _)
set_option maxRecDepth 100000 in
set_option maxHeartbeats 1000000 in
theorem two_r_12y (x y : BitVec 64) (w : World) (h : bi x = bi y) : Calls Tryd.prog 66 #[.int .i64 12, .int .i64 (bi x), .int .i64 (bi y)] w fun e w' => e = .returned (twoV (twoF 12 x y)) ∧ w = w' := by
  have Hr : Hid (twoF 12 x y = some 1#64) := by show _ = _; unfold twoF; simp [*]
  have q0 : (decide (bi x ≤ bi y) && decide (bi y ≤ bi x)) = true := eq_yes h
  clear h
  go_enter Tryd.func66, Tryd.ntmps66
  go_wp2_with fail
  go_ret2
  refine ⟨?_, rfl⟩
  rw [Hr.out]
  exact rfl
set_option maxRecDepth 100000 in
set_option maxHeartbeats 1000000 in
theorem two_r_12n (x y : BitVec 64) (w : World) (h : ¬ bi x = bi y) : Calls Tryd.prog 66 #[.int .i64 12, .int .i64 (bi x), .int .i64 (bi y)] w fun e w' => e = .returned (twoV (twoF 12 x y)) ∧ w = w' := by
  have Hr : Hid (twoF 12 x y = some 0#64) := by show _ = _; unfold twoF; simp [*]
  have q0 : (decide (bi x ≤ bi y) && decide (bi y ≤ bi x)) = false := eq_no h
  clear h
  go_enter Tryd.func66, Tryd.ntmps66
  go_wp2_with fail
  go_ret2
  refine ⟨?_, rfl⟩
  rw [Hr.out]
  exact rfl
set_option maxRecDepth 100000 in
set_option maxHeartbeats 1000000 in
theorem two_r_13y (x y : BitVec 64) (w : World) (h : bi x = bi y) : Calls Tryd.prog 66 #[.int .i64 13, .int .i64 (bi x), .int .i64 (bi y)] w fun e w' => e = .returned (twoV (twoF 13 x y)) ∧ w = w' := by
  have Hr : Hid (twoF 13 x y = some 0#64) := by show _ = _; unfold twoF; simp [*]
  have q0 : (decide (bi x < bi y) || decide (bi y < bi x)) = false := ne_no h
  clear h
  go_enter Tryd.func66, Tryd.ntmps66
  go_wp2_with fail
  go_ret2
  refine ⟨?_, rfl⟩
  rw [Hr.out]
  exact rfl
set_option maxRecDepth 100000 in
set_option maxHeartbeats 1000000 in
theorem two_r_13n (x y : BitVec 64) (w : World) (h : ¬ bi x = bi y) : Calls Tryd.prog 66 #[.int .i64 13, .int .i64 (bi x), .int .i64 (bi y)] w fun e w' => e = .returned (twoV (twoF 13 x y)) ∧ w = w' := by
  have Hr : Hid (twoF 13 x y = some 1#64) := by show _ = _; unfold twoF; simp [*]
  have q0 : (decide (bi x < bi y) || decide (bi y < bi x)) = true := ne_yes h
  clear h
  go_enter Tryd.func66, Tryd.ntmps66
  go_wp2_with fail
  go_ret2
  refine ⟨?_, rfl⟩
  rw [Hr.out]
  exact rfl
set_option maxRecDepth 100000 in
set_option maxHeartbeats 1000000 in
theorem two_r_14y (x y : BitVec 64) (w : World) (h : bi x < bi y) : Calls Tryd.prog 66 #[.int .i64 14, .int .i64 (bi x), .int .i64 (bi y)] w fun e w' => e = .returned (twoV (twoF 14 x y)) ∧ w = w' := by
  have Hr : Hid (twoF 14 x y = some 1#64) := by show _ = _; unfold twoF; simp [*]
  have q0 : decide (bi x < bi y) = true := decide_eq_true h
  clear h
  go_enter Tryd.func66, Tryd.ntmps66
  go_wp2_with fail
  go_ret2
  refine ⟨?_, rfl⟩
  rw [Hr.out]
  exact rfl
set_option maxRecDepth 100000 in
set_option maxHeartbeats 1000000 in
theorem two_r_14n (x y : BitVec 64) (w : World) (h : ¬ bi x < bi y) : Calls Tryd.prog 66 #[.int .i64 14, .int .i64 (bi x), .int .i64 (bi y)] w fun e w' => e = .returned (twoV (twoF 14 x y)) ∧ w = w' := by
  have Hr : Hid (twoF 14 x y = some 0#64) := by show _ = _; unfold twoF; simp [*]
  have q0 : decide (bi x < bi y) = false := decide_eq_false h
  clear h
  go_enter Tryd.func66, Tryd.ntmps66
  go_wp2_with fail
  go_ret2
  refine ⟨?_, rfl⟩
  rw [Hr.out]
  exact rfl
set_option maxRecDepth 100000 in
set_option maxHeartbeats 1000000 in
theorem two_r_15y (x y : BitVec 64) (w : World) (h : bi x ≤ bi y) : Calls Tryd.prog 66 #[.int .i64 15, .int .i64 (bi x), .int .i64 (bi y)] w fun e w' => e = .returned (twoV (twoF 15 x y)) ∧ w = w' := by
  have Hr : Hid (twoF 15 x y = some 1#64) := by show _ = _; unfold twoF; simp [*]
  have q0 : decide (bi x ≤ bi y) = true := decide_eq_true h
  clear h
  go_enter Tryd.func66, Tryd.ntmps66
  go_wp2_with fail
  go_ret2
  refine ⟨?_, rfl⟩
  rw [Hr.out]
  exact rfl
set_option maxRecDepth 100000 in
set_option maxHeartbeats 1000000 in
theorem two_r_15n (x y : BitVec 64) (w : World) (h : ¬ bi x ≤ bi y) : Calls Tryd.prog 66 #[.int .i64 15, .int .i64 (bi x), .int .i64 (bi y)] w fun e w' => e = .returned (twoV (twoF 15 x y)) ∧ w = w' := by
  have Hr : Hid (twoF 15 x y = some 0#64) := by show _ = _; unfold twoF; simp [*]
  have q0 : decide (bi x ≤ bi y) = false := decide_eq_false h
  clear h
  go_enter Tryd.func66, Tryd.ntmps66
  go_wp2_with fail
  go_ret2
  refine ⟨?_, rfl⟩
  rw [Hr.out]
  exact rfl
set_option maxRecDepth 100000 in
set_option maxHeartbeats 1000000 in
theorem two_r_16 (x y : BitVec 64) (w : World) : Calls Tryd.prog 66 #[.int .i64 16, .int .i64 (bi x), .int .i64 (bi y)] w fun e w' => e = .returned (twoV (twoF 16 x y)) ∧ w = w' := by
  have Hr : Hid (twoF 16 x y = some (-x)) := by show _ = _; unfold twoF; simp
  go_enter Tryd.func66, Tryd.ntmps66
  go_wp2_with fail
  go_ret2
  refine ⟨?_, rfl⟩
  rw [Hr.out]
  exact ret_two (neg_bi x)
set_option maxRecDepth 100000 in
set_option maxHeartbeats 1000000 in
theorem two_r_17 (x y : BitVec 64) (w : World) : Calls Tryd.prog 66 #[.int .i64 17, .int .i64 (bi x), .int .i64 (bi y)] w fun e w' => e = .returned (twoV (twoF 17 x y)) ∧ w = w' := by
  have Hr : Hid (twoF 17 x y = some (~~~x)) := by show _ = _; unfold twoF; simp
  have hx := bi_range x
  obtain ⟨x1, x2⟩ := hx
  go_enter Tryd.func66, Tryd.ntmps66
  go_wp2_with fail
  go_ret2
  refine ⟨?_, rfl⟩
  rw [Hr.out]
  exact ret_two (not_bi x)
theorem two_r_any (op : Int) (x y : BitVec 64) (w : World) (h1 : 1 ≤ op) (h2 : op ≤ 17) : Calls Tryd.prog 66 #[.int .i64 op, .int .i64 (bi x), .int .i64 (bi y)] w fun e w' => e = .returned (twoV (twoF op x y)) ∧ w = w' := by
  have hs : op = 1 ∨ op = 2 ∨ op = 3 ∨ op = 4 ∨ op = 5 ∨ op = 6 ∨ op = 7 ∨ op = 8 ∨ op = 9 ∨ op = 10 ∨ op = 11 ∨ op = 12 ∨ op = 13 ∨ op = 14 ∨ op = 15 ∨ op = 16 ∨ op = 17 := by omega
  have hz : ∀ y : BitVec 64, ¬ y = 0#64 → ¬ bi y = 0 := fun y h e => h (bi_inj (e.trans (show (0 : Int) = bi 0#64 from rfl)))
  rcases hs with rfl | rfl | rfl | rfl | rfl | rfl | rfl | rfl | rfl | rfl | rfl | rfl | rfl | rfl | rfl | rfl | rfl
  · exact two_r_1 x y w
  · exact two_r_2 x y w
  · exact two_r_3 x y w
  · exact two_r_4 x y w
  · by_cases h : y = 0#64
    · exact two_r_5z x y w h
    · exact two_r_5 x y w h (hz y h)
  · by_cases h : y = 0#64
    · exact two_r_6z x y w h
    · exact two_r_6 x y w h (hz y h)
  · exact two_r_7 x y w
  · exact two_r_8 x y w
  · exact two_r_9 x y w
  · exact two_r_10 x y w
  · exact two_r_11 x y w
  · by_cases h : bi x = bi y
    · exact two_r_12y x y w h
    · exact two_r_12n x y w h
  · by_cases h : bi x = bi y
    · exact two_r_13y x y w h
    · exact two_r_13n x y w h
  · by_cases h : bi x < bi y
    · exact two_r_14y x y w h
    · exact two_r_14n x y w h
  · by_cases h : bi x ≤ bi y
    · exact two_r_15y x y w h
    · exact two_r_15n x y w h
  · exact two_r_16 x y w
  · exact two_r_17 x y w

set_option maxRecDepth 100000 in
set_option maxHeartbeats 1000000 in
theorem two_c_1 (x y : BitVec 64) (w : World) : Calls Tryd.prog 108 #[.int .i64 1, .int .i64 (bi x), .int .i64 (bi y)] w fun e w' => e = .returned (twoV (twoF 1 x y)) ∧ w = w' := by
  have Hr : Hid (twoF 1 x y = some x) := by show _ = _; unfold twoF; simp
  go_enter Tryd.func108, Tryd.ntmps108
  go_wp2_with fail
  go_ret2
  refine ⟨?_, rfl⟩
  rw [Hr.out]
  exact rfl
set_option maxRecDepth 100000 in
set_option maxHeartbeats 1000000 in
theorem two_c_2 (x y : BitVec 64) (w : World) : Calls Tryd.prog 108 #[.int .i64 2, .int .i64 (bi x), .int .i64 (bi y)] w fun e w' => e = .returned (twoV (twoF 2 x y)) ∧ w = w' := by
  have Hr : Hid (twoF 2 x y = some (x + y)) := by show _ = _; unfold twoF; simp
  go_enter Tryd.func108, Tryd.ntmps108
  go_wp2_with fail
  go_ret2
  refine ⟨?_, rfl⟩
  rw [Hr.out]
  exact ret_two (add_bi x y)
set_option maxRecDepth 100000 in
set_option maxHeartbeats 1000000 in
theorem two_c_3 (x y : BitVec 64) (w : World) : Calls Tryd.prog 108 #[.int .i64 3, .int .i64 (bi x), .int .i64 (bi y)] w fun e w' => e = .returned (twoV (twoF 3 x y)) ∧ w = w' := by
  have Hr : Hid (twoF 3 x y = some (x - y)) := by show _ = _; unfold twoF; simp
  go_enter Tryd.func108, Tryd.ntmps108
  go_wp2_with fail
  go_ret2
  refine ⟨?_, rfl⟩
  rw [Hr.out]
  exact ret_two (sub_bi x y)
set_option maxRecDepth 100000 in
set_option maxHeartbeats 1000000 in
theorem two_c_4 (x y : BitVec 64) (w : World) : Calls Tryd.prog 108 #[.int .i64 4, .int .i64 (bi x), .int .i64 (bi y)] w fun e w' => e = .returned (twoV (twoF 4 x y)) ∧ w = w' := by
  have Hr : Hid (twoF 4 x y = some (x * y)) := by show _ = _; unfold twoF; simp
  go_enter Tryd.func108, Tryd.ntmps108
  go_wp2_with fail
  go_ret2
  refine ⟨?_, rfl⟩
  rw [Hr.out]
  exact ret_two (mul_bi x y)
set_option maxRecDepth 100000 in
set_option maxHeartbeats 1000000 in
theorem two_c_5z (x y : BitVec 64) (w : World) (h : y = 0#64) : Calls Tryd.prog 108 #[.int .i64 5, .int .i64 (bi x), .int .i64 (bi y)] w fun e w' => e = .returned (twoV (twoF 5 x y)) ∧ w = w' := by
  have Hr : Hid (twoF 5 x y = none) := by show _ = _; unfold twoF; simp [*]
  have q0 : (decide (bi y ≤ 0) && decide (0 ≤ bi y)) = true := eq_yes (by rw [h]; rfl)
  clear h
  go_enter Tryd.func108, Tryd.ntmps108
  go_wp2_with fail
  go_ret2
  refine ⟨?_, rfl⟩
  rw [Hr.out]
  exact rfl
set_option maxRecDepth 100000 in
set_option maxHeartbeats 1000000 in
theorem two_c_5 (x y : BitVec 64) (w : World) (h : ¬ y = 0#64) (h0 : ¬ bi y = 0) : Calls Tryd.prog 108 #[.int .i64 5, .int .i64 (bi x), .int .i64 (bi y)] w fun e w' => e = .returned (twoV (twoF 5 x y)) ∧ w = w' := by
  have Hr : Hid (twoF 5 x y = some (bvOf ((bi x).tdiv (bi y)))) := by show _ = _; unfold twoF; simp [*]
  have q0 : (decide (bi y ≤ 0) && decide (0 ≤ bi y)) = false := eq_no h0
  have q1 : ¬ bi y = 0 := h0
  clear h h0
  go_enter Tryd.func108, Tryd.ntmps108
  go_wp2_with fail
  go_ret2
  refine ⟨?_, rfl⟩
  rw [Hr.out]
  exact ret_two (wrap64_bi _)
set_option maxRecDepth 100000 in
set_option maxHeartbeats 1000000 in
theorem two_c_6z (x y : BitVec 64) (w : World) (h : y = 0#64) : Calls Tryd.prog 108 #[.int .i64 6, .int .i64 (bi x), .int .i64 (bi y)] w fun e w' => e = .returned (twoV (twoF 6 x y)) ∧ w = w' := by
  have Hr : Hid (twoF 6 x y = none) := by show _ = _; unfold twoF; simp [*]
  have q0 : (decide (bi y ≤ 0) && decide (0 ≤ bi y)) = true := eq_yes (by rw [h]; rfl)
  clear h
  go_enter Tryd.func108, Tryd.ntmps108
  go_wp2_with fail
  go_ret2
  refine ⟨?_, rfl⟩
  rw [Hr.out]
  exact rfl
set_option maxRecDepth 100000 in
set_option maxHeartbeats 1000000 in
theorem two_c_6 (x y : BitVec 64) (w : World) (h : ¬ y = 0#64) (h0 : ¬ bi y = 0) : Calls Tryd.prog 108 #[.int .i64 6, .int .i64 (bi x), .int .i64 (bi y)] w fun e w' => e = .returned (twoV (twoF 6 x y)) ∧ w = w' := by
  have Hr : Hid (twoF 6 x y = some (bvOf ((bi x).tmod (bi y)))) := by show _ = _; unfold twoF; simp [*]
  have q0 : (decide (bi y ≤ 0) && decide (0 ≤ bi y)) = false := eq_no h0
  have q1 : ¬ bi y = 0 := h0
  clear h h0
  go_enter Tryd.func108, Tryd.ntmps108
  go_wp2_with fail
  go_ret2
  refine ⟨?_, rfl⟩
  rw [Hr.out]
  exact ret_two (tmod_bi x y)
set_option maxRecDepth 100000 in
set_option maxHeartbeats 1000000 in
theorem two_c_7 (x y : BitVec 64) (w : World) : Calls Tryd.prog 108 #[.int .i64 7, .int .i64 (bi x), .int .i64 (bi y)] w fun e w' => e = .returned (twoV (twoF 7 x y)) ∧ w = w' := by
  have Hr : Hid (twoF 7 x y = some (x &&& y)) := by show _ = _; unfold twoF; simp
  go_enter Tryd.func108, Tryd.ntmps108
  go_wp2_with fail
  go_ret2
  refine ⟨?_, rfl⟩
  rw [Hr.out]
  exact rfl
set_option maxRecDepth 100000 in
set_option maxHeartbeats 1000000 in
theorem two_c_8 (x y : BitVec 64) (w : World) : Calls Tryd.prog 108 #[.int .i64 8, .int .i64 (bi x), .int .i64 (bi y)] w fun e w' => e = .returned (twoV (twoF 8 x y)) ∧ w = w' := by
  have Hr : Hid (twoF 8 x y = some (x ||| y)) := by show _ = _; unfold twoF; simp
  go_enter Tryd.func108, Tryd.ntmps108
  go_wp2_with fail
  go_ret2
  refine ⟨?_, rfl⟩
  rw [Hr.out]
  exact rfl
set_option maxRecDepth 100000 in
set_option maxHeartbeats 1000000 in
theorem two_c_9 (x y : BitVec 64) (w : World) : Calls Tryd.prog 108 #[.int .i64 9, .int .i64 (bi x), .int .i64 (bi y)] w fun e w' => e = .returned (twoV (twoF 9 x y)) ∧ w = w' := by
  have Hr : Hid (twoF 9 x y = some (x ^^^ y)) := by show _ = _; unfold twoF; simp
  go_enter Tryd.func108, Tryd.ntmps108
  go_wp2_with fail
  go_ret2
  refine ⟨?_, rfl⟩
  rw [Hr.out]
  exact rfl
set_option maxRecDepth 100000 in
set_option maxHeartbeats 1000000 in
theorem two_c_10 (x y : BitVec 64) (w : World) : Calls Tryd.prog 108 #[.int .i64 10, .int .i64 (bi x), .int .i64 (bi y)] w fun e w' => e = .returned (twoV (twoF 10 x y)) ∧ w = w' := by
  have Hr : Hid (twoF 10 x y = some (x <<< shX y)) := by show _ = _; unfold twoF; simp
  have hlt := shX_lt y
  have hsu := sh_u64 y
  go_enter Tryd.func108, Tryd.ntmps108
  go_wp2_with fail
  go_ret2
  refine ⟨?_, rfl⟩
  rw [Hr.out]
  exact ret_two (shl_bi' x _)
set_option maxRecDepth 100000 in
set_option maxHeartbeats 1000000 in
theorem two_c_11 (x y : BitVec 64) (w : World) : Calls Tryd.prog 108 #[.int .i64 11, .int .i64 (bi x), .int .i64 (bi y)] w fun e w' => e = .returned (twoV (twoF 11 x y)) ∧ w = w' := by
  have Hr : Hid (twoF 11 x y = some (x.sshiftRight (shX y))) := by show _ = _; unfold twoF; simp
  have hlt := shX_lt y
  have hsu := sh_u64 y
  go_enter Tryd.func108, Tryd.ntmps108
  go_wp2_with fail
  go_ret2
  refine ⟨?_, rfl⟩
  rw [Hr.out]
  exact ret_two (shr_bi' x _)
set_option maxRecDepth 100000 in
set_option maxHeartbeats 1000000 in
theorem two_c_12y (x y : BitVec 64) (w : World) (h : bi x = bi y) : Calls Tryd.prog 108 #[.int .i64 12, .int .i64 (bi x), .int .i64 (bi y)] w fun e w' => e = .returned (twoV (twoF 12 x y)) ∧ w = w' := by
  have Hr : Hid (twoF 12 x y = some 1#64) := by show _ = _; unfold twoF; simp [*]
  have q0 : (decide (bi x ≤ bi y) && decide (bi y ≤ bi x)) = true := eq_yes h
  clear h
  go_enter Tryd.func108, Tryd.ntmps108
  go_wp2_with (go_at_call 144; ((with_reducible refine (yes_any _ _).mono ?_); rintro e w' ⟨rfl, rfl⟩))
  go_ret2
  refine ⟨?_, rfl⟩
  rw [Hr.out]
  exact rfl
set_option maxRecDepth 100000 in
set_option maxHeartbeats 1000000 in
theorem two_c_12n (x y : BitVec 64) (w : World) (h : ¬ bi x = bi y) : Calls Tryd.prog 108 #[.int .i64 12, .int .i64 (bi x), .int .i64 (bi y)] w fun e w' => e = .returned (twoV (twoF 12 x y)) ∧ w = w' := by
  have Hr : Hid (twoF 12 x y = some 0#64) := by show _ = _; unfold twoF; simp [*]
  have q0 : (decide (bi x ≤ bi y) && decide (bi y ≤ bi x)) = false := eq_no h
  clear h
  go_enter Tryd.func108, Tryd.ntmps108
  go_wp2_with (go_at_call 144; ((with_reducible refine (yes_any _ _).mono ?_); rintro e w' ⟨rfl, rfl⟩))
  go_ret2
  refine ⟨?_, rfl⟩
  rw [Hr.out]
  exact rfl
set_option maxRecDepth 100000 in
set_option maxHeartbeats 1000000 in
theorem two_c_13y (x y : BitVec 64) (w : World) (h : bi x = bi y) : Calls Tryd.prog 108 #[.int .i64 13, .int .i64 (bi x), .int .i64 (bi y)] w fun e w' => e = .returned (twoV (twoF 13 x y)) ∧ w = w' := by
  have Hr : Hid (twoF 13 x y = some 0#64) := by show _ = _; unfold twoF; simp [*]
  have q0 : (decide (bi x < bi y) || decide (bi y < bi x)) = false := ne_no h
  clear h
  go_enter Tryd.func108, Tryd.ntmps108
  go_wp2_with (go_at_call 144; ((with_reducible refine (yes_any _ _).mono ?_); rintro e w' ⟨rfl, rfl⟩))
  go_ret2
  refine ⟨?_, rfl⟩
  rw [Hr.out]
  exact rfl
set_option maxRecDepth 100000 in
set_option maxHeartbeats 1000000 in
theorem two_c_13n (x y : BitVec 64) (w : World) (h : ¬ bi x = bi y) : Calls Tryd.prog 108 #[.int .i64 13, .int .i64 (bi x), .int .i64 (bi y)] w fun e w' => e = .returned (twoV (twoF 13 x y)) ∧ w = w' := by
  have Hr : Hid (twoF 13 x y = some 1#64) := by show _ = _; unfold twoF; simp [*]
  have q0 : (decide (bi x < bi y) || decide (bi y < bi x)) = true := ne_yes h
  clear h
  go_enter Tryd.func108, Tryd.ntmps108
  go_wp2_with (go_at_call 144; ((with_reducible refine (yes_any _ _).mono ?_); rintro e w' ⟨rfl, rfl⟩))
  go_ret2
  refine ⟨?_, rfl⟩
  rw [Hr.out]
  exact rfl
set_option maxRecDepth 100000 in
set_option maxHeartbeats 1000000 in
theorem two_c_14y (x y : BitVec 64) (w : World) (h : bi x < bi y) : Calls Tryd.prog 108 #[.int .i64 14, .int .i64 (bi x), .int .i64 (bi y)] w fun e w' => e = .returned (twoV (twoF 14 x y)) ∧ w = w' := by
  have Hr : Hid (twoF 14 x y = some 1#64) := by show _ = _; unfold twoF; simp [*]
  have q0 : decide (bi x < bi y) = true := decide_eq_true h
  clear h
  go_enter Tryd.func108, Tryd.ntmps108
  go_wp2_with (go_at_call 144; ((with_reducible refine (yes_any _ _).mono ?_); rintro e w' ⟨rfl, rfl⟩))
  go_ret2
  refine ⟨?_, rfl⟩
  rw [Hr.out]
  exact rfl
set_option maxRecDepth 100000 in
set_option maxHeartbeats 1000000 in
theorem two_c_14n (x y : BitVec 64) (w : World) (h : ¬ bi x < bi y) : Calls Tryd.prog 108 #[.int .i64 14, .int .i64 (bi x), .int .i64 (bi y)] w fun e w' => e = .returned (twoV (twoF 14 x y)) ∧ w = w' := by
  have Hr : Hid (twoF 14 x y = some 0#64) := by show _ = _; unfold twoF; simp [*]
  have q0 : decide (bi x < bi y) = false := decide_eq_false h
  clear h
  go_enter Tryd.func108, Tryd.ntmps108
  go_wp2_with (go_at_call 144; ((with_reducible refine (yes_any _ _).mono ?_); rintro e w' ⟨rfl, rfl⟩))
  go_ret2
  refine ⟨?_, rfl⟩
  rw [Hr.out]
  exact rfl
set_option maxRecDepth 100000 in
set_option maxHeartbeats 1000000 in
theorem two_c_15y (x y : BitVec 64) (w : World) (h : bi x ≤ bi y) : Calls Tryd.prog 108 #[.int .i64 15, .int .i64 (bi x), .int .i64 (bi y)] w fun e w' => e = .returned (twoV (twoF 15 x y)) ∧ w = w' := by
  have Hr : Hid (twoF 15 x y = some 1#64) := by show _ = _; unfold twoF; simp [*]
  have q0 : decide (bi x ≤ bi y) = true := decide_eq_true h
  clear h
  go_enter Tryd.func108, Tryd.ntmps108
  go_wp2_with (go_at_call 144; ((with_reducible refine (yes_any _ _).mono ?_); rintro e w' ⟨rfl, rfl⟩))
  go_ret2
  refine ⟨?_, rfl⟩
  rw [Hr.out]
  exact rfl
set_option maxRecDepth 100000 in
set_option maxHeartbeats 1000000 in
theorem two_c_15n (x y : BitVec 64) (w : World) (h : ¬ bi x ≤ bi y) : Calls Tryd.prog 108 #[.int .i64 15, .int .i64 (bi x), .int .i64 (bi y)] w fun e w' => e = .returned (twoV (twoF 15 x y)) ∧ w = w' := by
  have Hr : Hid (twoF 15 x y = some 0#64) := by show _ = _; unfold twoF; simp [*]
  have q0 : decide (bi x ≤ bi y) = false := decide_eq_false h
  clear h
  go_enter Tryd.func108, Tryd.ntmps108
  go_wp2_with (go_at_call 144; ((with_reducible refine (yes_any _ _).mono ?_); rintro e w' ⟨rfl, rfl⟩))
  go_ret2
  refine ⟨?_, rfl⟩
  rw [Hr.out]
  exact rfl
set_option maxRecDepth 100000 in
set_option maxHeartbeats 1000000 in
theorem two_c_16 (x y : BitVec 64) (w : World) : Calls Tryd.prog 108 #[.int .i64 16, .int .i64 (bi x), .int .i64 (bi y)] w fun e w' => e = .returned (twoV (twoF 16 x y)) ∧ w = w' := by
  have Hr : Hid (twoF 16 x y = some (-x)) := by show _ = _; unfold twoF; simp
  go_enter Tryd.func108, Tryd.ntmps108
  go_wp2_with fail
  go_ret2
  refine ⟨?_, rfl⟩
  rw [Hr.out]
  exact ret_two (neg_bi x)
set_option maxRecDepth 100000 in
set_option maxHeartbeats 1000000 in
theorem two_c_17 (x y : BitVec 64) (w : World) : Calls Tryd.prog 108 #[.int .i64 17, .int .i64 (bi x), .int .i64 (bi y)] w fun e w' => e = .returned (twoV (twoF 17 x y)) ∧ w = w' := by
  have Hr : Hid (twoF 17 x y = some (~~~x)) := by show _ = _; unfold twoF; simp
  have hx := bi_range x
  obtain ⟨x1, x2⟩ := hx
  go_enter Tryd.func108, Tryd.ntmps108
  go_wp2_with fail
  go_ret2
  refine ⟨?_, rfl⟩
  rw [Hr.out]
  exact rfl
theorem two_c_any (op : Int) (x y : BitVec 64) (w : World) (h1 : 1 ≤ op) (h2 : op ≤ 17) : Calls Tryd.prog 108 #[.int .i64 op, .int .i64 (bi x), .int .i64 (bi y)] w fun e w' => e = .returned (twoV (twoF op x y)) ∧ w = w' := by
  have hs : op = 1 ∨ op = 2 ∨ op = 3 ∨ op = 4 ∨ op = 5 ∨ op = 6 ∨ op = 7 ∨ op = 8 ∨ op = 9 ∨ op = 10 ∨ op = 11 ∨ op = 12 ∨ op = 13 ∨ op = 14 ∨ op = 15 ∨ op = 16 ∨ op = 17 := by omega
  have hz : ∀ y : BitVec 64, ¬ y = 0#64 → ¬ bi y = 0 := fun y h e => h (bi_inj (e.trans (show (0 : Int) = bi 0#64 from rfl)))
  rcases hs with rfl | rfl | rfl | rfl | rfl | rfl | rfl | rfl | rfl | rfl | rfl | rfl | rfl | rfl | rfl | rfl | rfl
  · exact two_c_1 x y w
  · exact two_c_2 x y w
  · exact two_c_3 x y w
  · exact two_c_4 x y w
  · by_cases h : y = 0#64
    · exact two_c_5z x y w h
    · exact two_c_5 x y w h (hz y h)
  · by_cases h : y = 0#64
    · exact two_c_6z x y w h
    · exact two_c_6 x y w h (hz y h)
  · exact two_c_7 x y w
  · exact two_c_8 x y w
  · exact two_c_9 x y w
  · exact two_c_10 x y w
  · exact two_c_11 x y w
  · by_cases h : bi x = bi y
    · exact two_c_12y x y w h
    · exact two_c_12n x y w h
  · by_cases h : bi x = bi y
    · exact two_c_13y x y w h
    · exact two_c_13n x y w h
  · by_cases h : bi x < bi y
    · exact two_c_14y x y w h
    · exact two_c_14n x y w h
  · by_cases h : bi x ≤ bi y
    · exact two_c_15y x y w h
    · exact two_c_15n x y w h
  · exact two_c_16 x y w
  · exact two_c_17 x y w

end Go.Proofs.YtaehkcnankijfaaDoor
