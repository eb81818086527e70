/- math/bits.TrailingZeros64; bits.low. bits.makes. -/
import Derived.Test.YtaehkcnankijfaaDoorPRowB
import Derived.Shelf.Spec.TrailingZeros
namespace Go.Proofs.YtaehkcnankijfaaDoor
open Go.RowKit

/-- A number of 64 bits, as uint64 has it. -/
def bn (x : BitVec 64) : Nat := x.toNat
@[go_sem] theorem wrap_u64_bi (x : BitVec 64) : IntKind.u64.wrap (bi x) = (bn x : Int) := by
  unfold bi bn
  rw [BitVec.toInt_eq_toNat_bmod, IntKind.wrap_u64, Int.bmod]
  have := x.isLt
  split <;> omega
@[go_sem] theorem bits_not_bn (x : BitVec 64) : bits .xor .u64 IntKind.u64.max (bn x : Int) = (bn (~~~x) : Int) := by
  show IntKind.u64.wrap ((BitVec.ofInt 64 18446744073709551615 ^^^ BitVec.ofInt 64 (x.toNat : Int)).toNat : Int) = _
  rw [ofInt_nat, show BitVec.ofInt 64 18446744073709551615 = BitVec.allOnes 64 by decide, BitVec.allOnes_xor, IntKind.wrap_u64]
  unfold bn
  have := (~~~x).isLt
  omega

end Go.Proofs.YtaehkcnankijfaaDoor

namespace Go.Proofs.YtaehkcnankijfaaDoor
open Go.RowKit

theorem wrap64_bi (n : Int) : wrap64 n = bi (BitVec.ofInt 64 n) := by
  rw [← wrap_bi, IntKind.wrap_i64]; unfold wrap64; omega
@[go_sem] theorem add_bi (x y : BitVec 64) : wrap64 (bi x + bi y) = bi (x + y) := by
  rw [wrap64_bi]; unfold bi; rw [BitVec.ofInt_add, BitVec.ofInt_toInt, BitVec.ofInt_toInt]
@[go_sem] theorem mul_bi (x y : BitVec 64) : wrap64 (bi x * bi y) = bi (x * y) := by
  rw [wrap64_bi]; unfold bi; rw [BitVec.ofInt_mul, BitVec.ofInt_toInt, BitVec.ofInt_toInt]
@[go_sem] theorem neg_bi (x : BitVec 64) : wrap64 (-bi x) = bi (-x) := by
  rw [wrap64_bi]; unfold bi; rw [BitVec.ofInt_neg, BitVec.ofInt_toInt]
@[go_sem] theorem sub_bi (x y : BitVec 64) : wrap64 (bi x - bi y) = bi (x - y) := by
  rw [wrap64_bi]; unfold bi; rw [Int.sub_eq_add_neg, BitVec.ofInt_add, BitVec.ofInt_neg, BitVec.ofInt_toInt, BitVec.ofInt_toInt, BitVec.sub_eq_add_neg]
/-- By how much a shift shifts. -/
def shX (x : BitVec 64) : Nat := x.toNat % 64
@[go_sem] theorem sh_bi (x : BitVec 64) : bits .and .i64 (bi x) 63 = (shX x : Int) := by
  rw [show (63 : Int) = bi 63#64 from rfl, bits_and_bv]
  unfold bi shX
  have h : (x &&& 63#64).toNat = x.toNat % 64 := by
    rw [BitVec.toNat_and]
    exact Nat.and_two_pow_sub_one_eq_mod x.toNat 6
  rw [BitVec.toInt_eq_toNat_of_lt (by rw [h]; omega), h]
theorem shX_lt (x : BitVec 64) : shX x < 64 := Nat.mod_lt _ (by omega)

end Go.Proofs.YtaehkcnankijfaaDoor
