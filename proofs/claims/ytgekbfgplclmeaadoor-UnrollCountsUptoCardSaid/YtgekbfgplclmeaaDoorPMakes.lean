import Derived.Test.YtgekbfgplclmeaaDoorPRun0
import Derived.Shelf.Spec.TrailingZeros
/- math/bits.TrailingZeros64; bits.low. bits.makes. -/
namespace Go.Proofs.YtgekbfgplclmeaaDoor
section
open Go.RowKit
def bn(x:BitVec 64):Nat:=x.toNat
@[go_sem] theorem alQ(x:BitVec 64):IntKind.u64.wrap (bi x)=(bn x:Int):=by
  unfold bi bn;rw [BitVec.toInt_eq_toNat_bmod,IntKind.wrap_u64,Int.bmod];have:=x.isLt;split <;> omega
@[go_sem] theorem akT(x:BitVec 64):bits .xor .u64 IntKind.u64.max (bn x:Int)=(bn (~~~x):Int):=by
  show IntKind.u64.wrap ((BitVec.ofInt 64 18446744073709551615 ^^^ BitVec.ofInt 64 (x.toNat:Int)).toNat:Int)=_;rw [acR,show BitVec.ofInt 64 18446744073709551615=BitVec.allOnes 64 by decide,BitVec.allOnes_xor,IntKind.wrap_u64];unfold bn;have:=(~~~x).isLt;omega
end
section
open Go.RowKit
theorem acm(n:Int):wrap64 n=bi (BitVec.ofInt 64 n):=by
 rw [<-ae0,IntKind.wrap_i64];unfold wrap64;omega
@[go_sem] theorem al2(x y:BitVec 64):wrap64 (bi x+bi y)=bi (x+y):=by
  rw [acm];unfold bi;rw [BitVec.ofInt_add,BitVec.ofInt_toInt,BitVec.ofInt_toInt]
@[go_sem] theorem amh(x y:BitVec 64):wrap64 (bi x * bi y)=bi (x * y):=by
  rw [acm];unfold bi;rw [BitVec.ofInt_mul,BitVec.ofInt_toInt,BitVec.ofInt_toInt]
@[go_sem] theorem amj(x:BitVec 64):wrap64 (-bi x)=bi (-x):=by
  rw [acm];unfold bi;rw [BitVec.ofInt_neg,BitVec.ofInt_toInt]
@[go_sem] theorem amv(x y:BitVec 64):wrap64 (bi x - bi y)=bi (x - y):=by
  rw [acm];unfold bi;rw [Int.sub_eq_add_neg,BitVec.ofInt_add,BitVec.ofInt_neg,BitVec.ofInt_toInt,BitVec.ofInt_toInt,BitVec.sub_eq_add_neg]
@[go_sem] theorem amR(x:BitVec 64):bits .and .i64 (bi x) 63=(shX x:Int):=by
  rw [show (63:Int)=bi 63#64 from rfl,agR];unfold bi shX;have h:(x &&& 63#64).toNat=x.toNat % 64:=by
   rw [BitVec.toNat_and];exact Nat.and_two_pow_sub_one_eq_mod x.toNat 6
  rw [BitVec.toInt_eq_toNat_of_lt (by rw [h];omega),h]
theorem ajr(x:BitVec 64):shX x<64:=Nat.mod_lt _ (by omega)
end
end Go.Proofs.YtgekbfgplclmeaaDoor
