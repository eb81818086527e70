/- Known bits, in plain Lean: what instructions make of them, and that it is monotone. No program in sight. Tables of known bits, in plain Lean: whatever order one goes in, the rounds end at the same table. No program in sight. -/
import Derived.Test.YtaehkcnankijfaaDoorPVals
namespace Go.Proofs.YtaehkcnankijfaaDoor

namespace Kn
end Kn

end Go.Proofs.YtaehkcnankijfaaDoor

namespace Go.Proofs.YtaehkcnankijfaaDoor

/- The updates of a function. -/
def bvOf (n : Int) : BitVec 64 := BitVec.ofInt 64 n
end Go.Proofs.YtaehkcnankijfaaDoor
