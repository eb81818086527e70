import Derived.Test.YtgekbfgplclmeaaDoorPBits0
/- Tables of known bits, in plain Lean: whatever order one goes in, the rounds end at the same table. No program in sight. In static single assignment no bit of a register that is written is known to be both. No program in sight. -/
namespace Go.Proofs.YtgekbfgplclmeaaDoor
section
def af8(n:Int):BitVec 64:=BitVec.ofInt 64 n
end
section
end
end Go.Proofs.YtgekbfgplclmeaaDoor
