import Derived.Test.YtnkfdeiigplhoaaGreatDoorPSortI
/- Known bits, in plain Lean: what instructions make of them, and that it is monotone. No program in sight. Tables of known bits, in plain Lean: whatever order one goes in, the rounds end at the same table. No program in sight. In static single assignment no bit of a register that is written is known to be both. No program in sight. Rows of 64 codes: known bits as the document writes them; the rounds of a table, step by step. No program in sight. -/
namespace Go.Proofs.YtnkfdeiigplhoaaGreatDoor
section
namespace Kn
end Kn
end
section
def akm(n:Int):BitVec 64:=BitVec.ofInt 64 n
end
section
end
section
end
end Go.Proofs.YtnkfdeiigplhoaaGreatDoor
