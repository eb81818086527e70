/- In static single assignment no bit of a register that is written is known to be both. No program in sight. Rows of 64 codes: known bits as the document writes them; the rounds of a table, step by step. No program in sight. -/
import Derived.Test.YtaehkcnankijfaaDoorPBits1
namespace Go.Proofs.YtaehkcnankijfaaDoor


end Go.Proofs.YtaehkcnankijfaaDoor

namespace Go.Proofs.YtaehkcnankijfaaDoor

end Go.Proofs.YtaehkcnankijfaaDoor
