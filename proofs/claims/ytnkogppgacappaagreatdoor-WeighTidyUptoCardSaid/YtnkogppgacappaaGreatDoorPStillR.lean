/- turneryref6.StillOf: word by word. -/
import Derived.Test.YtnkogppgacappaaGreatDoorPRowSt
namespace Go.Proofs.YtnkogppgacappaaGreatDoor
open Go.RowKit

end Go.Proofs.YtnkogppgacappaaGreatDoor
