/- turneryref6.StillOf: word by word. -/
import Derived.Test.YtnkogppgacappaaGreatDoorPGlobs
namespace Go.Proofs.YtnkogppgacappaaGreatDoor
open Go.RowKit

theorem insU_succ {fs:List DFunc}{k:Nat}(h:k<fs.length):insU (fs.take (k+1))=insU (fs.take k)++insF fs[k]:=by
 unfold insU;rw [List.take_succ_eq_append_getElem h,List.flatMap_append];simp
end Go.Proofs.YtnkogppgacappaaGreatDoor
