/- turneryref6.StillOf: word by word. -/
import Derived.Test.YtnkogppgacappaaDoorPGlobs
namespace Go.Proofs.YtnkogppgacappaaDoor
open Go.RowKit

theorem insU_succ {fs:List DFunc}{k:Nat}(h:k<fs.length):insU (fs.take (k+1))=insU (fs.take k)++insF fs[k]:=by
 unfold insU;rw [List.take_succ_eq_append_getElem h,List.flatMap_append];simp
def insB(bs:List DBlock)(b:Nat):List DIns:=(bs.take b).flatMap (·.list)
theorem insB_succ {bs:List DBlock}{b:Nat}(h:b<bs.length):insB bs (b+1)=insB bs b++bs[b].list:=by
 unfold insB;rw [List.take_succ_eq_append_getElem h,List.flatMap_append];simp
theorem insB_all(f:DFunc):insB f.blocks f.blocks.length=insF f:=by unfold insB insF;rw [List.take_length]

end Go.Proofs.YtnkogppgacappaaDoor
