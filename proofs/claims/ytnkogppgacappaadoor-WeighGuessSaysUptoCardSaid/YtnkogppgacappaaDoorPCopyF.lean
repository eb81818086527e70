/- calls.CopyFunc: a function of the call's own memory. -/
import Derived.Test.YtnkogppgacappaaDoorPCopyB
import Derived.Deep.RegionLaw
import Derived.Deep.RegionWith
namespace Go.Proofs.YtnkogppgacappaaDoor
open Go.RowKit

/-- The sizes of a block that are asked of it. -/
structure SmallB (x : DBlock) : Prop where
  phis : x.phis.length ≤ 1048576
  list : x.list.length ≤ 1048576
  to : x.fin.to.length ≤ 1048576
  src : ∀ p ∈ x.phis, p.src.length ≤ 1048576
  args : ∀ i ∈ x.list, i.args.length ≤ 1048576

end Go.Proofs.YtnkogppgacappaaDoor
