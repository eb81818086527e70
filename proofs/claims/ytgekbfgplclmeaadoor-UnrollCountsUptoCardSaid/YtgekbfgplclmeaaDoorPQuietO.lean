import Derived.Lib.QuietBelowIn
import Derived.Sort.BigQuietIn
import Derived.RangeFuncCalls
import Derived.Test.YtgekbfgplclmeaaDoorPRepI
/- A region without a defer statement, inside a round: what serves outside a round serves in it. A region that draws its order and calls, walked once in the text's order, in a plain walk. -/
namespace Go.Proofs.YtgekbfgplclmeaaDoor
section
open Go.RowKit Go.Sort
end
section
open Go.RowKit Go.Sort
theorem aaw {P : Program} {id : Nat} {Q : Exit -> Act -> World -> Prop} {a : Act} {w : World} {l : List Oper} (hm : P.follows .mixedOrders = true) (hB : Region.lexB .any l.toArray = true)
 (h:wpQuietIn Fence.wide 6 P l.toArray (fun w'=>∃p:Regrown,w'=grow (redrawn w p.d) p.os) (fun a'=>∀w',(∃p:Regrown,w'=grow (redrawn w p.d) p.os)->Q .normal a' w') l a):(Code.region id l.toArray true).wp P Q a w :=
 wpIn_wide.1 (wpIn_region_quiet (n:=6) (C:=fun w'=>∃p:Regrown,w'=grow (redrawn w p.d) p.os) rfl hm hB ⟨⟨w.drawn+1,#[]⟩,by rw [grow_empty];rfl⟩ (by simpa using h))
end
end Go.Proofs.YtgekbfgplclmeaaDoor
