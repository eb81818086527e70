import Derived.Deep.RegionHeld3
import Derived.Test.YtnkfdeiigplhoaaGreatDoorPStill0
import Derived.Lib.QuietBelowIn
/- turnerysame.Vals, Ins, Block, Func, Globals, Units, None, where both read the same: true. turnerysame.Globals, Units, None, where both read the same: true. still.within; turnerysame.Bools; turneryref5.WordsOf; turneryref6.StillFirst. A region without a defer statement, inside a round: what serves outside a round serves in it. A region that draws its order and calls, walked once in the text's order, in a plain walk. -/
namespace Go.Proofs.YtnkfdeiigplhoaaGreatDoor
section
open Go.RowKit
theorem apZ {S:Nat->Prop}{w:World}{a:Option Addr}{n c:Nat}{l:List DVal}(h:SlAt S w 2 ady (.slice a n c) l){k:Nat}(hk:k<l.length) :
 ∃b off,a=some ⟨b,off,none⟩∧w.cell? ⟨b,off+k * 2,none⟩=some (.bool l[k].reg)∧w.cell? ⟨b,off+k * 2+1,none⟩=some (.int .i64 l[k].n):=by
 obtain⟨b,off,cs,ha,-,⟨rfl,-⟩,-,ad⟩:=h.get hk;obtain⟨c0,c1⟩:=ad.get2;exact⟨b,off,ha,c0,c1⟩
end
section
open Go.RowKit
end
section
open Go.RowKit
theorem ak9 {gs:List aas}(h:∀g∈gs,0<=g.size∧g.size<=200):∀k,k<=gs.length->0<=abe gs k∧abe gs k<=200 * k:=by
 intro k
 induction k with
 | zero=>intro _;simp [abe]
 | succ k ih =>
   intro hk;have:=ih (by omega);have h2:=h _ (Aaf hk);rw [acE hk];omega
end
section
open Go.RowKit Go.Sort
end
section
open Go.RowKit Go.Sort
theorem aaD {P : Program} {id : Nat} {Q : Exit -> Act -> World -> Prop} {a : Act} {w : World} {l : List Oper} (hm : P.follows .mixedOrders = true) (hB : Region.lexB .any l.toArray = true)
 (h:wpQuietIn Fence.wide 6 P l.toArray (fun w'=>∃p:Regrown,w'=grow (redrawn w p.d) p.os) (fun a'=>∀w',(∃p:Regrown,w'=grow (redrawn w p.d) p.os)->Q .normal a' w') l a):(Code.region id l.toArray true).wp P Q a w :=
 wpIn_wide.1 (wpIn_region_quiet (n:=6) (C:=fun w'=>∃p:Regrown,w'=grow (redrawn w p.d) p.os) rfl hm hB ⟨⟨w.drawn+1,#[]⟩,by rw [grow_empty];rfl⟩ (by simpa using h))
end
end Go.Proofs.YtnkfdeiigplhoaaGreatDoor
