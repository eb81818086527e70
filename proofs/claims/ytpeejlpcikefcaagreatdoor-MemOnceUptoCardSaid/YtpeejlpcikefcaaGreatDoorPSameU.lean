import Derived.Test.YtpeejlpcikefcaaGreatDoorPWrite
import Derived.Deep.RegionHeld3
/- turnerysame.Vals, Ins, Block, Func, Globals, Units, None, where both read the same: true. turnerysame.Globals, Units, None, where both read the same: true. -/
namespace Go.Proofs.YtpeejlpcikefcaaGreatDoor
section
open Go.RowKit
theorem arQ {S:Nat->Prop}{w:World}{a:Option Addr}{n c:Nat}{l:List aay}(h:SlAt S w 2 agd (.slice a n c) l){k:Nat}(hk:k<l.length) :
 ∃b off,a=some ⟨b,off,none⟩∧w.cell? ⟨b,off+k * 2,none⟩=some (.bool l[k].reg)∧w.cell? ⟨b,off+k * 2+1,none⟩=some (.int .i64 l[k].n):=by
 obtain⟨b,off,cs,ha,-,⟨rfl,-⟩,-,ad⟩:=h.get hk;obtain⟨c0,c1⟩:=ad.get2;exact⟨b,off,ha,c0,c1⟩
end
section
open Go.RowKit
set_option maxHeartbeats 1000000 in
theorem aq7(ga fa:Option Addr)(gc fc n m:Nat)(w:World) :
 Calls Tryz.prog 9 #[.agg #[.slice ga n gc,.slice fa m fc]] w fun e w'=>e = .returned (.bool (decide (n=0)&&decide (m=0)))∧Below w.heap.size w w':=by
 by_cases h1:n=0
 . by_cases h2:m=0
   . subst h1 h2
     go_enter Tryz.func9,Tryz.ntmps9;go_wp2_with fail;go_ret;exact⟨rfl,bE⟩
   . subst h1
     have hq:decide (m=0)=false:=decide_eq_false h2;go_enter Tryz.func9,Tryz.ntmps9;go_wp2_with fail;go_ret;exact⟨by simp [h2],bE⟩
 . have hq:decide (n=0)=false:=decide_eq_false h1
   go_enter Tryz.func9,Tryz.ntmps9;go_wp2_with fail;go_ret;exact⟨by simp [h1],bE⟩
end
end Go.Proofs.YtpeejlpcikefcaaGreatDoor
