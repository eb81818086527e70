/- turnerysame.Vals, Ins, Block, Func, Globals, Units, None, where both read the same: true. turnerysame.Globals, Units, None, where both read the same: true. -/
import Derived.Test.YtnkogppgacappaaDoorPCloneR
import Derived.Test.YtnkogppgacappaaDoorPMrg1
import Derived.Deep.RegionHeld3
namespace Go.Proofs.YtnkogppgacappaaDoor
open Go.RowKit

theorem val_at {S:Nat→Prop}{w:World}{a:Option Addr}{n c:Nat}{l:List DVal}(h:SlAt S w 2 rVal (.slice a n c) l){k:Nat}(hk:k<l.length) :
 ∃b off,a=some ⟨b,off,none⟩∧w.cell? ⟨b,off+k * 2,none⟩=some (.bool l[k].reg)∧w.cell? ⟨b,off+k * 2+1,none⟩=some (.int .i64 l[k].n):=by
 obtain⟨b,off,cs,ha,-,⟨rfl,-⟩,-,hcs⟩:=h.get hk;obtain⟨c0,c1⟩:=hcs.get2;exact⟨b,off,ha,c0,c1⟩

end Go.Proofs.YtnkogppgacappaaDoor

namespace Go.Proofs.YtnkogppgacappaaDoor
open Go.RowKit

set_option maxHeartbeats 1000000 in
theorem none_any(ga fa:Option Addr)(gc fc n m:Nat)(w:World) :
 Calls Tryd.prog 10 #[.agg #[.slice ga n gc,.slice fa m fc]] w fun e w'=>e = .returned (.bool (decide (n=0)&&decide (m=0)))∧Below w.heap.size w w':=by
 by_cases h1:n=0
 · by_cases h2:m=0
   · subst h1 h2
     go_enter Tryd.func10,Tryd.ntmps10;go_wp2_with fail;go_ret;exact⟨rfl,by (repeat (first | exact Below.refl _ _ | refine Below.alloc ?_ (by first|omega|(simp<;>omega)) _ | refine Below.setCell ?_ (by first|omega|(simp<;>omega)) _ | refine below_drewN ?_ _ | refine Below.drew ?_))⟩
   · subst h1
     have hq:decide (m=0)=false:=decide_eq_false h2;go_enter Tryd.func10,Tryd.ntmps10;go_wp2_with fail;go_ret;exact⟨by simp [h2],by (repeat (first | exact Below.refl _ _ | refine Below.alloc ?_ (by first|omega|(simp<;>omega)) _ | refine Below.setCell ?_ (by first|omega|(simp<;>omega)) _ | refine below_drewN ?_ _ | refine Below.drew ?_))⟩
 · have hq:decide (n=0)=false:=decide_eq_false h1
   go_enter Tryd.func10,Tryd.ntmps10;go_wp2_with fail;go_ret;exact⟨by simp [h1],by (repeat (first | exact Below.refl _ _ | refine Below.alloc ?_ (by first|omega|(simp<;>omega)) _ | refine Below.setCell ?_ (by first|omega|(simp<;>omega)) _ | refine below_drewN ?_ _ | refine Below.drew ?_))⟩

end Go.Proofs.YtnkogppgacappaaDoor
