import Derived.Test.YtpeejlpcikefcaaGreatDoorPSameU
import Derived.Test.YtpeejlpcikefcaaGreatDoorPBackI
/- The words of the memory that never change, plainly. still.within; turnerysame.Bools; turneryref5.WordsOf; turneryref6.StillFirst. The closure of still.Do: which instructions go. still.Do, plain: stores of still words go, loads of them become copies; a checked unit stays checked. -/
namespace Go.Proofs.YtpeejlpcikefcaaGreatDoor
section
open Go.RowKit
def amN(g:aaG):List Int:=g.init++List.replicate (g.size - g.init.length).toNat 0
def ai6(gs:List aaG)(k:Nat):List Int:=(gs.take k).flatMap amN
def apK(gs:List aaG):List Int:=ai6 gs gs.length
theorem alZ {gs:List aaG}{k:Nat}(h:k<gs.length):ai6 gs (k+1)=ai6 gs k++amN gs[k]:=by
 unfold ai6;rw [Abp h,List.flatMap_append];simp
theorem anF {g:aaG}(h:(g.init.length:Int)<=g.size):((amN g).length:Int)=g.size:=by
 unfold amN;rw [Aau,Ab1];omega
theorem anG {gs:List aaG}(h:∀g∈gs,(g.init.length:Int)<=g.size):∀k,k<=gs.length->((ai6 gs k).length:Int)=abm gs k:=by
 intro k
 induction k with
 | zero=>intro _;simp [ai6,abm]
 | succ k ih =>
   intro hk;rw [alZ hk,acQ hk,Aau,Int.natCast_add,ih (by omega),anF (h _ (Aas hk))]
def ar1(f:aav):List aaK:=f.blocks.flatMap (·.list)
def ajU(fs:List aav):List aaK:=fs.flatMap ar1
end
section
open Go.RowKit
theorem anH {gs:List aaG}(h:∀g∈gs,0<=g.size∧g.size<=200):∀k,k<=gs.length->0<=abm gs k∧abm gs k<=200 * k:=by
 intro k
 induction k with
 | zero=>intro _;simp [abm]
 | succ k ih =>
   intro hk;have:=ih (by omega);have h2:=h _ (Aas hk);rw [acQ hk];omega
end
section
open Go.RowKit
end
section
open Go.RowKit
section
variable {ls : List Bool} {mem : List Int}
theorem agw(x:Int)(h1 : -9223372036854775808<=x)(h2:x<=9223372036854775807):I64 x:=⟨h1,h2⟩
theorem agM {α : Type} {f g : α -> Nat} : ∀ {l : List α}, (∀ x ∈ l, f x <= g x) -> (l.map f).sum <= (l.map g).sum
 | [],_=>Aac _
 | x :: l,h=>by
   rw [Aa1,Aa1,Abj,Abj];exact Nat.add_le_add (h x (by simp)) (agM fun y hy=>h y (by simp [hy]))
end
end
end Go.Proofs.YtpeejlpcikefcaaGreatDoor
