import Derived.Test.YtpeejlpcikefcaaGreatDoorPSd
/- A unit's functions whose instructions go or change in place. still.Do's loops, plainly: what is done up to a place. -/
namespace Go.Proofs.YtpeejlpcikefcaaGreatDoor
section
open Go.RowKit
end
section
open Go.RowKit
def upF {α:Type}(f:α->α)(l:List α)(k:Nat):List α:=l.mapIdx fun i x=>if i<k then f x else x
section
variable {α : Type} (f : α -> α) {l : List α} {k : Nat} {x : α}
theorem amQ(l:List α):upF f l 0=l:=aif (fun _=>f) l
theorem apG(h:l[k]?=some x):(upF f l k).set k (f x)=upF f l (k+1):=ak6 (fun _=>f) h
theorem apH(h:l[k]?=some x):(upF f l k)[k]?=some x:=apO (fun _=>f) h
theorem apI(l:List α)(k:Nat):(upF f l k).length=l.length:=Abf
theorem apJ(h:l.length<=k):upF f l k=l.map f:=by
 unfold upF;apply Aap;intro i;rw [Abr,Aak]
 by_cases hi:i<l.length
 . rw [Aaa hi,Aaw,Aaw,if_pos (by omega)]
 . rw [Aas (by omega)];rfl
end
end
end Go.Proofs.YtpeejlpcikefcaaGreatDoor
