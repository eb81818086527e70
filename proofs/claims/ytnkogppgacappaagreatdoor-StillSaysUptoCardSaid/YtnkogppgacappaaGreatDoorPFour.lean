/- Heaps, plainly: an array as a function; sifting down. The order of blocks, plainly. The order of blocks, plainly: each block once, the first one first, and each behind the best one. A function with its blocks in another order, plainly. turn's copy of a block: its merges, as far as their sources are laid anew. turn's great loop: the state between two blocks, and a block's storing. The cells of objects just made. A unit and a fault handed back: two boxes of two cells written. -/
import Derived.Test.YtnkogppgacappaaGreatDoorPEq
import Derived.Test.YtnkogppgacappaaGreatDoorPRefA
import Derived.Test.YtnkogppgacappaaGreatDoorPBack
import Derived.Test.YtnkogppgacappaaGreatDoorPCloneR
namespace Go.Proofs.YtnkogppgacappaaGreatDoor
open Go.RowKit

end Go.Proofs.YtnkogppgacappaaGreatDoor

namespace Go.Proofs.YtnkogppgacappaaGreatDoor
open Go.RowKit

end Go.Proofs.YtnkogppgacappaaGreatDoor

namespace Go.Proofs.YtnkogppgacappaaGreatDoor
open Go.RowKit

end Go.Proofs.YtnkogppgacappaaGreatDoor

namespace Go.Proofs.YtnkogppgacappaaGreatDoor
open Go.RowKit

end Go.Proofs.YtnkogppgacappaaGreatDoor

namespace Go.Proofs.YtnkogppgacappaaGreatDoor
open Go.RowKit

end Go.Proofs.YtnkogppgacappaaGreatDoor

namespace Go.Proofs.YtnkogppgacappaaGreatDoor
open Go.RowKit

theorem heap_set_row {w:World}{b i:Nat}{cur:Array Value}{T:TypeId}{f:Nat×Nat}(h:w.heap[b]?=some (.cells cur T f))(u:Value):(w.setCell ⟨b,i,none⟩ u).heap[b]?=some (.cells (cur.setIfInBounds i u) T f):=by
 simp [World.setCell,Array.getElem?_modify,h]
theorem cell_row {w:World}{b i:Nat}{cur:Array Value}{T:TypeId}{f:Nat×Nat}(h:w.heap[b]?=some (.cells cur T f)):w.cell? ⟨b,i,none⟩=cur[i]?:=by
 simp [World.cell?,h]
end Go.Proofs.YtnkogppgacappaaGreatDoor

namespace Go.Proofs.YtnkogppgacappaaGreatDoor
open Go.RowKit

theorem heap_threeF(w:World)(a b c:Obj):(((w.alloc a).alloc b).alloc c).heap.size=w.heap.size+3∧(((w.alloc a).alloc b).alloc c).heap[w.heap.size]?=some a∧(((w.alloc a).alloc b).alloc c).heap[w.heap.size+1]?=some b∧(((w.alloc a).alloc b).alloc c).heap[w.heap.size+1+1]?=some c:=by
 have hs:∀(v:World) (o:Obj),(v.alloc o).heap.size=v.heap.size+1:=fun v o=>by simp
 have s1:=hs w a;have s2:=hs (w.alloc a) b;have s3:=hs ((w.alloc a).alloc b) c;have e1:=heap_alloc_new w a;have e2:=heap_alloc_new (w.alloc a) b;have e3:=heap_alloc_new ((w.alloc a).alloc b) c;rw [s1] at e2;rw [s2,s1] at e3;refine⟨by omega,?_,?_,e3⟩
 · rw [Below.heap_alloc _ _ _ (by omega),Below.heap_alloc _ _ _ (by omega)];exact e1
 · rw [Below.heap_alloc _ _ _ (by omega)];exact e2
theorem cells_of {w:World}{b:Nat}{cs:List Value}{T:TypeId}{f:Nat×Nat}(h:w.heap[b]?=some (.cells cs.toArray T f)):CellsAt w b 0 cs:=fun j v hj=>by
 rw [Nat.zero_add,cell_row h,List.getElem?_toArray];exact hj
theorem thawed {w:World}{b:Nat}{cur:Array Value}{T:TypeId}(h:w.heap[b]?=some (.cells cur T (0,0)))(i:Nat):w.frozen? ⟨b,i,none⟩=false:=by simp [World.frozen?,h]
theorem two_cells(w:World)(a b:Obj):((w.alloc a).alloc b).heap.size=w.heap.size+2∧((w.alloc a).alloc b).heap[w.heap.size]?=some a∧((w.alloc a).alloc b).heap[w.heap.size+1]?=some b:=by
 have hs:∀(v:World) (o:Obj),(v.alloc o).heap.size=v.heap.size+1:=fun v o=>by simp
 have s1:=hs w a;have s2:=hs (w.alloc a) b;have e1:=heap_alloc_new w a;have e2:=heap_alloc_new (w.alloc a) b;rw [s1] at e2;exact⟨by omega,by rw [Below.heap_alloc _ _ _ (by omega)];exact e1,e2⟩
theorem SlAt.live {α:Type}{r:Rp α}{S:Nat→Prop}{w:World}{sz:Nat}{v:Value}{l:List α}(h0:0<sz)(hr:∀cs x,r S w cs x→r (fun b=>S b∧b<w.heap.size) w cs x)(h:SlAt S w sz r v l):SlAt (fun b=>S b∧b<w.heap.size) w sz r v l:=by
 obtain⟨ao,c,h1,h2,h3,h4⟩:=h;refine⟨ao,c,h1,h2,h3,fun hne=>?_⟩;obtain⟨b,off,h5,h6,h7⟩:=h4 hne;refine⟨b,off,h5,⟨h6,?_⟩,fun i x hx=>?_⟩
 · cases l with
   | nil=>exact absurd rfl hne
   | cons x l =>
     obtain⟨cs,g1,g2,g3⟩:=h7 0 x rfl;cases cs with
     | nil=>simp at g2;omega
     | cons u cs=>exact cell_lt (g3 0 u rfl)
 · obtain⟨cs,g1,g2,g3⟩:=h7 i x hx
   exact⟨cs,hr _ _ g1,g2,g3⟩
theorem live_row {S:Nat→Prop}{w:World}(cs:List Value)(x:List Int)(h:rRow S w cs x):rRow (fun b=>S b∧b<w.heap.size) w cs x:=by
 obtain⟨v,h1,h2⟩:=h;exact⟨v,h1,h2.live (by decide) fun _ _ h=>h⟩

end Go.Proofs.YtnkogppgacappaaGreatDoor

namespace Go.Proofs.YtnkogppgacappaaGreatDoor
open Go.RowKit

def fourW(W:World)(UO UX:Nat)(u0 u1 c a:Value):World:=(((W.setCell ⟨UO,0,none⟩ u0).setCell ⟨UO,1,none⟩ u1).setCell ⟨UX,0,none⟩ c).setCell ⟨UX,1,none⟩ a
theorem four_cells {W:World}{UO UX:Nat}{o0 o1 x0 x1:Value}(u0 u1 c a:Value)(hF:CellsAt W UO 0 [o0,o1])(hX:CellsAt W UX 0 [x0,x1])(hne:UO≠UX) :
 CellsAt (fourW W UO UX u0 u1 c a) UO 0 [u0,u1]∧CellsAt (fourW W UO UX u0 u1 c a) UX 0 [c,a]:=by
 unfold fourW;have q4:=set2 (u0:=u0) (u1:=u1) hF;obtain⟨W4,hW4⟩:∃W4,W4=(W.setCell ⟨UO,0,none⟩ u0).setCell ⟨UO,1,none⟩ u1:=⟨_,rfl⟩
 have hX4:CellsAt W4 UX 0 [x0,x1]:=fun j v hj=>by
  rw [hW4,cell_set_ne _ (Ne.symm hne),cell_set_ne _ (Ne.symm hne)];exact hX j v hj
 rw [←hW4] at q4 ⊢;have q2:=set2 (u0:=c) (u1:=a) hX4;exact⟨fun j v hj=>by rw [cell_set_ne _ hne,cell_set_ne _ hne];exact q4 j v hj,q2⟩
theorem below_fourW {B:Nat}{w W:World}{UO UX:Nat}{u0 u1 c a:Value}(h:Below B w W)(hF:B≤UO)(hX:B≤UX):Below B w (fourW W UO UX u0 u1 c a) :=
 (((h.setCell (p:=⟨UO,0,none⟩) hF _).setCell (p:=⟨UO,1,none⟩) hF _).setCell (p:=⟨UX,0,none⟩) hX _).setCell (p:=⟨UX,1,none⟩) hX _
theorem four_heap {W:World}{UO UX:Nat}{u0 u1 c a:Value}{b:Nat}(h1:b≠UO)(h2:b≠UX):(fourW W UO UX u0 u1 c a).heap[b]?=W.heap[b]?:=by
 unfold fourW;rw [Below.heap_setCell _ _ _ _ (by dsimp only;exact h2),Below.heap_setCell _ _ _ _ (by dsimp only;exact h2),Below.heap_setCell _ _ _ _ (by dsimp only;exact h1),Below.heap_setCell _ _ _ _ (by dsimp only;exact h1)]
theorem unit_res {fn : Func} (hfn : fn.results = #[.cell 2 25, .cell 3 27]) {tmps : Array Value} {W : World} {UO UX : Nat} {u0 u1 c a : Value}
 (h4:tmps.getD 2 undef = .pointer (some ⟨UO,0,none⟩)) (h5:tmps.getD 3 undef = .pointer (some ⟨UX,0,none⟩)) (hF:CellsAt W UO 0 [u0,u1]) (hX:CellsAt W UX 0 [c,a]) :
 (results fn tmps).run Tryz.prog W = .ok (.tuple #[.agg #[u0,u1],.agg #[c,a]]) W:=by
 obtain⟨a0,a1⟩:=hF.get2;obtain⟨b0,b1⟩:=hX.get2;simp only [Array.getD_eq_getD_getElem?] at h4 h5;simp [results,hfn,h4,h5,go_sem,a0,a1,b0,b1]

end Go.Proofs.YtnkogppgacappaaGreatDoor
