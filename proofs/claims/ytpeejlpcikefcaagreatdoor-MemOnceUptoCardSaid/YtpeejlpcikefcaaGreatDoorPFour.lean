import Derived.Test.YtpeejlpcikefcaaGreatDoorPHotW
/- A function with its blocks in another order, plainly. turn's copy of a block: its merges, as far as their sources are laid anew. turn's great loop: the state between two blocks, and a block's storing. The cells of objects just made. A unit and a fault handed back: two boxes of two cells written. -/
namespace Go.Proofs.YtpeejlpcikefcaaGreatDoor
section
open Go.RowKit
def ajs:DBlock:=⟨[],[],⟨0,⟨false,0⟩,[]⟩⟩
theorem aoo {r:List Nat}(ae:∀i j (hi:i<r.length) (hj:j<r.length),r[i]=r[j]->i=j){k:Nat}(hk:k<r.length)(x:Nat):atF r (k+1) x=if x=r[k] then k else atF r k x:=by
 unfold atF;rw [Aby hk,aoW]
 by_cases hx:x=r[k]
 . subst hx
   have hm:r[k]∈r:=Aaq _;have hl:r.idxOf r[k]<r.length:=List.idxOf_lt_length_iff.2 hm;have:=ae _ _ hl hk (List.getElem_idxOf hl);rw [if_pos (by simp),if_pos rfl,this]
 . rw [if_neg hx,show (x == r[k])=false by simpa using hx,Bool.or_false]
end
section
open Go.RowKit
end
section
open Go.RowKit
theorem aak {w:World}{b i:Nat}{cur:Array Value}{T:TypeId}{f:Nat×Nat}(h:w.heap[b]?=some (.cells cur T f))(u:Value):(w.setCell ⟨b,i,none⟩ u).heap[b]?=some (.cells (cur.setIfInBounds i u) T f):=by
 simp [World.setCell,Array.getElem?_modify,h]
theorem aaX {w:World}{b i:Nat}{cur:Array Value}{T:TypeId}{f:Nat×Nat}(h:w.heap[b]?=some (.cells cur T f)):w.cell? ⟨b,i,none⟩=cur[i]?:=by
 simp [World.cell?,h]
end
section
open Go.RowKit
theorem aff(w:World)(a b c:Obj):(((w.alloc a).alloc b).alloc c).heap.size=w.heap.size+3∧(((w.alloc a).alloc b).alloc c).heap[w.heap.size]?=some a∧(((w.alloc a).alloc b).alloc c).heap[w.heap.size+1]?=some b∧(((w.alloc a).alloc b).alloc c).heap[w.heap.size+1+1]?=some c:=by
 have hs:∀(v:World) (o:Obj),(v.alloc o).heap.size=v.heap.size+1:=fun v o=>by simp
 have s1:=hs w a;have s2:=hs (w.alloc a) b;have s3:=hs ((w.alloc a).alloc b) c;have e1:=heap_alloc_new w a;have e2:=heap_alloc_new (w.alloc a) b;have e3:=heap_alloc_new ((w.alloc a).alloc b) c;rw [s1] at e2;rw [s2,s1] at e3;refine⟨by omega,?_,?_,e3⟩
 . rw [Below.heap_alloc _ _ _ (by omega),Below.heap_alloc _ _ _ (by omega)];exact e1
 . rw [Below.heap_alloc _ _ _ (by omega)];exact e2
variable {w:World}
theorem aad{b:Nat}{cs:List Value}{T:TypeId}{f:Nat×Nat}(h:w.heap[b]?=some (.cells cs.toArray T f)):aal w b 0 cs:=fun j v hj=>by
 rw [Aab,aaX h,Ab7];exact hj
theorem aaq{b:Nat}{cur:Array Value}{T:TypeId}(h:w.heap[b]?=some (.cells cur T (0,0)))(i:Nat):w.frozen? ⟨b,i,none⟩=false:=by simp [World.frozen?,h]
theorem abE(w:World)(a b:Obj):((w.alloc a).alloc b).heap.size=w.heap.size+2∧((w.alloc a).alloc b).heap[w.heap.size]?=some a∧((w.alloc a).alloc b).heap[w.heap.size+1]?=some b:=by
 have hs:∀(v:World) (o:Obj),(v.alloc o).heap.size=v.heap.size+1:=fun v o=>by simp
 have s1:=hs w a;have s2:=hs (w.alloc a) b;have e1:=heap_alloc_new w a;have e2:=heap_alloc_new (w.alloc a) b;rw [s1] at e2;exact⟨by omega,by rw [Below.heap_alloc _ _ _ (by omega)];exact e1,e2⟩
theorem SlAt.live{α:Type}{r:Rp α}{S:Nat->Prop}{sz:Nat}{v:Value}{l:List α}(h0:0<sz)(hr:∀cs x,r S w cs x->r (fun b=>S b∧b<w.heap.size) w cs x)(h:SlAt S w sz r v l):SlAt (fun b=>S b∧b<w.heap.size) w sz r v l:=by
 obtain⟨ao,c,h1,h2,h3,h4⟩:=h;refine⟨ao,c,h1,h2,h3,fun ad=>?_⟩;obtain⟨b,off,h5,h6,h7⟩:=h4 ad;refine⟨b,off,h5,⟨h6,?_⟩,fun i x hx=>?_⟩
 . cases l with
   | nil=>exact absurd rfl ad
   | cons x l =>
     obtain⟨cs,g1,g2,g3⟩:=h7 0 x rfl;cases cs with
     | nil=>simp at g2;omega
     | cons u cs=>exact aac (g3 0 u rfl)
 . obtain⟨cs,g1,g2,g3⟩:=h7 i x hx
   exact⟨cs,hr _ _ g1,g2,g3⟩
theorem amo{S:Nat->Prop}(cs:List Value)(x:List Int)(h:rRow S w cs x):rRow (fun b=>S b∧b<w.heap.size) w cs x:=by
 obtain⟨v,h1,h2⟩:=h;exact⟨v,h1,h2.live (by decide) fun _ _ h=>h⟩
end
section
open Go.RowKit
def adN(W:World)(UO UX:Nat)(u0 u1 c a:Value):World:=(((W.setCell ⟨UO,0,none⟩ u0).setCell ⟨UO,1,none⟩ u1).setCell ⟨UX,0,none⟩ c).setCell ⟨UX,1,none⟩ a
variable {W:World}{UO UX:Nat}
theorem aeR{o0 o1 x0 x1:Value}(u0 u1 c a:Value)(hF:aal W UO 0 [o0,o1])(hX:aal W UX 0 [x0,x1])(ad:UO≠UX) :
 aal (adN W UO UX u0 u1 c a) UO 0 [u0,u1]∧aal (adN W UO UX u0 u1 c a) UX 0 [c,a]:=by
 unfold adN;have q4:=asV (u0:=u0) (u1:=u1) hF;obtain⟨W4,af⟩:∃W4,W4=(W.setCell ⟨UO,0,none⟩ u0).setCell ⟨UO,1,none⟩ u1:=⟨_,rfl⟩
 have ag:aal W4 UX 0 [x0,x1]:=fun j v hj=>by
  rw [af,aam _ (Ne.symm ad),aam _ (Ne.symm ad)];exact hX j v hj
 rw [<-af] at q4 ⊢;have q2:=asV (u0:=c) (u1:=a) ag;exact⟨fun j v hj=>by rw [aam _ ad,aam _ ad];exact q4 j v hj,q2⟩
variable {u0 u1 c a:Value}
theorem ad5{B:Nat}{w:World}(h:Below B w W)(hF:B<=UO)(hX:B<=UX):Below B w (adN W UO UX u0 u1 c a) :=
 (((h.setCell (p:=⟨UO,0,none⟩) hF _).setCell (p:=⟨UO,1,none⟩) hF _).setCell (p:=⟨UX,0,none⟩) hX _).setCell (p:=⟨UX,1,none⟩) hX _
theorem akn{b:Nat}(h1:b≠UO)(h2:b≠UX):(adN W UO UX u0 u1 c a).heap[b]?=W.heap[b]?:=by
 unfold adN;rw [Below.heap_setCell _ _ _ _ (by dsimp only;exact h2),Below.heap_setCell _ _ _ _ (by dsimp only;exact h2),Below.heap_setCell _ _ _ _ (by dsimp only;exact h1),Below.heap_setCell _ _ _ _ (by dsimp only;exact h1)]
theorem agZ{fn : Func} (ah : fn.results = #[.cell 2 25, .cell 3 27]) {tmps : Array Value}
 (h4:tmps.getD 2 undef = .pointer (some ⟨UO,0,none⟩)) (h5:tmps.getD 3 undef = .pointer (some ⟨UX,0,none⟩)) (hF:aal W UO 0 [u0,u1]) (hX:aal W UX 0 [c,a]) :
 (results fn tmps).run Tryz.prog W = .ok (.tuple #[.agg #[u0,u1],.agg #[c,a]]) W:=by
 obtain⟨a0,a1⟩:=hF.get2;obtain⟨b0,b1⟩:=hX.get2;simp only [Acl] at h4 h5;simp [results,ah,h4,h5,go_sem,a0,a1,b0,b1]
end
end Go.Proofs.YtpeejlpcikefcaaGreatDoor
