import Derived.Test.YtgekbfgplclmeaaDoorPOnce0
import Derived.Test.YtgekbfgplclmeaaDoorPRefA
/- A function with its blocks in another order, plainly. turn's copy of a block: its merges, as far as their sources are laid anew. turn's great loop: the state between two blocks, and a block's storing. The cells of objects just made. -/
namespace Go.Proofs.YtgekbfgplclmeaaDoor
section
open Go.RowKit
def adU:aad:=⟨[],[],⟨0,⟨false,0⟩,[]⟩⟩
theorem aiF {r:List Nat}(ad:∀i j (hi:i<r.length) (hj:j<r.length),r[i]=r[j]->i=j){k:Nat}(hk:k<r.length)(x:Nat):atF r (k+1) x=if x=r[k] then k else atF r k x:=by
 unfold atF;rw [Aaz hk,aiS]
 by_cases hx:x=r[k]
 . subst hx
   have hm:r[k]∈r:=Aai _;have hl:r.idxOf r[k]<r.length:=List.idxOf_lt_length_iff.2 hm;have:=ad _ _ hl hk (List.getElem_idxOf hl);rw [if_pos (by simp),if_pos rfl,this]
 . rw [if_neg hx,show (x == r[k])=false by simpa using hx,Bool.or_false]
end
section
open Go.RowKit
end
section
open Go.RowKit
theorem aaK {w:World}{b i:Nat}{cur:Array Value}{T:TypeId}{f:Nat×Nat}(h:w.heap[b]?=some (.cells cur T f))(u:Value):(w.setCell ⟨b,i,none⟩ u).heap[b]?=some (.cells (cur.setIfInBounds i u) T f):=by
 simp [World.setCell,Array.getElem?_modify,h]
theorem aaH {w:World}{b i:Nat}{cur:Array Value}{T:TypeId}{f:Nat×Nat}(h:w.heap[b]?=some (.cells cur T f)):w.cell? ⟨b,i,none⟩=cur[i]?:=by
 simp [World.cell?,h]
end
section
open Go.RowKit
theorem ag1(w:World)(a b c:Obj):(((w.alloc a).alloc b).alloc c).heap.size=w.heap.size+3∧(((w.alloc a).alloc b).alloc c).heap[w.heap.size]?=some a∧(((w.alloc a).alloc b).alloc c).heap[w.heap.size+1]?=some b∧(((w.alloc a).alloc b).alloc c).heap[w.heap.size+1+1]?=some c:=by
 have hs:∀(v:World) (o:Obj),(v.alloc o).heap.size=v.heap.size+1:=fun v o=>by simp
 have s1:=hs w a;have s2:=hs (w.alloc a) b;have s3:=hs ((w.alloc a).alloc b) c;have e1:=heap_alloc_new w a;have e2:=heap_alloc_new (w.alloc a) b;have e3:=heap_alloc_new ((w.alloc a).alloc b) c;rw [s1] at e2;rw [s2,s1] at e3;refine⟨by omega,?_,?_,e3⟩
 . rw [Below.heap_alloc _ _ _ (by omega),Below.heap_alloc _ _ _ (by omega)];exact e1
 . rw [Below.heap_alloc _ _ _ (by omega)];exact e2
variable {w:World}
theorem aar{b:Nat}{cs:List Value}{T:TypeId}{f:Nat×Nat}(h:w.heap[b]?=some (.cells cs.toArray T f)):aaj w b 0 cs:=fun j v hj=>by
 rw [Aac,aaH h,List.getElem?_toArray];exact hj
theorem aaP{b:Nat}{cur:Array Value}{T:TypeId}(h:w.heap[b]?=some (.cells cur T (0,0)))(i:Nat):w.frozen? ⟨b,i,none⟩=false:=by simp [World.frozen?,h]
theorem SlAt.live{α:Type}{r:Rp α}{S:Nat->Prop}{sz:Nat}{v:Value}{l:List α}(h0:0<sz)(hr:∀cs x,r S w cs x->r (fun b=>S b∧b<w.heap.size) w cs x)(h:SlAt S w sz r v l):SlAt (fun b=>S b∧b<w.heap.size) w sz r v l:=by
 obtain⟨ao,c,h1,h2,h3,h4⟩:=h;refine⟨ao,c,h1,h2,h3,fun ae=>?_⟩;obtain⟨b,off,h5,h6,h7⟩:=h4 ae;refine⟨b,off,h5,⟨h6,?_⟩,fun i x hx=>?_⟩
 . cases l with
   | nil=>exact absurd rfl ae
   | cons x l =>
     obtain⟨cs,g1,g2,g3⟩:=h7 0 x rfl;cases cs with
     | nil=>simp at g2;omega
     | cons u cs=>exact aac (g3 0 u rfl)
 . obtain⟨cs,g1,g2,g3⟩:=h7 i x hx
   exact⟨cs,hr _ _ g1,g2,g3⟩
theorem ake{S:Nat->Prop}(cs:List Value)(x:List Int)(h:rRow S w cs x):rRow (fun b=>S b∧b<w.heap.size) w cs x:=by
 obtain⟨v,h1,h2⟩:=h;exact⟨v,h1,h2.live (by decide) fun _ _ h=>h⟩
end
end Go.Proofs.YtgekbfgplclmeaaDoor
