import Derived.Test.YtpeejlpcikefcaaGreatDoorPEq
import Derived.RangeFuncNested
import Derived.RangeFuncBound
import Derived.Shelf.RegionOpen
import Derived.OwnWalkIn
import Derived.LoopNIn
import Derived.LoopIn
/- Slices of structs that the call makes itself: what they hold, and how they grow. No function of the program in sight. slices.Clone of []int and of []api.Val: the copy is the call's own. calls.CopyBlock: a block of the call's own memory. calls.Each: all instructions of a function, one by one, in memory that the loop over them may change elsewhere. slices.Backward over a list of numbers, in memory that the loop over it may change elsewhere. -/
set_option maxHeartbeats 4000000
set_option maxRecDepth 100000
namespace Go.Proofs.YtpeejlpcikefcaaGreatDoor
section
open Go.RowKit
def iv(a b:Nat):Nat->Prop:=fun x=>a<=x∧x<b
def arC(base:Nat)(w:World)(v:Value):Nat->Prop:=fun b=>base<=b∧b<w.heap.size∧v.ownBlock≠some b
def Own {α:Type}(base:Nat)(w:World)(e:TypeId)(sz:Nat)(r:Rp α)(v:Value)(l:List α):Prop :=
 ∃xss:List (List Value),w.ownsRow base e sz v l.length xss.flatten∧xss.length=l.length∧(∀(i:Nat) cs,xss[i]?=some cs->cs.length=sz) ∧
   ∀(i:Nat) cs x,xss[i]?=some cs->l[i]?=some x->r (arC base w v) w cs x
theorem aeo {sz : Nat} : ∀ (xss : List (List Value)), (∀ (i : Nat) cs, xss[i]? = some cs -> cs.length = sz) -> ∀ (i j : Nat) cs, xss[i]? = some cs -> j < sz -> xss.flatten[i * sz + j]? = cs[j]?
 | [],_,i,_,cs,h,_=>by simp at h
 | ys :: xss,hl,0,j,cs,h,hj=>by
   have e:ys=cs:=by simpa using h
   subst e;have h0:=hl 0 ys rfl;rw [Abv,Nat.zero_mul,Aab,Abj (by omega)]
 | ys :: xss,hl,i+1,j,cs,h,hj=>by
   have h0:=hl 0 ys rfl;rw [Abv,Abu (by rw [h0,Nat.add_mul];omega),h0];rw [show (i+1) * sz+j - sz=i * sz+j by rw [Nat.add_mul];omega];exact aeo xss (fun k aj hk=>hl (k+1) aj (by simpa using hk)) i j cs (by simpa using h) hj
theorem abl {sz : Nat} : ∀ (xss : List (List Value)), (∀ (i : Nat) cs, xss[i]? = some cs -> cs.length = sz) -> xss.flatten.length = xss.length * sz
 | [],_=>by simp
 | ys :: xss,hl=>by
   have h0:=hl 0 ys rfl;have h1:=abl xss (fun k aj hk=>hl (k+1) aj (by simpa using hk));rw [Abv,Aau,h0,h1,Aba,Nat.add_mul];omega
section
variable {α : Type} {base : Nat} {w w' : World} {e : TypeId} {sz : Nat} {r : Rp α} {v v' : Value} {l : List α}
theorem Own.nil(base:Nat)(w:World)(e:TypeId)(sz:Nat)(r:Rp α):Own base w e sz r (.slice none 0 0) [] :=
 ⟨[],World.ownsRow_nil w base e sz,rfl,fun i cs h=>by simp at h,fun i cs x h=>by simp at h⟩
theorem Own.lt(h:Own base w e sz r v l):∀g,v.ownBlock=some g->base<=g∧g<w.heap.size:=by
 obtain⟨xss,h1,-⟩:=h;exact h1.lt
theorem Own.shape(h:Own base w e sz r v l):∃a c,v = .slice a l.length c:=by
 obtain⟨xss,h1,-⟩:=h;rcases h1.2 with⟨rfl,h2⟩ | ⟨g,cap,cur,rfl,-⟩
 . exact⟨none,0,by rw [h2]⟩
 . exact⟨_,_,rfl⟩
theorem aho {B:Nat}(hb:Below w.heap.size w w')(row:Option Nat)(_h:B<=w.heap.size):w.grownBy w' row:=⟨hb.os,hb.tape,hb.output,hb.size,fun k hk _=>hb.block k hk⟩
theorem Own.later(hr:r.Mono)(h:Own base w e sz r v l)(hb:Below w.heap.size w w'):Own base w' e sz r v l:=by
 obtain⟨xss,h1,h2,h3,h4⟩:=h;refine⟨xss,h1.kept (aho (B:=0) hb none (Aaj _)) ?_,h2,h3,fun i cs x hi hx=>?_⟩
 . cases v.ownBlock <;> simp
 . exact hr.out _ _ _ _ _ _ (fun b aH=>⟨aH.1,Aay aH.2.1 hb.size,aH.2.2⟩) (aaS.below' hb) (h4 i cs x hi hx)
theorem Own.toSl(hr:r.Mono)(_h0:0<sz)(h:Own base w e sz r v l):SlAt (iv base w.heap.size) w sz r v l:=by
 obtain⟨xss,h1,h2,h3,h4⟩:=h;rcases id h1.2 with⟨rfl,hl⟩ | ⟨g,cap,cur,rfl,hg,hgg,hn,hm,hc,ht⟩
 . have aK:l=[]:=Acd.1 hl
   subst aK;exact⟨none,0,rfl,Aac _,by decide,fun h=>absurd rfl h⟩
 . unfold maxLen at hm
   refine⟨_,cap,rfl,hn,by omega,fun be=>⟨g,0,rfl,⟨hg,(Aag.1 hgg).1⟩,fun i x hx=>?_⟩⟩;have hi:i<xss.length:=by rw [h2];exact (Aad.1 hx).1
   have ag:=Aaa hi;refine⟨xss[i],hr.out _ _ _ _ _ _ (fun b hb=>⟨hb.1,hb.2.1⟩) (aaS.refl _ _) (h4 i _ x ag hx),h3 i _ ag,fun j u hj=>?_⟩;have aF:j<sz:=by rw [<-h3 i _ ag];exact (Aad.1 hj).1
   have hf:=aeo xss h3 i j _ ag aF;rw [hj] at hf;have ah:=h1.cells (g:=g) rfl (i * sz+j) u hf;rw [show (⟨g,0,none⟩:Addr).add (i * sz+j)=⟨g,i * sz+j,none⟩ by unfold Addr.add;split <;> simp_all] at ah;rw [Aab];exact ah
theorem Own.snoc (hr : r.Mono) (_h : Own base w e sz r v l) {xss : List (List Value)} (_h1 : w.ownsRow base e sz v l.length xss.flatten) (h2 : xss.length = l.length) (h3 : ∀ (i : Nat) cs, xss[i]? = some cs -> cs.length = sz)
 (h4:∀(i:Nat) cs x,xss[i]?=some cs->l[i]?=some x->r (arC base w v) w cs x) {cs:List Value} {y:α} (hl:cs.length=sz) (hy:r (arC base w v) w cs y)
 (af:w'.ownsRow base e sz v' (l.length+1) (xss.flatten++cs)) (ae:w.grownBy w' v.ownBlock) (aL:v'.ownBlock=v.ownBlock∨v'.ownBlock=some w.heap.size):Own base w' e sz r v' (l++[y]):=by
 have aQ:aaS (arC base w v) w w':=fun b o u hb hc=>by
  rw [World.cell?_of_block (w:=w) (a:=⟨b,o,none⟩) (ae.block b hb.2.1 (fun e=>hb.2.2 e.symm))];exact hc
 have hS : ∀ b, arC base w v b -> arC base w' v' b := fun b hb => ⟨hb.1, Aay hb.2.1 ae.size, fun e => by
  rcases aL with h | h
  . exact hb.2.2 (by rw [<- h]; exact e)
  . rw [h] at e; have := hb.2.1; cases e; omega⟩
 refine⟨xss++[cs],?_,by simp [h2],fun i aj hi=>?_,fun i aj x hi hx=>?_⟩
 . rw [Abs,Aau];simpa using af
 . rcases Abm i xss.length with h' | h'
   . rw [Abj h'] at hi;exact h3 i aj hi
   . rw [Abu h'] at hi
     have:=Aae hi;rw [Aax] at this;rw [this];exact hl
 . rcases Abm i xss.length with h' | h'
   . rw [Abj h'] at hi
     rw [Abj (by omega)] at hx;exact hr.out _ _ _ _ _ _ hS aQ (h4 i aj x hi hx)
   . rw [Abu h'] at hi
     rw [Abu (by omega)] at hx;have e1:=Aae hi;have e2:=Aae hx;rw [Aax] at e1 e2;rw [e1,e2];exact hr.out _ _ _ _ _ _ hS aQ hy
end
def agO {α:Type}(a b:Nat)(w:World)(e:TypeId)(sz:Nat)(r:Rp α)(v:Value)(l:List α):Prop :=
 ∃xss:List (List Value),w.ownsRow a e sz v l.length xss.flatten∧(∀g,v.ownBlock=some g->g<b)∧xss.length=l.length∧(∀(i:Nat) cs,xss[i]?=some cs->cs.length=sz) ∧
   ∀(i:Nat) cs x,xss[i]?=some cs->l[i]?=some x->r (fun k=>a<=k∧k<b∧v.ownBlock≠some k) w cs x
theorem Own.inn {α:Type}{base:Nat}{w:World}{e:TypeId}{sz:Nat}{r:Rp α}{v:Value}{l:List α}(h:Own base w e sz r v l):agO base w.heap.size w e sz r v l:=by
 obtain⟨xss,h1,h2,h3,h4⟩:=h;exact⟨xss,h1,fun g hg=>(h1.lt g hg).2,h2,h3,h4⟩
section
variable {α : Type} {a b : Nat} {w w' : World} {e : TypeId} {sz : Nat} {r : Rp α} {v : Value} {l : List α}
theorem agO.kept(hr:r.Mono)(h:agO a b w e sz r v l)(hk:∀k,a<=k->k<b->w'.heap[k]?=w.heap[k]?):agO a b w' e sz r v l:=by
 obtain⟨xss,h1,hb,h2,h3,h4⟩:=h;refine⟨xss,⟨h1.1,?_⟩,hb,h2,h3,fun i cs x hi hx=>hr.out _ _ _ _ _ _ (fun _ h=>h) (fun k o u hS hc=>?_) (h4 i cs x hi hx)⟩
 . rcases h1.2 with hn | ⟨g,cap,cur,rfl,hg,hgg,rest⟩
   . exact .inl hn
   . exact .inr ⟨g,cap,cur,rfl,hg,by rw [hk g hg (hb g rfl)];exact hgg,rest⟩
 . rw [World.cell?_of_block (w:=w) (a:=⟨k,o,none⟩) (hk k hS.1 hS.2.1)];exact hc
theorem agO.toSl(hr:r.Mono)(_h0:0<sz)(h:agO a b w e sz r v l):SlAt (iv a b) w sz r v l:=by
 obtain⟨xss,h1,hb,h2,h3,h4⟩:=h;rcases id h1.2 with⟨rfl,hl⟩ | ⟨g,cap,cur,rfl,hg,hgg,hn,hm,hc,ht⟩
 . have aK:l=[]:=Acd.1 hl
   subst aK;exact⟨none,0,rfl,Aac _,by decide,fun h=>absurd rfl h⟩
 . unfold maxLen at hm
   refine⟨_,cap,rfl,hn,by omega,fun be=>⟨g,0,rfl,⟨hg,hb g rfl⟩,fun i x hx=>?_⟩⟩;have hi:i<xss.length:=by rw [h2];exact (Aad.1 hx).1
   have ag:=Aaa hi;refine⟨xss[i],hr.out _ _ _ _ _ _ (fun b hb=>⟨hb.1,hb.2.1⟩) (aaS.refl _ _) (h4 i _ x ag hx),h3 i _ ag,fun j u hj=>?_⟩;have aF:j<sz:=by rw [<-h3 i _ ag];exact (Aad.1 hj).1
   have hf:=aeo xss h3 i j _ ag aF;rw [hj] at hf;have ah:=h1.cells (g:=g) rfl (i * sz+j) u hf;rw [show (⟨g,0,none⟩:Addr).add (i * sz+j)=⟨g,i * sz+j,none⟩ by unfold Addr.add;split <;> simp_all] at ah;rw [Aab];exact ah
theorem agO.shape(h:agO a b w e sz r v l):∃o c,v = .slice o l.length c:=by
 obtain⟨xss,h1,-⟩:=h;rcases h1.2 with⟨rfl,h2⟩ | ⟨g,cap,cur,rfl,-⟩
 . exact⟨none,0,by rw [h2]⟩
 . exact⟨_,_,rfl⟩
end
variable {w:World}
theorem acI{S:Nat->Prop}{w':World}(h:∀b,S b->b<w.heap.size->w'.heap[b]?=w.heap[b]?):aaS S w w':=fun b o v hb hc=>by
 rw [World.cell?_of_block (w:=w) (a:=⟨b,o,none⟩) (h b hb (aac hc))];exact hc
variable {α:Type}
theorem Own.sub{lo base : Nat} {w2 W : World} {e : TypeId} {sz : Nat} {r : Rp α} {v' v0 : Value} {l : List α} (h : Own lo w2 e sz r v' l) (hr : r.Mono) (h0 : 0 < sz) (aU : base <= lo) (bd : ∀ g, v0.ownBlock = some g -> g < lo)
 (hW:∀b,lo<=b->b<w2.heap.size->W.heap[b]?=w2.heap[b]?) (aE:w2.heap.size<=W.heap.size):SlAt (arC base W v0) W sz r v' l:=by
 refine ((h.toSl hr h0).mono hr (fun _ hb=>hb) (acI (w':=W) (fun b hb hl=>hW b hb.1 hb.2))).mono hr (fun b hb=>⟨Aai aU hb.1,Aay hb.2 aE,fun e=>?_⟩) (aaS.refl _ _);have:=bd b e;have:=hb.1;omega
variable {b:Nat}
theorem ae4(w:World)(p:Addr)(u:Value)(o:Obj)(hb:b<w.heap.size)(hp:b≠p.block):((w.setCell p u).alloc o).heap[b]?=w.heap[b]?:=by
 rw [Below.heap_alloc _ _ _ (by simp [World.setCell];exact hb),Below.heap_setCell _ _ _ _ hp]
theorem aaB(w:World)(cs:List Value)(T:TypeId){n:Nat}(hn:n=w.heap.size):∀(j:Nat) u,cs[j]?=some u->(w.alloc (.cells cs.toArray T)).cell? ((⟨n,0,none⟩:Addr).add j)=some u:=by
 intro j u hj;subst hn;rw [show (⟨w.heap.size,0,none⟩:Addr).add j=⟨w.heap.size,j,none⟩ by unfold Addr.add;split <;> simp_all,World.cell?_alloc_new];simpa using hj
variable {i:Nat}
theorem aaE{x:Value}(h:w.cell? ⟨b,i,none⟩=some x)(u:Value)(j:Nat):(w.setCell ⟨b,i,none⟩ u).cell? ⟨b,j,none⟩=if j=i then some u else w.cell? ⟨b,j,none⟩:=by
 simp only [World.cell?] at h;cases hh:w.heap[b]? with
 | none=>rw [hh] at h;cases h
 | some o =>
   rw [hh] at h;cases o with
   | cells c t f =>
     have hi:i<c.size:=by
      rcases Abm i c.size with h1 | h1
      . exact h1
      . simp [Array.getElem?_eq_none h1] at h
     simp only [World.cell?,World.setCell,Array.getElem?_modify,hh]
     by_cases hji:j=i
     . subst hji;simp [hi]
     . simp [hji,Ne.symm hji]
   | _=>cases h
theorem aam(w:World){b':Nat}(hb:b'≠b)(u:Value)(j:Nat):(w.setCell ⟨b,i,none⟩ u).cell? ⟨b',j,none⟩=w.cell? ⟨b',j,none⟩ :=
 World.cell?_of_block (w:=w) (a:=⟨b',j,none⟩) (Below.heap_setCell _ _ _ _ hb)
theorem ab2{n:Nat}{u:Value}(h:∀k,k<n->∃x,w.cell? ⟨b,k,none⟩=some x)(hi:i<n):∀k,k<n->∃x,(w.setCell ⟨b,i,none⟩ u).cell? ⟨b,k,none⟩=some x:=by
 intro k hk;obtain⟨x,hx⟩:=h i hi;rw [aaE hx]
 by_cases hki:k=i
 . rw [if_pos hki];exact⟨_,rfl⟩
 . rw [if_neg hki];exact h k hk
variable {o0 o1 u0 u1:Value}
theorem asV(h:aal w b 0 [o0,o1]):aal ((w.setCell ⟨b,0,none⟩ u0).setCell ⟨b,1,none⟩ u1) b 0 [u0,u1]:=by
 have g0:∀k,k<2->∃x,w.cell? ⟨b,k,none⟩=some x:=fun k hk=>⟨_,by have h1:=h k ([o0,o1][k]'(by simpa using hk)) (Aaa _);rw [Aab] at h1;exact h1⟩
 have g1:=ab2 (i:=0) (u:=u0) g0 (by decide);have g2:=ab2 (i:=1) (u:=u1) g1 (by decide);obtain⟨x0,e0⟩:=g0 0 (by decide);obtain⟨x1,e1⟩:=g1 1 (by decide);intro j v hj;rw [Aab]
 match j,hj with
 | 0,hj=>cases hj;rw [aaE e1,if_neg (by decide),aaE e0,if_pos rfl]
 | 1,hj=>cases hj;rw [aaE e1,if_pos rfl]
 | k+2,hj=>simp at hj
theorem asW{o2 o3 u2 u3:Value}(h:aal w b 0 [o0,o1,o2,o3]):aal ((((w.setCell ⟨b,0,none⟩ u0).setCell ⟨b,1,none⟩ u1).setCell ⟨b,2,none⟩ u2).setCell ⟨b,3,none⟩ u3) b 0 [u0,u1,u2,u3]:=by
 have g0:∀k,k<4->∃x,w.cell? ⟨b,k,none⟩=some x:=fun k hk=>⟨_,by have h1:=h k ([o0,o1,o2,o3][k]'(by simpa using hk)) (Aaa _);rw [Aab] at h1;exact h1⟩
 have g1:=ab2 (i:=0) (u:=u0) g0 (by decide);have g2:=ab2 (i:=1) (u:=u1) g1 (by decide);have g3:=ab2 (i:=2) (u:=u2) g2 (by decide);have g4:=ab2 (i:=3) (u:=u3) g3 (by decide);obtain⟨x0,e0⟩:=g0 0 (by decide);obtain⟨x1,e1⟩:=g1 1 (by decide);obtain⟨x2,e2⟩:=g2 2 (by decide);obtain⟨x3,e3⟩:=g3 3 (by decide);intro j v hj;rw [Aab]
 match j,hj with
 | 0,hj=>cases hj;rw [aaE e3,if_neg (by decide),aaE e2,if_neg (by decide),aaE e1,if_neg (by decide),aaE e0,if_pos rfl]
 | 1,hj=>cases hj;rw [aaE e3,if_neg (by decide),aaE e2,if_neg (by decide),aaE e1,if_pos rfl]
 | 2,hj=>cases hj;rw [aaE e3,if_neg (by decide),aaE e2,if_pos rfl]
 | 3,hj=>cases hj;rw [aaE e3,if_pos rfl]
 | k+4,hj=>simp at hj
theorem auf{o2 o3 o4 o5 u2 u3 u4 u5:Value}(h:aal w b 0 [o0,o1,o2,o3,o4,o5]):aal ((((((w.setCell ⟨b,0,none⟩ u0).setCell ⟨b,1,none⟩ u1).setCell ⟨b,2,none⟩ u2).setCell ⟨b,3,none⟩ u3).setCell ⟨b,4,none⟩ u4).setCell ⟨b,5,none⟩ u5) b 0 [u0,u1,u2,u3,u4,u5]:=by
 have g0:∀k,k<6->∃x,w.cell? ⟨b,k,none⟩=some x:=fun k hk=>⟨_,by have h1:=h k ([o0,o1,o2,o3,o4,o5][k]'(by simpa using hk)) (Aaa _);rw [Aab] at h1;exact h1⟩
 have g1:=ab2 (i:=0) (u:=u0) g0 (by decide);have g2:=ab2 (i:=1) (u:=u1) g1 (by decide);have g3:=ab2 (i:=2) (u:=u2) g2 (by decide);have g4:=ab2 (i:=3) (u:=u3) g3 (by decide);have g5:=ab2 (i:=4) (u:=u4) g4 (by decide);have g6:=ab2 (i:=5) (u:=u5) g5 (by decide);obtain⟨x0,e0⟩:=g0 0 (by decide);obtain⟨x1,e1⟩:=g1 1 (by decide);obtain⟨x2,e2⟩:=g2 2 (by decide);obtain⟨x3,e3⟩:=g3 3 (by decide);obtain⟨x4,e4⟩:=g4 4 (by decide);obtain⟨x5,e5⟩:=g5 5 (by decide);intro j v hj;rw [Aab]
 match j,hj with
 | 0,hj=>cases hj;rw [aaE e5,if_neg (by decide),aaE e4,if_neg (by decide),aaE e3,if_neg (by decide),aaE e2,if_neg (by decide),aaE e1,if_neg (by decide),aaE e0,if_pos rfl]
 | 1,hj=>cases hj;rw [aaE e5,if_neg (by decide),aaE e4,if_neg (by decide),aaE e3,if_neg (by decide),aaE e2,if_neg (by decide),aaE e1,if_pos rfl]
 | 2,hj=>cases hj;rw [aaE e5,if_neg (by decide),aaE e4,if_neg (by decide),aaE e3,if_neg (by decide),aaE e2,if_pos rfl]
 | 3,hj=>cases hj;rw [aaE e5,if_neg (by decide),aaE e4,if_neg (by decide),aaE e3,if_pos rfl]
 | 4,hj=>cases hj;rw [aaE e5,if_neg (by decide),aaE e4,if_pos rfl]
 | 5,hj=>cases hj;rw [aaE e5,if_pos rfl]
 | k+6,hj=>simp at hj
theorem af8 {α : Type} {P : Program} {w : World} {ops : Array Oper} {rest : List Oper} {o : Oper} {a : Act} {Q : Exit -> Act -> World -> Prop} (a6 : o.guard = none) (s x : Operand) (t : TypeId)
 (ho:o.op = .call { callee := .builtin .append,args:=#[s,x],argTypes:=#[t,t] })
 (base:Nat) (e:TypeId) (i:TypeInfo) (z:Value) (size bytes:Nat) (ht:P.underlying t=some (.slice e)) (hi:P.info? e=some i) (hz:i.zero=some z)
 (ax:i.size=size) (a8:i.bytes=bytes) (bf:z.cells.size=size) (aE:0<size)
 {r:Rp α} (hr:r.Mono) (v:Value) (l:List α) (hs:a.eval s=v) (ai:Own base w e size r v l)
 (ad:Addr) (c:Nat) (cs:List Value) (y:α) (hx:a.eval x = .slice (some ad) 1 c) (hl:cs.length=size) (ay:∀(j:Nat) u,cs[j]?=some u->w.cell? (ad.add j)=some u) (h1:∀u∈cs,u.oneCell'=true) (hy:r (arC base w v) w cs y)
 (hn:l.length+1<=2097152) (ak:bytes<=4096) (aq:base<=w.heap.size)
 (h:∀v' w',Own base w' e size r v' (l++[y])->w.grownBy w' v.ownBlock->(∃g cap,v' = .slice (some ⟨g,0,none⟩) (l.length+1) cap)->wpList P ops Q rest (a.put o.dst v') w') :
 wpList P ops Q (o :: rest) a w:=by
 have av:=ai;obtain⟨xss,p1,p2,p3,p4⟩:=ai;have hb:(l.length+1) * bytes<=140737488355328:=by
  have:=Nat.mul_le_mul hn ak;omega
 refine wpList_append_own_at w a6 s x t ho base e i z size bytes ht hi hz ax a8 bf aE v l.length xss.flatten hs p1 ad 1 c cs hx (by rw [hl];omega) ay h1 (by unfold maxLen;omega) hb aq ?_;intro v' w' af ae aI aL;refine h v' w' (av.snoc hr p1 p2 p3 p4 hl hy af ae aL) ae ?_;rcases af.2 with⟨e,e2⟩ | ⟨g,cap,cur,e,-⟩
 . omega
 . exact⟨g,cap,e⟩
theorem Own.setLow{base:Nat}{e:TypeId}{sz:Nat}{r:Rp α}{v:Value}{l:List α}(h:Own base w e sz r v l)(hr:r.Mono){p:Addr}(hp:p.block<base)(u:Value):Own base (w.setCell p u) e sz r v l:=by
 obtain⟨xss,h1,h2,h3,h4⟩:=h;have hs:(w.setCell p u).heap.size=w.heap.size:=by simp [World.setCell]
 refine⟨xss,ownsRow_setCell_below h1 hp u,h2,h3,fun i cs x hi hx=>hr.out _ _ _ _ _ _ (fun b hb=>⟨hb.1,by rw [hs];exact hb.2.1,hb.2.2⟩) (acI (fun b hb _=>Below.heap_setCell _ _ _ _ (fun e=>?_))) (h4 i cs x hi hx)⟩;have:=hb.1;omega
end
section
open Go.RowKit
def ahp(x:Int):List Value:=[.int .i64 x]
variable {α:Type}{w:World}{sz:Nat}
theorem Own.of_row{base : Nat}  {e : TypeId}  {r : Rp α} {v : Value} {l : List α} {enc : α -> List Value} (h : w.ownsRow base e sz v l.length (l.flatMap enc)) (he : ∀ x, (enc x).length = sz)
 (hr:∀S,∀x∈l,r S w (enc x) x):Own base w e sz r v l:=by
 refine⟨l.map enc,by rw [<-List.flatMap_def];exact h,by simp,fun i cs hi=>?_,fun i cs x hi hx=>?_⟩
 . rw [Aak] at hi
   obtain⟨x,-,rfl⟩:=Option.map_eq_some_iff.1 hi;exact he x
 . rw [Aak,hx] at hi
   cases hi;exact hr _ x (Aae hx)
variable {n c:Nat}
theorem SlAt.flat{S : Nat -> Prop}   {r : Rp α} {ad : Addr}  {l : List α} {enc : α -> List Value} (h : SlAt S w sz r (.slice (some ad) n c) l) (he : ∀ x, (enc x).length = sz) (h0 : 0 < sz)
 (hr:∀cs x,r S w cs x->cs=enc x):∀(j:Nat) u,(l.flatMap enc)[j]?=some u->w.cell? (ad.add j)=some u:=by
 intro j u hj;have hl:∀(i:Nat) cs,(l.map enc)[i]?=some cs->cs.length=sz:=fun i cs hi=>by
  rw [Aak] at hi;obtain⟨x,-,rfl⟩:=Option.map_eq_some_iff.1 hi;exact he x
 rw [List.flatMap_def] at hj;have aN:j<(l.map enc).flatten.length:=(Aad.1 hj).1;rw [abl _ hl,Aah] at aN;have hi:j / sz<l.length:=Nat.div_lt_of_lt_mul (by rw [Nat.mul_comm];exact aN);have ht:j % sz<sz:=Nat.mod_lt _ h0;have hd:j / sz * sz+j % sz=j:=by rw [Nat.mul_comm];exact Nat.div_add_mod j sz
 have h1:=aeo (l.map enc) hl (j / sz) (j % sz) (enc l[j / sz]) (by rw [Aak,Aaa hi];rfl) ht;rw [hd,hj] at h1;obtain⟨b,off,cs,ha,-,aS,-,ag⟩:=h.get hi;cases ha;rw [hr _ _ aS] at ag;have h2:=ag (j % sz) u h1.symm;rw [show (⟨b,off,none⟩:Addr).add j=⟨b,off+j / sz * sz+j % sz,none⟩ by rw [Nat.add_assoc,hd];unfold Addr.add;split <;> simp_all];exact h2
variable {S:Nat->Prop}
theorem SlAt.none{r:Rp α}{l:List α}(h:SlAt S w sz r (.slice Option.none n c) l):l=[]:=by
 obtain⟨ao,c',hv,-,-,h⟩:=h;cases hv
 by_cases hl:l=[]
 . exact hl
 . obtain⟨b,off,ha,-⟩:=h hl
   cases ha
theorem ajl:(Tryz.prog.info? 3).map (fun i=>(i.zero,i.size,i.bytes))=some (some (.int .i64 0),1,8):=by kernel_rfl
theorem ahq:(Tryz.prog.info? 41).map (fun i=>(i.zero,i.size,i.bytes))=some (some (.agg #[.bool false,.int .i64 0]),2,16):=by kernel_rfl
theorem abv{a:Addr}{v:Value}(h:w.cell? a=some v):a.block<w.heap.size:=by
 unfold World.cell? at h;rcases Abm a.block w.heap.size with h1 | h1
 . exact h1
 . rw [Array.getElem?_eq_none h1] at h;cases h
theorem alk{enc:α->List Value}(he:∀x,(enc x).length=sz)(l:List α):(l.flatMap enc).length=l.length * sz:=by
 induction l with
 | nil=>simp
 | cons a l ih=>rw [List.flatMap_cons,Aau,he,ih,Aba,Nat.add_mul];omega
theorem aeP(x:Int):(ahp x).length=1:=rfl
theorem am7(l:List Int):(l.flatMap ahp).length=l.length * 1:=alk aeP l
theorem aj4(cs:List Value)(x:Int)(h:acx S w cs x):cs=ahp x:=h.1
theorem alm(l:List Int):∀u∈l.flatMap ahp,u.oneCell'=true:=by
 intro u hu;obtain⟨x,-,hx⟩:=List.mem_flatMap.1 hu;rw [ahp,Aax] at hx;subst hx;rfl
theorem aoa{a:Option Addr}{l:List Int}(h:SlAt S w 1 acx (.slice a n c) l)(w1:World):∀T,∀x∈l,acx T w1 (ahp x) x:=by
 intro T x hx;obtain⟨i,hi,rfl⟩:=List.mem_iff_getElem.1 hx;obtain⟨b,off,cs,-,-,hr,-⟩:=h.get hi;exact⟨rfl,hr.2⟩
theorem afE(a:Option Addr)(c:Nat)(l:List Int)(w:World)(h:SlAt S w 1 acx (.slice a l.length c) l)(hn:l.length<=1048576) :
 Calls Tryz.prog 28 #[.slice a l.length c] w fun e w'=>∃v,e = .returned v∧Own w.heap.size w' 3 1 acx v l∧Below w.heap.size w w':=by
 have H:=hid h;have Hn:=hid hn;clear h hn;have aI:=fun (w:World) (a:Option Addr) (n c n' c':Nat)=>Lib.run_eql_slice_nil (P:=Tryz.prog) w 42 3 a n c n' c' Tryz.underlying42;obtain⟨i0,hi,aY,aT,bj⟩:=info_parts ajl;cases a with
 | none =>
   obtain rfl:=H.out.none;go_enter Tryz.func28,Tryz.ntmps28;go_wp2;go_ret;exact⟨_,rfl,Own.nil _ _ _ _ _,Below.refl _ _⟩
 | some ad =>
   go_enter Tryz.func28,Tryz.ntmps28;go_wp2_with (at_builtin;refine wpList_append_own_at _ rfl _ _ 42 rfl w.heap.size 3 i0 (.int .i64 0) 1 8 Tryz.underlying42 hi aY aT bj rfl (by decide) (.slice (some ⟨w.heap.size,0,none⟩) 0 0) 0 [] rfl (World.ownsRow_made w #[] 0 (Aac _) (by decide) rfl) ad l.length c (l.flatMap ahp) rfl ?_ ?_ ?_ ?_ ?_ ?_ ?_)
   . rw [am7]
   . intro j u hj
     rw [World.cell?_alloc_lt _ _ _ (abv (H.out.flat aeP (by decide) aj4 j u hj))];exact H.out.flat aeP (by decide) aj4 j u hj
   . exact alm l
   . have:=Hn.out;unfold maxLen;omega
   . have:=Hn.out;omega
   . simp
   . intro v' w1 ai ae _ _
     have af:=Own.of_row (r:=acx) ai aeP (aoa (S:=S) (w:=w) (a:=some ad) (n:=l.length) (c:=c) H.out w1);go_wp2;go_ret;exact⟨_,rfl,af,((Below.refl _ _).alloc (Aac _) _).grown ae (by simp) (fun k hk=>by cases hk;exact Aac _)⟩
end
section
open Go.RowKit
theorem aob:(Tryz.prog.info? 115).map (fun i=>(i.zero,i.size,i.bytes))=some (some (.agg #[.int .i64 0,.slice none 0 0]),2,32):=by kernel_rfl
theorem ahr:(Tryz.prog.info? 49).map (fun i=>(i.zero,i.size,i.bytes))=some (some (.agg #[.int .i64 0,.int .i64 0,.bool false,.int .i64 0,.bool false,.int .i64 0,.int .i64 0,.slice none 0 0]),8,80):=by kernel_rfl
theorem ama {S:Nat->Prop}{w:World}{a:Option Addr}{n c:Nat}{l:List aaJ}(h:SlAt S w 8 acb (.slice a n c) l){k:Nat}(hk:k<l.length) :
 ∃b off fa fc,a=some ⟨b,off,none⟩∧aal w b (off+k * 8) [.int .i64 l[k].op,.int .i64 l[k].dst,.bool l[k].a.reg,.int .i64 l[k].a.n,.bool l[k].b.reg,.int .i64 l[k].b.n,.int .i64 l[k].fn,.slice fa l[k].args.length fc] ∧
   SlAt S w 2 agd (.slice fa l[k].args.length fc) l[k].args∧(I64 l[k].op∧I64 l[k].dst∧I64 l[k].a.n∧I64 l[k].b.n∧I64 l[k].fn):=by
 obtain⟨b,off,cs,ha,-,hr,-,ag⟩:=h.get hk;obtain⟨fa,fc,rfl,h1,h2,h3⟩:=hr.opens;exact⟨b,off,fa,fc,ha,ag,h1,h3⟩
theorem ata {S:Nat->Prop}{w:World}{a:Option Addr}{n c:Nat}{l:List acn}(h:SlAt S w 2 amd (.slice a n c) l){k:Nat}(hk:k<l.length) :
 ∃b off fa fc,a=some ⟨b,off,none⟩∧w.cell? ⟨b,off+k * 2,none⟩=some (.int .i64 l[k].dst)∧w.cell? ⟨b,off+k * 2+1,none⟩=some (.slice fa l[k].src.length fc)∧SlAt S w 2 agd (.slice fa l[k].src.length fc) l[k].src∧I64 l[k].dst∧l[k].src.length<=9223372036854775807:=by
 obtain⟨b,off,cs,ha,-,hr,-,ag⟩:=h.get hk;obtain⟨fa,fc,rfl,h1,h2,h3⟩:=hr.opens;obtain⟨c0,c1⟩:=ag.get2;exact⟨b,off,fa,fc,ha,c0,c1,h1,h3,h2⟩
end
section
open Go.RowKit Go.Shelf
attribute [local go_sem] Oper.semAt_some
def acQ(n₀:Nat)(X:Nat->Prop)(W W':World):Prop:=W.heap.size<=W'.heap.size∧∀b,b<n₀->¬X b->W'.heap[b]?=W.heap[b]?
theorem acQ.refl(n₀:Nat)(X:Nat->Prop)(W:World):acQ n₀ X W W:=⟨Aac _,fun _ _ _=>rfl⟩
variable {n₀:Nat}{X:Nat->Prop}
theorem adx{A B C:World}(h:acQ n₀ X A B)(k:acQ n₀ X B C):acQ n₀ X A C:=⟨Aai h.1 k.1,fun b h1 h2=>(k.2 b h1 h2).trans (h.2 b h1 h2)⟩
theorem aoc{w:World}(hn:n₀<=w.heap.size)(W:World)(l:Nat)(o o':Obj)(hl:w.heap.size<=l)(_:W.heap[l]?=some o)(_:o.isCells=false)(_:o.isWalk=false):acQ n₀ X W (W.putObj l o') :=
 ⟨by simp,fun b h1 _=>World.putObj_heap_other (by omega)⟩
theorem acQ.cell{W W':World}(h:acQ n₀ X W W'){b o:Nat}{v:Value}(hc:W.cell? ⟨b,o,none⟩=some v)(hb:b<n₀)(hx:¬X b):W'.cell? ⟨b,o,none⟩=some v:=by
 rw [World.cell?_of_block (w:=W) (a:=⟨b,o,none⟩) (h.2 b hb hx)];exact hc
end
section
open Go.RowKit Go.Shelf
attribute [local go_sem] Oper.semAt_some
def BackP(L:List Int):Type:={ x:Nat×Int // L[x.1]?=some x.2 }
def numOf {L:List Int}(x:BackP L):Int:=x.1.2
def atS {L:List Int}(x:BackP L):Array Value:=#[.int .i64 (x.1.1:Int),.int .i64 x.1.2]
theorem aod {L:List Int}(x:BackP L):numOf x∈L:=Aae x.2
theorem ar7(F:Fence)(n:Nat)(h:F.fn 78)(az:F.round=none)(a:Option Addr)(m c:Nat)(w:World) :
 CallsIn F n Tryz.prog 78 #[.slice a m c] w fun e w'=>e = .returned (.func (.func 106) #[] #[.pointer (some ⟨w.heap.size,0,none⟩)])∧w'=w.alloc (.cells #[.slice a m c] 42):=by
 refine callsIn_of_wp Tryz.func78 rfl h ?_ az;simp only [Tryz.ntmps78,Abn,Aba,Ab5,Nat.reduceAdd,Nat.reduceSub,Ace,Acf,List.push_toArray,Acg,Abc,Ab6]
 gi_wp2
 go_ret;exact⟨rfl,rfl⟩
theorem aqf (F : Fence) (n : Nat) (h : F.fn 106) (az : F.round = none) (hn : 1 <= n) (l Bs n₀ : Nat) (X : Nat -> Prop) (a : Option Addr) (c : Nat) (L : List Int) (W0 : World)
 (hL:L.length<=1048576) (hb:SlAt (fun b=>b<n₀∧¬X b) W0 1 acx (.slice a L.length c) L) (aC:Bs<n₀∧¬X Bs)
 (J Jx:List (BackP L)->World->Prop)
 (hY : ∀ pre x W1, J pre W1 -> pre.length < L.length -> YieldAt F (n - 1) Tryz.prog l (atS x) W1 fun e W' =>
   (e = .returned (.bool true) ∧ J (pre ++ [x]) W' ∧ acQ n₀ X W1 W') ∨ (e = .returned (.bool false) ∧ Jx (pre ++ [x]) W'))
 (W:World) (hW:Below W0.heap.size W0 W) (au:W.cell? ⟨Bs,0,none⟩=some (.slice a L.length c)) (h0:J [] W) :
 CallsIn F n Tryz.prog 106 #[.func (.yield l) #[] #[],.pointer (some ⟨Bs,0,none⟩)] W fun e W'=>(∃v,e = .returned v) ∧
  ((∃ys:List (BackP L),ys.map numOf=L.reverse∧J ys W')∨(∃pre:List (BackP L),pre.map numOf <+: L.reverse∧Jx pre W')):=by
 have Hb:=hid hb;have HY:=hid hY;have HW:=hid hW;have a1:=hid au;have zB:Bs<W.heap.size:=aac au;clear hb hY hW;refine callsIn_of_wp Tryz.func106 rfl h ?_ az;simp only [Tryz.ntmps106,Abn,Aba,Ab5,Nat.reduceAdd,Nat.reduceSub,Ace,Acf,List.push_toArray,Acg,Abc,Ab6]
 gi_wp2
 clear au
 gi_loopw [3] (fun i wr=>∃(k:Nat) (pre:List (BackP L)),k<=L.length∧i = .int .i64 ((k:Int) - 1)∧pre.map numOf=(L.drop k).reverse∧J pre wr∧acQ n₀ X W wr) (fun i _=>(intOf i+1).toNat)
 case atStart=>exact⟨L.length,[],Aac _,rfl,by simp,h0,acQ.refl _ _ _⟩
 case round =>
  obtain⟨k,pre,hk,rfl,ar,hJ,aJ⟩:=hrel;have al:=hid ar;have HJ:=hid hJ;have aO:=hid aJ;have c0:=aJ.cell a1.out aC.1 aC.2;have z0:Bs<wr.heap.size:=aac c0;clear ar hJ aJ;cases k with
  | zero =>
    have aV:Hid (pre.map numOf=L.reverse):=by show _=_;rw [al.out,List.drop_zero]
    have e0:((0:Nat):Int) - 1 = -1:=rfl;rw [e0];clear e0
    gi_wp2
    go_end0;exact⟨⟨_,rfl⟩,.inl ⟨pre,aV.out,HJ.out⟩⟩
  | succ k =>
    have aG:k<L.length:=hk;have e0:((k+1:Nat):Int) - 1=(k:Int):=by omega
    rw [e0];obtain⟨xb,bg,cs,aZ,aM,⟨rfl,-⟩,-,ag⟩:=Hb.out.get aG;subst aZ;have hd:=ag.get1;rw [Abd] at hd;obtain⟨y,hy⟩:∃y,y=L[k]:=⟨_,rfl⟩
    rw [<-hy] at hd;have d0:=aO.out.cell (aab hd HW.out) aM.1 aM.2;have zx:xb<wr.heap.size:=aac d0;obtain⟨x,hx⟩:∃x:BackP L,x=⟨(k,y),by rw [hy];exact Aaa aG⟩:=⟨_,rfl⟩
    have aA:atS x=#[.int .i64 (k:Int),.int .i64 y]:=by rw [hx];rfl
    have an:numOf x=y:=by rw [hx];rfl
    have hlen:pre.length<L.length:=by
     have h:=congrArg List.length al.out;rw [Aah,Ach,List.length_drop] at h;omega
    obtain⟨fn,tmps,assign,body,aX,hR⟩:=HY.out pre x wr HJ.out hlen;rw [aA] at aX;have aB:Hid ((pre++[x]).map numOf=(L.drop k).reverse):=by
     show _=_;rw [Aa8,al.out,List.drop_eq_getElem_cons aG,List.reverse_cons];show _++[numOf x]=_;rw [an,hy]
    have a7:Hid ((L.drop k).reverse <+: L.reverse):=List.reverse_prefix.2 (List.drop_suffix k L);have HR:=hid hR;clear ag hx aA an hR hd hy hlen e0
    gi_wp2
    refine HR.out.mono ?_;rintro e W3 (⟨rfl,aR,aP⟩ | ⟨rfl,aw⟩)
    . have aD:=hid aR
      have aW:=hid (adx aO.out aP);clear aR aP
      gi_wp2
      go_roundw
      case rel=>exact⟨k,pre++[x],by omega,rfl,aB.out,aD.out,aW.out⟩
      case measure=>simp [intOf]
    . have aD:=hid aw
      clear aw
      gi_wp2
      refine bodyPost_ret (results_none rfl _ _ _) rfl ?_;exact⟨⟨_,rfl⟩,.inr ⟨pre++[x],by rw [aB.out];exact a7.out,aD.out⟩⟩
theorem am8 (F : Fence) (n : Nat) (h : F.fn 106) (az : F.round = none) (hn : 1 <= n) (Bs n₀ : Nat) (X : Nat -> Prop) (a : Option Addr) (c : Nat) (L : List Int) (W0 w : World)
 (hL:L.length<=1048576) (hb:SlAt (fun b=>b<n₀∧¬X b) W0 1 acx (.slice a L.length c) L) (aC:Bs<n₀∧¬X Bs) (h0:Below W0.heap.size W0 w) (au:w.cell? ⟨Bs,0,none⟩=some (.slice a L.length c)) :
 SeqStopsK F n Tryz.prog 106 #[.pointer (some ⟨Bs,0,none⟩)] (atS (L:=L)) (acQ n₀ X) (fun ys=>ys.map numOf=L.reverse) (fun pre=>pre.map numOf <+: L.reverse) L.length w :=
 fun l J Jx W hW _ _ hY bh =>
  (aqf F n h az hn l Bs n₀ X a c L W0 hL hb aC J Jx hY W (h0.trans (hW.mono h0.size)) (aab au hW) bh).mono fun _ _ h=>h
end
end Go.Proofs.YtpeejlpcikefcaaGreatDoor
