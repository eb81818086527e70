import Derived.Test.YtnkfdeiigplhoaaGreatDoorPEq
import Derived.RangeFuncNested
import Derived.RangeFuncBound
import Derived.Shelf.RegionOpen
import Derived.OwnWalkIn
import Derived.LoopNIn
import Derived.LoopIn
/- Slices of structs that the call makes itself: what they hold, and how they grow. No function of the program in sight. slices.Clone of []int and of []api.Val: the copy is the call's own. calls.CopyBlock: a block of the call's own memory. calls.Each: all instructions of a function, one by one, in memory that the loop over them may change elsewhere. slices.Backward over a list of numbers, in memory that the loop over it may change elsewhere. -/
set_option maxHeartbeats 4000000
set_option maxRecDepth 100000
namespace Go.Proofs.YtnkfdeiigplhoaaGreatDoor
section
open Go.RowKit
def iv(a b:Nat):Nat->Prop:=fun x=>a<=x∧x<b
def amP(base:Nat)(w:World)(v:Value):Nat->Prop:=fun b=>base<=b∧b<w.heap.size∧v.ownBlock≠some b
def Own {α:Type}(base:Nat)(w:World)(e:TypeId)(sz:Nat)(r:Rp α)(v:Value)(l:List α):Prop :=
 ∃xss:List (List Value),w.ownsRow base e sz v l.length xss.flatten∧xss.length=l.length∧(∀(i:Nat) cs,xss[i]?=some cs->cs.length=sz) ∧
   ∀(i:Nat) cs x,xss[i]?=some cs->l[i]?=some x->r (amP base w v) w cs x
theorem aeW {sz : Nat} : ∀ (xss : List (List Value)), (∀ (i : Nat) cs, xss[i]? = some cs -> cs.length = sz) -> ∀ (i j : Nat) cs, xss[i]? = some cs -> j < sz -> xss.flatten[i * sz + j]? = cs[j]?
 | [],_,i,_,cs,h,_=>by simp at h
 | ys :: xss,hl,0,j,cs,h,hj=>by
   have e:ys=cs:=by simpa using h
   subst e;have h0:=hl 0 ys rfl;rw [Abm,Nat.zero_mul,Aab,Abi (by omega)]
 | ys :: xss,hl,i+1,j,cs,h,hj=>by
   have h0:=hl 0 ys rfl;rw [Abm,Ab1 (by rw [h0,Nat.add_mul];omega),h0];rw [show (i+1) * sz+j - sz=i * sz+j by rw [Nat.add_mul];omega];exact aeW xss (fun k aL hk=>hl (k+1) aL (by simpa using hk)) i j cs (by simpa using h) hj
theorem ajH {sz : Nat} : ∀ (xss : List (List Value)), (∀ (i : Nat) cs, xss[i]? = some cs -> cs.length = sz) -> xss.flatten.length = xss.length * sz
 | [],_=>by simp
 | ys :: xss,hl=>by
   have h0:=hl 0 ys rfl;have h1:=ajH xss (fun k aL hk=>hl (k+1) aL (by simpa using hk));rw [Abm,Aai,h0,h1,Aao,Nat.add_mul];omega
section
variable {α : Type} {base : Nat} {w w' : World} {e : TypeId} {sz : Nat} {r : Rp α} {v v' : Value} {l : List α}
theorem Own.nil(base:Nat)(w:World)(e:TypeId)(sz:Nat)(r:Rp α):Own base w e sz r (.slice none 0 0) [] :=
 ⟨[],World.ownsRow_nil w base e sz,rfl,fun i cs h=>by simp at h,fun i cs x h=>by simp at h⟩
theorem Own.lt(h:Own base w e sz r v l):∀g,v.ownBlock=some g->base<=g∧g<w.heap.size:=by
 obtain⟨xss,h1,-⟩:=h;exact h1.lt
theorem Own.shape(h:Own base w e sz r v l):∃a c,v = .slice a l.length c:=by
 obtain⟨xss,h1,-⟩:=h;rcases h1.2 with⟨rfl,h2⟩ | ⟨g,cap,cur,rfl,-⟩
 . exact⟨none,0,by rw [h2]⟩
 . exact⟨_,_,rfl⟩
theorem afZ {B:Nat}(hb:Below w.heap.size w w')(row:Option Nat)(_h:B<=w.heap.size):w.grownBy w' row:=⟨hb.os,hb.tape,hb.output,hb.size,fun k hk _=>hb.block k hk⟩
theorem Own.later(hr:r.Mono)(h:Own base w e sz r v l)(hb:Below w.heap.size w w'):Own base w' e sz r v l:=by
 obtain⟨xss,h1,h2,h3,h4⟩:=h;refine⟨xss,h1.kept (afZ (B:=0) hb none (Aah _)) ?_,h2,h3,fun i cs x hi hx=>?_⟩
 . cases v.ownBlock <;> simp
 . exact hr.out _ _ _ _ _ _ (fun b bD=>⟨bD.1,Aap bD.2.1 hb.size,bD.2.2⟩) (aav.below' hb) (h4 i cs x hi hx)
theorem Own.drewN(h:Own base w e sz r v l)(hr:r.Mono)(q:Nat):Own base (w.drewN q) e sz r v l:=h.later hr (below_drewN (Below.refl _ _) q)
theorem Own.toSl(hr:r.Mono)(_h0:0<sz)(h:Own base w e sz r v l):SlAt (iv base w.heap.size) w sz r v l:=by
 obtain⟨xss,h1,h2,h3,h4⟩:=h;rcases id h1.2 with⟨rfl,hl⟩ | ⟨g,cap,cur,rfl,hg,hgg,hn,hm,hc,ht⟩
 . have bO:l=[]:=Abq.1 hl
   subst bO;exact⟨none,0,rfl,Aad _,by decide,fun h=>absurd rfl h⟩
 . unfold maxLen at hm
   refine⟨_,cap,rfl,hn,by omega,fun ak=>⟨g,0,rfl,⟨hg,(Aax.1 hgg).1⟩,fun i x hx=>?_⟩⟩;have hi:i<xss.length:=by rw [h2];exact (Aae.1 hx).1
   have aj:=Aaa hi;refine⟨xss[i],hr.out _ _ _ _ _ _ (fun b hb=>⟨hb.1,hb.2.1⟩) (aav.refl _ _) (h4 i _ x aj hx),h3 i _ aj,fun j u hj=>?_⟩;have bM:j<sz:=by rw [<-h3 i _ aj];exact (Aae.1 hj).1
   have hf:=aeW xss h3 i j _ aj bM;rw [hj] at hf;have an:=h1.cells (g:=g) rfl (i * sz+j) u hf;rw [show (⟨g,0,none⟩:Addr).add (i * sz+j)=⟨g,i * sz+j,none⟩ by unfold Addr.add;split <;> simp_all] at an;rw [Aab];exact an
theorem Own.snoc (hr : r.Mono) (_h : Own base w e sz r v l) {xss : List (List Value)} (_h1 : w.ownsRow base e sz v l.length xss.flatten) (h2 : xss.length = l.length) (h3 : ∀ (i : Nat) cs, xss[i]? = some cs -> cs.length = sz)
 (h4:∀(i:Nat) cs x,xss[i]?=some cs->l[i]?=some x->r (amP base w v) w cs x) {cs:List Value} {y:α} (hl:cs.length=sz) (hy:r (amP base w v) w cs y)
 (af:w'.ownsRow base e sz v' (l.length+1) (xss.flatten++cs)) (ae:w.grownBy w' v.ownBlock) (aZ:v'.ownBlock=v.ownBlock∨v'.ownBlock=some w.heap.size):Own base w' e sz r v' (l++[y]):=by
 have bh:aav (amP base w v) w w':=fun b o u hb hc=>by
  rw [World.cell?_of_block (w:=w) (a:=⟨b,o,none⟩) (ae.block b hb.2.1 (fun e=>hb.2.2 e.symm))];exact hc
 have hS : ∀ b, amP base w v b -> amP base w' v' b := fun b hb => ⟨hb.1, Aap hb.2.1 ae.size, fun e => by
  rcases aZ with h | h
  . exact hb.2.2 (by rw [<- h]; exact e)
  . rw [h] at e; have := hb.2.1; cases e; omega⟩
 refine⟨xss++[cs],?_,by simp [h2],fun i aL hi=>?_,fun i aL x hi hx=>?_⟩
 . rw [List.flatten_append,Aai];simpa using af
 . rcases Nat.lt_or_ge i xss.length with h' | h'
   . rw [Abi h'] at hi;exact h3 i aL hi
   . rw [Ab1 h'] at hi
     have:=Aam hi;rw [Aaq] at this;rw [this];exact hl
 . rcases Nat.lt_or_ge i xss.length with h' | h'
   . rw [Abi h'] at hi
     rw [Abi (by omega)] at hx;exact hr.out _ _ _ _ _ _ hS bh (h4 i aL x hi hx)
   . rw [Ab1 h'] at hi
     rw [Ab1 (by omega)] at hx;have e1:=Aam hi;have e2:=Aam hx;rw [Aaq] at e1 e2;rw [e1,e2];exact hr.out _ _ _ _ _ _ hS bh hy
end
def ab4 {α:Type}(a b:Nat)(w:World)(e:TypeId)(sz:Nat)(r:Rp α)(v:Value)(l:List α):Prop :=
 ∃xss:List (List Value),w.ownsRow a e sz v l.length xss.flatten∧(∀g,v.ownBlock=some g->g<b)∧xss.length=l.length∧(∀(i:Nat) cs,xss[i]?=some cs->cs.length=sz) ∧
   ∀(i:Nat) cs x,xss[i]?=some cs->l[i]?=some x->r (fun k=>a<=k∧k<b∧v.ownBlock≠some k) w cs x
theorem Own.inn {α:Type}{base:Nat}{w:World}{e:TypeId}{sz:Nat}{r:Rp α}{v:Value}{l:List α}(h:Own base w e sz r v l):ab4 base w.heap.size w e sz r v l:=by
 obtain⟨xss,h1,h2,h3,h4⟩:=h;exact⟨xss,h1,fun g hg=>(h1.lt g hg).2,h2,h3,h4⟩
section
variable {α : Type} {a b : Nat} {w w' : World} {e : TypeId} {sz : Nat} {r : Rp α} {v : Value} {l : List α}
theorem ab4.kept(hr:r.Mono)(h:ab4 a b w e sz r v l)(hk:∀k,a<=k->k<b->w'.heap[k]?=w.heap[k]?):ab4 a b w' e sz r v l:=by
 obtain⟨xss,h1,hb,h2,h3,h4⟩:=h;refine⟨xss,⟨h1.1,?_⟩,hb,h2,h3,fun i cs x hi hx=>hr.out _ _ _ _ _ _ (fun _ h=>h) (fun k o u hS hc=>?_) (h4 i cs x hi hx)⟩
 . rcases h1.2 with hn | ⟨g,cap,cur,rfl,hg,hgg,rest⟩
   . exact .inl hn
   . exact .inr ⟨g,cap,cur,rfl,hg,by rw [hk g hg (hb g rfl)];exact hgg,rest⟩
 . rw [World.cell?_of_block (w:=w) (a:=⟨k,o,none⟩) (hk k hS.1 hS.2.1)];exact hc
theorem ab4.toSl(hr:r.Mono)(_h0:0<sz)(h:ab4 a b w e sz r v l):SlAt (iv a b) w sz r v l:=by
 obtain⟨xss,h1,hb,h2,h3,h4⟩:=h;rcases id h1.2 with⟨rfl,hl⟩ | ⟨g,cap,cur,rfl,hg,hgg,hn,hm,hc,ht⟩
 . have bO:l=[]:=Abq.1 hl
   subst bO;exact⟨none,0,rfl,Aad _,by decide,fun h=>absurd rfl h⟩
 . unfold maxLen at hm
   refine⟨_,cap,rfl,hn,by omega,fun ak=>⟨g,0,rfl,⟨hg,hb g rfl⟩,fun i x hx=>?_⟩⟩;have hi:i<xss.length:=by rw [h2];exact (Aae.1 hx).1
   have aj:=Aaa hi;refine⟨xss[i],hr.out _ _ _ _ _ _ (fun b hb=>⟨hb.1,hb.2.1⟩) (aav.refl _ _) (h4 i _ x aj hx),h3 i _ aj,fun j u hj=>?_⟩;have bM:j<sz:=by rw [<-h3 i _ aj];exact (Aae.1 hj).1
   have hf:=aeW xss h3 i j _ aj bM;rw [hj] at hf;have an:=h1.cells (g:=g) rfl (i * sz+j) u hf;rw [show (⟨g,0,none⟩:Addr).add (i * sz+j)=⟨g,i * sz+j,none⟩ by unfold Addr.add;split <;> simp_all] at an;rw [Aab];exact an
theorem ab4.shape(h:ab4 a b w e sz r v l):∃o c,v = .slice o l.length c:=by
 obtain⟨xss,h1,-⟩:=h;rcases h1.2 with⟨rfl,h2⟩ | ⟨g,cap,cur,rfl,-⟩
 . exact⟨none,0,by rw [h2]⟩
 . exact⟨_,_,rfl⟩
end
structure acI {α:Type}(W0 wr:World)(e:TypeId)(sz:Nat)(r:Rp α)(v:Value)(l:List α):Prop where
 own:Own W0.heap.size wr e sz r v l
 old:Below W0.heap.size W0 wr
variable {α:Type}
theorem acI.start(W0:World)(e:TypeId)(sz:Nat)(r:Rp α):acI W0 W0 e sz r (.slice none 0 0) []:=⟨Own.nil _ _ _ _ _,Below.refl _ _⟩
variable {w:World}
theorem aba{S:Nat->Prop}{w':World}(h:∀b,S b->b<w.heap.size->w'.heap[b]?=w.heap[b]?):aav S w w':=fun b o v hb hc=>by
 rw [World.cell?_of_block (w:=w) (a:=⟨b,o,none⟩) (h b hb (aac hc))];exact hc
theorem Own.sub{lo base : Nat} {w2 W : World} {e : TypeId} {sz : Nat} {r : Rp α} {v' v0 : Value} {l : List α} (h : Own lo w2 e sz r v' l) (hr : r.Mono) (h0 : 0 < sz) (ct : base <= lo) (cz : ∀ g, v0.ownBlock = some g -> g < lo)
 (hW:∀b,lo<=b->b<w2.heap.size->W.heap[b]?=w2.heap[b]?) (bk:w2.heap.size<=W.heap.size):SlAt (amP base W v0) W sz r v' l:=by
 refine ((h.toSl hr h0).mono hr (fun _ hb=>hb) (aba (w':=W) (fun b hb hl=>hW b hb.1 hb.2))).mono hr (fun b hb=>⟨Aag ct hb.1,Aap hb.2 bk,fun e=>?_⟩) (aav.refl _ _);have:=cz b e;have:=hb.1;omega
variable {b:Nat}
theorem abT(w:World)(p:Addr)(u:Value)(o:Obj)(hb:b<w.heap.size)(hp:b≠p.block):((w.setCell p u).alloc o).heap[b]?=w.heap[b]?:=by
 rw [Below.heap_alloc _ _ _ (by simp [World.setCell];exact hb),Below.heap_setCell _ _ _ _ hp]
theorem abd(w:World)(cs:List Value)(T:TypeId){n:Nat}(hn:n=w.heap.size):∀(j:Nat) u,cs[j]?=some u->(w.alloc (.cells cs.toArray T)).cell? ((⟨n,0,none⟩:Addr).add j)=some u:=by
 intro j u hj;subst hn;rw [show (⟨w.heap.size,0,none⟩:Addr).add j=⟨w.heap.size,j,none⟩ by unfold Addr.add;split <;> simp_all,World.cell?_alloc_new];simpa using hj
variable {i:Nat}
theorem aap{x:Value}(h:w.cell? ⟨b,i,none⟩=some x)(u:Value)(j:Nat):(w.setCell ⟨b,i,none⟩ u).cell? ⟨b,j,none⟩=if j=i then some u else w.cell? ⟨b,j,none⟩:=by
 simp only [World.cell?] at h;cases hh:w.heap[b]? with
 | none=>rw [hh] at h;cases h
 | some o =>
   rw [hh] at h;cases o with
   | cells c t f =>
     have hi:i<c.size:=by
      rcases Nat.lt_or_ge i c.size with h1 | h1
      . exact h1
      . simp [Array.getElem?_eq_none h1] at h
     simp only [World.cell?,World.setCell,Array.getElem?_modify,hh]
     by_cases hji:j=i
     . subst hji;simp [hi]
     . simp [hji,Ne.symm hji]
   | _=>cases h
theorem aaf(w:World){b':Nat}(hb:b'≠b)(u:Value)(j:Nat):(w.setCell ⟨b,i,none⟩ u).cell? ⟨b',j,none⟩=w.cell? ⟨b',j,none⟩ :=
 World.cell?_of_block (w:=w) (a:=⟨b',j,none⟩) (Below.heap_setCell _ _ _ _ hb)
theorem abz{n:Nat}{u:Value}(h:∀k,k<n->∃x,w.cell? ⟨b,k,none⟩=some x)(hi:i<n):∀k,k<n->∃x,(w.setCell ⟨b,i,none⟩ u).cell? ⟨b,k,none⟩=some x:=by
 intro k hk;obtain⟨x,hx⟩:=h i hi;rw [aap hx]
 by_cases hki:k=i
 . rw [if_pos hki];exact⟨_,rfl⟩
 . rw [if_neg hki];exact h k hk
variable {o0 o1 u0 u1:Value}
theorem apX(h:aaj w b 0 [o0,o1]):aaj ((w.setCell ⟨b,0,none⟩ u0).setCell ⟨b,1,none⟩ u1) b 0 [u0,u1]:=by
 have g0:∀k,k<2->∃x,w.cell? ⟨b,k,none⟩=some x:=fun k hk=>⟨_,by have h1:=h k ([o0,o1][k]'(by simpa using hk)) (Aaa _);rw [Aab] at h1;exact h1⟩
 have g1:=abz (i:=0) (u:=u0) g0 (by decide);have g2:=abz (i:=1) (u:=u1) g1 (by decide);obtain⟨x0,e0⟩:=g0 0 (by decide);obtain⟨x1,e1⟩:=g1 1 (by decide);intro j v hj;rw [Aab]
 match j,hj with
 | 0,hj=>cases hj;rw [aap e1,if_neg (by decide),aap e0,if_pos rfl]
 | 1,hj=>cases hj;rw [aap e1,if_pos rfl]
 | k+2,hj=>simp at hj
theorem ap4{o2 o3 u2 u3:Value}(h:aaj w b 0 [o0,o1,o2,o3]):aaj ((((w.setCell ⟨b,0,none⟩ u0).setCell ⟨b,1,none⟩ u1).setCell ⟨b,2,none⟩ u2).setCell ⟨b,3,none⟩ u3) b 0 [u0,u1,u2,u3]:=by
 have g0:∀k,k<4->∃x,w.cell? ⟨b,k,none⟩=some x:=fun k hk=>⟨_,by have h1:=h k ([o0,o1,o2,o3][k]'(by simpa using hk)) (Aaa _);rw [Aab] at h1;exact h1⟩
 have g1:=abz (i:=0) (u:=u0) g0 (by decide);have g2:=abz (i:=1) (u:=u1) g1 (by decide);have g3:=abz (i:=2) (u:=u2) g2 (by decide);have g4:=abz (i:=3) (u:=u3) g3 (by decide);obtain⟨x0,e0⟩:=g0 0 (by decide);obtain⟨x1,e1⟩:=g1 1 (by decide);obtain⟨x2,e2⟩:=g2 2 (by decide);obtain⟨x3,e3⟩:=g3 3 (by decide);intro j v hj;rw [Aab]
 match j,hj with
 | 0,hj=>cases hj;rw [aap e3,if_neg (by decide),aap e2,if_neg (by decide),aap e1,if_neg (by decide),aap e0,if_pos rfl]
 | 1,hj=>cases hj;rw [aap e3,if_neg (by decide),aap e2,if_neg (by decide),aap e1,if_pos rfl]
 | 2,hj=>cases hj;rw [aap e3,if_neg (by decide),aap e2,if_pos rfl]
 | 3,hj=>cases hj;rw [aap e3,if_pos rfl]
 | k+4,hj=>simp at hj
theorem aqg{o2 o3 o4 o5 u2 u3 u4 u5:Value}(h:aaj w b 0 [o0,o1,o2,o3,o4,o5]):aaj ((((((w.setCell ⟨b,0,none⟩ u0).setCell ⟨b,1,none⟩ u1).setCell ⟨b,2,none⟩ u2).setCell ⟨b,3,none⟩ u3).setCell ⟨b,4,none⟩ u4).setCell ⟨b,5,none⟩ u5) b 0 [u0,u1,u2,u3,u4,u5]:=by
 have g0:∀k,k<6->∃x,w.cell? ⟨b,k,none⟩=some x:=fun k hk=>⟨_,by have h1:=h k ([o0,o1,o2,o3,o4,o5][k]'(by simpa using hk)) (Aaa _);rw [Aab] at h1;exact h1⟩
 have g1:=abz (i:=0) (u:=u0) g0 (by decide);have g2:=abz (i:=1) (u:=u1) g1 (by decide);have g3:=abz (i:=2) (u:=u2) g2 (by decide);have g4:=abz (i:=3) (u:=u3) g3 (by decide);have g5:=abz (i:=4) (u:=u4) g4 (by decide);have g6:=abz (i:=5) (u:=u5) g5 (by decide);obtain⟨x0,e0⟩:=g0 0 (by decide);obtain⟨x1,e1⟩:=g1 1 (by decide);obtain⟨x2,e2⟩:=g2 2 (by decide);obtain⟨x3,e3⟩:=g3 3 (by decide);obtain⟨x4,e4⟩:=g4 4 (by decide);obtain⟨x5,e5⟩:=g5 5 (by decide);intro j v hj;rw [Aab]
 match j,hj with
 | 0,hj=>cases hj;rw [aap e5,if_neg (by decide),aap e4,if_neg (by decide),aap e3,if_neg (by decide),aap e2,if_neg (by decide),aap e1,if_neg (by decide),aap e0,if_pos rfl]
 | 1,hj=>cases hj;rw [aap e5,if_neg (by decide),aap e4,if_neg (by decide),aap e3,if_neg (by decide),aap e2,if_neg (by decide),aap e1,if_pos rfl]
 | 2,hj=>cases hj;rw [aap e5,if_neg (by decide),aap e4,if_neg (by decide),aap e3,if_neg (by decide),aap e2,if_pos rfl]
 | 3,hj=>cases hj;rw [aap e5,if_neg (by decide),aap e4,if_neg (by decide),aap e3,if_pos rfl]
 | 4,hj=>cases hj;rw [aap e5,if_neg (by decide),aap e4,if_pos rfl]
 | 5,hj=>cases hj;rw [aap e5,if_pos rfl]
 | k+6,hj=>simp at hj
theorem abo {α : Type} {P : Program} {w : World} {ops : Array Oper} {rest : List Oper} {o : Oper} {a : Act} {Q : Exit -> Act -> World -> Prop} (bI : o.guard = none) (s x : Operand) (t : TypeId)
 (ho:o.op = .call { callee := .builtin .append,args:=#[s,x],argTypes:=#[t,t] })
 (base:Nat) (e:TypeId) (i:TypeInfo) (z:Value) (size bytes:Nat) (ht:P.underlying t=some (.slice e)) (hi:P.info? e=some i) (hz:i.zero=some z)
 (aB:i.size=size) (bH:i.bytes=bytes) (bV:z.cells.size=size) (bk:0<size)
 {r:Rp α} (hr:r.Mono) (v:Value) (l:List α) (hs:a.eval s=v) (ag:Own base w e size r v l)
 (ad:Addr) (c:Nat) (cs:List Value) (y:α) (hx:a.eval x = .slice (some ad) 1 c) (hl:cs.length=size) (az:∀(j:Nat) u,cs[j]?=some u->w.cell? (ad.add j)=some u) (h1:∀u∈cs,u.oneCell'=true) (hy:r (amP base w v) w cs y)
 (hn:l.length+1<=2097152) (au:bytes<=4096) (ax:base<=w.heap.size)
 (h:∀v' w',Own base w' e size r v' (l++[y])->w.grownBy w' v.ownBlock->(∃g cap,v' = .slice (some ⟨g,0,none⟩) (l.length+1) cap)->wpList P ops Q rest (a.put o.dst v') w') :
 wpList P ops Q (o :: rest) a w:=by
 have aA:=ag;obtain⟨xss,p1,p2,p3,p4⟩:=ag;have hb:(l.length+1) * bytes<=140737488355328:=by
  have:=Nat.mul_le_mul hn au;omega
 refine wpList_append_own_at w bI s x t ho base e i z size bytes ht hi hz aB bH bV bk v l.length xss.flatten hs p1 ad 1 c cs hx (by rw [hl];omega) az h1 (by unfold maxLen;omega) hb ax ?_;intro v' w' af ae aP aZ;refine h v' w' (aA.snoc hr p1 p2 p3 p4 hl hy af ae aZ) ae ?_;rcases af.2 with⟨e,e2⟩ | ⟨g,cap,cur,e,-⟩
 . omega
 . exact⟨g,cap,e⟩
theorem adC {α : Type} {P : Program} {w : World} {ops : Array Oper} {o : Oper} {a : Act} {K : Act -> World -> Prop} {Q : Exit -> Act -> World -> Prop} {E : Prop} (bI : o.guard = none) (s x : Operand) (t : TypeId)
 (ho:o.op = .call { callee := .builtin .append,args:=#[s,x],argTypes:=#[t,t] })
 (base:Nat) (e:TypeId) (i:TypeInfo) (z:Value) (size bytes:Nat) (ht:P.underlying t=some (.slice e)) (hi:P.info? e=some i) (hz:i.zero=some z)
 (aB:i.size=size) (bH:i.bytes=bytes) (bV:z.cells.size=size) (bk:0<size)
 {r:Rp α} (hr:r.Mono) (v:Value) (l:List α) (hs:a.eval s=v) (ag:Own base w e size r v l)
 (ad:Addr) (c:Nat) (cs:List Value) (y:α) (hx:a.eval x = .slice (some ad) 1 c) (hl:cs.length=size) (az:∀(j:Nat) u,cs[j]?=some u->w.cell? (ad.add j)=some u) (h1:∀u∈cs,u.oneCell'=true) (hy:r (amP base w v) w cs y)
 (hn:l.length+1<=2097152) (au:bytes<=4096) (ax:base<=w.heap.size)
 (h:∀v' w',Own base w' e size r v' (l++[y])->w.grownBy w' v.ownBlock->(∃g cap,v' = .slice (some ⟨g,0,none⟩) (l.length+1) cap)->K (a.put o.dst v') w') :
 if Region.wanted o (yielded ops a.tmps)=true then Oper.wp P o a w K Q else E:=by
 have hw:Region.wanted o (yielded ops a.tmps)=true:=by simp [Region.wanted,bI]
 rw [if_pos hw];have aA:=ag;obtain⟨xss,p1,p2,p3,p4⟩:=ag;have hb:(l.length+1) * bytes<=140737488355328:=by
  have:=Nat.mul_le_mul hn au;omega
 obtain⟨v',w',bS,af,ae,aP,aZ⟩:=run_append_own_at (P:=P) w base t o.type e i z size bytes ht hi hz aB bH bV bk v l.length xss.flatten p1 ad 1 c cs (by rw [hl];omega) az h1 (by unfold maxLen;omega) hb ax;unfold Oper.wp execOp;simp only [ho,resolve,invoke,builtin,Sem.run_bind,Sem.run_pure,Result.andThen_ok,List.map_toArray,Aa9,List.map_nil,hs,hx,bS];refine h v' w' (aA.snoc hr p1 p2 p3 p4 hl hy af ae aZ) ae ?_;rcases af.2 with⟨e,e2⟩ | ⟨g,cap,cur,e,-⟩
 . omega
 . exact⟨g,cap,e⟩
theorem Own.setLow{base:Nat}{e:TypeId}{sz:Nat}{r:Rp α}{v:Value}{l:List α}(h:Own base w e sz r v l)(hr:r.Mono){p:Addr}(hp:p.block<base)(u:Value):Own base (w.setCell p u) e sz r v l:=by
 obtain⟨xss,h1,h2,h3,h4⟩:=h;have hs:(w.setCell p u).heap.size=w.heap.size:=by simp [World.setCell]
 refine⟨xss,ownsRow_setCell_below h1 hp u,h2,h3,fun i cs x hi hx=>hr.out _ _ _ _ _ _ (fun b hb=>⟨hb.1,by rw [hs];exact hb.2.1,hb.2.2⟩) (aba (fun b hb _=>Below.heap_setCell _ _ _ _ (fun e=>?_))) (h4 i cs x hi hx)⟩;have:=hb.1;omega
end
section
open Go.RowKit
def afW(x:Int):List Value:=[.int .i64 x]
def afX(x:DVal):List Value:=[.bool x.reg,.int .i64 x.n]
variable {α:Type}{w:World}{sz:Nat}
theorem Own.of_row{base : Nat}  {e : TypeId}  {r : Rp α} {v : Value} {l : List α} {enc : α -> List Value} (h : w.ownsRow base e sz v l.length (l.flatMap enc)) (he : ∀ x, (enc x).length = sz)
 (hr:∀S,∀x∈l,r S w (enc x) x):Own base w e sz r v l:=by
 refine⟨l.map enc,by rw [<-List.flatMap_def];exact h,by simp,fun i cs hi=>?_,fun i cs x hi hx=>?_⟩
 . rw [Aak] at hi
   obtain⟨x,-,rfl⟩:=Option.map_eq_some_iff.1 hi;exact he x
 . rw [Aak,hx] at hi
   cases hi;exact hr _ x (Aam hx)
variable {n c:Nat}
theorem SlAt.flat{S : Nat -> Prop}   {r : Rp α} {ad : Addr}  {l : List α} {enc : α -> List Value} (h : SlAt S w sz r (.slice (some ad) n c) l) (he : ∀ x, (enc x).length = sz) (h0 : 0 < sz)
 (hr:∀cs x,r S w cs x->cs=enc x):∀(j:Nat) u,(l.flatMap enc)[j]?=some u->w.cell? (ad.add j)=some u:=by
 intro j u hj;have hl:∀(i:Nat) cs,(l.map enc)[i]?=some cs->cs.length=sz:=fun i cs hi=>by
  rw [Aak] at hi;obtain⟨x,-,rfl⟩:=Option.map_eq_some_iff.1 hi;exact he x
 rw [List.flatMap_def] at hj;have b5:j<(l.map enc).flatten.length:=(Aae.1 hj).1;rw [ajH _ hl,Aal] at b5;have hi:j / sz<l.length:=Nat.div_lt_of_lt_mul (by rw [Nat.mul_comm];exact b5);have ht:j % sz<sz:=Nat.mod_lt _ h0;have hd:j / sz * sz+j % sz=j:=by rw [Nat.mul_comm];exact Nat.div_add_mod j sz
 have h1:=aeW (l.map enc) hl (j / sz) (j % sz) (enc l[j / sz]) (by rw [Aak,Aaa hi];rfl) ht;rw [hd,hj] at h1;obtain⟨b,off,cs,ha,-,cw,-,aj⟩:=h.get hi;cases ha;rw [hr _ _ cw] at aj;have h2:=aj (j % sz) u h1.symm;rw [show (⟨b,off,none⟩:Addr).add j=⟨b,off+j / sz * sz+j % sz,none⟩ by rw [Nat.add_assoc,hd];unfold Addr.add;split <;> simp_all];exact h2
variable {S:Nat->Prop}
theorem SlAt.none{r:Rp α}{l:List α}(h:SlAt S w sz r (.slice Option.none n c) l):l=[]:=by
 obtain⟨ao,c',hv,-,-,h⟩:=h;cases hv
 by_cases hl:l=[]
 . exact hl
 . obtain⟨b,off,ha,-⟩:=h hl
   cases ha
theorem afA:(Tryz.prog.info? 3).map (fun i=>(i.zero,i.size,i.bytes))=some (some (.int .i64 0),1,8):=by kernel_rfl
theorem alS:(Tryz.prog.info? 55).map (fun i=>(i.zero,i.size,i.bytes))=some (some (.agg #[.bool false,.int .i64 0]),2,16):=by kernel_rfl
theorem ajF{a:Addr}{v:Value}(h:w.cell? a=some v):a.block<w.heap.size:=by
 unfold World.cell? at h;rcases Nat.lt_or_ge a.block w.heap.size with h1 | h1
 . exact h1
 . rw [Array.getElem?_eq_none h1] at h;cases h
theorem afY{enc:α->List Value}(he:∀x,(enc x).length=sz)(l:List α):(l.flatMap enc).length=l.length * sz:=by
 induction l with
 | nil=>simp
 | cons a l ih=>rw [List.flatMap_cons,Aai,he,ih,Aao,Nat.add_mul];omega
theorem adJ(x:Int):(afW x).length=1:=rfl
theorem adK(x:DVal):(afX x).length=2:=rfl
theorem aku(l:List Int):(l.flatMap afW).length=l.length * 1:=afY adJ l
theorem akv(l:List DVal):(l.flatMap afX).length=l.length * 2:=afY adK l
theorem ah7(cs:List Value)(x:Int)(h:aaO S w cs x):cs=afW x:=h.1
theorem ah8(cs:List Value)(x:DVal)(h:ady S w cs x):cs=afX x:=h.1
theorem aiY(l:List Int):∀u∈l.flatMap afW,u.oneCell'=true:=by
 intro u hu;obtain⟨x,-,hx⟩:=List.mem_flatMap.1 hu;rw [afW,Aaq] at hx;subst hx;rfl
theorem aiZ(l:List DVal):∀u∈l.flatMap afX,u.oneCell'=true:=by
 intro u hu;obtain⟨x,-,hx⟩:=List.mem_flatMap.1 hu;rw [afX] at hx;rcases Aaw.1 hx with rfl | hx
 . rfl
 . rw [Aaq] at hx;subst hx;rfl
theorem alr{a:Option Addr}{l:List Int}(h:SlAt S w 1 aaO (.slice a n c) l)(w1:World):∀T,∀x∈l,aaO T w1 (afW x) x:=by
 intro T x hx;obtain⟨i,hi,rfl⟩:=List.mem_iff_getElem.1 hx;obtain⟨b,off,cs,-,-,hr,-⟩:=h.get hi;exact⟨rfl,hr.2⟩
theorem als{a:Option Addr}{l:List DVal}(h:SlAt S w 2 ady (.slice a n c) l)(w1:World):∀T,∀x∈l,ady T w1 (afX x) x:=by
 intro T x hx;obtain⟨i,hi,rfl⟩:=List.mem_iff_getElem.1 hx;obtain⟨b,off,cs,-,-,hr,-⟩:=h.get hi;exact⟨rfl,hr.2⟩
theorem aeo(a:Option Addr)(c:Nat)(l:List Int)(w:World)(h:SlAt S w 1 aaO (.slice a l.length c) l)(hn:l.length<=1048576) :
 Calls Tryz.prog 56 #[.slice a l.length c] w fun e w'=>∃v,e = .returned v∧Own w.heap.size w' 3 1 aaO v l∧Below w.heap.size w w':=by
 have H:=hid h;have Hn:=hid hn;clear h hn;have aP:=fun (w:World) (a:Option Addr) (n c n' c':Nat)=>Lib.run_eql_slice_nil (P:=Tryz.prog) w 26 3 a n c n' c' Tryz.underlying26;obtain⟨i0,hi,bU,bl,bm⟩:=info_parts afA;cases a with
 | none =>
   obtain rfl:=H.out.none;go_enter Tryz.func56,Tryz.ntmps56;go_wp2;go_ret;exact⟨_,rfl,Own.nil _ _ _ _ _,Below.refl _ _⟩
 | some ad =>
   go_enter Tryz.func56,Tryz.ntmps56;go_wp2_with (at_builtin;refine wpList_append_own_at _ rfl _ _ 26 rfl w.heap.size 3 i0 (.int .i64 0) 1 8 Tryz.underlying26 hi bU bl bm rfl (by decide) (.slice (some ⟨w.heap.size,0,none⟩) 0 0) 0 [] rfl (World.ownsRow_made w #[] 0 (Aad _) (by decide) rfl) ad l.length c (l.flatMap afW) rfl ?_ ?_ ?_ ?_ ?_ ?_ ?_)
   . rw [aku]
   . intro j u hj
     rw [World.cell?_alloc_lt _ _ _ (ajF (H.out.flat adJ (by decide) ah7 j u hj))];exact H.out.flat adJ (by decide) ah7 j u hj
   . exact aiY l
   . have:=Hn.out;unfold maxLen;omega
   . have:=Hn.out;omega
   . simp
   . intro v' w1 ag ae _ _
     have af:=Own.of_row (r:=aaO) ag adJ (alr (S:=S) (w:=w) (a:=some ad) (n:=l.length) (c:=c) H.out w1);go_wp2;go_ret;exact⟨_,rfl,af,((Below.refl _ _).alloc (Aad _) _).grown ae (by simp) (fun k hk=>by cases hk;exact Aad _)⟩
theorem aep(a:Option Addr)(c:Nat)(l:List DVal)(w:World)(h:SlAt S w 2 ady (.slice a l.length c) l)(hn:l.length<=1048576) :
 Calls Tryz.prog 88 #[.slice a l.length c] w fun e w'=>∃v,e = .returned v∧Own w.heap.size w' 55 2 ady v l∧Below w.heap.size w w':=by
 have H:=hid h;have Hn:=hid hn;clear h hn;have aP:=fun (w:World) (a:Option Addr) (n c n' c':Nat)=>Lib.run_eql_slice_nil (P:=Tryz.prog) w 60 55 a n c n' c' Tryz.underlying60;obtain⟨i0,hi,bU,bl,bm⟩:=info_parts alS;cases a with
 | none =>
   obtain rfl:=H.out.none;go_enter Tryz.func88,Tryz.ntmps88;go_wp2;go_ret;exact⟨_,rfl,Own.nil _ _ _ _ _,Below.refl _ _⟩
 | some ad =>
   go_enter Tryz.func88,Tryz.ntmps88;go_wp2_with (at_builtin;refine wpList_append_own_at _ rfl _ _ 60 rfl w.heap.size 55 i0 (.agg #[.bool false,.int .i64 0]) 2 16 Tryz.underlying60 hi bU bl bm rfl (by decide) (.slice (some ⟨w.heap.size,0,none⟩) 0 0) 0 [] rfl (World.ownsRow_made w #[] 0 (Aad _) (by decide) rfl) ad l.length c (l.flatMap afX) rfl ?_ ?_ ?_ ?_ ?_ ?_ ?_)
   . rw [akv]
   . intro j u hj
     rw [World.cell?_alloc_lt _ _ _ (ajF (H.out.flat adK (by decide) ah8 j u hj))];exact H.out.flat adK (by decide) ah8 j u hj
   . exact aiZ l
   . have:=Hn.out;unfold maxLen;omega
   . have:=Hn.out;omega
   . simp
   . intro v' w1 ag ae _ _
     have af:=Own.of_row (r:=ady) ag adK (als (S:=S) (w:=w) (a:=some ad) (n:=l.length) (c:=c) H.out w1);go_wp2;go_ret;exact⟨_,rfl,af,((Below.refl _ _).alloc (Aad _) _).grown ae (by simp) (fun k hk=>by cases hk;exact Aad _)⟩
end
section
open Go.RowKit
theorem aoC:(Tryz.prog.info? 114).map (fun i=>(i.zero,i.size,i.bytes))=some (some (.agg #[.int .i64 0,.slice none 0 0]),2,32):=by kernel_rfl
theorem aoB:(Tryz.prog.info? 62).map (fun i=>(i.zero,i.size,i.bytes))=some (some (.agg #[.int .i64 0,.int .i64 0,.bool false,.int .i64 0,.bool false,.int .i64 0,.int .i64 0,.slice none 0 0]),8,80):=by kernel_rfl
def aiL(a b c d:Nat):Prop:=b<=c∨d<=a
def ad6(lo hi:Nat)(w:World)(pv lv tv:Value)(x:aad):Prop :=
 ∃a1 b1 a2 b2 a3 b3:Nat,(lo<=a1∧a1<=b1∧b1<=hi)∧(lo<=a2∧a2<=b2∧b2<=hi)∧(lo<=a3∧a3<=b3∧b3<=hi)∧aiL a1 b1 a2 b2∧aiL a1 b1 a3 b3∧aiL a2 b2 a3 b3 ∧
   ab4 a1 b1 w 114 2 ag4 pv x.phis∧ab4 a2 b2 w 62 8 ajY lv x.list∧ab4 a3 b3 w 3 1 aaO tv x.fin.to
theorem apL {S:Nat->Prop}{w:World}{a:Option Addr}{n c:Nat}{l:List ad8}(h:SlAt S w 8 ajY (.slice a n c) l){k:Nat}(hk:k<l.length) :
 ∃b off fa fc,a=some ⟨b,off,none⟩∧aaj w b (off+k * 8) [.int .i64 l[k].op,.int .i64 l[k].dst,.bool l[k].a.reg,.int .i64 l[k].a.n,.bool l[k].b.reg,.int .i64 l[k].b.n,.int .i64 l[k].fn,.slice fa l[k].args.length fc] ∧
   SlAt S w 2 ady (.slice fa l[k].args.length fc) l[k].args∧(I64 l[k].op∧I64 l[k].dst∧I64 l[k].a.n∧I64 l[k].b.n∧I64 l[k].fn):=by
 obtain⟨b,off,cs,ha,-,hr,-,aj⟩:=h.get hk;obtain⟨fa,fc,rfl,h1,h2,h3⟩:=hr.opens;exact⟨b,off,fa,fc,ha,aj,h1,h3⟩
theorem aoc {S:Nat->Prop}{w:World}{a:Option Addr}{n c:Nat}{l:List afu}(h:SlAt S w 2 ag4 (.slice a n c) l){k:Nat}(hk:k<l.length) :
 ∃b off fa fc,a=some ⟨b,off,none⟩∧w.cell? ⟨b,off+k * 2,none⟩=some (.int .i64 l[k].dst)∧w.cell? ⟨b,off+k * 2+1,none⟩=some (.slice fa l[k].src.length fc)∧SlAt S w 2 ady (.slice fa l[k].src.length fc) l[k].src∧I64 l[k].dst∧l[k].src.length<=9223372036854775807:=by
 obtain⟨b,off,cs,ha,-,hr,-,aj⟩:=h.get hk;obtain⟨fa,fc,rfl,h1,h2,h3⟩:=hr.opens;obtain⟨c0,c1⟩:=aj.get2;exact⟨b,off,fa,fc,ha,c0,c1,h1,h3,h2⟩
theorem aeq {S : Nat -> Prop} (x : aad) (pa la ta : Option Addr) (pc lc tc : Nat) (w : World) (hp : SlAt S w 2 ag4 (.slice pa x.phis.length pc) x.phis) (hl : SlAt S w 8 ajY (.slice la x.list.length lc) x.list) (ht : SlAt S w 1 aaO (.slice ta x.fin.to.length tc) x.fin.to)
 (np:x.phis.length<=1048576) (nl:x.list.length<=1048576) (nt:x.fin.to.length<=1048576) (ns:∀p∈x.phis,p.src.length<=1048576) (na:∀i∈x.list,i.args.length<=1048576) :
 Calls Tryz.prog 58 #[.agg #[.slice pa x.phis.length pc,.slice la x.list.length lc,.int .i64 x.fin.kind,.bool x.fin.on.reg,.int .i64 x.fin.on.n,.slice ta x.fin.to.length tc]] w fun e w' =>
  ∃pv lv tv,e = .returned (.agg #[pv,lv,.int .i64 x.fin.kind,.bool x.fin.on.reg,.int .i64 x.fin.on.n,tv])∧ad6 w.heap.size w'.heap.size w' pv lv tv x∧Below w.heap.size w w':=by
 have Hp:=hid hp;have Hl:=hid hl;have Ht:=hid ht;have Ns:=hid ns;have Na:=hid na;clear hp hl ht ns na;obtain⟨ip,cr,bP,bQ,bR⟩:=info_parts aoC;obtain⟨ii,cq,bJ,bK,bL⟩:=info_parts aoB;go_enter Tryz.func58,Tryz.ntmps58;go_wp2_with fail
 obtain ⟨W0, aH⟩ : ∃ W0, W0 = (w.alloc (.cells #[.slice pa x.phis.length pc, .slice la x.list.length lc, .int .i64 x.fin.kind, .bool x.fin.on.reg, .int .i64 x.fin.on.n, .slice ta x.fin.to.length tc] 59)).alloc
  (.cells #[.slice none 0 0,.slice none 0 0,.int .i64 0,.bool false,.int .i64 0,.slice none 0 0] 59):=⟨_,rfl⟩
 have b4:Below w.heap.size w W0:=by rw [aH];exact bE
 have b7:W0.heap.size=w.heap.size+2:=by rw [aH];simp
 have B0:∀(j:Nat) u,[Value.slice pa x.phis.length pc,.slice la x.list.length lc,.int .i64 x.fin.kind,.bool x.fin.on.reg,.int .i64 x.fin.on.n,.slice ta x.fin.to.length tc][j]?=some u->W0.cell? ⟨w.heap.size,j,none⟩=some u:=by
  intro j u hj;rw [aH,World.cell?_alloc2_first];simpa using hj
 have B1:∀(j:Nat) u,[Value.slice none 0 0,.slice none 0 0,.int .i64 0,.bool false,.int .i64 0,.slice none 0 0][j]?=some u->W0.cell? ⟨w.heap.size+1,j,none⟩=some u:=by
  intro j u hj;rw [aH,World.cell?_alloc2_new];simpa using hj
 have F0:∀(j:Nat),W0.frozen? ⟨w.heap.size,j,none⟩=false:=by intro j;rw [aH];simp
 have F1:∀(j:Nat),W0.frozen? ⟨w.heap.size+1,j,none⟩=false:=by intro j;rw [aH];simp
 have cc:=hid b4;have aI:=hid B0;have aR:=hid B1;have b9:=hid F0;have ca:=hid F1;rw [<-aH];have bh:=acI.start W0 114 2 ag4;have cj:=hid bh;clear aH b4 B0 B1 F0 F1 bh;go_loopw [3,12] (fun v3 i wr=>∃(k:Nat) (v:Value),v=v3∧k<=x.phis.length∧i = .int .i64 k∧acI W0 wr 114 2 ag4 v (x.phis.take k)) (fun _ i _=>x.phis.length - (intOf i).toNat)
 case atStart=>exact⟨0,_,rfl,Aah _,rfl,cj.out⟩
 case round =>
  obtain⟨k,v,rfl,hk,rfl,hs⟩:=hrel;have Hs:=hid hs;have z0:W0.heap.size<=wr.heap.size:=hs.old.size;have br:Hid (Below w.heap.size w wr):=cc.out.trans (hs.old.mono (by omega))
  by_cases ay:k<x.phis.length
  . obtain⟨b,off,fa,fc,rfl,c0,c1,aC,hd,cI⟩:=aoc (Hp.out.later aa0 br.out) ay
    have cp:b<wr.heap.size:=aac c0;have aF:=hid aC;have Hd:=hid hd;have bw:x.phis[k].src.length<=1048576:=Ns.out _ (Aaf ay);clear hs aC hd;obtain⟨W1,av⟩:∃W1,W1=wr.alloc (.cells #[.int .i64 x.phis[k].dst,.slice fa x.phis[k].src.length fc] 114):=⟨_,rfl⟩
    have k0:W1.cell? ⟨wr.heap.size,0,none⟩=some (.int .i64 x.phis[k].dst):=by rw [av];simp
    have k1:W1.cell? ⟨wr.heap.size,1,none⟩=some (.slice fa x.phis[k].src.length fc):=by rw [av];simp
    have kf:∀j,W1.frozen? ⟨wr.heap.size,j,none⟩=false:=by intro j;rw [av];simp
    have bl:W1.heap.size=wr.heap.size+1:=by rw [av];simp
    have ar:Below wr.heap.size wr W1:=by rw [av];exact bE
    have aw:=hid ar;go_wp2_with fail;rw [<-av];refine (aep (S:=S) fa fc x.phis[k].src W1 (aF.out.later aaw ar) bw).mono ?_;rintro e w2 ⟨v',rfl,aQ,aE⟩;obtain⟨a',c',rfl⟩:=aQ.shape;have bB:=hid aQ;have aT:=hid aE;have m0:=aab k0 aE;have m1:=aab k1 aE;have mf:w2.frozen? ⟨wr.heap.size,1,none⟩=false:=(aE.frozen (p:=⟨wr.heap.size,1,none⟩) (by dsimp only;omega)).trans (kf 1);have bm:wr.heap.size<w2.heap.size:=aac m0;clear k0 k1 kf ar aQ aE av c0 c1;go_wp2_with (at_builtin;refine abo rfl _ _ 52 rfl W0.heap.size 114 ip _ 2 32 Tryz.underlying52 cr bP bQ bR rfl (by decide) aa0 v (x.phis.take k) rfl ?_ ⟨w2.heap.size,0,none⟩ 1 [.int .i64 x.phis[k].dst,.slice a' x.phis[k].src.length c'] x.phis[k] rfl rfl ?_ ?_ ?_ ?_ (by decide) ?_ ?_)
    . exact Hs.out.own.later aa0 (by have h:=aw.out;have h2:=aT.out;exact bE2 h2 h)
    . exact abd _ _ _ (by simp)
    . intro u hu;simp at hu;rcases hu with rfl | rfl <;> rfl
    . refine⟨_,rfl,bB.out.sub aaw (by decide) (by omega) (fun g hg=>by have:=Hs.out.own.lt g hg;omega) (fun b hb hl=>abT _ _ _ _ hl (by dsimp only;omega)) (by simp),Hd.out⟩
    . rw [Aar];omega
    . simp;omega
    . intro v2 w3 ag ae g2 bC cA
      have ai:Below W0.heap.size W0 w3:=by
       refine Below.grown ?_ ae (by simp;omega) (fun g hg=>(Hs.out.own.lt g hg).1);have h:=aw.out;have h2:=aT.out;have h3:=Hs.out.old;exact bE3 h2 h h3
      have aG:=hid ai;have aJ:=hid ag;clear ag ae ai;go_wp2_with fail;go_roundw
      case rel=>exact⟨k+1,_,rfl,by omega,by go_num,⟨by have h:=aJ.out;(try rw [<-Aat ay] at h);first | exact h | (rw [b7];exact h),aG.out⟩⟩
      case measure=>simp [intOf];omega
  . obtain rfl:k=x.phis.length:=by omega
    rw [Aay] at Hs;have g0:=aab (aI.out 1 _ rfl) Hs.out.old;have cB:=br.out;have cx:w.heap.size<wr.heap.size:=aac g0;clear hs;go_wp2_with fail;obtain⟨WA,b0⟩:∃WA,WA=wr:=⟨_,rfl⟩
    rw [<-b0] at Hs br ⊢;have bj:=acI.start WA 62 8 ajY;have bA:=hid bj;have zA:w.heap.size+2<=WA.heap.size:=by have:=Hs.out.old.size;omega
    clear b0 bj g0 cB cx z0;go_loopw [6,28] (fun v6 i wr=>∃(k:Nat) (v:Value),v=v6∧k<=x.list.length∧i = .int .i64 k∧acI WA wr 62 8 ajY v (x.list.take k)) (fun _ i _=>x.list.length - (intOf i).toNat)
    case atStart=>exact⟨0,_,rfl,Aah _,rfl,bA.out⟩
    case round =>
     obtain⟨k,vl,rfl,hk,rfl,bf⟩:=hrel;have aD:=hid bf;have z0:WA.heap.size<=wr.heap.size:=bf.old.size;have aW:Hid (Below w.heap.size w wr):=br.out.trans (bf.old.mono (by omega))
     by_cases ay:k<x.list.length
     . obtain⟨b,off,fa,fc,rfl,aj,aC,hd⟩:=apL (Hl.out.later aa6 aW.out) ay
       obtain⟨d0,d1,d2,d3,d4,d5,d6,d7⟩:=aj.get8;have cp:b<wr.heap.size:=aac d0;have aF:=hid aC;have Hd:=hid hd;have bw:x.list[k].args.length<=1048576:=Na.out _ (Aaf ay);clear bf aC hd aj;obtain⟨y,hy⟩:∃y,y=x.list[k]:=⟨_,rfl⟩
       have Hy:=hid hy;rw [<-hy] at aF Hd bw d0 d1 d2 d3 d4 d5 d6 d7;clear hy;obtain⟨W1,av⟩:∃W1,W1=wr.alloc (.cells #[.int .i64 y.op,.int .i64 y.dst,.bool y.a.reg,.int .i64 y.a.n,.bool y.b.reg,.int .i64 y.b.n,.int .i64 y.fn,.slice fa y.args.length fc] 62):=⟨_,rfl⟩
       have kc:aaj W1 wr.heap.size 0 [.int .i64 y.op,.int .i64 y.dst,.bool y.a.reg,.int .i64 y.a.n,.bool y.b.reg,.int .i64 y.b.n,.int .i64 y.fn,.slice fa y.args.length fc]:=by
        intro j u hj;rw [av,Aab,World.cell?_alloc_new];simpa using hj
       have kf:∀j,W1.frozen? ⟨wr.heap.size,j,none⟩=false:=by intro j;rw [av];simp
       have bl:W1.heap.size=wr.heap.size+1:=by rw [av];simp
       have ar:Below wr.heap.size wr W1:=by rw [av];exact bE
       have aw:=hid ar;have Kc:=hid kc;have Kf:=hid kf;clear kc kf;go_wp2_with fail;rw [<-av];refine (aep (S:=S) fa fc y.args W1 (aF.out.later aaw ar) bw).mono ?_;rintro e w2 ⟨v',rfl,aQ,aE⟩;obtain⟨a',c',rfl⟩:=aQ.shape;have bB:=hid aQ;have aT:=hid aE;obtain⟨m0,m1,m2,m3,m4,m5,m6,m7⟩:=(Kc.out.later aE).get8;have mf:w2.frozen? ⟨wr.heap.size,7,none⟩=false:=(aE.frozen (p:=⟨wr.heap.size,7,none⟩) (by dsimp only;omega)).trans (Kf.out 7);have bm:wr.heap.size<w2.heap.size:=aac m0;clear ar aQ aE av d0 d1 d2 d3 d4 d5 d6 d7;go_wp2_with (at_builtin;refine abo rfl _ _ 53 rfl WA.heap.size 62 ii _ 8 80 Tryz.underlying53 cq bJ bK bL rfl (by decide) aa6 vl (x.list.take k) rfl ?_ ⟨w2.heap.size,0,none⟩ 1 [.int .i64 y.op,.int .i64 y.dst,.bool y.a.reg,.int .i64 y.a.n,.bool y.b.reg,.int .i64 y.b.n,.int .i64 y.fn,.slice a' y.args.length c'] y rfl rfl ?_ ?_ ?_ ?_ (by decide) ?_ ?_)
       . exact aD.out.own.later aa6 (by have h:=aw.out;have h2:=aT.out;exact bE2 h2 h)
       . exact abd _ _ _ (by simp)
       . intro u hu;simp at hu;rcases hu with rfl | rfl | rfl | rfl | rfl | rfl | rfl | rfl <;> rfl
       . refine⟨_,rfl,bB.out.sub aaw (by decide) (by omega) (fun g hg=>by have:=aD.out.own.lt g hg;omega) (fun b hb hl=>abT _ _ _ _ hl (by dsimp only;omega)) (by simp),Hd.out⟩
       . rw [Aar];omega
       . simp;omega
       . intro v2 w3 ag ae g2 bC cA
         have ai:Below WA.heap.size WA w3:=by
          refine Below.grown ?_ ae (by simp;omega) (fun g hg=>(aD.out.own.lt g hg).1);have h:=aw.out;have h2:=aT.out;have h3:=aD.out.old;exact bE3 h2 h h3
         have aG:=hid ai;have aJ:=hid ag;clear ag ae ai;go_wp2_with fail;go_roundw
         case rel=>exact⟨k+1,_,rfl,by omega,by go_num,⟨by have h:=aJ.out;rw [Hy.out] at h;(try rw [<-Aat ay] at h);exact h,aG.out⟩⟩
         case measure=>simp [intOf];omega
     . obtain rfl:k=x.list.length:=by omega
       rw [Aay] at aD;obtain⟨po,aS,cv⟩:=Hs.out.own.shape;obtain⟨lo,bo,cu⟩:=aD.out.own.shape;subst cv cu
       -- the boxes,as they lie before the last stores
       have aq:Below W0.heap.size W0 wr:=Hs.out.old.trans (aD.out.old.mono (by omega));have q0:=aab (aI.out 0 _ rfl) aq;have q1:=aab (aI.out 1 _ rfl) aq;have q2:=aab (aI.out 2 _ rfl) aq;have q3:=aab (aI.out 3 _ rfl) aq;have q4:=aab (aI.out 4 _ rfl) aq;have q5:=aab (aI.out 5 _ rfl) aq;have p0:=aab (aR.out 0 _ rfl) aq;have p1:=aab (aR.out 1 _ rfl) aq;have p2:=aab (aR.out 2 _ rfl) aq;have p3:=aab (aR.out 3 _ rfl) aq;have p4:=aab (aR.out 4 _ rfl) aq;have p5:=aab (aR.out 5 _ rfl) aq;have e0:∀j,wr.frozen? ⟨w.heap.size,j,none⟩=false:=fun j=>(aq.frozen (p:=⟨w.heap.size,j,none⟩) (by dsimp only;omega)).trans (b9.out j);have e1:∀j,wr.frozen? ⟨w.heap.size+1,j,none⟩=false:=fun j=>(aq.frozen (p:=⟨w.heap.size+1,j,none⟩) (by dsimp only;omega)).trans (ca.out j);have cl:=e0 0;have cm:=e0 1;have cF:w.heap.size+1<wr.heap.size:=aac p0;have E0:=hid e0;have E1:=hid e1;have cH:=hid aq;clear bf aq e0 e1;go_wp2_with fail;obtain⟨W2,al⟩:∃W2,W2=(wr.setCell ⟨w.heap.size,0,none⟩ (.slice po x.phis.length aS)).setCell ⟨w.heap.size,1,none⟩ (.slice lo x.list.length bo):=⟨_,rfl⟩
       rw [<-al];have c1:(wr.setCell ⟨w.heap.size,0,none⟩ (.slice po x.phis.length aS)).cell? ⟨w.heap.size,1,none⟩=some (.slice la x.list.length lc):=by rw [aap q0,if_neg (by decide)];exact q1
       have r0:W2.cell? ⟨w.heap.size,0,none⟩=some (.slice po x.phis.length aS):=by rw [al,aap c1,if_neg (by decide),aap q0,if_pos rfl]
       have r1:W2.cell? ⟨w.heap.size,1,none⟩=some (.slice lo x.list.length bo):=by rw [al,aap c1,if_pos rfl]
       have r2:W2.cell? ⟨w.heap.size,2,none⟩=some (.int .i64 x.fin.kind):=by rw [al,aap c1,if_neg (by decide),aap q0,if_neg (by decide)];exact q2
       have r3:W2.cell? ⟨w.heap.size,3,none⟩=some (.bool x.fin.on.reg):=by rw [al,aap c1,if_neg (by decide),aap q0,if_neg (by decide)];exact q3
       have r4:W2.cell? ⟨w.heap.size,4,none⟩=some (.int .i64 x.fin.on.n):=by rw [al,aap c1,if_neg (by decide),aap q0,if_neg (by decide)];exact q4
       have r5:W2.cell? ⟨w.heap.size,5,none⟩=some (.slice ta x.fin.to.length tc):=by rw [al,aap c1,if_neg (by decide),aap q0,if_neg (by decide)];exact q5
       have ak:w.heap.size+1≠w.heap.size:=by omega
       have s0:W2.cell? ⟨w.heap.size+1,0,none⟩=some (.slice none 0 0):=by rw [al,aaf _ ak,aaf _ ak];exact p0
       have s1:W2.cell? ⟨w.heap.size+1,1,none⟩=some (.slice none 0 0):=by rw [al,aaf _ ak,aaf _ ak];exact p1
       have s2:W2.cell? ⟨w.heap.size+1,2,none⟩=some (.int .i64 0):=by rw [al,aaf _ ak,aaf _ ak];exact p2
       have s3:W2.cell? ⟨w.heap.size+1,3,none⟩=some (.bool false):=by rw [al,aaf _ ak,aaf _ ak];exact p3
       have s4:W2.cell? ⟨w.heap.size+1,4,none⟩=some (.int .i64 0):=by rw [al,aaf _ ak,aaf _ ak];exact p4
       have s5:W2.cell? ⟨w.heap.size+1,5,none⟩=some (.slice none 0 0):=by rw [al,aaf _ ak,aaf _ ak];exact p5
       have bX:∀j,W2.frozen? ⟨w.heap.size,j,none⟩=false:=by intro j;rw [al];simp [E0.out]
       have bY:∀j,W2.frozen? ⟨w.heap.size+1,j,none⟩=false:=by intro j;rw [al];simp [E1.out]
       have aM:Below w.heap.size w W2:=by rw [al];have h:=aW.out;exact bE1 h
       have bg:W2.heap.size=wr.heap.size:=by rw [al];simp [World.setCell]
       have a7:Hid (∀b,w.heap.size+2<=b->W2.heap[b]?=wr.heap[b]?):=fun b hb=>by rw [al,Below.heap_setCell _ _ _ _ (by dsimp only;omega),Below.heap_setCell _ _ _ _ (by dsimp only;omega)]
       refine (aeo (S:=S) ta tc x.fin.to W2 (Ht.out.later aae aM) nt).mono ?_;rintro e w3 ⟨tv,rfl,bT,ai⟩;obtain⟨bq,bp,rfl⟩:=bT.shape;have ck:=hid bT;have aG:=hid ai;have t0:=aab r0 ai;have t1:=aab r1 ai;have t2:=aab r2 ai;have t3:=aab r3 ai;have t4:=aab r4 ai;have t5:=aab r5 ai;have v0:=aab s0 ai;have v1:=aab s1 ai;have v2:=aab s2 ai;have v3:=aab s3 ai;have v4:=aab s4 ai;have v5:=aab s5 ai;have cE:w.heap.size+1<w3.heap.size:=aac v0;have y5:w3.frozen? ⟨w.heap.size,5,none⟩=false:=(ai.frozen (p:=⟨w.heap.size,5,none⟩) (by dsimp only;omega)).trans (bX 5);have y:∀j,w3.frozen? ⟨w.heap.size+1,j,none⟩=false:=fun j=>(ai.frozen (p:=⟨w.heap.size+1,j,none⟩) (by dsimp only;omega)).trans (bY j);have y0:=y 0;have y1:=y 1;have y2:=y 2;have y3:=y 3;have y4:=y 4;have y6:=y 5;have bz:=hid bg;have aU:=hid aM;clear q0 q1 q2 q3 q4 q5 p0 p1 p2 p3 p4 p5 r0 r1 r2 r3 r4 r5 s0 s1 s2 s3 s4 s5 bX bY al c1 bT ai y ak cF cl cm bg aM;go_wp2_with fail
       have aN := aqg (u0 := .slice po x.phis.length aS) (u1 := .slice lo x.list.length bo) (u2 := .int .i64 x.fin.kind) (u3 := .bool x.fin.on.reg) (u4 := .int .i64 x.fin.on.n) (u5 := .slice bq x.fin.to.length bp)
        (w:=w3.setCell ⟨w.heap.size,5,none⟩ (.slice bq x.fin.to.length bp)) (b:=w.heap.size+1) (o0 := .slice none 0 0) (o1 := .slice none 0 0) (o2 := .int .i64 0) (o3 := .bool false) (o4 := .int .i64 0) (o5 := .slice none 0 0)
        (by
          have ak : w.heap.size + 1 ≠ w.heap.size := by omega
          exact .cons ((aaf w3 ak _ 0).trans v0) (.cons ((aaf w3 ak _ 1).trans v1) (.cons ((aaf w3 ak _ 2).trans v2) (.cons ((aaf w3 ak _ 3).trans v3) (.cons ((aaf w3 ak _ 4).trans v4) (.cons ((aaf w3 ak _ 5).trans v5) (aaj.nil _ _ _)))))))
       obtain⟨h0,h1,h2,h3,h4,h5⟩:=aN.get6;obtain⟨W5,bu⟩:∃W5,W5=(((((((w3.setCell ⟨w.heap.size,5,none⟩ (.slice bq x.fin.to.length bp)).setCell ⟨w.heap.size+1,0,none⟩ (.slice po x.phis.length aS)).setCell ⟨w.heap.size+1,1,none⟩ (.slice lo x.list.length bo)).setCell ⟨w.heap.size+1,2,none⟩ (.int .i64 x.fin.kind)).setCell ⟨w.heap.size+1,3,none⟩ (.bool x.fin.on.reg)).setCell ⟨w.heap.size+1,4,none⟩ (.int .i64 x.fin.on.n)).setCell ⟨w.heap.size+1,5,none⟩ (.slice bq x.fin.to.length bp)):=⟨_,rfl⟩
       rw [<-bu] at h0 h1 h2 h3 h4 h5 ⊢;have bG:Below w.heap.size w w3:=aU.out.trans (aG.out.mono aU.out.size);have hle:w.heap.size<=w.heap.size+1:=Aa3 _;have bF:Below w.heap.size w W5:=by
        rw [bu];exact ((((((bG.setCell (p:=⟨w.heap.size,5,none⟩) (Aad _) _).setCell (p:=⟨w.heap.size+1,0,none⟩) hle _).setCell (p:=⟨w.heap.size+1,1,none⟩) hle _).setCell (p:=⟨w.heap.size+1,2,none⟩) hle _).setCell (p:=⟨w.heap.size+1,3,none⟩) hle _).setCell (p:=⟨w.heap.size+1,4,none⟩) hle _).setCell (p:=⟨w.heap.size+1,5,none⟩) hle _
       have cy:W5.heap.size=w3.heap.size:=by rw [bu];simp [World.setCell]
       have aO:∀b,w.heap.size+2<=b->W5.heap[b]?=w3.heap[b]?:=fun b hb=>by
        rw [bu]
        iterate 7 rw [Below.heap_setCell _ _ _ _ (by dsimp only;omega)]
       refine bodyPost_ret (v := .agg #[.slice po x.phis.length aS,.slice lo x.list.length bo,.int .i64 x.fin.kind,.bool x.fin.on.reg,.int .i64 x.fin.on.n,.slice bq x.fin.to.length bp]) ?_ rfl ⟨_,_,_,rfl,?_,bF⟩
       . simp [results,Tryz.results58,go_sem,h0,h1,h2,h3,h4,h5]
       . have z1:=Hs.out.old.size
         have z2:=aD.out.old.size;have z3:=aG.out.size;have z4:=bz.out;refine⟨w.heap.size+2,WA.heap.size,WA.heap.size,wr.heap.size,W2.heap.size,w3.heap.size,⟨by omega,by omega,by omega⟩,⟨by omega,by omega,by omega⟩,⟨by omega,by omega,by omega⟩,.inl (by omega),.inl (by omega),.inl (by omega),?_,?_,?_⟩
         . have h:=Hs.out.own.inn
           rw [b7] at h;refine h.kept aa0 (fun b h1 h2=>?_);rw [aO b h1,aG.out.block b (by omega),a7.out b h1,aD.out.old.block b h2]
         . refine aD.out.own.inn.kept aa6 (fun b h1 h2=>?_)
           rw [aO b (by omega),aG.out.block b (by omega),a7.out b (by omega)]
         . refine ck.out.inn.kept aae (fun b h1 h2=>?_)
           rw [aO b (by omega)]
end
section
open Go.RowKit Go.Shelf
attribute [local go_sem] Oper.semAt_some
def adi(n₀:Nat)(X:Nat->Prop)(W W':World):Prop:=W.heap.size<=W'.heap.size∧∀b,b<n₀->¬X b->W'.heap[b]?=W.heap[b]?
theorem adi.refl(n₀:Nat)(X:Nat->Prop)(W:World):adi n₀ X W W:=⟨Aad _,fun _ _ _=>rfl⟩
variable {n₀:Nat}{X:Nat->Prop}
theorem ahv{A B C:World}(h:adi n₀ X A B)(k:adi n₀ X B C):adi n₀ X A C:=⟨Aag h.1 k.1,fun b h1 h2=>(k.2 b h1 h2).trans (h.2 b h1 h2)⟩
theorem alW{w:World}(hn:n₀<=w.heap.size)(W:World)(l:Nat)(o o':Obj)(hl:w.heap.size<=l)(_:W.heap[l]?=some o)(_:o.isCells=false)(_:o.isWalk=false):adi n₀ X W (W.putObj l o') :=
 ⟨by simp,fun b h1 _=>World.putObj_heap_other (by omega)⟩
theorem adi.cell{W W':World}(h:adi n₀ X W W'){b o:Nat}{v:Value}(hc:W.cell? ⟨b,o,none⟩=some v)(hb:b<n₀)(hx:¬X b):W'.cell? ⟨b,o,none⟩=some v:=by
 rw [World.cell?_of_block (w:=W) (a:=⟨b,o,none⟩) (h.2 b hb hx)];exact hc
end
section
open Go.RowKit Go.Shelf
attribute [local go_sem] Oper.semAt_some
def BackP(L:List Int):Type:={ x:Nat×Int // L[x.1]?=some x.2 }
def numOf {L:List Int}(x:BackP L):Int:=x.1.2
def ap2 {L:List Int}(x:BackP L):Array Value:=#[.int .i64 (x.1.1:Int),.int .i64 x.1.2]
theorem al7 {L:List Int}(x:BackP L):numOf x∈L:=Aam x.2
theorem aop(F:Fence)(n:Nat)(h:F.fn 139)(be:F.round=none)(a:Option Addr)(m c:Nat)(w:World) :
 CallsIn F n Tryz.prog 139 #[.slice a m c] w fun e w'=>e = .returned (.func (.func 152) #[] #[.pointer (some ⟨w.heap.size,0,none⟩)])∧w'=w.alloc (.cells #[.slice a m c] 26):=by
 refine callsIn_of_wp Tryz.func139 rfl h ?_ be;simp only [Tryz.ntmps139,List.size_toArray,Aao,Abn,Nat.reduceAdd,Nat.reduceSub,Array.replicate_succ,Array.replicate_zero,List.push_toArray,List.append_toArray,Abf,List.cons_append]
 gi_wp2
 go_ret;exact⟨rfl,rfl⟩
theorem amZ (F : Fence) (n : Nat) (h : F.fn 152) (be : F.round = none) (hn : 1 <= n) (l Bs n₀ : Nat) (X : Nat -> Prop) (a : Option Addr) (c : Nat) (L : List Int) (W0 : World)
 (hL:L.length<=1048576) (hb:SlAt (fun b=>b<n₀∧¬X b) W0 1 aaO (.slice a L.length c) L) (bt:Bs<n₀∧¬X Bs)
 (J Jx:List (BackP L)->World->Prop)
 (hY : ∀ pre x W1, J pre W1 -> pre.length < L.length -> YieldAt F (n - 1) Tryz.prog l (ap2 x) W1 fun e W' =>
   (e = .returned (.bool true) ∧ J (pre ++ [x]) W' ∧ adi n₀ X W1 W') ∨ (e = .returned (.bool false) ∧ Jx (pre ++ [x]) W'))
 (W:World) (hW:Below W0.heap.size W0 W) (aX:W.cell? ⟨Bs,0,none⟩=some (.slice a L.length c)) (h0:J [] W) :
 CallsIn F n Tryz.prog 152 #[.func (.yield l) #[] #[],.pointer (some ⟨Bs,0,none⟩)] W fun e W'=>(∃v,e = .returned v) ∧
  ((∃ys:List (BackP L),ys.map numOf=L.reverse∧J ys W')∨(∃pre:List (BackP L),pre.map numOf <+: L.reverse∧Jx pre W')):=by
 have Hb:=hid hb;have HY:=hid hY;have HW:=hid hW;have cb:=hid aX;have zB:Bs<W.heap.size:=aac aX;clear hb hY hW;refine callsIn_of_wp Tryz.func152 rfl h ?_ be;simp only [Tryz.ntmps152,List.size_toArray,Aao,Abn,Nat.reduceAdd,Nat.reduceSub,Array.replicate_succ,Array.replicate_zero,List.push_toArray,List.append_toArray,Abf,List.cons_append]
 gi_wp2
 clear aX
 gi_loopw [3] (fun i wr=>∃(k:Nat) (pre:List (BackP L)),k<=L.length∧i = .int .i64 ((k:Int) - 1)∧pre.map numOf=(L.drop k).reverse∧J pre wr∧adi n₀ X W wr) (fun i _=>(intOf i+1).toNat)
 case atStart=>exact⟨L.length,[],Aad _,rfl,by simp,h0,adi.refl _ _ _⟩
 case round =>
  obtain⟨k,pre,hk,rfl,bd,hJ,bN⟩:=hrel;have aK:=hid bd;have HJ:=hid hJ;have bW:=hid bN;have c0:=bN.cell cb.out bt.1 bt.2;have z0:Bs<wr.heap.size:=aac c0;clear bd hJ bN;cases k with
  | zero =>
    have cg:Hid (pre.map numOf=L.reverse):=by show _=_;rw [aK.out,List.drop_zero]
    have e0:((0:Nat):Int) - 1 = -1:=rfl;rw [e0];clear e0
    gi_wp2
    go_end0;exact⟨⟨_,rfl⟩,.inl ⟨pre,cg.out,HJ.out⟩⟩
  | succ k =>
    have ay:k<L.length:=hk;have e0:((k+1:Nat):Int) - 1=(k:Int):=by omega
    rw [e0];obtain⟨xb,cG,cs,cC,b8,⟨rfl,-⟩,-,aj⟩:=Hb.out.get ay;subst cC;have hd:=aj.get1;rw [Aan] at hd;obtain⟨y,hy⟩:∃y,y=L[k]:=⟨_,rfl⟩
    rw [<-hy] at hd;have d0:=bW.out.cell (aab hd HW.out) b8.1 b8.2;have zx:xb<wr.heap.size:=aac d0;obtain⟨x,hx⟩:∃x:BackP L,x=⟨(k,y),by rw [hy];exact Aaa ay⟩:=⟨_,rfl⟩
    have a6:ap2 x=#[.int .i64 (k:Int),.int .i64 y]:=by rw [hx];rfl
    have a8:numOf x=y:=by rw [hx];rfl
    have hlen:pre.length<L.length:=by
     have h:=congrArg List.length aK.out;rw [Aal,Aba,List.length_drop] at h;omega
    obtain⟨fn,tmps,assign,body,cD,hR⟩:=HY.out pre x wr HJ.out hlen;rw [a6] at cD;have aV:Hid ((pre++[x]).map numOf=(L.drop k).reverse):=by
     show _=_;rw [Aav,aK.out,List.drop_eq_getElem_cons ay,Abt];show _++[numOf x]=_;rw [a8,hy]
    have ch:Hid ((L.drop k).reverse <+: L.reverse):=List.reverse_prefix.2 (List.drop_suffix k L);have HR:=hid hR;clear aj hx a6 a8 hR hd hy hlen e0
    gi_wp2
    refine HR.out.mono ?_;rintro e W3 (⟨rfl,bZ,b6⟩ | ⟨rfl,aY⟩)
    . have bx:=hid bZ
      have cf:=hid (ahv bW.out b6);clear bZ b6
      gi_wp2
      go_roundw
      case rel=>exact⟨k,pre++[x],by omega,rfl,aV.out,bx.out,cf.out⟩
      case measure=>simp [intOf]
    . have bx:=hid aY
      clear aY
      gi_wp2
      refine bodyPost_ret (results_none rfl _ _ _) rfl ?_;exact⟨⟨_,rfl⟩,.inr ⟨pre++[x],by rw [aV.out];exact ch.out,bx.out⟩⟩
theorem aki (F : Fence) (n : Nat) (h : F.fn 152) (be : F.round = none) (hn : 1 <= n) (Bs n₀ : Nat) (X : Nat -> Prop) (a : Option Addr) (c : Nat) (L : List Int) (W0 w : World)
 (hL:L.length<=1048576) (hb:SlAt (fun b=>b<n₀∧¬X b) W0 1 aaO (.slice a L.length c) L) (bt:Bs<n₀∧¬X Bs) (h0:Below W0.heap.size W0 w) (aX:w.cell? ⟨Bs,0,none⟩=some (.slice a L.length c)) :
 SeqStopsK F n Tryz.prog 152 #[.pointer (some ⟨Bs,0,none⟩)] (ap2 (L:=L)) (adi n₀ X) (fun ys=>ys.map numOf=L.reverse) (fun pre=>pre.map numOf <+: L.reverse) L.length w :=
 fun l J Jx W hW _ _ hY cn =>
  (amZ F n h be hn l Bs n₀ X a c L W0 hL hb bt J Jx hY W (h0.trans (hW.mono h0.size)) (aab aX hW) cn).mono fun _ _ h=>h
end
end Go.Proofs.YtnkfdeiigplhoaaGreatDoor
