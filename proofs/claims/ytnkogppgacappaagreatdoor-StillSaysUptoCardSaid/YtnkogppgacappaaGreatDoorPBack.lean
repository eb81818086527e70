/- Slices of structs that the call makes itself: what they hold, and how they grow. No function of the program in sight. slices.Clone of []int and of []api.Val: the copy is the call's own. calls.CopyBlock: a block of the call's own memory. calls.Each: all instructions of a function, one by one, in memory that the loop over them may change elsewhere. slices.Backward over a list of numbers, in memory that the loop over it may change elsewhere. -/
import Derived.Test.YtnkogppgacappaaGreatDoorPEq
import Derived.Maps.AppendAt
import Derived.Laws.AppendOwn
import Derived.RegionTactic
import Derived.Test.YtnkogppgacappaaGreatDoorProg
import Derived.Test.YtnkogppgacappaaGreatDoorPChk3
import Derived.Lib.SliceRun
import Derived.RangeFuncNested
import Derived.RangeFuncBound
import Derived.RangeFuncCalls
import Derived.RangeFuncLeaves
import Derived.Shelf.Abstract
import Derived.Shelf.RegionOpen
import Derived.WalkKit
import Derived.OwnWalkIn
import Derived.TacticsInMore
import Derived.LoopNIn
import Derived.LoopIn
namespace Go.Proofs.YtnkogppgacappaaGreatDoor
open Go.RowKit

def iv(a b:Nat):Nat→Prop:=fun x=>a≤x∧x<b
def ownS(base:Nat)(w:World)(v:Value):Nat→Prop:=fun b=>base≤b∧b<w.heap.size∧v.ownBlock≠some b

def Own {α:Type}(base:Nat)(w:World)(e:TypeId)(sz:Nat)(r:Rp α)(v:Value)(l:List α):Prop :=
 ∃xss:List (List Value),w.ownsRow base e sz v l.length xss.flatten∧xss.length=l.length∧(∀(i:Nat) cs,xss[i]?=some cs→cs.length=sz) ∧
   ∀(i:Nat) cs x,xss[i]?=some cs→l[i]?=some x→r (ownS base w v) w cs x

theorem flat_at {sz : Nat} : ∀ (xss : List (List Value)), (∀ (i : Nat) cs, xss[i]? = some cs → cs.length = sz) → ∀ (i j : Nat) cs, xss[i]? = some cs → j < sz → xss.flatten[i * sz + j]? = cs[j]?
 | [],_,i,_,cs,h,_=>by simp at h
 | ys :: xss,hl,0,j,cs,h,hj=>by
   have e:ys=cs:=by simpa using h
   subst e;have h0:=hl 0 ys rfl;rw [List.flatten_cons,Nat.zero_mul,Nat.zero_add,List.getElem?_append_left (by omega)]
 | ys :: xss,hl,i+1,j,cs,h,hj=>by
   have h0:=hl 0 ys rfl;rw [List.flatten_cons,List.getElem?_append_right (by rw [h0,Nat.add_mul];omega),h0];rw [show (i+1) * sz+j - sz=i * sz+j by rw [Nat.add_mul];omega];exact flat_at xss (fun k cs' hk=>hl (k+1) cs' (by simpa using hk)) i j cs (by simpa using h) hj
theorem flat_len {sz : Nat} : ∀ (xss : List (List Value)), (∀ (i : Nat) cs, xss[i]? = some cs → cs.length = sz) → xss.flatten.length = xss.length * sz
 | [],_=>by simp
 | ys :: xss,hl=>by
   have h0:=hl 0 ys rfl;have h1:=flat_len xss (fun k cs' hk=>hl (k+1) cs' (by simpa using hk));rw [List.flatten_cons,List.length_append,h0,h1,List.length_cons,Nat.add_mul];omega

section
variable {α : Type} {base : Nat} {w w' : World} {e : TypeId} {sz : Nat} {r : Rp α} {v v' : Value} {l : List α}

theorem Own.nil(base:Nat)(w:World)(e:TypeId)(sz:Nat)(r:Rp α):Own base w e sz r (.slice none 0 0) [] :=
 ⟨[],World.ownsRow_nil w base e sz,rfl,fun i cs h=>by simp at h,fun i cs x h=>by simp at h⟩
theorem Own.lt(h:Own base w e sz r v l):∀g,v.ownBlock=some g→base≤g∧g<w.heap.size:=by
 obtain⟨xss,h1,-⟩:=h;exact h1.lt
theorem Own.shape(h:Own base w e sz r v l):∃a c,v = .slice a l.length c:=by
 obtain⟨xss,h1,-⟩:=h;rcases h1.2 with⟨rfl,h2⟩ | ⟨g,cap,cur,rfl,-⟩
 · exact⟨none,0,by rw [h2]⟩
 · exact⟨_,_,rfl⟩
theorem grown_below {B:Nat}(hb:Below w.heap.size w w')(row:Option Nat)(_h:B≤w.heap.size):w.grownBy w' row:=⟨hb.os,hb.tape,hb.output,hb.size,fun k hk _=>hb.block k hk⟩
theorem Own.later(hr:r.Mono)(h:Own base w e sz r v l)(hb:Below w.heap.size w w'):Own base w' e sz r v l:=by
 obtain⟨xss,h1,h2,h3,h4⟩:=h;refine⟨xss,h1.kept (grown_below (B:=0) hb none (Nat.zero_le _)) ?_,h2,h3,fun i cs x hi hx=>?_⟩
 · cases v.ownBlock <;> simp
 · exact hr.out _ _ _ _ _ _ (fun b hb'=>⟨hb'.1,Nat.lt_of_lt_of_le hb'.2.1 hb.size,hb'.2.2⟩) (Stays.below' hb) (h4 i cs x hi hx)
theorem Own.toSl(hr:r.Mono)(_h0:0<sz)(h:Own base w e sz r v l):SlAt (iv base w.heap.size) w sz r v l:=by
 obtain⟨xss,h1,h2,h3,h4⟩:=h;rcases id h1.2 with⟨rfl,hl⟩ | ⟨g,cap,cur,rfl,hg,hgg,hn,hm,hc,ht⟩
 · have hl0:l=[]:=List.length_eq_zero_iff.1 hl
   subst hl0;exact⟨none,0,rfl,Nat.le_refl _,by decide,fun h=>absurd rfl h⟩
 · unfold maxLen at hm
   refine⟨_,cap,rfl,hn,by omega,fun hne=>⟨g,0,rfl,⟨hg,(Array.getElem?_eq_some_iff.1 hgg).1⟩,fun i x hx=>?_⟩⟩;have hi:i<xss.length:=by rw [h2];exact (List.getElem?_eq_some_iff.1 hx).1
   have hcs:=List.getElem?_eq_getElem hi;refine⟨xss[i],hr.out _ _ _ _ _ _ (fun b hb=>⟨hb.1,hb.2.1⟩) (Stays.refl _ _) (h4 i _ x hcs hx),h3 i _ hcs,fun j u hj=>?_⟩;have hjs:j<sz:=by rw [←h3 i _ hcs];exact (List.getElem?_eq_some_iff.1 hj).1
   have hf:=flat_at xss h3 i j _ hcs hjs;rw [hj] at hf;have hcell:=h1.cells (g:=g) rfl (i * sz+j) u hf;rw [show (⟨g,0,none⟩:Addr).add (i * sz+j)=⟨g,i * sz+j,none⟩ by unfold Addr.add;split <;> simp_all] at hcell;rw [Nat.zero_add];exact hcell
theorem Own.snoc (hr : r.Mono) (_h : Own base w e sz r v l) {xss : List (List Value)} (_h1 : w.ownsRow base e sz v l.length xss.flatten) (h2 : xss.length = l.length) (h3 : ∀ (i : Nat) cs, xss[i]? = some cs → cs.length = sz)
 (h4:∀(i:Nat) cs x,xss[i]?=some cs→l[i]?=some x→r (ownS base w v) w cs x) {cs:List Value} {y:α} (hl:cs.length=sz) (hy:r (ownS base w v) w cs y)
 (hown':w'.ownsRow base e sz v' (l.length+1) (xss.flatten++cs)) (hgrow:w.grownBy w' v.ownBlock) (hat:v'.ownBlock=v.ownBlock∨v'.ownBlock=some w.heap.size):Own base w' e sz r v' (l++[y]):=by
 have hst:Stays (ownS base w v) w w':=fun b o u hb hc=>by
  rw [World.cell?_of_block (w:=w) (a:=⟨b,o,none⟩) (hgrow.block b hb.2.1 (fun e=>hb.2.2 e.symm))];exact hc
 have hS : ∀ b, ownS base w v b → ownS base w' v' b := fun b hb => ⟨hb.1, Nat.lt_of_lt_of_le hb.2.1 hgrow.size, fun e => by
  rcases hat with h | h
  · exact hb.2.2 (by rw [← h]; exact e)
  · rw [h] at e; have := hb.2.1; cases e; omega⟩
 refine⟨xss++[cs],?_,by simp [h2],fun i cs' hi=>?_,fun i cs' x hi hx=>?_⟩
 · rw [List.flatten_append,List.length_append];simpa using hown'
 · rcases Nat.lt_or_ge i xss.length with h' | h'
   · rw [List.getElem?_append_left h'] at hi;exact h3 i cs' hi
   · rw [List.getElem?_append_right h'] at hi
     have:=List.mem_of_getElem? hi;rw [List.mem_singleton] at this;rw [this];exact hl
 · rcases Nat.lt_or_ge i xss.length with h' | h'
   · rw [List.getElem?_append_left h'] at hi
     rw [List.getElem?_append_left (by omega)] at hx;exact hr.out _ _ _ _ _ _ hS hst (h4 i cs' x hi hx)
   · rw [List.getElem?_append_right h'] at hi
     rw [List.getElem?_append_right (by omega)] at hx;have e1:=List.mem_of_getElem? hi;have e2:=List.mem_of_getElem? hx;rw [List.mem_singleton] at e1 e2;rw [e1,e2];exact hr.out _ _ _ _ _ _ hS hst hy
end

def OwnIn {α:Type}(a b:Nat)(w:World)(e:TypeId)(sz:Nat)(r:Rp α)(v:Value)(l:List α):Prop :=
 ∃xss:List (List Value),w.ownsRow a e sz v l.length xss.flatten∧(∀g,v.ownBlock=some g→g<b)∧xss.length=l.length∧(∀(i:Nat) cs,xss[i]?=some cs→cs.length=sz) ∧
   ∀(i:Nat) cs x,xss[i]?=some cs→l[i]?=some x→r (fun k=>a≤k∧k<b∧v.ownBlock≠some k) w cs x
theorem Own.inn {α:Type}{base:Nat}{w:World}{e:TypeId}{sz:Nat}{r:Rp α}{v:Value}{l:List α}(h:Own base w e sz r v l):OwnIn base w.heap.size w e sz r v l:=by
 obtain⟨xss,h1,h2,h3,h4⟩:=h;exact⟨xss,h1,fun g hg=>(h1.lt g hg).2,h2,h3,h4⟩
section
variable {α : Type} {a b : Nat} {w w' : World} {e : TypeId} {sz : Nat} {r : Rp α} {v : Value} {l : List α}
theorem OwnIn.kept(hr:r.Mono)(h:OwnIn a b w e sz r v l)(hk:∀k,a≤k→k<b→w'.heap[k]?=w.heap[k]?):OwnIn a b w' e sz r v l:=by
 obtain⟨xss,h1,hb,h2,h3,h4⟩:=h;refine⟨xss,⟨h1.1,?_⟩,hb,h2,h3,fun i cs x hi hx=>hr.out _ _ _ _ _ _ (fun _ h=>h) (fun k o u hS hc=>?_) (h4 i cs x hi hx)⟩
 · rcases h1.2 with hn | ⟨g,cap,cur,rfl,hg,hgg,rest⟩
   · exact .inl hn
   · exact .inr ⟨g,cap,cur,rfl,hg,by rw [hk g hg (hb g rfl)];exact hgg,rest⟩
 · rw [World.cell?_of_block (w:=w) (a:=⟨k,o,none⟩) (hk k hS.1 hS.2.1)];exact hc
theorem OwnIn.toSl(hr:r.Mono)(_h0:0<sz)(h:OwnIn a b w e sz r v l):SlAt (iv a b) w sz r v l:=by
 obtain⟨xss,h1,hb,h2,h3,h4⟩:=h;rcases id h1.2 with⟨rfl,hl⟩ | ⟨g,cap,cur,rfl,hg,hgg,hn,hm,hc,ht⟩
 · have hl0:l=[]:=List.length_eq_zero_iff.1 hl
   subst hl0;exact⟨none,0,rfl,Nat.le_refl _,by decide,fun h=>absurd rfl h⟩
 · unfold maxLen at hm
   refine⟨_,cap,rfl,hn,by omega,fun hne=>⟨g,0,rfl,⟨hg,hb g rfl⟩,fun i x hx=>?_⟩⟩;have hi:i<xss.length:=by rw [h2];exact (List.getElem?_eq_some_iff.1 hx).1
   have hcs:=List.getElem?_eq_getElem hi;refine⟨xss[i],hr.out _ _ _ _ _ _ (fun b hb=>⟨hb.1,hb.2.1⟩) (Stays.refl _ _) (h4 i _ x hcs hx),h3 i _ hcs,fun j u hj=>?_⟩;have hjs:j<sz:=by rw [←h3 i _ hcs];exact (List.getElem?_eq_some_iff.1 hj).1
   have hf:=flat_at xss h3 i j _ hcs hjs;rw [hj] at hf;have hcell:=h1.cells (g:=g) rfl (i * sz+j) u hf;rw [show (⟨g,0,none⟩:Addr).add (i * sz+j)=⟨g,i * sz+j,none⟩ by unfold Addr.add;split <;> simp_all] at hcell;rw [Nat.zero_add];exact hcell
theorem OwnIn.shape(h:OwnIn a b w e sz r v l):∃o c,v = .slice o l.length c:=by
 obtain⟨xss,h1,-⟩:=h;rcases h1.2 with⟨rfl,h2⟩ | ⟨g,cap,cur,rfl,-⟩
 · exact⟨none,0,by rw [h2]⟩
 · exact⟨_,_,rfl⟩
end

structure Build {α:Type}(W0 wr:World)(e:TypeId)(sz:Nat)(r:Rp α)(v:Value)(l:List α):Prop where
 own:Own W0.heap.size wr e sz r v l
 old:Below W0.heap.size W0 wr
theorem Build.start {α:Type}(W0:World)(e:TypeId)(sz:Nat)(r:Rp α):Build W0 W0 e sz r (.slice none 0 0) []:=⟨Own.nil _ _ _ _ _,Below.refl _ _⟩
theorem stays_at {S:Nat→Prop}{w w':World}(h:∀b,S b→b<w.heap.size→w'.heap[b]?=w.heap[b]?):Stays S w w':=fun b o v hb hc=>by
 rw [World.cell?_of_block (w:=w) (a:=⟨b,o,none⟩) (h b hb (cell_lt hc))];exact hc

theorem Own.sub {α : Type} {lo base : Nat} {w2 W : World} {e : TypeId} {sz : Nat} {r : Rp α} {v' v0 : Value} {l : List α} (h : Own lo w2 e sz r v' l) (hr : r.Mono) (h0 : 0 < sz) (hlo : base ≤ lo) (hv0 : ∀ g, v0.ownBlock = some g → g < lo)
 (hW:∀b,lo≤b→b<w2.heap.size→W.heap[b]?=w2.heap[b]?) (hsz:w2.heap.size≤W.heap.size):SlAt (ownS base W v0) W sz r v' l:=by
 refine ((h.toSl hr h0).mono hr (fun _ hb=>hb) (stays_at (w':=W) (fun b hb hl=>hW b hb.1 hb.2))).mono hr (fun b hb=>⟨Nat.le_trans hlo hb.1,Nat.lt_of_lt_of_le hb.2 hsz,fun e=>?_⟩) (Stays.refl _ _);have:=hv0 b e;have:=hb.1;omega
theorem heap_set_alloc(w:World)(p:Addr)(u:Value)(o:Obj){b:Nat}(hb:b<w.heap.size)(hp:b≠p.block):((w.setCell p u).alloc o).heap[b]?=w.heap[b]?:=by
 rw [Below.heap_alloc _ _ _ (by simp [World.setCell];exact hb),Below.heap_setCell _ _ _ _ hp]
theorem new_cells(w:World)(cs:List Value)(T:TypeId){n:Nat}(hn:n=w.heap.size):∀(j:Nat) u,cs[j]?=some u→(w.alloc (.cells cs.toArray T)).cell? ((⟨n,0,none⟩:Addr).add j)=some u:=by
 intro j u hj;subst hn;rw [show (⟨w.heap.size,0,none⟩:Addr).add j=⟨w.heap.size,j,none⟩ by unfold Addr.add;split <;> simp_all,World.cell?_alloc_new];simpa using hj

theorem cell_set {w:World}{b i:Nat}{x:Value}(h:w.cell? ⟨b,i,none⟩=some x)(u:Value)(j:Nat):(w.setCell ⟨b,i,none⟩ u).cell? ⟨b,j,none⟩=if j=i then some u else w.cell? ⟨b,j,none⟩:=by
 simp only [World.cell?] at h;cases hh:w.heap[b]? with
 | none=>rw [hh] at h;cases h
 | some o =>
   rw [hh] at h;cases o with
   | cells c t f =>
     have hi:i<c.size:=by
      rcases Nat.lt_or_ge i c.size with h1 | h1
      · exact h1
      · simp [Array.getElem?_eq_none h1] at h
     simp only [World.cell?,World.setCell,Array.getElem?_modify,hh]
     by_cases hji:j=i
     · subst hji;simp [hi]
     · simp [hji,Ne.symm hji]
   | _=>cases h
theorem cell_set_ne(w:World){b b' i:Nat}(hb:b'≠b)(u:Value)(j:Nat):(w.setCell ⟨b,i,none⟩ u).cell? ⟨b',j,none⟩=w.cell? ⟨b',j,none⟩ :=
 World.cell?_of_block (w:=w) (a:=⟨b',j,none⟩) (Below.heap_setCell _ _ _ _ hb)

theorem set_some {w:World}{b n i:Nat}{u:Value}(h:∀k,k<n→∃x,w.cell? ⟨b,k,none⟩=some x)(hi:i<n):∀k,k<n→∃x,(w.setCell ⟨b,i,none⟩ u).cell? ⟨b,k,none⟩=some x:=by
 intro k hk;obtain⟨x,hx⟩:=h i hi;rw [cell_set hx]
 by_cases hki:k=i
 · rw [if_pos hki];exact⟨_,rfl⟩
 · rw [if_neg hki];exact h k hk
theorem set2 {w:World}{b:Nat}{o0 o1 u0 u1:Value}(h:CellsAt w b 0 [o0,o1]):CellsAt ((w.setCell ⟨b,0,none⟩ u0).setCell ⟨b,1,none⟩ u1) b 0 [u0,u1]:=by
 have g0:∀k,k<2→∃x,w.cell? ⟨b,k,none⟩=some x:=fun k hk=>⟨_,by have h1:=h k ([o0,o1][k]'(by simpa using hk)) (List.getElem?_eq_getElem _);rw [Nat.zero_add] at h1;exact h1⟩
 have g1:=set_some (i:=0) (u:=u0) g0 (by decide);have g2:=set_some (i:=1) (u:=u1) g1 (by decide);obtain⟨x0,e0⟩:=g0 0 (by decide);obtain⟨x1,e1⟩:=g1 1 (by decide);intro j v hj;rw [Nat.zero_add]
 match j,hj with
 | 0,hj=>cases hj;rw [cell_set e1,if_neg (by decide),cell_set e0,if_pos rfl]
 | 1,hj=>cases hj;rw [cell_set e1,if_pos rfl]
 | k+2,hj=>simp at hj
theorem set4 {w:World}{b:Nat}{o0 o1 o2 o3 u0 u1 u2 u3:Value}(h:CellsAt w b 0 [o0,o1,o2,o3]):CellsAt ((((w.setCell ⟨b,0,none⟩ u0).setCell ⟨b,1,none⟩ u1).setCell ⟨b,2,none⟩ u2).setCell ⟨b,3,none⟩ u3) b 0 [u0,u1,u2,u3]:=by
 have g0:∀k,k<4→∃x,w.cell? ⟨b,k,none⟩=some x:=fun k hk=>⟨_,by have h1:=h k ([o0,o1,o2,o3][k]'(by simpa using hk)) (List.getElem?_eq_getElem _);rw [Nat.zero_add] at h1;exact h1⟩
 have g1:=set_some (i:=0) (u:=u0) g0 (by decide);have g2:=set_some (i:=1) (u:=u1) g1 (by decide);have g3:=set_some (i:=2) (u:=u2) g2 (by decide);have g4:=set_some (i:=3) (u:=u3) g3 (by decide);obtain⟨x0,e0⟩:=g0 0 (by decide);obtain⟨x1,e1⟩:=g1 1 (by decide);obtain⟨x2,e2⟩:=g2 2 (by decide);obtain⟨x3,e3⟩:=g3 3 (by decide);intro j v hj;rw [Nat.zero_add]
 match j,hj with
 | 0,hj=>cases hj;rw [cell_set e3,if_neg (by decide),cell_set e2,if_neg (by decide),cell_set e1,if_neg (by decide),cell_set e0,if_pos rfl]
 | 1,hj=>cases hj;rw [cell_set e3,if_neg (by decide),cell_set e2,if_neg (by decide),cell_set e1,if_pos rfl]
 | 2,hj=>cases hj;rw [cell_set e3,if_neg (by decide),cell_set e2,if_pos rfl]
 | 3,hj=>cases hj;rw [cell_set e3,if_pos rfl]
 | k+4,hj=>simp at hj
theorem set6 {w:World}{b:Nat}{o0 o1 o2 o3 o4 o5 u0 u1 u2 u3 u4 u5:Value}(h:CellsAt w b 0 [o0,o1,o2,o3,o4,o5]):CellsAt ((((((w.setCell ⟨b,0,none⟩ u0).setCell ⟨b,1,none⟩ u1).setCell ⟨b,2,none⟩ u2).setCell ⟨b,3,none⟩ u3).setCell ⟨b,4,none⟩ u4).setCell ⟨b,5,none⟩ u5) b 0 [u0,u1,u2,u3,u4,u5]:=by
 have g0:∀k,k<6→∃x,w.cell? ⟨b,k,none⟩=some x:=fun k hk=>⟨_,by have h1:=h k ([o0,o1,o2,o3,o4,o5][k]'(by simpa using hk)) (List.getElem?_eq_getElem _);rw [Nat.zero_add] at h1;exact h1⟩
 have g1:=set_some (i:=0) (u:=u0) g0 (by decide);have g2:=set_some (i:=1) (u:=u1) g1 (by decide);have g3:=set_some (i:=2) (u:=u2) g2 (by decide);have g4:=set_some (i:=3) (u:=u3) g3 (by decide);have g5:=set_some (i:=4) (u:=u4) g4 (by decide);have g6:=set_some (i:=5) (u:=u5) g5 (by decide);obtain⟨x0,e0⟩:=g0 0 (by decide);obtain⟨x1,e1⟩:=g1 1 (by decide);obtain⟨x2,e2⟩:=g2 2 (by decide);obtain⟨x3,e3⟩:=g3 3 (by decide);obtain⟨x4,e4⟩:=g4 4 (by decide);obtain⟨x5,e5⟩:=g5 5 (by decide);intro j v hj;rw [Nat.zero_add]
 match j,hj with
 | 0,hj=>cases hj;rw [cell_set e5,if_neg (by decide),cell_set e4,if_neg (by decide),cell_set e3,if_neg (by decide),cell_set e2,if_neg (by decide),cell_set e1,if_neg (by decide),cell_set e0,if_pos rfl]
 | 1,hj=>cases hj;rw [cell_set e5,if_neg (by decide),cell_set e4,if_neg (by decide),cell_set e3,if_neg (by decide),cell_set e2,if_neg (by decide),cell_set e1,if_pos rfl]
 | 2,hj=>cases hj;rw [cell_set e5,if_neg (by decide),cell_set e4,if_neg (by decide),cell_set e3,if_neg (by decide),cell_set e2,if_pos rfl]
 | 3,hj=>cases hj;rw [cell_set e5,if_neg (by decide),cell_set e4,if_neg (by decide),cell_set e3,if_pos rfl]
 | 4,hj=>cases hj;rw [cell_set e5,if_neg (by decide),cell_set e4,if_pos rfl]
 | 5,hj=>cases hj;rw [cell_set e5,if_pos rfl]
 | k+6,hj=>simp at hj

theorem wpList_append_Own {α : Type} {P : Program} {w : World} {ops : Array Oper} {rest : List Oper} {o : Oper} {a : Act} {Q : Exit → Act → World → Prop} (hgd : o.guard = none) (s x : Operand) (t : TypeId)
 (ho:o.op = .call { callee := .builtin .append,args:=#[s,x],argTypes:=#[t,t] })
 (base:Nat) (e:TypeId) (i:TypeInfo) (z:Value) (size bytes:Nat) (ht:P.underlying t=some (.slice e)) (hi:P.info? e=some i) (hz:i.zero=some z)
 (hsize:i.size=size) (hby:i.bytes=bytes) (hzs:z.cells.size=size) (hsz:0<size)
 {r:Rp α} (hr:r.Mono) (v:Value) (l:List α) (hs:a.eval s=v) (hown:Own base w e size r v l)
 (ad:Addr) (c:Nat) (cs:List Value) (y:α) (hx:a.eval x = .slice (some ad) 1 c) (hl:cs.length=size) (hnews:∀(j:Nat) u,cs[j]?=some u→w.cell? (ad.add j)=some u) (h1:∀u∈cs,u.oneCell'=true) (hy:r (ownS base w v) w cs y)
 (hn:l.length+1≤2097152) (hbytes:bytes≤4096) (hbase:base≤w.heap.size)
 (h:∀v' w',Own base w' e size r v' (l++[y])→w.grownBy w' v.ownBlock→(∃g cap,v' = .slice (some ⟨g,0,none⟩) (l.length+1) cap)→wpList P ops Q rest (a.put o.dst v') w') :
 wpList P ops Q (o :: rest) a w:=by
 have hown0:=hown;obtain⟨xss,p1,p2,p3,p4⟩:=hown;have hb:(l.length+1) * bytes≤140737488355328:=by
  have:=Nat.mul_le_mul hn hbytes;omega
 refine wpList_append_own_at w hgd s x t ho base e i z size bytes ht hi hz hsize hby hzs hsz v l.length xss.flatten hs p1 ad 1 c cs hx (by rw [hl];omega) hnews h1 (by unfold maxLen;omega) hb hbase ?_;intro v' w' hown' hgrow hnil hat;refine h v' w' (hown0.snoc hr p1 p2 p3 p4 hl hy hown' hgrow hat) hgrow ?_;rcases hown'.2 with⟨e,e2⟩ | ⟨g,cap,cur,e,-⟩
 · omega
 · exact⟨g,cap,e⟩

theorem step_append_Own {α : Type} {P : Program} {w : World} {ops : Array Oper} {o : Oper} {a : Act} {K : Act → World → Prop} {Q : Exit → Act → World → Prop} {E : Prop} (hgd : o.guard = none) (s x : Operand) (t : TypeId)
 (ho:o.op = .call { callee := .builtin .append,args:=#[s,x],argTypes:=#[t,t] })
 (base:Nat) (e:TypeId) (i:TypeInfo) (z:Value) (size bytes:Nat) (ht:P.underlying t=some (.slice e)) (hi:P.info? e=some i) (hz:i.zero=some z)
 (hsize:i.size=size) (hby:i.bytes=bytes) (hzs:z.cells.size=size) (hsz:0<size)
 {r:Rp α} (hr:r.Mono) (v:Value) (l:List α) (hs:a.eval s=v) (hown:Own base w e size r v l)
 (ad:Addr) (c:Nat) (cs:List Value) (y:α) (hx:a.eval x = .slice (some ad) 1 c) (hl:cs.length=size) (hnews:∀(j:Nat) u,cs[j]?=some u→w.cell? (ad.add j)=some u) (h1:∀u∈cs,u.oneCell'=true) (hy:r (ownS base w v) w cs y)
 (hn:l.length+1≤2097152) (hbytes:bytes≤4096) (hbase:base≤w.heap.size)
 (h:∀v' w',Own base w' e size r v' (l++[y])→w.grownBy w' v.ownBlock→(∃g cap,v' = .slice (some ⟨g,0,none⟩) (l.length+1) cap)→K (a.put o.dst v') w') :
 if Region.wanted o (yielded ops a.tmps)=true then Oper.wp P o a w K Q else E:=by
 have hw:Region.wanted o (yielded ops a.tmps)=true:=by simp [Region.wanted,hgd]
 rw [if_pos hw];have hown0:=hown;obtain⟨xss,p1,p2,p3,p4⟩:=hown;have hb:(l.length+1) * bytes≤140737488355328:=by
  have:=Nat.mul_le_mul hn hbytes;omega
 obtain⟨v',w',hrun,hown',hgrow,hnil,hat⟩:=run_append_own_at (P:=P) w base t o.type e i z size bytes ht hi hz hsize hby hzs hsz v l.length xss.flatten p1 ad 1 c cs (by rw [hl];omega) hnews h1 (by unfold maxLen;omega) hb hbase;unfold Oper.wp execOp;simp only [ho,resolve,invoke,builtin,Sem.run_bind,Sem.run_pure,Result.andThen_ok,List.map_toArray,List.map_cons,List.map_nil,hs,hx,hrun];refine h v' w' (hown0.snoc hr p1 p2 p3 p4 hl hy hown' hgrow hat) hgrow ?_;rcases hown'.2 with⟨e,e2⟩ | ⟨g,cap,cur,e,-⟩
 · omega
 · exact⟨g,cap,e⟩
theorem Own.setLow {α:Type}{base:Nat}{w:World}{e:TypeId}{sz:Nat}{r:Rp α}{v:Value}{l:List α}(h:Own base w e sz r v l)(hr:r.Mono){p:Addr}(hp:p.block<base)(u:Value):Own base (w.setCell p u) e sz r v l:=by
 obtain⟨xss,h1,h2,h3,h4⟩:=h;have hs:(w.setCell p u).heap.size=w.heap.size:=by simp [World.setCell]
 refine⟨xss,ownsRow_setCell_below h1 hp u,h2,h3,fun i cs x hi hx=>hr.out _ _ _ _ _ _ (fun b hb=>⟨hb.1,by rw [hs];exact hb.2.1,hb.2.2⟩) (stays_at (fun b hb _=>Below.heap_setCell _ _ _ _ (fun e=>?_))) (h4 i cs x hi hx)⟩;have:=hb.1;omega

end Go.Proofs.YtnkogppgacappaaGreatDoor

namespace Go.Proofs.YtnkogppgacappaaGreatDoor
open Go.RowKit

def encInt(x:Int):List Value:=[.int .i64 x]
def encVal(x:DVal):List Value:=[.bool x.reg,.int .i64 x.n]

theorem Own.of_row {α : Type} {base : Nat} {w : World} {e : TypeId} {sz : Nat} {r : Rp α} {v : Value} {l : List α} {enc : α → List Value} (h : w.ownsRow base e sz v l.length (l.flatMap enc)) (he : ∀ x, (enc x).length = sz)
 (hr:∀S,∀x∈l,r S w (enc x) x):Own base w e sz r v l:=by
 refine⟨l.map enc,by rw [←List.flatMap_def];exact h,by simp,fun i cs hi=>?_,fun i cs x hi hx=>?_⟩
 · rw [List.getElem?_map] at hi
   obtain⟨x,-,rfl⟩:=Option.map_eq_some_iff.1 hi;exact he x
 · rw [List.getElem?_map,hx] at hi
   cases hi;exact hr _ x (List.mem_of_getElem? hx)
theorem SlAt.flat {α : Type} {S : Nat → Prop} {w : World} {sz : Nat} {r : Rp α} {ad : Addr} {n c : Nat} {l : List α} {enc : α → List Value} (h : SlAt S w sz r (.slice (some ad) n c) l) (he : ∀ x, (enc x).length = sz) (h0 : 0 < sz)
 (hr:∀cs x,r S w cs x→cs=enc x):∀(j:Nat) u,(l.flatMap enc)[j]?=some u→w.cell? (ad.add j)=some u:=by
 intro j u hj;have hl:∀(i:Nat) cs,(l.map enc)[i]?=some cs→cs.length=sz:=fun i cs hi=>by
  rw [List.getElem?_map] at hi;obtain⟨x,-,rfl⟩:=Option.map_eq_some_iff.1 hi;exact he x
 rw [List.flatMap_def] at hj;have hjl:j<(l.map enc).flatten.length:=(List.getElem?_eq_some_iff.1 hj).1;rw [flat_len _ hl,List.length_map] at hjl;have hi:j / sz<l.length:=Nat.div_lt_of_lt_mul (by rw [Nat.mul_comm];exact hjl);have ht:j % sz<sz:=Nat.mod_lt _ h0;have hd:j / sz * sz+j % sz=j:=by rw [Nat.mul_comm];exact Nat.div_add_mod j sz
 have h1:=flat_at (l.map enc) hl (j / sz) (j % sz) (enc l[j / sz]) (by rw [List.getElem?_map,List.getElem?_eq_getElem hi];rfl) ht;rw [hd,hj] at h1;obtain⟨b,off,cs,ha,-,hrr,-,hcs⟩:=h.get hi;cases ha;rw [hr _ _ hrr] at hcs;have h2:=hcs (j % sz) u h1.symm;rw [show (⟨b,off,none⟩:Addr).add j=⟨b,off+j / sz * sz+j % sz,none⟩ by rw [Nat.add_assoc,hd];unfold Addr.add;split <;> simp_all];exact h2
theorem SlAt.none {α:Type}{S:Nat→Prop}{w:World}{sz:Nat}{r:Rp α}{n c:Nat}{l:List α}(h:SlAt S w sz r (.slice Option.none n c) l):l=[]:=by
 obtain⟨ao,c',hv,-,-,h⟩:=h;cases hv
 by_cases hl:l=[]
 · exact hl
 · obtain⟨b,off,ha,-⟩:=h hl
   cases ha
theorem infoInt':(Tryz.prog.info? 3).map (fun i=>(i.zero,i.size,i.bytes))=some (some (.int .i64 0),1,8):=by kernel_rfl
theorem infoVal:(Tryz.prog.info? 72).map (fun i=>(i.zero,i.size,i.bytes))=some (some (.agg #[.bool false,.int .i64 0]),2,16):=by kernel_rfl

theorem cell_blk {w:World}{a:Addr}{v:Value}(h:w.cell? a=some v):a.block<w.heap.size:=by
 unfold World.cell? at h;rcases Nat.lt_or_ge a.block w.heap.size with h1 | h1
 · exact h1
 · rw [Array.getElem?_eq_none h1] at h;cases h
theorem flatMap_len {α:Type}{enc:α→List Value}{sz:Nat}(he:∀x,(enc x).length=sz)(l:List α):(l.flatMap enc).length=l.length * sz:=by
 induction l with
 | nil=>simp
 | cons a l ih=>rw [List.flatMap_cons,List.length_append,he,ih,List.length_cons,Nat.add_mul];omega
theorem encInt_one(x:Int):(encInt x).length=1:=rfl
theorem encVal_one(x:DVal):(encVal x).length=2:=rfl
theorem encInt_len(l:List Int):(l.flatMap encInt).length=l.length * 1:=flatMap_len encInt_one l
theorem encInt_of {S:Nat→Prop}{w:World}(cs:List Value)(x:Int)(h:rInt S w cs x):cs=encInt x:=h.1
theorem encVal_of {S:Nat→Prop}{w:World}(cs:List Value)(x:DVal)(h:rVal S w cs x):cs=encVal x:=h.1
theorem encInt_cell(l:List Int):∀u∈l.flatMap encInt,u.oneCell'=true:=by
 intro u hu;obtain⟨x,-,hx⟩:=List.mem_flatMap.1 hu;rw [encInt,List.mem_singleton] at hx;subst hx;rfl
theorem encVal_cell(l:List DVal):∀u∈l.flatMap encVal,u.oneCell'=true:=by
 intro u hu;obtain⟨x,-,hx⟩:=List.mem_flatMap.1 hu;rw [encVal] at hx;rcases List.mem_cons.1 hx with rfl | hx
 · rfl
 · rw [List.mem_singleton] at hx;subst hx;rfl
theorem encInt_rd {S:Nat→Prop}{w:World}{a:Option Addr}{n c:Nat}{l:List Int}(h:SlAt S w 1 rInt (.slice a n c) l)(w1:World):∀T,∀x∈l,rInt T w1 (encInt x) x:=by
 intro T x hx;obtain⟨i,hi,rfl⟩:=List.mem_iff_getElem.1 hx;obtain⟨b,off,cs,-,-,hr,-⟩:=h.get hi;exact⟨rfl,hr.2⟩
theorem encVal_rd {S:Nat→Prop}{w:World}{a:Option Addr}{n c:Nat}{l:List DVal}(h:SlAt S w 2 rVal (.slice a n c) l)(w1:World):∀T,∀x∈l,rVal T w1 (encVal x) x:=by
 intro T x hx;obtain⟨i,hi,rfl⟩:=List.mem_iff_getElem.1 hx;obtain⟨b,off,cs,-,-,hr,-⟩:=h.get hi;exact⟨rfl,hr.2⟩

set_option maxRecDepth 100000 in
set_option maxHeartbeats 1000000 in
theorem cloneInts_any {S:Nat→Prop}(a:Option Addr)(c:Nat)(l:List Int)(w:World)(h:SlAt S w 1 rInt (.slice a l.length c) l)(hn:l.length≤1048576) :
 Calls Tryz.prog 65 #[.slice a l.length c] w fun e w'=>∃v,e = .returned v∧Own w.heap.size w' 3 1 rInt v l∧Below w.heap.size w w':=by
 have H:=hid h;have Hn:=hid hn;clear h hn;have hnil:=fun (w:World) (a:Option Addr) (n c n' c':Nat)=>Lib.run_eql_slice_nil (P:=Tryz.prog) w 33 3 a n c n' c' Tryz.underlying33;obtain⟨i0,hi,hz0,hz1,hz2⟩:=info_parts infoInt';cases a with
 | none =>
   obtain rfl:=H.out.none;go_enter Tryz.func65,Tryz.ntmps65;go_wp2;go_ret;exact⟨_,rfl,Own.nil _ _ _ _ _,Below.refl _ _⟩
 | some ad =>
   go_enter Tryz.func65,Tryz.ntmps65;go_wp2_with (at_builtin;refine wpList_append_own_at _ rfl _ _ 33 rfl w.heap.size 3 i0 (.int .i64 0) 1 8 Tryz.underlying33 hi hz0 hz1 hz2 rfl (by decide) (.slice (some ⟨w.heap.size,0,none⟩) 0 0) 0 [] rfl (World.ownsRow_made w #[] 0 (Nat.le_refl _) (by decide) rfl) ad l.length c (l.flatMap encInt) rfl ?_ ?_ ?_ ?_ ?_ ?_ ?_)
   · rw [encInt_len]
   · intro j u hj
     rw [World.cell?_alloc_lt _ _ _ (cell_blk (H.out.flat encInt_one (by decide) encInt_of j u hj))];exact H.out.flat encInt_one (by decide) encInt_of j u hj
   · exact encInt_cell l
   · have:=Hn.out;unfold maxLen;omega
   · have:=Hn.out;omega
   · simp
   · intro v' w1 hown hgrow _ _
     have hown':=Own.of_row (r:=rInt) hown encInt_one (encInt_rd (S:=S) (w:=w) (a:=some ad) (n:=l.length) (c:=c) H.out w1);go_wp2;go_ret;exact⟨_,rfl,hown',((Below.refl _ _).alloc (Nat.le_refl _) _).grown hgrow (by simp) (fun k hk=>by cases hk;exact Nat.le_refl _)⟩

end Go.Proofs.YtnkogppgacappaaGreatDoor

namespace Go.Proofs.YtnkogppgacappaaGreatDoor
open Go.RowKit

theorem infoPhi:(Tryz.prog.info? 94).map (fun i=>(i.zero,i.size,i.bytes))=some (some (.agg #[.int .i64 0,.slice none 0 0]),2,32):=by kernel_rfl
theorem infoIns:(Tryz.prog.info? 80).map (fun i=>(i.zero,i.size,i.bytes))=some (some (.agg #[.int .i64 0,.int .i64 0,.bool false,.int .i64 0,.bool false,.int .i64 0,.int .i64 0,.slice none 0 0]),8,80):=by kernel_rfl

def Apart(a b c d:Nat):Prop:=b≤c∨d≤a
def BlockIn(lo hi:Nat)(w:World)(pv lv tv:Value)(x:DBlock):Prop :=
 ∃a1 b1 a2 b2 a3 b3:Nat,(lo≤a1∧a1≤b1∧b1≤hi)∧(lo≤a2∧a2≤b2∧b2≤hi)∧(lo≤a3∧a3≤b3∧b3≤hi)∧Apart a1 b1 a2 b2∧Apart a1 b1 a3 b3∧Apart a2 b2 a3 b3 ∧
   OwnIn a1 b1 w 94 2 rPhi pv x.phis∧OwnIn a2 b2 w 80 8 rIns lv x.list∧OwnIn a3 b3 w 3 1 rInt tv x.fin.to

theorem ins_at {S:Nat→Prop}{w:World}{a:Option Addr}{n c:Nat}{l:List DIns}(h:SlAt S w 8 rIns (.slice a n c) l){k:Nat}(hk:k<l.length) :
 ∃b off fa fc,a=some ⟨b,off,none⟩∧CellsAt w b (off+k * 8) [.int .i64 l[k].op,.int .i64 l[k].dst,.bool l[k].a.reg,.int .i64 l[k].a.n,.bool l[k].b.reg,.int .i64 l[k].b.n,.int .i64 l[k].fn,.slice fa l[k].args.length fc] ∧
   SlAt S w 2 rVal (.slice fa l[k].args.length fc) l[k].args∧(I64 l[k].op∧I64 l[k].dst∧I64 l[k].a.n∧I64 l[k].b.n∧I64 l[k].fn):=by
 obtain⟨b,off,cs,ha,-,hr,-,hcs⟩:=h.get hk;obtain⟨fa,fc,rfl,h1,h2,h3⟩:=hr.opens;exact⟨b,off,fa,fc,ha,hcs,h1,h3⟩

theorem phi_at {S:Nat→Prop}{w:World}{a:Option Addr}{n c:Nat}{l:List DPhi}(h:SlAt S w 2 rPhi (.slice a n c) l){k:Nat}(hk:k<l.length) :
 ∃b off fa fc,a=some ⟨b,off,none⟩∧w.cell? ⟨b,off+k * 2,none⟩=some (.int .i64 l[k].dst)∧w.cell? ⟨b,off+k * 2+1,none⟩=some (.slice fa l[k].src.length fc)∧SlAt S w 2 rVal (.slice fa l[k].src.length fc) l[k].src∧I64 l[k].dst∧l[k].src.length≤9223372036854775807:=by
 obtain⟨b,off,cs,ha,-,hr,-,hcs⟩:=h.get hk;obtain⟨fa,fc,rfl,h1,h2,h3⟩:=hr.opens;obtain⟨c0,c1⟩:=hcs.get2;exact⟨b,off,fa,fc,ha,c0,c1,h1,h3,h2⟩

end Go.Proofs.YtnkogppgacappaaGreatDoor

namespace Go.Proofs.YtnkogppgacappaaGreatDoor
open Go.RowKit Go.Shelf

attribute [local go_sem] Oper.semAt_some

def InsC(W0:World)(x:Nat×Nat×DIns):Prop:=∃v,CellsAt W0 x.1 x.2.1 [.int .i64 x.2.2.op,.int .i64 x.2.2.dst,.bool x.2.2.a.reg,.int .i64 x.2.2.a.n,.bool x.2.2.b.reg,.int .i64 x.2.2.b.n,.int .i64 x.2.2.fn,v]
def InsP(W0:World):Type:={ x:Nat×Nat×DIns // InsC W0 x }
def insOf {W0:World}(x:InsP W0):DIns:=x.1.2.2
def encI {W0:World}(x:InsP W0):Array Value:=#[.pointer (some ⟨x.1.1,x.1.2.1,none⟩)]

def KeepE(n₀:Nat)(X:Nat→Prop)(W W':World):Prop:=W.heap.size≤W'.heap.size∧∀b,b<n₀→¬X b→W'.heap[b]?=W.heap[b]?
theorem KeepE.refl(n₀:Nat)(X:Nat→Prop)(W:World):KeepE n₀ X W W:=⟨Nat.le_refl _,fun _ _ _=>rfl⟩
theorem keepE_t {n₀:Nat}{X:Nat→Prop}{A B C:World}(h:KeepE n₀ X A B)(k:KeepE n₀ X B C):KeepE n₀ X A C:=⟨Nat.le_trans h.1 k.1,fun b h1 h2=>(k.2 b h1 h2).trans (h.2 b h1 h2)⟩
theorem keepE_b {n₀:Nat}{X:Nat→Prop}{w:World}(hn:n₀≤w.heap.size)(W:World)(l:Nat)(o o':Obj)(hl:w.heap.size≤l)(_:W.heap[l]?=some o)(_:o.isCells=false)(_:o.isWalk=false):KeepE n₀ X W (W.putObj l o') :=
 ⟨by simp,fun b h1 _=>World.putObj_heap_other (by omega)⟩
theorem KeepE.cell {n₀:Nat}{X:Nat→Prop}{W W':World}(h:KeepE n₀ X W W'){b o:Nat}{v:Value}(hc:W.cell? ⟨b,o,none⟩=some v)(hb:b<n₀)(hx:¬X b):W'.cell? ⟨b,o,none⟩=some v:=by
 rw [World.cell?_of_block (w:=W) (a:=⟨b,o,none⟩) (h.2 b hb hx)];exact hc
theorem each_in(F:Fence)(n:Nat)(h:F.fn 64)(hro:F.round=none)(a:Option Addr)(w:World) :
 CallsIn F n Tryz.prog 64 #[.pointer a] w fun e w'=>e = .returned (.func (.func 101) #[] #[.pointer (some ⟨w.heap.size,0,none⟩)])∧w'=w.alloc (.cells #[.pointer a] 112):=by
 refine callsIn_of_wp Tryz.func64 rfl h ?_ hro;simp only [Tryz.ntmps64,List.size_toArray,List.length_cons,List.length_nil,Nat.reduceAdd,Nat.reduceSub,Array.replicate_succ,Array.replicate_zero,List.push_toArray,List.append_toArray,List.nil_append,List.cons_append]
 gi_wp2
 go_ret;exact⟨rfl,rfl⟩

set_option maxRecDepth 100000 in
set_option maxHeartbeats 4000000 in
theorem each1_in (F : Fence) (n : Nat) (h : F.fn 101) (hro : F.round = none) (hn : 1 ≤ n) (l Bs n₀ fb fo : Nat) (X : Nat → Prop) (xa : Option Addr) (xc : Nat) (bs : List DBlock) (W0 : World)
 (hbl:bs.length≤1048576) (hll:∀x∈bs,x.list.length≤1048576)
 (hb:SlAt (fun b=>b<n₀∧¬X b) W0 6 rBlock (.slice xa bs.length xc) bs) (hf:W0.cell? ⟨fb,fo+3,none⟩=some (.slice xa bs.length xc)) (hfn:fb<n₀∧¬X fb) (hBn:Bs<n₀∧¬X Bs)
 (J Jx:List (InsP W0)→World→Prop)
 (hY : ∀ pre x W1, J pre W1 → pre.length < (bs.flatMap (·.list)).length → YieldAt F (n - 1) Tryz.prog l (encI x) W1 fun e W' =>
   (e = .returned (.bool true) ∧ J (pre ++ [x]) W' ∧ KeepE n₀ X W1 W') ∨ (e = .returned (.bool false) ∧ Jx (pre ++ [x]) W'))
 (W:World) (hW:Below W0.heap.size W0 W) (hBs:W.cell? ⟨Bs,0,none⟩=some (.pointer (some ⟨fb,fo,none⟩))) (h0:J [] W) :
 CallsIn F n Tryz.prog 101 #[.func (.yield l) #[] #[],.pointer (some ⟨Bs,0,none⟩)] W fun e W'=>(∃v,e = .returned v) ∧
  ((∃ys:List (InsP W0),ys.map insOf=bs.flatMap (·.list)∧J ys W')∨(∃pre:List (InsP W0),pre.map insOf <+: bs.flatMap (·.list)∧Jx pre W')):=by
 have Hb:=hid hb;have HY:=hid hY;have HW:=hid hW;have Hll:=hid hll;have hfW:=cell_later' hf hW;have HfW:=hid hfW;have HBs:=hid hBs;have zB:Bs<W.heap.size:=cell_lt hBs;have zf:fb<W.heap.size:=cell_lt hfW;clear hb hY hW hll;refine callsIn_of_wp Tryz.func101 rfl h ?_ hro;simp only [Tryz.ntmps101,List.size_toArray,List.length_cons,List.length_nil,Nat.reduceAdd,Nat.reduceSub,Array.replicate_succ,Array.replicate_zero,List.push_toArray,List.append_toArray,List.nil_append,List.cons_append]
 gi_wp2
 clear hBs hfW
 gi_loopw [10] (fun i wr=>∃(k:Nat) (pre:List (InsP W0)),k≤bs.length∧i = .int .i64 k∧pre.map insOf=(bs.take k).flatMap (·.list)∧J pre wr∧KeepE n₀ X W wr) (fun i _=>bs.length - (intOf i).toNat)
 case atStart=>exact⟨0,[],Nat.zero_le _,rfl,rfl,h0,KeepE.refl _ _ _⟩
 case round =>
  obtain⟨k,pre,hk,rfl,hpre,hJ,hkp⟩:=hrel;have Hpre:=hid hpre;have HJ:=hid hJ;have Hkp:=hid hkp;have c0:=hkp.cell HBs.out hBn.1 hBn.2;have c1:=hkp.cell HfW.out hfn.1 hfn.2;have z0:Bs<wr.heap.size:=cell_lt c0;have z1:fb<wr.heap.size:=cell_lt c1;clear hpre hJ hkp
  by_cases hkl:k<bs.length
  · obtain⟨xb,xoff,cs,hxa,hxS,hr,-,hcs⟩:=Hb.out.get hkl
    subst hxa;obtain⟨pv,lv,ev,rfl,-,hl,-⟩:=hr;obtain⟨la,lc,rfl,-⟩:=id hl.val;have hd1:W0.cell? ⟨xb,xoff+k * 6+1,none⟩=some (.slice la bs[k].list.length lc):=hcs 1 _ rfl;obtain⟨y,hy⟩:∃y,y=bs[k]:=⟨_,rfl⟩
    rw [←hy] at hd1 hl;have hyl:y.list.length≤1048576:=by rw [hy];exact Hll.out _ (List.getElem_mem hkl)
    have HN:Hid (∀j,j<y.list.length→((bs.take k).flatMap (·.list)).length+j<(bs.flatMap (·.list)).length):=fun j hj=>by
     have e:bs=bs.take k++y :: bs.drop (k+1):=by rw [hy,←List.drop_eq_getElem_cons hkl,List.take_append_drop]
     have e2:=congrArg (fun l:List DBlock=>(l.flatMap (·.list)).length) e;simp only [List.flatMap_append,List.flatMap_cons,List.length_append] at e2;omega
    have Hpx:Hid (∀j,(bs.take k).flatMap (·.list)++y.list.take j <+: bs.flatMap (·.list)):=fun j=>by
     have e:bs=bs.take k++y :: bs.drop (k+1):=by rw [hy,←List.drop_eq_getElem_cons hkl,List.take_append_drop]
     have e2:=congrArg (fun l:List DBlock=>l.flatMap (·.list)) e;simp only [List.flatMap_append,List.flatMap_cons] at e2;rw [e2];exact (List.prefix_append_right_inj _).2 ((List.take_prefix j y.list).trans (List.prefix_append _ _))
    have Hstep:Hid ((bs.take (k+1)).flatMap (·.list)=(bs.take k).flatMap (·.list)++y.list):=by
     show _=_;rw [List.take_succ_eq_append_getElem hkl,List.flatMap_append,←hy];simp
    have d1W:=cell_later' hd1 HW.out;have d1:=Hkp.out.cell d1W hxS.1 hxS.2;have Hl:=hid hl;have Hd1:=hid d1W;have zx:xb<wr.heap.size:=cell_lt d1;obtain⟨wo,hwo⟩:∃wo:World,wo=wr:=⟨_,rfl⟩
    subst hwo;clear hy hcs hl hd1 d1W
    gi_wp2
    clear c0 c1 d1
    gi_loopw [22] (fun i wi=>∃(j:Nat) (pr:List (InsP W0)),j≤y.list.length∧i = .int .i64 j∧pr.map insOf=(bs.take k).flatMap (·.list)++y.list.take j∧J pr wi∧KeepE n₀ X W wi) (fun i _=>y.list.length - (intOf i).toNat)
    case atStart=>exact⟨0,pre,Nat.zero_le _,rfl,by rw [Hpre.out];simp,HJ.out,Hkp.out⟩
    case round =>
     obtain⟨j,pr,hj,rfl,hpr,hJ,hkp⟩:=hrel;have Hpr:=hid hpr;have HJ2:=hid hJ;have Hkp2:=hid hkp;clear hpr hJ hkp
     by_cases hjl:j<y.list.length
     · have c0:=Hkp2.out.cell HBs.out hBn.1 hBn.2
       have c1:=Hkp2.out.cell HfW.out hfn.1 hfn.2;have d1:=Hkp2.out.cell Hd1.out hxS.1 hxS.2;have z2:Bs<wr.heap.size:=cell_lt c0;have z3:fb<wr.heap.size:=cell_lt c1;have z4:xb<wr.heap.size:=cell_lt d1;obtain⟨lb,loff,cs2,hla,-,hr2,-,hcs2⟩:=Hl.out.get hjl;subst hla;obtain⟨av,rfl,-⟩:=hr2;obtain⟨x,hx⟩:∃x:InsP W0,x=⟨(lb,loff+j * 8,y.list[j]'hjl),⟨av,hcs2⟩⟩:=⟨_,rfl⟩
       have henc:encI x=#[.pointer (some ⟨lb,loff+j * 8,none⟩)]:=by rw [hx];rfl
       have hins:insOf x=y.list[j]'hjl:=by rw [hx];rfl
       obtain ⟨fn, tmps, assign, body, hy, hR⟩ := HY.out pr x wr HJ2.out (by
        have h := congrArg List.length Hpr.out
        rw [List.length_map, List.length_append, List.length_take] at h
        have := HN.out j hjl
        omega)
       rw [henc] at hy;have Hpr2:Hid ((pr++[x]).map insOf=(bs.take k).flatMap (·.list)++y.list.take (j+1)):=by
        show _=_;rw [List.map_append,Hpr.out,List.take_succ_eq_append_getElem hjl,List.append_assoc];show _++(_++[insOf x])=_;rw [hins]
       have HR:=hid hR;clear hcs2 hx henc hins hR
       gi_wp2
       refine HR.out.mono ?_;rintro e W3 (⟨rfl,hJ3,hk3⟩ | ⟨rfl,hJx3⟩)
       · have HJ3:=hid hJ3
         have Hk3:=hid (keepE_t Hkp2.out hk3);clear hJ3 hk3
         gi_wp2
         go_roundw
         case rel=>exact⟨j+1,pr++[x],by omega,by go_num,Hpr2.out,HJ3.out,Hk3.out⟩
         case measure=>simp [intOf];omega
       · have HJ3:=hid hJx3
         clear hJx3
         gi_wp2
         refine bodyPost_ret (results_none rfl _ _ _) rfl ?_;exact⟨⟨_,rfl⟩,.inr ⟨pr++[x],by rw [Hpr2.out];exact Hpx.out _,HJ3.out⟩⟩
     · have hjn:j=y.list.length:=by omega
       have Hpr3:Hid (pr.map insOf=(bs.take (k+1)).flatMap (·.list)):=by
        show _=_;rw [Hpr.out,hjn,List.take_length,Hstep.out]
       clear hjn
       gi_wp2
       go_roundw
       case rel=>exact⟨k+1,pr,by omega,by go_num,Hpr3.out,HJ2.out,Hkp2.out⟩
       case measure=>simp [intOf];omega
  · have hkn:k=bs.length:=by omega
    have Hpr3:Hid (pre.map insOf=bs.flatMap (·.list)):=by
     show _=_;rw [Hpre.out,hkn,List.take_length]
    clear hkn
    gi_wp2
    go_end0;exact⟨⟨_,rfl⟩,.inl ⟨pre,Hpr3.out,HJ.out⟩⟩

theorem each_stops (F : Fence) (n : Nat) (h : F.fn 101) (hro : F.round = none) (hn : 1 ≤ n) (Bs n₀ fb fo : Nat) (X : Nat → Prop) (xa : Option Addr) (xc : Nat) (bs : List DBlock) (W0 w : World)
 (hbl:bs.length≤1048576) (hll:∀x∈bs,x.list.length≤1048576)
 (hb:SlAt (fun b=>b<n₀∧¬X b) W0 6 rBlock (.slice xa bs.length xc) bs) (hf:W0.cell? ⟨fb,fo+3,none⟩=some (.slice xa bs.length xc)) (hfn:fb<n₀∧¬X fb) (hBn:Bs<n₀∧¬X Bs)
 (h0:Below W0.heap.size W0 w) (hBs:w.cell? ⟨Bs,0,none⟩=some (.pointer (some ⟨fb,fo,none⟩))) :
 SeqStopsK F n Tryz.prog 101 #[.pointer (some ⟨Bs,0,none⟩)] (encI (W0:=W0)) (KeepE n₀ X) (fun ys=>ys.map insOf=bs.flatMap (·.list)) (fun pre=>pre.map insOf <+: bs.flatMap (·.list)) (bs.flatMap (·.list)).length w :=
 fun l J Jx W hW _ _ hY hJ0 =>
  (each1_in F n h hro hn l Bs n₀ fb fo X xa xc bs W0 hbl hll hb hf hfn hBn J Jx hY W (h0.trans (hW.mono h0.size)) (cell_later' hBs hW) hJ0).mono fun _ _ h=>h

end Go.Proofs.YtnkogppgacappaaGreatDoor

namespace Go.Proofs.YtnkogppgacappaaGreatDoor
open Go.RowKit Go.Shelf

attribute [local go_sem] Oper.semAt_some

def BackP(L:List Int):Type:={ x:Nat×Int // L[x.1]?=some x.2 }
def numOf {L:List Int}(x:BackP L):Int:=x.1.2
def encB {L:List Int}(x:BackP L):Array Value:=#[.int .i64 (x.1.1:Int),.int .i64 x.1.2]
theorem numOf_mem {L:List Int}(x:BackP L):numOf x∈L:=List.mem_of_getElem? x.2

theorem back_in(F:Fence)(n:Nat)(h:F.fn 134)(hro:F.round=none)(a:Option Addr)(m c:Nat)(w:World) :
 CallsIn F n Tryz.prog 134 #[.slice a m c] w fun e w'=>e = .returned (.func (.func 152) #[] #[.pointer (some ⟨w.heap.size,0,none⟩)])∧w'=w.alloc (.cells #[.slice a m c] 33):=by
 refine callsIn_of_wp Tryz.func134 rfl h ?_ hro;simp only [Tryz.ntmps134,List.size_toArray,List.length_cons,List.length_nil,Nat.reduceAdd,Nat.reduceSub,Array.replicate_succ,Array.replicate_zero,List.push_toArray,List.append_toArray,List.nil_append,List.cons_append]
 gi_wp2
 go_ret;exact⟨rfl,rfl⟩

set_option maxRecDepth 100000 in
set_option maxHeartbeats 4000000 in
theorem back1_in (F : Fence) (n : Nat) (h : F.fn 152) (hro : F.round = none) (hn : 1 ≤ n) (l Bs n₀ : Nat) (X : Nat → Prop) (a : Option Addr) (c : Nat) (L : List Int) (W0 : World)
 (hL:L.length≤1048576) (hb:SlAt (fun b=>b<n₀∧¬X b) W0 1 rInt (.slice a L.length c) L) (hBn:Bs<n₀∧¬X Bs)
 (J Jx:List (BackP L)→World→Prop)
 (hY : ∀ pre x W1, J pre W1 → pre.length < L.length → YieldAt F (n - 1) Tryz.prog l (encB x) W1 fun e W' =>
   (e = .returned (.bool true) ∧ J (pre ++ [x]) W' ∧ KeepE n₀ X W1 W') ∨ (e = .returned (.bool false) ∧ Jx (pre ++ [x]) W'))
 (W:World) (hW:Below W0.heap.size W0 W) (hBs:W.cell? ⟨Bs,0,none⟩=some (.slice a L.length c)) (h0:J [] W) :
 CallsIn F n Tryz.prog 152 #[.func (.yield l) #[] #[],.pointer (some ⟨Bs,0,none⟩)] W fun e W'=>(∃v,e = .returned v) ∧
  ((∃ys:List (BackP L),ys.map numOf=L.reverse∧J ys W')∨(∃pre:List (BackP L),pre.map numOf <+: L.reverse∧Jx pre W')):=by
 have Hb:=hid hb;have HY:=hid hY;have HW:=hid hW;have HBs:=hid hBs;have zB:Bs<W.heap.size:=cell_lt hBs;clear hb hY hW;refine callsIn_of_wp Tryz.func152 rfl h ?_ hro;simp only [Tryz.ntmps152,List.size_toArray,List.length_cons,List.length_nil,Nat.reduceAdd,Nat.reduceSub,Array.replicate_succ,Array.replicate_zero,List.push_toArray,List.append_toArray,List.nil_append,List.cons_append]
 gi_wp2
 clear hBs
 gi_loopw [3] (fun i wr=>∃(k:Nat) (pre:List (BackP L)),k≤L.length∧i = .int .i64 ((k:Int) - 1)∧pre.map numOf=(L.drop k).reverse∧J pre wr∧KeepE n₀ X W wr) (fun i _=>(intOf i+1).toNat)
 case atStart=>exact⟨L.length,[],Nat.le_refl _,rfl,by simp,h0,KeepE.refl _ _ _⟩
 case round =>
  obtain⟨k,pre,hk,rfl,hpre,hJ,hkp⟩:=hrel;have Hpre:=hid hpre;have HJ:=hid hJ;have Hkp:=hid hkp;have c0:=hkp.cell HBs.out hBn.1 hBn.2;have z0:Bs<wr.heap.size:=cell_lt c0;clear hpre hJ hkp;cases k with
  | zero =>
    have Hpr:Hid (pre.map numOf=L.reverse):=by show _=_;rw [Hpre.out,List.drop_zero]
    have e0:((0:Nat):Int) - 1 = -1:=rfl;rw [e0];clear e0
    gi_wp2
    go_end0;exact⟨⟨_,rfl⟩,.inl ⟨pre,Hpr.out,HJ.out⟩⟩
  | succ k =>
    have hkl:k<L.length:=hk;have e0:((k+1:Nat):Int) - 1=(k:Int):=by omega
    rw [e0];obtain⟨xb,xoff,cs,hxa,hxS,⟨rfl,-⟩,-,hcs⟩:=Hb.out.get hkl;subst hxa;have hd:=hcs.get1;rw [Nat.mul_one] at hd;obtain⟨y,hy⟩:∃y,y=L[k]:=⟨_,rfl⟩
    rw [←hy] at hd;have d0:=Hkp.out.cell (cell_later' hd HW.out) hxS.1 hxS.2;have zx:xb<wr.heap.size:=cell_lt d0;obtain⟨x,hx⟩:∃x:BackP L,x=⟨(k,y),by rw [hy];exact List.getElem?_eq_getElem hkl⟩:=⟨_,rfl⟩
    have henc:encB x=#[.int .i64 (k:Int),.int .i64 y]:=by rw [hx];rfl
    have hnum:numOf x=y:=by rw [hx];rfl
    have hlen:pre.length<L.length:=by
     have h:=congrArg List.length Hpre.out;rw [List.length_map,List.length_reverse,List.length_drop] at h;omega
    obtain⟨fn,tmps,assign,body,hyy,hR⟩:=HY.out pre x wr HJ.out hlen;rw [henc] at hyy;have Hpr2:Hid ((pre++[x]).map numOf=(L.drop k).reverse):=by
     show _=_;rw [List.map_append,Hpre.out,List.drop_eq_getElem_cons hkl,List.reverse_cons];show _++[numOf x]=_;rw [hnum,hy]
    have Hpx:Hid ((L.drop k).reverse <+: L.reverse):=List.reverse_prefix.2 (List.drop_suffix k L);have HR:=hid hR;clear hcs hx henc hnum hR hd hy hlen e0
    gi_wp2
    refine HR.out.mono ?_;rintro e W3 (⟨rfl,hJ3,hk3⟩ | ⟨rfl,hJx3⟩)
    · have HJ3:=hid hJ3
      have Hk3:=hid (keepE_t Hkp.out hk3);clear hJ3 hk3
      gi_wp2
      go_roundw
      case rel=>exact⟨k,pre++[x],by omega,rfl,Hpr2.out,HJ3.out,Hk3.out⟩
      case measure=>simp [intOf]
    · have HJ3:=hid hJx3
      clear hJx3
      gi_wp2
      refine bodyPost_ret (results_none rfl _ _ _) rfl ?_;exact⟨⟨_,rfl⟩,.inr ⟨pre++[x],by rw [Hpr2.out];exact Hpx.out,HJ3.out⟩⟩

theorem back_stops (F : Fence) (n : Nat) (h : F.fn 152) (hro : F.round = none) (hn : 1 ≤ n) (Bs n₀ : Nat) (X : Nat → Prop) (a : Option Addr) (c : Nat) (L : List Int) (W0 w : World)
 (hL:L.length≤1048576) (hb:SlAt (fun b=>b<n₀∧¬X b) W0 1 rInt (.slice a L.length c) L) (hBn:Bs<n₀∧¬X Bs) (h0:Below W0.heap.size W0 w) (hBs:w.cell? ⟨Bs,0,none⟩=some (.slice a L.length c)) :
 SeqStopsK F n Tryz.prog 152 #[.pointer (some ⟨Bs,0,none⟩)] (encB (L:=L)) (KeepE n₀ X) (fun ys=>ys.map numOf=L.reverse) (fun pre=>pre.map numOf <+: L.reverse) L.length w :=
 fun l J Jx W hW _ _ hY hJ0 =>
  (back1_in F n h hro hn l Bs n₀ X a c L W0 hL hb hBn J Jx hY W (h0.trans (hW.mono h0.size)) (cell_later' hBs hW) hJ0).mono fun _ _ h=>h

end Go.Proofs.YtnkogppgacappaaGreatDoor
