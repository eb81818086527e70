import Derived.Deep.RegionLaw
import Derived.Test.YtgekbfgplclmeaaDoorPPost0
/- Slices of structs that the call makes itself: what they hold, and how they grow. No function of the program in sight. slices.Clone of []int and of []api.Val: the copy is the call's own. calls.CopyBlock: a block of the call's own memory. calls.CopyFunc: a function of the call's own memory. turneryref6.unrollAhead: the blocks that lead to a block. -/
namespace Go.Proofs.YtgekbfgplclmeaaDoor
section
open Go.RowKit
def iv(a b:Nat):Nat->Prop:=fun x=>a<=x∧x<b
theorem aiN {sz : Nat} : ∀ (xss : List (List Value)), (∀ (i : Nat) cs, xss[i]? = some cs -> cs.length = sz) -> ∀ (i j : Nat) cs, xss[i]? = some cs -> j < sz -> xss.flatten[i * sz + j]? = cs[j]?
 | [],_,i,_,cs,h,_=>by simp at h
 | ys :: xss,hl,0,j,cs,h,hj=>by
   have e:ys=cs:=by simpa using h
   subst e;have h0:=hl 0 ys rfl;rw [Abb,Aa5,Aac,Abh (by omega)]
 | ys :: xss,hl,i+1,j,cs,h,hj=>by
   have h0:=hl 0 ys rfl;rw [Abb,List.getElem?_append_right (by rw [h0,Nat.add_mul];omega),h0];rw [show (i+1) * sz+j - sz=i * sz+j by rw [Nat.add_mul];omega];exact aiN xss (fun k ae hk=>hl (k+1) ae (by simpa using hk)) i j cs (by simpa using h) hj
section
variable {α : Type} {base : Nat} {w w' : World} {e : TypeId} {sz : Nat} {r : Rp α} {v v' : Value} {l : List α}
theorem adh {B:Nat}(hb:Below w.heap.size w w')(row:Option Nat)(_h:B<=w.heap.size):w.grownBy w' row:=⟨hb.os,hb.tape,hb.output,hb.size,fun k hk _=>hb.block k hk⟩
end
variable {w:World}
theorem adH{S:Nat->Prop}{w':World}(h:∀b,S b->b<w.heap.size->w'.heap[b]?=w.heap[b]?):aaD S w w':=fun b o v hb hc=>by
 rw [World.cell?_of_block (w:=w) (a:=⟨b,o,none⟩) (h b hb (aac hc))];exact hc
theorem abO(w:World)(cs:List Value)(T:TypeId){n:Nat}(hn:n=w.heap.size):∀(j:Nat) u,cs[j]?=some u->(w.alloc (.cells cs.toArray T)).cell? ((⟨n,0,none⟩:Addr).add j)=some u:=by
 intro j u hj;subst hn;rw [show (⟨w.heap.size,0,none⟩:Addr).add j=⟨w.heap.size,j,none⟩ by unfold Addr.add;split <;> simp_all,World.cell?_alloc_new];simpa using hj
variable {b i:Nat}
theorem aaA{x:Value}(h:w.cell? ⟨b,i,none⟩=some x)(u:Value)(j:Nat):(w.setCell ⟨b,i,none⟩ u).cell? ⟨b,j,none⟩=if j=i then some u else w.cell? ⟨b,j,none⟩:=by
 simp only [World.cell?] at h;cases hh:w.heap[b]? with
 | none=>rw [hh] at h;cases h
 | some o =>
   rw [hh] at h;cases o with
   | cells c t f =>
     have hi:i<c.size:=by
      rcases Nat.lt_or_ge i c.size with h1 | h1
      . exact h1
      . simp [Array.getElem?_eq_none h1] at h
     simp only [World.cell?,World.setCell,Array.getElem?_modify,hh]
     by_cases hji:j=i
     . subst hji;simp [hi]
     . simp [hji,Ne.symm hji]
   | _=>cases h
theorem aas(w:World){b':Nat}(hb:b'≠b)(u:Value)(j:Nat):(w.setCell ⟨b,i,none⟩ u).cell? ⟨b',j,none⟩=w.cell? ⟨b',j,none⟩ :=
 World.cell?_of_block (w:=w) (a:=⟨b',j,none⟩) (Below.heap_setCell _ _ _ _ hb)
theorem abG{n:Nat}{u:Value}(h:∀k,k<n->∃x,w.cell? ⟨b,k,none⟩=some x)(hi:i<n):∀k,k<n->∃x,(w.setCell ⟨b,i,none⟩ u).cell? ⟨b,k,none⟩=some x:=by
 intro k hk;obtain⟨x,hx⟩:=h i hi;rw [aaA hx]
 by_cases hki:k=i
 . rw [if_pos hki];exact⟨_,rfl⟩
 . rw [if_neg hki];exact h k hk
variable {o0 o1 u0 u1:Value}
theorem amO(h:aaj w b 0 [o0,o1]):aaj ((w.setCell ⟨b,0,none⟩ u0).setCell ⟨b,1,none⟩ u1) b 0 [u0,u1]:=by
 have g0:∀k,k<2->∃x,w.cell? ⟨b,k,none⟩=some x:=fun k hk=>⟨_,by have h1:=h k ([o0,o1][k]'(by simpa using hk)) (Aaa _);rw [Aac] at h1;exact h1⟩
 have g1:=abG (i:=0) (u:=u0) g0 (by decide);have g2:=abG (i:=1) (u:=u1) g1 (by decide);obtain⟨x0,e0⟩:=g0 0 (by decide);obtain⟨x1,e1⟩:=g1 1 (by decide);intro j v hj;rw [Aac]
 match j,hj with
 | 0,hj=>cases hj;rw [aaA e1,if_neg (by decide),aaA e0,if_pos rfl]
 | 1,hj=>cases hj;rw [aaA e1,if_pos rfl]
 | k+2,hj=>simp at hj
theorem amP{o2 u2:Value}(h:aaj w b 0 [o0,o1,o2]):aaj (((w.setCell ⟨b,0,none⟩ u0).setCell ⟨b,1,none⟩ u1).setCell ⟨b,2,none⟩ u2) b 0 [u0,u1,u2]:=by
 have g0:∀k,k<3->∃x,w.cell? ⟨b,k,none⟩=some x:=fun k hk=>⟨_,by have h1:=h k ([o0,o1,o2][k]'(by simpa using hk)) (Aaa _);rw [Aac] at h1;exact h1⟩
 have g1:=abG (i:=0) (u:=u0) g0 (by decide);have g2:=abG (i:=1) (u:=u1) g1 (by decide);have g3:=abG (i:=2) (u:=u2) g2 (by decide);obtain⟨x0,e0⟩:=g0 0 (by decide);obtain⟨x1,e1⟩:=g1 1 (by decide);obtain⟨x2,e2⟩:=g2 2 (by decide);intro j v hj;rw [Aac]
 match j,hj with
 | 0,hj=>cases hj;rw [aaA e2,if_neg (by decide),aaA e1,if_neg (by decide),aaA e0,if_pos rfl]
 | 1,hj=>cases hj;rw [aaA e2,if_neg (by decide),aaA e1,if_pos rfl]
 | 2,hj=>cases hj;rw [aaA e2,if_pos rfl]
 | k+3,hj=>simp at hj
theorem amQ{o2 o3 u2 u3:Value}(h:aaj w b 0 [o0,o1,o2,o3]):aaj ((((w.setCell ⟨b,0,none⟩ u0).setCell ⟨b,1,none⟩ u1).setCell ⟨b,2,none⟩ u2).setCell ⟨b,3,none⟩ u3) b 0 [u0,u1,u2,u3]:=by
 have g0:∀k,k<4->∃x,w.cell? ⟨b,k,none⟩=some x:=fun k hk=>⟨_,by have h1:=h k ([o0,o1,o2,o3][k]'(by simpa using hk)) (Aaa _);rw [Aac] at h1;exact h1⟩
 have g1:=abG (i:=0) (u:=u0) g0 (by decide);have g2:=abG (i:=1) (u:=u1) g1 (by decide);have g3:=abG (i:=2) (u:=u2) g2 (by decide);have g4:=abG (i:=3) (u:=u3) g3 (by decide);obtain⟨x0,e0⟩:=g0 0 (by decide);obtain⟨x1,e1⟩:=g1 1 (by decide);obtain⟨x2,e2⟩:=g2 2 (by decide);obtain⟨x3,e3⟩:=g3 3 (by decide);intro j v hj;rw [Aac]
 match j,hj with
 | 0,hj=>cases hj;rw [aaA e3,if_neg (by decide),aaA e2,if_neg (by decide),aaA e1,if_neg (by decide),aaA e0,if_pos rfl]
 | 1,hj=>cases hj;rw [aaA e3,if_neg (by decide),aaA e2,if_neg (by decide),aaA e1,if_pos rfl]
 | 2,hj=>cases hj;rw [aaA e3,if_neg (by decide),aaA e2,if_pos rfl]
 | 3,hj=>cases hj;rw [aaA e3,if_pos rfl]
 | k+4,hj=>simp at hj
end
section
open Go.RowKit
theorem SlAt.none {α:Type}{S:Nat->Prop}{w:World}{sz:Nat}{r:Rp α}{n c:Nat}{l:List α}(h:SlAt S w sz r (.slice Option.none n c) l):l=[]:=by
 obtain⟨ao,c',hv,-,-,h⟩:=h;cases hv
 by_cases hl:l=[]
 . exact hl
 . obtain⟨b,off,ha,-⟩:=h hl
   cases ha
theorem afH:(Tryd.prog.info? 3).map (fun i=>(i.zero,i.size,i.bytes))=some (some (.int .i64 0),1,8):=by kernel_rfl
end
section
open Go.RowKit
theorem amf {S:Nat->Prop}{w:World}{a:Option Addr}{n c:Nat}{l:List abo}(h:SlAt S w 8 akn (.slice a n c) l){k:Nat}(hk:k<l.length) :
 ∃b off fa fc,a=some ⟨b,off,none⟩∧aaj w b (off+k * 8) [.int .i64 l[k].op,.int .i64 l[k].dst,.bool l[k].a.reg,.int .i64 l[k].a.n,.bool l[k].b.reg,.int .i64 l[k].b.n,.int .i64 l[k].fn,.slice fa l[k].args.length fc] ∧
   SlAt S w 2 aeL (.slice fa l[k].args.length fc) l[k].args∧(I64 l[k].op∧I64 l[k].dst∧I64 l[k].a.n∧I64 l[k].b.n∧I64 l[k].fn):=by
 obtain⟨b,off,cs,ha,-,hr,-,ad⟩:=h.get hk;obtain⟨fa,fc,rfl,h1,h2,h3⟩:=hr.opens;exact⟨b,off,fa,fc,ha,ad,h1,h3⟩
theorem amm {S:Nat->Prop}{w:World}{a:Option Addr}{n c:Nat}{l:List adO}(h:SlAt S w 2 aie (.slice a n c) l){k:Nat}(hk:k<l.length) :
 ∃b off fa fc,a=some ⟨b,off,none⟩∧w.cell? ⟨b,off+k * 2,none⟩=some (.int .i64 l[k].dst)∧w.cell? ⟨b,off+k * 2+1,none⟩=some (.slice fa l[k].src.length fc)∧SlAt S w 2 aeL (.slice fa l[k].src.length fc) l[k].src∧I64 l[k].dst∧l[k].src.length<=9223372036854775807:=by
 obtain⟨b,off,cs,ha,-,hr,-,ad⟩:=h.get hk;obtain⟨fa,fc,rfl,h1,h2,h3⟩:=hr.opens;obtain⟨c0,c1⟩:=ad.get2;exact⟨b,off,fa,fc,ha,c0,c1,h1,h3,h2⟩
end
section
open Go.RowKit
structure alZ (x:aad):Prop where
 phis:x.phis.length<=1048576
 list:x.list.length<=1048576
 to:x.fin.to.length<=1048576
 src:∀p∈x.phis,p.src.length<=1048576
 args:∀i∈x.list,i.args.length<=1048576
theorem adr {S:Nat->Prop}{w:World}{a:Option Addr}{n c:Nat}{l:List aad}(h:SlAt S w 6 aa2 (.slice a n c) l){k:Nat}(hk:k<l.length) :
 ∃b off pa pc la lc ta tc,a=some ⟨b,off,none⟩∧aaj w b (off+k * 6) [.slice pa l[k].phis.length pc,.slice la l[k].list.length lc,.int .i64 l[k].fin.kind,.bool l[k].fin.on.reg,.int .i64 l[k].fin.on.n,.slice ta l[k].fin.to.length tc] ∧
   SlAt S w 2 aie (.slice pa l[k].phis.length pc) l[k].phis∧SlAt S w 8 akn (.slice la l[k].list.length lc) l[k].list∧SlAt S w 1 abe (.slice ta l[k].fin.to.length tc) l[k].fin.to∧I64 l[k].fin.kind∧I64 l[k].fin.on.n:=by
 obtain⟨b,off,cs,ha,-,hr,-,ad⟩:=h.get hk;obtain⟨pa,pc,la,lc,ta,tc,rfl,h1,h2,h3,-,-,-,h4,h5⟩:=hr.opens;exact⟨b,off,pa,pc,la,lc,ta,tc,ha,ad,h1,h2,h3,h4,h5⟩
end
section
open Go.RowKit
theorem aiV(to:List Int)(t i:Nat):(ae1 to t i).length<=to.length:=by
 unfold ae1;rw [Aal];exact List.length_filter_le _ _
theorem acw (t : Nat) : ∀ (l : List aad) (s : Nat), (∀ x ∈ l, x.fin.to.length <= 2) -> (aag l s t).length <= 2 * l.length
 | [],_,_=>by simp [aag]
 | b :: r,s,h=>by
   have h1:=acw t r (s+1) (fun x hx=>h x (by simp [hx]));have h2:=aiV b.fin.to t s;have h3:=h b (by simp);simp only [aag,Aak,Aaq];omega
theorem afJ {S:Nat->Prop}{w:World}{a:Option Addr}{n c:Nat}{l:List Int}(h:SlAt S w 1 abe (.slice a n c) l){t:Nat}(ht:t<l.length):∃b off,a=some ⟨b,off,none⟩∧w.cell? ⟨b,off+t,none⟩=some (.int .i64 l[t]):=by
 obtain⟨b,off,cs,ha,-,⟨rfl,-⟩,-,ad⟩:=h.get ht;have d:=ad.get1;rw [Aam] at d;exact⟨b,off,ha,d⟩
end
end Go.Proofs.YtgekbfgplclmeaaDoor
