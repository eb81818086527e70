import Derived.RangeFuncNested
import Derived.RangeFuncBound
import Derived.Shelf.RegionOpen
import Derived.OwnWalkIn
import Derived.LoopNIn
import Derived.LoopIn
import Derived.Test.YtgekbfgplclmeaaDoorPRefA
/- calls.Each: all instructions of a function, one by one, in memory that the loop over them may change elsewhere. slices.Backward over a list of numbers, in memory that the loop over it may change elsewhere. -/
namespace Go.Proofs.YtgekbfgplclmeaaDoor
section
open Go.RowKit Go.Shelf
attribute [local go_sem] Oper.semAt_some
def adq(n₀:Nat)(X:Nat->Prop)(W W':World):Prop:=W.heap.size<=W'.heap.size∧∀b,b<n₀->¬X b->W'.heap[b]?=W.heap[b]?
theorem adq.refl(n₀:Nat)(X:Nat->Prop)(W:World):adq n₀ X W W:=⟨Aad _,fun _ _ _=>rfl⟩
variable {n₀:Nat}{X:Nat->Prop}
theorem ai2{A B C:World}(h:adq n₀ X A B)(k:adq n₀ X B C):adq n₀ X A C:=⟨Aaj h.1 k.1,fun b h1 h2=>(k.2 b h1 h2).trans (h.2 b h1 h2)⟩
theorem alf{w:World}(hn:n₀<=w.heap.size)(W:World)(l:Nat)(o o':Obj)(hl:w.heap.size<=l)(_:W.heap[l]?=some o)(_:o.isCells=false)(_:o.isWalk=false):adq n₀ X W (W.putObj l o') :=
 ⟨by simp,fun b h1 _=>World.putObj_heap_other (by omega)⟩
theorem adq.cell{W W':World}(h:adq n₀ X W W'){b o:Nat}{v:Value}(hc:W.cell? ⟨b,o,none⟩=some v)(hb:b<n₀)(hx:¬X b):W'.cell? ⟨b,o,none⟩=some v:=by
 rw [World.cell?_of_block (w:=W) (a:=⟨b,o,none⟩) (h.2 b hb hx)];exact hc
end
section
open Go.RowKit Go.Shelf
attribute [local go_sem] Oper.semAt_some
def BackP(L:List Int):Type:={ x:Nat×Int // L[x.1]?=some x.2 }
def numOf {L:List Int}(x:BackP L):Int:=x.1.2
def amA {L:List Int}(x:BackP L):Array Value:=#[.int .i64 (x.1.1:Int),.int .i64 x.1.2]
theorem ajb {L:List Int}(x:BackP L):numOf x∈L:=Aah x.2
theorem akS(F:Fence)(n:Nat)(h:F.fn 84)(al:F.round=none)(a:Option Addr)(m c:Nat)(w:World) :
 CallsIn F n Tryd.prog 84 #[.slice a m c] w fun e w'=>e = .returned (.func (.func 109) #[] #[.pointer (some ⟨w.heap.size,0,none⟩)])∧w'=w.alloc (.cells #[.slice a m c] 26):=by
 refine callsIn_of_wp Tryd.func84 rfl h ?_ al;simp only [Tryd.ntmps84,List.size_toArray,Aaq,List.length_nil,Nat.reduceAdd,Nat.reduceSub,Array.replicate_succ,Array.replicate_zero,List.push_toArray,List.append_toArray,Aa7,List.cons_append]
 gi_wp2
 go_ret;exact⟨rfl,rfl⟩
set_option maxRecDepth 100000 in
set_option maxHeartbeats 4000000 in
theorem aj1 (F : Fence) (n : Nat) (h : F.fn 109) (al : F.round = none) (hn : 1 <= n) (l Bs n₀ : Nat) (X : Nat -> Prop) (a : Option Addr) (c : Nat) (L : List Int) (W0 : World)
 (hL:L.length<=1048576) (hb:SlAt (fun b=>b<n₀∧¬X b) W0 1 abe (.slice a L.length c) L) (an:Bs<n₀∧¬X Bs)
 (J Jx:List (BackP L)->World->Prop)
 (hY : ∀ pre x W1, J pre W1 -> pre.length < L.length -> YieldAt F (n - 1) Tryd.prog l (amA x) W1 fun e W' =>
   (e = .returned (.bool true) ∧ J (pre ++ [x]) W' ∧ adq n₀ X W1 W') ∨ (e = .returned (.bool false) ∧ Jx (pre ++ [x]) W'))
 (W:World) (hW:Below W0.heap.size W0 W) (af:W.cell? ⟨Bs,0,none⟩=some (.slice a L.length c)) (h0:J [] W) :
 CallsIn F n Tryd.prog 109 #[.func (.yield l) #[] #[],.pointer (some ⟨Bs,0,none⟩)] W fun e W'=>(∃v,e = .returned v) ∧
  ((∃ys:List (BackP L),ys.map numOf=L.reverse∧J ys W')∨(∃pre:List (BackP L),pre.map numOf <+: L.reverse∧Jx pre W')):=by
 have Hb:=hid hb;have HY:=hid hY;have HW:=hid hW;have az:=hid af;have zB:Bs<W.heap.size:=aac af;clear hb hY hW;refine callsIn_of_wp Tryd.func109 rfl h ?_ al;simp only [Tryd.ntmps109,List.size_toArray,Aaq,List.length_nil,Nat.reduceAdd,Nat.reduceSub,Array.replicate_succ,Array.replicate_zero,List.push_toArray,List.append_toArray,Aa7,List.cons_append]
 gi_wp2
 clear af
 gi_loopw [3] (fun i wr=>∃(k:Nat) (pre:List (BackP L)),k<=L.length∧i = .int .i64 ((k:Int) - 1)∧pre.map numOf=(L.drop k).reverse∧J pre wr∧adq n₀ X W wr) (fun i _=>(intOf i+1).toNat)
 case atStart=>exact⟨L.length,[],Aad _,rfl,by simp,h0,adq.refl _ _ _⟩
 case round =>
  obtain⟨k,pre,hk,rfl,ak,hJ,ar⟩:=hrel;have ad:=hid ak;have HJ:=hid hJ;have au:=hid ar;have c0:=ar.cell az.out an.1 an.2;have z0:Bs<wr.heap.size:=aac c0;clear ak hJ ar;cases k with
  | zero =>
    have aB:Hid (pre.map numOf=L.reverse):=by show _=_;rw [ad.out,List.drop_zero]
    have e0:((0:Nat):Int) - 1 = -1:=rfl;rw [e0];clear e0
    gi_wp2
    go_end0;exact⟨⟨_,rfl⟩,.inl ⟨pre,aB.out,HJ.out⟩⟩
  | succ k =>
    have aq:k<L.length:=hk;have e0:((k+1:Nat):Int) - 1=(k:Int):=by omega
    rw [e0];obtain⟨xb,aG,cs,aE,ay,⟨rfl,-⟩,-,aw⟩:=Hb.out.get aq;subst aE;have hd:=aw.get1;rw [Aam] at hd;obtain⟨y,hy⟩:∃y,y=L[k]:=⟨_,rfl⟩
    rw [<-hy] at hd;have d0:=au.out.cell (aab hd HW.out) ay.1 ay.2;have zx:xb<wr.heap.size:=aac d0;obtain⟨x,hx⟩:∃x:BackP L,x=⟨(k,y),by rw [hy];exact Aaa aq⟩:=⟨_,rfl⟩
    have ai:amA x=#[.int .i64 (k:Int),.int .i64 y]:=by rw [hx];rfl
    have aj:numOf x=y:=by rw [hx];rfl
    have hlen:pre.length<L.length:=by
     have h:=congrArg List.length ad.out;rw [Aal,Aay,List.length_drop] at h;omega
    obtain⟨fn,tmps,assign,body,aF,hR⟩:=HY.out pre x wr HJ.out hlen;rw [ai] at aF;have ae:Hid ((pre++[x]).map numOf=(L.drop k).reverse):=by
     show _=_;rw [Aat,ad.out,List.drop_eq_getElem_cons aq,List.reverse_cons];show _++[numOf x]=_;rw [aj,hy]
    have aC:Hid ((L.drop k).reverse <+: L.reverse):=List.reverse_prefix.2 (List.drop_suffix k L);have HR:=hid hR;clear aw hx ai aj hR hd hy hlen e0
    gi_wp2
    refine HR.out.mono ?_;rintro e W3 (⟨rfl,av,ax⟩ | ⟨rfl,ag⟩)
    . have ao:=hid av
      have aA:=hid (ai2 au.out ax);clear av ax
      gi_wp2
      go_roundw
      case rel=>exact⟨k,pre++[x],by omega,rfl,ae.out,ao.out,aA.out⟩
      case measure=>simp [intOf]
    . have ao:=hid ag
      clear ag
      gi_wp2
      refine bodyPost_ret (results_none rfl _ _ _) rfl ?_;exact⟨⟨_,rfl⟩,.inr ⟨pre++[x],by rw [ae.out];exact aC.out,ao.out⟩⟩
theorem ahT (F : Fence) (n : Nat) (h : F.fn 109) (al : F.round = none) (hn : 1 <= n) (Bs n₀ : Nat) (X : Nat -> Prop) (a : Option Addr) (c : Nat) (L : List Int) (W0 w : World)
 (hL:L.length<=1048576) (hb:SlAt (fun b=>b<n₀∧¬X b) W0 1 abe (.slice a L.length c) L) (an:Bs<n₀∧¬X Bs) (h0:Below W0.heap.size W0 w) (af:w.cell? ⟨Bs,0,none⟩=some (.slice a L.length c)) :
 SeqStopsK F n Tryd.prog 109 #[.pointer (some ⟨Bs,0,none⟩)] (amA (L:=L)) (adq n₀ X) (fun ys=>ys.map numOf=L.reverse) (fun pre=>pre.map numOf <+: L.reverse) L.length w :=
 fun l J Jx W hW _ _ hY aD =>
  (aj1 F n h al hn l Bs n₀ X a c L W0 hL hb an J Jx hY W (h0.trans (hW.mono h0.size)) (aab af hW) aD).mono fun _ _ h=>h
end
end Go.Proofs.YtgekbfgplclmeaaDoor
