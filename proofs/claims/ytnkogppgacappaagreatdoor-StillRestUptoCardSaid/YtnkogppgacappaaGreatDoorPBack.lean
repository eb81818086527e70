/- calls.CopyBlock: a block of the call's own memory. calls.Each: all instructions of a function, one by one, in memory that the loop over them may change elsewhere. slices.Backward over a list of numbers, in memory that the loop over it may change elsewhere. -/
import Derived.Test.YtnkogppgacappaaGreatDoorPClone
import Derived.RangeFuncNested
import Derived.RangeFuncBound
import Derived.RangeFuncCalls
import Derived.RangeFuncLeaves
import Derived.Shelf.Abstract
import Derived.Shelf.RegionOpen
import Derived.WalkKit
import Derived.OwnWalkIn
import Derived.TacticsInMore
import Derived.LoopNIn
import Derived.LoopIn
namespace Go.Proofs.YtnkogppgacappaaGreatDoor
open Go.RowKit

theorem infoPhi:(Tryz.prog.info? 94).map (fun i=>(i.zero,i.size,i.bytes))=some (some (.agg #[.int .i64 0,.slice none 0 0]),2,32):=by kernel_rfl
theorem infoIns:(Tryz.prog.info? 80).map (fun i=>(i.zero,i.size,i.bytes))=some (some (.agg #[.int .i64 0,.int .i64 0,.bool false,.int .i64 0,.bool false,.int .i64 0,.int .i64 0,.slice none 0 0]),8,80):=by kernel_rfl

theorem ins_at {S:Nat→Prop}{w:World}{a:Option Addr}{n c:Nat}{l:List DIns}(h:SlAt S w 8 rIns (.slice a n c) l){k:Nat}(hk:k<l.length) :
 ∃b off fa fc,a=some ⟨b,off,none⟩∧CellsAt w b (off+k * 8) [.int .i64 l[k].op,.int .i64 l[k].dst,.bool l[k].a.reg,.int .i64 l[k].a.n,.bool l[k].b.reg,.int .i64 l[k].b.n,.int .i64 l[k].fn,.slice fa l[k].args.length fc] ∧
   SlAt S w 2 rVal (.slice fa l[k].args.length fc) l[k].args∧(I64 l[k].op∧I64 l[k].dst∧I64 l[k].a.n∧I64 l[k].b.n∧I64 l[k].fn):=by
 obtain⟨b,off,cs,ha,-,hr,-,hcs⟩:=h.get hk;obtain⟨fa,fc,rfl,h1,h2,h3⟩:=hr.opens;exact⟨b,off,fa,fc,ha,hcs,h1,h3⟩

theorem phi_at {S:Nat→Prop}{w:World}{a:Option Addr}{n c:Nat}{l:List DPhi}(h:SlAt S w 2 rPhi (.slice a n c) l){k:Nat}(hk:k<l.length) :
 ∃b off fa fc,a=some ⟨b,off,none⟩∧w.cell? ⟨b,off+k * 2,none⟩=some (.int .i64 l[k].dst)∧w.cell? ⟨b,off+k * 2+1,none⟩=some (.slice fa l[k].src.length fc)∧SlAt S w 2 rVal (.slice fa l[k].src.length fc) l[k].src∧I64 l[k].dst∧l[k].src.length≤9223372036854775807:=by
 obtain⟨b,off,cs,ha,-,hr,-,hcs⟩:=h.get hk;obtain⟨fa,fc,rfl,h1,h2,h3⟩:=hr.opens;obtain⟨c0,c1⟩:=hcs.get2;exact⟨b,off,fa,fc,ha,c0,c1,h1,h3,h2⟩

end Go.Proofs.YtnkogppgacappaaGreatDoor

namespace Go.Proofs.YtnkogppgacappaaGreatDoor
open Go.RowKit Go.Shelf

attribute [local go_sem] Oper.semAt_some

def InsC(W0:World)(x:Nat×Nat×DIns):Prop:=∃v,CellsAt W0 x.1 x.2.1 [.int .i64 x.2.2.op,.int .i64 x.2.2.dst,.bool x.2.2.a.reg,.int .i64 x.2.2.a.n,.bool x.2.2.b.reg,.int .i64 x.2.2.b.n,.int .i64 x.2.2.fn,v]
def InsP(W0:World):Type:={ x:Nat×Nat×DIns // InsC W0 x }
def insOf {W0:World}(x:InsP W0):DIns:=x.1.2.2
def encI {W0:World}(x:InsP W0):Array Value:=#[.pointer (some ⟨x.1.1,x.1.2.1,none⟩)]

def KeepE(n₀:Nat)(X:Nat→Prop)(W W':World):Prop:=W.heap.size≤W'.heap.size∧∀b,b<n₀→¬X b→W'.heap[b]?=W.heap[b]?
theorem KeepE.refl(n₀:Nat)(X:Nat→Prop)(W:World):KeepE n₀ X W W:=⟨Nat.le_refl _,fun _ _ _=>rfl⟩
theorem keepE_t {n₀:Nat}{X:Nat→Prop}{A B C:World}(h:KeepE n₀ X A B)(k:KeepE n₀ X B C):KeepE n₀ X A C:=⟨Nat.le_trans h.1 k.1,fun b h1 h2=>(k.2 b h1 h2).trans (h.2 b h1 h2)⟩
theorem keepE_b {n₀:Nat}{X:Nat→Prop}{w:World}(hn:n₀≤w.heap.size)(W:World)(l:Nat)(o o':Obj)(hl:w.heap.size≤l)(_:W.heap[l]?=some o)(_:o.isCells=false)(_:o.isWalk=false):KeepE n₀ X W (W.putObj l o') :=
 ⟨by simp,fun b h1 _=>World.putObj_heap_other (by omega)⟩
theorem KeepE.cell {n₀:Nat}{X:Nat→Prop}{W W':World}(h:KeepE n₀ X W W'){b o:Nat}{v:Value}(hc:W.cell? ⟨b,o,none⟩=some v)(hb:b<n₀)(hx:¬X b):W'.cell? ⟨b,o,none⟩=some v:=by
 rw [World.cell?_of_block (w:=W) (a:=⟨b,o,none⟩) (h.2 b hb hx)];exact hc
theorem each_in(F:Fence)(n:Nat)(h:F.fn 64)(hro:F.round=none)(a:Option Addr)(w:World) :
 CallsIn F n Tryz.prog 64 #[.pointer a] w fun e w'=>e = .returned (.func (.func 101) #[] #[.pointer (some ⟨w.heap.size,0,none⟩)])∧w'=w.alloc (.cells #[.pointer a] 112):=by
 refine callsIn_of_wp Tryz.func64 rfl h ?_ hro;simp only [Tryz.ntmps64,List.size_toArray,List.length_cons,List.length_nil,Nat.reduceAdd,Nat.reduceSub,Array.replicate_succ,Array.replicate_zero,List.push_toArray,List.append_toArray,List.nil_append,List.cons_append]
 gi_wp2
 go_ret;exact⟨rfl,rfl⟩

set_option maxRecDepth 100000 in
set_option maxHeartbeats 4000000 in
theorem each1_in(F:Fence)(n:Nat)(h:F.fn 101)(hro:F.round=none)(hn:1≤n)(l Bs n₀ fb fo:Nat)(X:Nat→Prop)(xa:Option Addr)(xc:Nat)(bs:List DBlock)(W0:World)
 (hbl:bs.length≤1048576) (hll:∀x∈bs,x.list.length≤1048576)
 (hb:SlAt (fun b=>b<n₀∧¬X b) W0 6 rBlock (.slice xa bs.length xc) bs) (hf:W0.cell? ⟨fb,fo+3,none⟩=some (.slice xa bs.length xc)) (hfn:fb<n₀∧¬X fb) (hBn:Bs<n₀∧¬X Bs)
 (J Jx:List (InsP W0)→World→Prop)
 (hY : ∀ pre x W1, J pre W1 → pre.length < (bs.flatMap (·.list)).length → YieldAt F (n - 1) Tryz.prog l (encI x) W1 fun e W' =>
   (e = .returned (.bool true) ∧ J (pre ++ [x]) W' ∧ KeepE n₀ X W1 W') ∨ (e = .returned (.bool false) ∧ Jx (pre ++ [x]) W'))
 (W:World) (hW:Below W0.heap.size W0 W) (hBs:W.cell? ⟨Bs,0,none⟩=some (.pointer (some ⟨fb,fo,none⟩))) (h0:J [] W) :
 CallsIn F n Tryz.prog 101 #[.func (.yield l) #[] #[],.pointer (some ⟨Bs,0,none⟩)] W fun e W'=>(∃v,e = .returned v) ∧
  ((∃ys:List (InsP W0),ys.map insOf=bs.flatMap (·.list)∧J ys W')∨(∃pre:List (InsP W0),pre.map insOf <+: bs.flatMap (·.list)∧Jx pre W')):=by
 have Hb:=hid hb;have HY:=hid hY;have HW:=hid hW;have Hll:=hid hll;have hfW:=cell_later' hf hW;have HfW:=hid hfW;have HBs:=hid hBs;have zB:Bs<W.heap.size:=cell_lt hBs;have zf:fb<W.heap.size:=cell_lt hfW;clear hb hY hW hll;refine callsIn_of_wp Tryz.func101 rfl h ?_ hro;simp only [Tryz.ntmps101,List.size_toArray,List.length_cons,List.length_nil,Nat.reduceAdd,Nat.reduceSub,Array.replicate_succ,Array.replicate_zero,List.push_toArray,List.append_toArray,List.nil_append,List.cons_append]
 gi_wp2
 clear hBs hfW
 gi_loopw [10] (fun i wr=>∃(k:Nat) (pre:List (InsP W0)),k≤bs.length∧i = .int .i64 k∧pre.map insOf=(bs.take k).flatMap (·.list)∧J pre wr∧KeepE n₀ X W wr) (fun i _=>bs.length - (intOf i).toNat)
 case atStart=>exact⟨0,[],Nat.zero_le _,rfl,rfl,h0,KeepE.refl _ _ _⟩
 case round =>
  obtain⟨k,pre,hk,rfl,hpre,hJ,hkp⟩:=hrel;have Hpre:=hid hpre;have HJ:=hid hJ;have Hkp:=hid hkp;have c0:=hkp.cell HBs.out hBn.1 hBn.2;have c1:=hkp.cell HfW.out hfn.1 hfn.2;have z0:Bs<wr.heap.size:=cell_lt c0;have z1:fb<wr.heap.size:=cell_lt c1;clear hpre hJ hkp
  by_cases hkl:k<bs.length
  · obtain⟨xb,xoff,cs,hxa,hxS,hr,-,hcs⟩:=Hb.out.get hkl
    subst hxa;obtain⟨pv,lv,ev,rfl,-,hl,-⟩:=hr;obtain⟨la,lc,rfl,-⟩:=id hl.val;have hd1:W0.cell? ⟨xb,xoff+k * 6+1,none⟩=some (.slice la bs[k].list.length lc):=hcs 1 _ rfl;obtain⟨y,hy⟩:∃y,y=bs[k]:=⟨_,rfl⟩
    rw [←hy] at hd1 hl;have hyl:y.list.length≤1048576:=by rw [hy];exact Hll.out _ (List.getElem_mem hkl)
    have HN:Hid (∀j,j<y.list.length→((bs.take k).flatMap (·.list)).length+j<(bs.flatMap (·.list)).length):=fun j hj=>by
     have e:bs=bs.take k++y :: bs.drop (k+1):=by rw [hy,←List.drop_eq_getElem_cons hkl,List.take_append_drop]
     have e2:=congrArg (fun l:List DBlock=>(l.flatMap (·.list)).length) e;simp only [List.flatMap_append,List.flatMap_cons,List.length_append] at e2;omega
    have Hpx:Hid (∀j,(bs.take k).flatMap (·.list)++y.list.take j <+: bs.flatMap (·.list)):=fun j=>by
     have e:bs=bs.take k++y :: bs.drop (k+1):=by rw [hy,←List.drop_eq_getElem_cons hkl,List.take_append_drop]
     have e2:=congrArg (fun l:List DBlock=>l.flatMap (·.list)) e;simp only [List.flatMap_append,List.flatMap_cons] at e2;rw [e2];exact (List.prefix_append_right_inj _).2 ((List.take_prefix j y.list).trans (List.prefix_append _ _))
    have Hstep:Hid ((bs.take (k+1)).flatMap (·.list)=(bs.take k).flatMap (·.list)++y.list):=by
     show _=_;rw [List.take_succ_eq_append_getElem hkl,List.flatMap_append,←hy];simp
    have d1W:=cell_later' hd1 HW.out;have d1:=Hkp.out.cell d1W hxS.1 hxS.2;have Hl:=hid hl;have Hd1:=hid d1W;have zx:xb<wr.heap.size:=cell_lt d1;obtain⟨wo,hwo⟩:∃wo:World,wo=wr:=⟨_,rfl⟩
    subst hwo;clear hy hcs hl hd1 d1W
    gi_wp2
    clear c0 c1 d1
    gi_loopw [22] (fun i wi=>∃(j:Nat) (pr:List (InsP W0)),j≤y.list.length∧i = .int .i64 j∧pr.map insOf=(bs.take k).flatMap (·.list)++y.list.take j∧J pr wi∧KeepE n₀ X W wi) (fun i _=>y.list.length - (intOf i).toNat)
    case atStart=>exact⟨0,pre,Nat.zero_le _,rfl,by rw [Hpre.out];simp,HJ.out,Hkp.out⟩
    case round =>
     obtain⟨j,pr,hj,rfl,hpr,hJ,hkp⟩:=hrel;have Hpr:=hid hpr;have HJ2:=hid hJ;have Hkp2:=hid hkp;clear hpr hJ hkp
     by_cases hjl:j<y.list.length
     · have c0:=Hkp2.out.cell HBs.out hBn.1 hBn.2
       have c1:=Hkp2.out.cell HfW.out hfn.1 hfn.2;have d1:=Hkp2.out.cell Hd1.out hxS.1 hxS.2;have z2:Bs<wr.heap.size:=cell_lt c0;have z3:fb<wr.heap.size:=cell_lt c1;have z4:xb<wr.heap.size:=cell_lt d1;obtain⟨lb,loff,cs2,hla,-,hr2,-,hcs2⟩:=Hl.out.get hjl;subst hla;obtain⟨av,rfl,-⟩:=hr2;obtain⟨x,hx⟩:∃x:InsP W0,x=⟨(lb,loff+j * 8,y.list[j]'hjl),⟨av,hcs2⟩⟩:=⟨_,rfl⟩
       have henc:encI x=#[.pointer (some ⟨lb,loff+j * 8,none⟩)]:=by rw [hx];rfl
       have hins:insOf x=y.list[j]'hjl:=by rw [hx];rfl
       obtain ⟨fn, tmps, assign, body, hy, hR⟩ := HY.out pr x wr HJ2.out (by
        have h := congrArg List.length Hpr.out
        rw [List.length_map, List.length_append, List.length_take] at h
        have := HN.out j hjl
        omega)
       rw [henc] at hy;have Hpr2:Hid ((pr++[x]).map insOf=(bs.take k).flatMap (·.list)++y.list.take (j+1)):=by
        show _=_;rw [List.map_append,Hpr.out,List.take_succ_eq_append_getElem hjl,List.append_assoc];show _++(_++[insOf x])=_;rw [hins]
       have HR:=hid hR;clear hcs2 hx henc hins hR
       gi_wp2
       refine HR.out.mono ?_;rintro e W3 (⟨rfl,hJ3,hk3⟩ | ⟨rfl,hJx3⟩)
       · have HJ3:=hid hJ3
         have Hk3:=hid (keepE_t Hkp2.out hk3);clear hJ3 hk3
         gi_wp2
         go_roundw
         case rel=>exact⟨j+1,pr++[x],by omega,by go_num,Hpr2.out,HJ3.out,Hk3.out⟩
         case measure=>simp [intOf];omega
       · have HJ3:=hid hJx3
         clear hJx3
         gi_wp2
         refine bodyPost_ret (results_none rfl _ _ _) rfl ?_;exact⟨⟨_,rfl⟩,.inr ⟨pr++[x],by rw [Hpr2.out];exact Hpx.out _,HJ3.out⟩⟩
     · have hjn:j=y.list.length:=by omega
       have Hpr3:Hid (pr.map insOf=(bs.take (k+1)).flatMap (·.list)):=by
        show _=_;rw [Hpr.out,hjn,List.take_length,Hstep.out]
       clear hjn
       gi_wp2
       go_roundw
       case rel=>exact⟨k+1,pr,by omega,by go_num,Hpr3.out,HJ2.out,Hkp2.out⟩
       case measure=>simp [intOf];omega
  · have hkn:k=bs.length:=by omega
    have Hpr3:Hid (pre.map insOf=bs.flatMap (·.list)):=by
     show _=_;rw [Hpre.out,hkn,List.take_length]
    clear hkn
    gi_wp2
    go_end0;exact⟨⟨_,rfl⟩,.inl ⟨pre,Hpr3.out,HJ.out⟩⟩

theorem each_stops(F:Fence)(n:Nat)(h:F.fn 101)(hro:F.round=none)(hn:1≤n)(Bs n₀ fb fo:Nat)(X:Nat→Prop)(xa:Option Addr)(xc:Nat)(bs:List DBlock)(W0 w:World)
 (hbl:bs.length≤1048576) (hll:∀x∈bs,x.list.length≤1048576)
 (hb:SlAt (fun b=>b<n₀∧¬X b) W0 6 rBlock (.slice xa bs.length xc) bs) (hf:W0.cell? ⟨fb,fo+3,none⟩=some (.slice xa bs.length xc)) (hfn:fb<n₀∧¬X fb) (hBn:Bs<n₀∧¬X Bs)
 (h0:Below W0.heap.size W0 w) (hBs:w.cell? ⟨Bs,0,none⟩=some (.pointer (some ⟨fb,fo,none⟩))) :
 SeqStopsK F n Tryz.prog 101 #[.pointer (some ⟨Bs,0,none⟩)] (encI (W0:=W0)) (KeepE n₀ X) (fun ys=>ys.map insOf=bs.flatMap (·.list)) (fun pre=>pre.map insOf <+: bs.flatMap (·.list)) (bs.flatMap (·.list)).length w :=
 fun l J Jx W hW _ _ hY hJ0 =>
  (each1_in F n h hro hn l Bs n₀ fb fo X xa xc bs W0 hbl hll hb hf hfn hBn J Jx hY W (h0.trans (hW.mono h0.size)) (cell_later' hBs hW) hJ0).mono fun _ _ h=>h

end Go.Proofs.YtnkogppgacappaaGreatDoor

namespace Go.Proofs.YtnkogppgacappaaGreatDoor
open Go.RowKit Go.Shelf

attribute [local go_sem] Oper.semAt_some

def BackP(L:List Int):Type:={ x:Nat×Int // L[x.1]?=some x.2 }
def numOf {L:List Int}(x:BackP L):Int:=x.1.2
def encB {L:List Int}(x:BackP L):Array Value:=#[.int .i64 (x.1.1:Int),.int .i64 x.1.2]
theorem numOf_mem {L:List Int}(x:BackP L):numOf x∈L:=List.mem_of_getElem? x.2

theorem back_in(F:Fence)(n:Nat)(h:F.fn 134)(hro:F.round=none)(a:Option Addr)(m c:Nat)(w:World) :
 CallsIn F n Tryz.prog 134 #[.slice a m c] w fun e w'=>e = .returned (.func (.func 152) #[] #[.pointer (some ⟨w.heap.size,0,none⟩)])∧w'=w.alloc (.cells #[.slice a m c] 33):=by
 refine callsIn_of_wp Tryz.func134 rfl h ?_ hro;simp only [Tryz.ntmps134,List.size_toArray,List.length_cons,List.length_nil,Nat.reduceAdd,Nat.reduceSub,Array.replicate_succ,Array.replicate_zero,List.push_toArray,List.append_toArray,List.nil_append,List.cons_append]
 gi_wp2
 go_ret;exact⟨rfl,rfl⟩

set_option maxRecDepth 100000 in
set_option maxHeartbeats 4000000 in
theorem back1_in(F:Fence)(n:Nat)(h:F.fn 152)(hro:F.round=none)(hn:1≤n)(l Bs n₀:Nat)(X:Nat→Prop)(a:Option Addr)(c:Nat)(L:List Int)(W0:World)
 (hL:L.length≤1048576) (hb:SlAt (fun b=>b<n₀∧¬X b) W0 1 rInt (.slice a L.length c) L) (hBn:Bs<n₀∧¬X Bs)
 (J Jx:List (BackP L)→World→Prop)
 (hY : ∀ pre x W1, J pre W1 → pre.length < L.length → YieldAt F (n - 1) Tryz.prog l (encB x) W1 fun e W' =>
   (e = .returned (.bool true) ∧ J (pre ++ [x]) W' ∧ KeepE n₀ X W1 W') ∨ (e = .returned (.bool false) ∧ Jx (pre ++ [x]) W'))
 (W:World) (hW:Below W0.heap.size W0 W) (hBs:W.cell? ⟨Bs,0,none⟩=some (.slice a L.length c)) (h0:J [] W) :
 CallsIn F n Tryz.prog 152 #[.func (.yield l) #[] #[],.pointer (some ⟨Bs,0,none⟩)] W fun e W'=>(∃v,e = .returned v) ∧
  ((∃ys:List (BackP L),ys.map numOf=L.reverse∧J ys W')∨(∃pre:List (BackP L),pre.map numOf <+: L.reverse∧Jx pre W')):=by
 have Hb:=hid hb;have HY:=hid hY;have HW:=hid hW;have HBs:=hid hBs;have zB:Bs<W.heap.size:=cell_lt hBs;clear hb hY hW;refine callsIn_of_wp Tryz.func152 rfl h ?_ hro;simp only [Tryz.ntmps152,List.size_toArray,List.length_cons,List.length_nil,Nat.reduceAdd,Nat.reduceSub,Array.replicate_succ,Array.replicate_zero,List.push_toArray,List.append_toArray,List.nil_append,List.cons_append]
 gi_wp2
 clear hBs
 gi_loopw [3] (fun i wr=>∃(k:Nat) (pre:List (BackP L)),k≤L.length∧i = .int .i64 ((k:Int) - 1)∧pre.map numOf=(L.drop k).reverse∧J pre wr∧KeepE n₀ X W wr) (fun i _=>(intOf i+1).toNat)
 case atStart=>exact⟨L.length,[],Nat.le_refl _,rfl,by simp,h0,KeepE.refl _ _ _⟩
 case round =>
  obtain⟨k,pre,hk,rfl,hpre,hJ,hkp⟩:=hrel;have Hpre:=hid hpre;have HJ:=hid hJ;have Hkp:=hid hkp;have c0:=hkp.cell HBs.out hBn.1 hBn.2;have z0:Bs<wr.heap.size:=cell_lt c0;clear hpre hJ hkp;cases k with
  | zero =>
    have Hpr:Hid (pre.map numOf=L.reverse):=by show _=_;rw [Hpre.out,List.drop_zero]
    have e0:((0:Nat):Int) - 1 = -1:=rfl;rw [e0];clear e0
    gi_wp2
    go_end0;exact⟨⟨_,rfl⟩,.inl ⟨pre,Hpr.out,HJ.out⟩⟩
  | succ k =>
    have hkl:k<L.length:=hk;have e0:((k+1:Nat):Int) - 1=(k:Int):=by omega
    rw [e0];obtain⟨xb,xoff,cs,hxa,hxS,⟨rfl,-⟩,-,hcs⟩:=Hb.out.get hkl;subst hxa;have hd:=hcs.get1;rw [Nat.mul_one] at hd;obtain⟨y,hy⟩:∃y,y=L[k]:=⟨_,rfl⟩
    rw [←hy] at hd;have d0:=Hkp.out.cell (cell_later' hd HW.out) hxS.1 hxS.2;have zx:xb<wr.heap.size:=cell_lt d0;obtain⟨x,hx⟩:∃x:BackP L,x=⟨(k,y),by rw [hy];exact List.getElem?_eq_getElem hkl⟩:=⟨_,rfl⟩
    have henc:encB x=#[.int .i64 (k:Int),.int .i64 y]:=by rw [hx];rfl
    have hnum:numOf x=y:=by rw [hx];rfl
    have hlen:pre.length<L.length:=by
     have h:=congrArg List.length Hpre.out;rw [List.length_map,List.length_reverse,List.length_drop] at h;omega
    obtain⟨fn,tmps,assign,body,hyy,hR⟩:=HY.out pre x wr HJ.out hlen;rw [henc] at hyy;have Hpr2:Hid ((pre++[x]).map numOf=(L.drop k).reverse):=by
     show _=_;rw [List.map_append,Hpre.out,List.drop_eq_getElem_cons hkl,List.reverse_cons];show _++[numOf x]=_;rw [hnum,hy]
    have Hpx:Hid ((L.drop k).reverse <+: L.reverse):=List.reverse_prefix.2 (List.drop_suffix k L);have HR:=hid hR;clear hcs hx henc hnum hR hd hy hlen e0
    gi_wp2
    refine HR.out.mono ?_;rintro e W3 (⟨rfl,hJ3,hk3⟩ | ⟨rfl,hJx3⟩)
    · have HJ3:=hid hJ3
      have Hk3:=hid (keepE_t Hkp.out hk3);clear hJ3 hk3
      gi_wp2
      go_roundw
      case rel=>exact⟨k,pre++[x],by omega,rfl,Hpr2.out,HJ3.out,Hk3.out⟩
      case measure=>simp [intOf]
    · have HJ3:=hid hJx3
      clear hJx3
      gi_wp2
      refine bodyPost_ret (results_none rfl _ _ _) rfl ?_;exact⟨⟨_,rfl⟩,.inr ⟨pre++[x],by rw [Hpr2.out];exact Hpx.out,HJ3.out⟩⟩

theorem back_stops(F:Fence)(n:Nat)(h:F.fn 152)(hro:F.round=none)(hn:1≤n)(Bs n₀:Nat)(X:Nat→Prop)(a:Option Addr)(c:Nat)(L:List Int)(W0 w:World)
 (hL:L.length≤1048576) (hb:SlAt (fun b=>b<n₀∧¬X b) W0 1 rInt (.slice a L.length c) L) (hBn:Bs<n₀∧¬X Bs) (h0:Below W0.heap.size W0 w) (hBs:w.cell? ⟨Bs,0,none⟩=some (.slice a L.length c)) :
 SeqStopsK F n Tryz.prog 152 #[.pointer (some ⟨Bs,0,none⟩)] (encB (L:=L)) (KeepE n₀ X) (fun ys=>ys.map numOf=L.reverse) (fun pre=>pre.map numOf <+: L.reverse) L.length w :=
 fun l J Jx W hW _ _ hY hJ0 =>
  (back1_in F n h hro hn l Bs n₀ X a c L W0 hL hb hBn J Jx hY W (h0.trans (hW.mono h0.size)) (cell_later' hBs hW) hJ0).mono fun _ _ h=>h

end Go.Proofs.YtnkogppgacappaaGreatDoor
