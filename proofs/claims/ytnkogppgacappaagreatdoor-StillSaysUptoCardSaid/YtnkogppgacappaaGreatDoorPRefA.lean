/- Contracts of the three closures of the checker's ins, and of code.first over them. The contract of the checker's phi. Whence one comes: plain lists; and a family of rows that the call itself owns. turneryref6.unrollAhead: the blocks that lead to a block. -/
import Derived.Test.YtnkogppgacappaaGreatDoorPEq
import Derived.Deep.QuietTactic
import Derived.BigQuiet
import Derived.Maps.AppendAt
import Derived.Deep.OwnRows
import Derived.Test.YtnkogppgacappaaGreatDoorPCloneR
namespace Go.Proofs.YtnkogppgacappaaGreatDoor
open Go.RowKit

set_option maxHeartbeats 400000 in
theorem ins1_any (cb xb : Nat) (g f nm ps : Value) (regs : Int) (ba : Option Addr) (bn bc : Nat) (aa : Option Addr) (an ac : Nat) (v : DVal) (w : World) (h0 : 0 ≤ regs) (h1 : regs ≤ 100)
 (ga:Option Addr) (gn gc:Nat) (fa:Option Addr) (fn fc:Nat) (s:ByteArray) (p:Int) (hg:g = .slice ga gn gc) (hf:f = .slice fa fn fc) (hnm:nm = .string s) (hps:ps = .int .i64 p)
 (hc:CellsAt w cb 0 [g,f,nm,ps,.int .i64 regs,.slice ba bn bc,.slice aa an ac]) (hr:w.cell? ⟨xb,2,none⟩=some (.bool v.reg)) (hn:w.cell? ⟨xb,3,none⟩=some (.int .i64 v.n)) :
 Calls Tryz.prog 87 #[.pointer (some ⟨cb,0,none⟩),.pointer (some ⟨xb,0,none⟩)] w fun e w'=>e = .returned (.int .i64 (valE regs v))∧Below w.heap.size w w':=by
 subst hg hf hnm hps;obtain⟨c0,c1,c2,c3,c4,c5,c6⟩:=hc.get7;simp only [Nat.zero_add] at c1 c2 c3 c4 c5 c6;clear hc;go_enter Tryz.func87,Tryz.ntmps87;go_wp2_with (go_at_call 83;((with_reducible refine (val_any _ _ _ _ _ _ _ _ _ _ h0 h1).mono ?_);rintro e w1 ⟨rfl,hb1⟩));go_ret;exact⟨rfl,by (have hz0:=(hb1).size;have hy0:=hz0;(try simp at hy0);repeat (first | exact Below.refl _ _ | refine Below.trans ?_ ((hb1).mono (by first|omega|(simp<;>omega))) | refine Below.alloc ?_ (by first|omega|(simp<;>omega)) _ | refine Below.setCell ?_ (by first|omega|(simp<;>omega)) _ | refine below_drewN ?_ _ | refine Below.drew ?_))⟩
set_option maxHeartbeats 400000 in
theorem ins2_any (cb xb : Nat) (g f nm ps : Value) (regs : Int) (ba : Option Addr) (bn bc : Nat) (aa : Option Addr) (an ac : Nat) (v : DVal) (w : World) (h0 : 0 ≤ regs) (h1 : regs ≤ 100)
 (ga:Option Addr) (gn gc:Nat) (fa:Option Addr) (fn fc:Nat) (s:ByteArray) (p:Int) (hg:g = .slice ga gn gc) (hf:f = .slice fa fn fc) (hnm:nm = .string s) (hps:ps = .int .i64 p)
 (hc:CellsAt w cb 0 [g,f,nm,ps,.int .i64 regs,.slice ba bn bc,.slice aa an ac]) (hr:w.cell? ⟨xb,4,none⟩=some (.bool v.reg)) (hn:w.cell? ⟨xb,5,none⟩=some (.int .i64 v.n)) :
 Calls Tryz.prog 88 #[.pointer (some ⟨cb,0,none⟩),.pointer (some ⟨xb,0,none⟩)] w fun e w'=>e = .returned (.int .i64 (valE regs v))∧Below w.heap.size w w':=by
 subst hg hf hnm hps;obtain⟨c0,c1,c2,c3,c4,c5,c6⟩:=hc.get7;simp only [Nat.zero_add] at c1 c2 c3 c4 c5 c6;clear hc;go_enter Tryz.func88,Tryz.ntmps88;go_wp2_with (go_at_call 83;((with_reducible refine (val_any _ _ _ _ _ _ _ _ _ _ h0 h1).mono ?_);rintro e w1 ⟨rfl,hb1⟩));go_ret;exact⟨rfl,by (have hz0:=(hb1).size;have hy0:=hz0;(try simp at hy0);repeat (first | exact Below.refl _ _ | refine Below.trans ?_ ((hb1).mono (by first|omega|(simp<;>omega))) | refine Below.alloc ?_ (by first|omega|(simp<;>omega)) _ | refine Below.setCell ?_ (by first|omega|(simp<;>omega)) _ | refine below_drewN ?_ _ | refine Below.drew ?_))⟩

theorem valE_or(regs:Int)(v:DVal):valE regs v=0∨valE regs v=3:=by unfold valE;split <;> simp
def argsE(regs:Int)(l:List DVal):Int:=if l.any (fun v=>decide (valE regs v≠0)) then 3 else 0
theorem argsE_zero {regs:Int}{l:List DVal}(h:∀j:Nat,∀x,l[j]?=some x→valE regs x=0):argsE regs l=0:=by
 unfold argsE;rw [if_neg];intro h';obtain⟨x,hx,hv⟩:=List.any_eq_true.1 h';obtain⟨j,hj⟩:=List.getElem?_of_mem hx;exact of_decide_eq_true hv (h j x hj)
theorem argsE_bad {regs:Int}{l:List DVal}{j:Nat}{x:DVal}(h:l[j]?=some x)(hv:valE regs x≠0):argsE regs l=valE regs x:=by
 unfold argsE;rw [if_pos (List.any_eq_true.2 ⟨x,List.mem_of_getElem? h,decide_eq_true hv⟩)];rcases valE_or regs x with h | h
 · exact absurd h hv
 · exact h.symm

def callE(fs:List DFunc)(regs:Int)(x:DIns):Int :=
 if x.op≠20 then 0
 else if ¬(0≤x.fn∧x.fn≤(fs.length:Int) - 1) then 3
 else if (x.args.length:Int)≠(fs.getD x.fn.toNat ⟨ByteArray.empty,0,0,[]⟩).params then 9
 else argsE regs x.args

set_option maxHeartbeats 1000000 in
theorem ins3_any {S S' : Nat → Prop} (cb xb kb : Nat) (g nm ps : Value) (fs : List DFunc) (regs : Int) (ba : Option Addr) (bn bc : Nat) (aa : Option Addr) (an ac : Nat) (x : DIns) (w : World) (h0 : 0 ≤ regs) (h1 : regs ≤ 100)
 (ga:Option Addr) (gn gc:Nat) (fa:Option Addr) (fc:Nat) (ra:Option Addr) (rc:Nat) (s:ByteArray) (p:Int) (hg:g = .slice ga gn gc) (hnm:nm = .string s) (hps:ps = .int .i64 p)
 (hc:CellsAt w cb 0 [g,.slice fa fs.length fc,nm,ps,.int .i64 regs,.slice ba bn bc,.slice aa an ac])
 (hk:w.cell? ⟨kb,0,none⟩=some (.bool (decide (x.op=20))))
 (hfn:w.cell? ⟨xb,6,none⟩=some (.int .i64 x.fn)) (har:w.cell? ⟨xb,7,none⟩=some (.slice ra x.args.length rc))
 (hfs:SlAt S w 4 rFunc (.slice fa fs.length fc) fs) (has:SlAt S' w 2 rVal (.slice ra x.args.length rc) x.args) (hfl:fs.length≤1048576) :
 Calls Tryz.prog 89 #[.pointer (some ⟨kb,0,none⟩),.pointer (some ⟨xb,0,none⟩),.pointer (some ⟨cb,0,none⟩)] w fun e w' =>
  e = .returned (.int .i64 (callE fs regs x))∧Below w.heap.size w w':=by
 subst hg hnm hps;have Hc:=hid hc;obtain⟨c0,c1,c2,c3,c4,c5,c6⟩:=hc.get7;simp only [Nat.zero_add] at c1 c2 c3 c4 c5 c6;have Hfs:=hid hfs;have Has:=hid has;obtain⟨_,_,ha1,ha2⟩:=has.val;cases ha1;clear hc hfs has
 by_cases hop:x.op=20
 case neg =>
  have Hr:=hid (show callE fs regs x=0 by simp [callE,hop]);rw [decide_eq_false hop] at hk;clear hop;go_enter Tryz.func89,Tryz.ntmps89;go_wp2_with fail;go_ret;exact⟨ret_int Hr.out.symm,by (repeat (first | exact Below.refl _ _ | refine Below.alloc ?_ (by first|omega|(simp<;>omega)) _ | refine Below.setCell ?_ (by first|omega|(simp<;>omega)) _ | refine below_drewN ?_ _ | refine Below.drew ?_))⟩
 rw [decide_eq_true hop] at hk
 by_cases hin:0≤x.fn∧x.fn≤(fs.length:Int) - 1
 case neg =>
  have Hr:=hid (show callE fs regs x=3 by simp only [callE,hop,hin];simp);clear hop;go_enter Tryz.func89,Tryz.ntmps89;go_wp2_with (go_at_call 22;((with_reducible refine (within_any _ _ _ _).mono ?_);rintro e w' ⟨rfl,rfl⟩));go_ret;exact⟨ret_int Hr.out.symm,by (repeat (first | exact Below.refl _ _ | refine Below.alloc ?_ (by first|omega|(simp<;>omega)) _ | refine Below.setCell ?_ (by first|omega|(simp<;>omega)) _ | refine below_drewN ?_ _ | refine Below.drew ?_))⟩
 obtain⟨n,hn⟩:=Int.eq_ofNat_of_zero_le hin.1;have hnl:n<fs.length:=by omega
 obtain⟨b,off,cs,rfl,-,hx,-,hcs⟩:=Hfs.out.get hnl;obtain⟨fba,fbc,rfl,-,-,hpb,-⟩:=hx.opens;obtain⟨d0,d1,d2,d3⟩:=hcs.get4;have hgd:(fs.getD x.fn.toNat ⟨ByteArray.empty,0,0,[]⟩).params=fs[n].params:=by
  rw [hn,Int.toNat_natCast,List.getD_eq_getElem?_getD,List.getElem?_eq_getElem hnl];rfl
 have Hgd:=hid hgd;have Hop:=hid hop;have Hin:=hid hin;have Hn:=hid hn;rw [hn] at hfn;clear hgd hop hin hn hcs hx;unfold I64 at hpb
 by_cases hlen:(x.args.length:Int)=fs[n].params
 case neg =>
  have Hr:=hid (show callE fs regs x=9 by simp only [callE,Hop.out,Hin.out,Hgd.out];simp [hlen]);have hlen':(x.args.length:Int)<fs[n].params∨fs[n].params<(x.args.length:Int):=by omega
  clear hlen;go_enter Tryz.func89,Tryz.ntmps89;go_wp2_with (go_at_call 22;((with_reducible refine (within_any _ _ _ _).mono ?_);rintro e w' ⟨rfl,rfl⟩));go_quiet (fail);go_wp2_with fail;go_ret;exact⟨ret_int Hr.out.symm,by (repeat (first | exact Below.refl _ _ | refine Below.alloc ?_ (by first|omega|(simp<;>omega)) _ | refine Below.setCell ?_ (by first|omega|(simp<;>omega)) _ | refine below_drewN ?_ _ | refine Below.drew ?_))⟩
 have Hr:=hid (show callE fs regs x=argsE regs x.args by simp only [callE,Hop.out,Hin.out,Hgd.out];simp [hlen]);have hq:(decide ((n:Int)≤(fs.length:Int) - 1))=true:=by rw [decide_eq_true_iff];omega
 have hl1:(x.args.length:Int)≤fs[n].params:=by omega
 have hl2:fs[n].params≤(x.args.length:Int):=by omega
 clear hlen;go_enter Tryz.func89,Tryz.ntmps89;go_wp2_with (go_at_call 22;((with_reducible refine (within_any _ _ _ _).mono ?_);rintro e w' ⟨rfl,rfl⟩));go_quiet (fail);go_wp2_with fail;go_loopw [36] (fun i wr=>∃k:Nat,k≤x.args.length∧i = .int .i64 k∧(∀j,j<k→∀y,x.args[j]?=some y→valE regs y=0)∧Below w.heap.size w wr) (fun i _=>x.args.length - (intOf i).toNat)
 case atStart=>exact⟨0,Nat.zero_le _,rfl,fun j hj=>by omega,by (repeat (first | exact Below.refl _ _ | refine Below.alloc ?_ (by first|omega|(simp<;>omega)) _ | refine Below.setCell ?_ (by first|omega|(simp<;>omega)) _ | refine below_drewN ?_ _ | refine Below.drew ?_))⟩
 case round =>
  obtain⟨k,hk,rfl,hall,hbl⟩:=hrel;have Hall:=hid hall;have Hbl:=hid hbl;clear hall hbl
  by_cases hlt:k<x.args.length
  · obtain⟨b2,off2,cs,rfl,-,⟨rfl,-⟩,-,hcs⟩:=(Has.out.later rVal_mono Hbl.out).get hlt
    obtain⟨e0,e1⟩:=hcs.get2;clear hcs;obtain⟨g0,g1,g2,g3,g4,g5,g6⟩:=(Hc.out.later Hbl.out).get7;simp only [Nat.zero_add] at g1 g2 g3 g4 g5 g6;have hcb:=cell_lt g0;have hsz:=Hbl.out.size
    by_cases hv:valE regs x.args[k]=0
    · go_wp2_with (go_at_call 83;((with_reducible refine (val_any _ _ _ _ _ _ _ _ _ _ h0 h1).mono ?_);rintro e w1 ⟨rfl,hb1⟩))
      go_roundw
      case rel=>exact⟨k+1,by omega,by go_num,ext_lt Hall.out (fun y hy=>by rw [List.getElem?_eq_getElem hlt] at hy;cases hy;exact hv),by have h:=Hbl.out;(have hz0:=(hb1).size;have hy0:=hz0;(try simp at hy0);have hz1:=(h).size;have hy1:=hz1;(try simp at hy1);repeat (first | exact Below.refl _ _ | refine Below.trans ?_ ((hb1).mono (by first|omega|(simp<;>omega))) | refine Below.trans ?_ ((h).mono (by first|omega|(simp<;>omega))) | refine Below.alloc ?_ (by first|omega|(simp<;>omega)) _ | refine Below.setCell ?_ (by first|omega|(simp<;>omega)) _ | refine below_drewN ?_ _ | refine Below.drew ?_))⟩
      case measure=>simp [intOf];omega
    · have Ha:=hid (argsE_bad (List.getElem?_eq_getElem hlt) hv)
      have hv3:valE regs x.args[k]=3:=(valE_or _ _).resolve_left hv;go_wp2_with (go_at_call 83;((with_reducible refine (val_any _ _ _ _ _ _ _ _ _ _ h0 h1).mono ?_);rintro e w1 ⟨rfl,hb1⟩));go_ret;exact⟨ret_int (by rw [Hr.out,Ha.out,hv3]),by have h:=Hbl.out;(have hz0:=(hb1).size;have hy0:=hz0;(try simp at hy0);have hz1:=(h).size;have hy1:=hz1;(try simp at hy1);repeat (first | exact Below.refl _ _ | refine Below.trans ?_ ((hb1).mono (by first|omega|(simp<;>omega))) | refine Below.trans ?_ ((h).mono (by first|omega|(simp<;>omega))) | refine Below.alloc ?_ (by first|omega|(simp<;>omega)) _ | refine Below.setCell ?_ (by first|omega|(simp<;>omega)) _ | refine below_drewN ?_ _ | refine Below.drew ?_))⟩
  · have Ha:=hid (argsE_zero (regs:=regs) (l:=x.args) (fun j y hy=>Hall.out j (by have:=(List.getElem?_eq_some_iff.1 hy).1;omega) y hy))
    go_wp2_with fail;go_ret;exact⟨ret_int (by rw [Hr.out,Ha.out]),by have h:=Hbl.out;(have hz0:=(h).size;have hy0:=hz0;(try simp at hy0);repeat (first | exact Below.refl _ _ | refine Below.trans ?_ ((h).mono (by first|omega|(simp<;>omega))) | refine Below.alloc ?_ (by first|omega|(simp<;>omega)) _ | refine Below.setCell ?_ (by first|omega|(simp<;>omega)) _ | refine below_drewN ?_ _ | refine Below.drew ?_))⟩

end Go.Proofs.YtnkogppgacappaaGreatDoor

namespace Go.Proofs.YtnkogppgacappaaGreatDoor
open Go.RowKit

def rRow:Rp (List Int):=fun S w cs l=>∃v,cs=[v]∧SlAt S w 1 rInt v l
theorem rRow_mono:rRow.Mono:=⟨fun _ _ _ _ _ _ hS hw ⟨v,h1,h2⟩=>⟨v,h1,h2.mono rInt_mono hS hw⟩⟩

theorem dstE_or(regs n:Int):dstE regs n=0∨dstE regs n=3:=by unfold dstE;split <;> simp

def phiE(regs:Int)(block:Nat)(ahead:List (List Int))(p:DPhi):Int :=
 if block=0 then 5
 else if dstE regs p.dst≠0 then 3
 else if p.src.length≠(ahead.getD block []).length then 9
 else argsE regs p.src

set_option maxHeartbeats 1000000 in
theorem phi_any {S S' : Nat → Prop} (ga : Option Addr) (gn gc : Nat) (fa : Option Addr) (fn fc : Nat) (s : ByteArray) (p regs : Int) (ba : Option Addr) (bn bc : Nat) (aa : Option Addr) (ac : Nat) (ahead : List (List Int)) (x : DPhi) (ra : Option Addr) (rc : Nat) (k : Nat) (w : World)
 (h0:0≤regs) (h1:regs≤100) (hah:SlAt S w 1 rRow (.slice aa ahead.length ac) ahead) (has:SlAt S' w 2 rVal (.slice ra x.src.length rc) x.src) (hk:k<ahead.length) (_hal:ahead.length≤1048576) :
 Calls Tryz.prog 50 #[.agg #[.slice ga gn gc,.slice fa fn fc,.string s,.int .i64 p,.int .i64 regs,.slice ba bn bc,.slice aa ahead.length ac],.int .i64 k,.agg #[.int .i64 x.dst,.slice ra x.src.length rc]] w fun e w' =>
  e = .returned (.int .i64 (phiE regs k ahead x))∧Below w.heap.size w w':=by
 have Has:=hid has;obtain⟨_,_,ha1,ha2⟩:=has.val;cases ha1;have Hah:=hid hah;clear has
 by_cases hk0:k=0
 · subst hk0
   have Hr:=hid (show phiE regs 0 ahead x=5 by simp [phiE]);clear hah;go_enter Tryz.func50,Tryz.ntmps50;go_wp2_with fail;go_ret;exact⟨ret_int Hr.out.symm,by (repeat (first | exact Below.refl _ _ | refine Below.alloc ?_ (by first|omega|(simp<;>omega)) _ | refine Below.setCell ?_ (by first|omega|(simp<;>omega)) _ | refine below_drewN ?_ _ | refine Below.drew ?_))⟩
 have hk1:(0:Int)<k:=by omega
 have Hk0:=hid hk0;clear hk0
 by_cases hd:dstE regs x.dst=0
 case neg =>
  have hd3:dstE regs x.dst=3:=(dstE_or _ _).resolve_left hd;have Hr:=hid (show phiE regs k ahead x=3 by simp only [phiE,Hk0.out,hd3];simp);clear hah hd;go_enter Tryz.func50,Tryz.ntmps50;go_wp2_with (go_at_call 84;((with_reducible refine (dst_any _ _ _ _ _ _ _ _ _ h0 h1).mono ?_);rintro e w1 ⟨rfl,hb1⟩));go_ret;exact⟨ret_int Hr.out.symm,by (have hz0:=(hb1).size;have hy0:=hz0;(try simp at hy0);repeat (first | exact Below.refl _ _ | refine Below.trans ?_ ((hb1).mono (by first|omega|(simp<;>omega))) | refine Below.alloc ?_ (by first|omega|(simp<;>omega)) _ | refine Below.setCell ?_ (by first|omega|(simp<;>omega)) _ | refine below_drewN ?_ _ | refine Below.drew ?_))⟩
 obtain⟨b,off,cs,rfl,-,⟨v,rfl,hv⟩,-,hcs⟩:=hah.get hk;obtain⟨va,vc,rfl,hvm⟩:=hv.val;have hcell:=hcs.get1;have hbl:=cell_lt hcell;simp only [Nat.mul_one] at hcell;have hgd:ahead.getD k []=ahead[k]:=by rw [List.getD_eq_getElem?_getD,List.getElem?_eq_getElem hk];rfl
 have Hgd:=hid hgd;clear hah hcs hv hgd
 by_cases hlen:x.src.length=ahead[k].length
 case neg =>
  have Hr:=hid (show phiE regs k ahead x=9 by simp only [phiE,Hk0.out,hd,Hgd.out];simp [hlen]);have hlen':(x.src.length:Int)<ahead[k].length∨(ahead[k].length:Int)<x.src.length:=by omega
  clear hlen;go_enter Tryz.func50,Tryz.ntmps50;go_wp2_with (go_at_call 84;((with_reducible refine (dst_any _ _ _ _ _ _ _ _ _ h0 h1).mono ?_);rintro e w1 ⟨rfl,hb1⟩;obtain⟨hc1,hf1⟩:=below_cells hb1;have hz1:w.heap.size+1<w1.heap.size:=(by have:=hb1.size;simp at this;omega);have hz0:w.heap.size<w1.heap.size:=(by omega);have hcell1:=cell_later' hcell (Below.trans (by (repeat (first | exact Below.refl _ _ | refine Below.alloc ?_ (by first|omega|(simp<;>omega)) _ | refine Below.setCell ?_ (by first|omega|(simp<;>omega)) _ | refine below_drewN ?_ _ | refine Below.drew ?_))) (hb1.mono (by simp;omega)))));go_quiet (fail);go_wp2_with fail;go_ret;exact⟨ret_int Hr.out.symm,by (have hz0:=(hb1).size;have hy0:=hz0;(try simp at hy0);repeat (first | exact Below.refl _ _ | refine Below.trans ?_ ((hb1).mono (by first|omega|(simp<;>omega))) | refine Below.alloc ?_ (by first|omega|(simp<;>omega)) _ | refine Below.setCell ?_ (by first|omega|(simp<;>omega)) _ | refine below_drewN ?_ _ | refine Below.drew ?_))⟩
 have Hr:=hid (show phiE regs k ahead x=argsE regs x.src by simp only [phiE,Hk0.out,hd,Hgd.out];simp [hlen]);have hq:=ne_noN hlen;clear hlen;go_enter Tryz.func50,Tryz.ntmps50;go_wp2_with (go_at_call 84;((with_reducible refine (dst_any _ _ _ _ _ _ _ _ _ h0 h1).mono ?_);rintro e w1 ⟨rfl,hb1⟩;obtain⟨hc1,hf1⟩:=below_cells hb1;have hz1:w.heap.size+1<w1.heap.size:=(by have:=hb1.size;simp at this;omega);have hz0:w.heap.size<w1.heap.size:=(by omega);have hcell1:=cell_later' hcell (Below.trans (by (repeat (first | exact Below.refl _ _ | refine Below.alloc ?_ (by first|omega|(simp<;>omega)) _ | refine Below.setCell ?_ (by first|omega|(simp<;>omega)) _ | refine below_drewN ?_ _ | refine Below.drew ?_))) (hb1.mono (by simp;omega)))));go_quiet (fail);go_wp2_with fail;go_loopw [33] (fun i wr=>∃k:Nat,k≤x.src.length∧i = .int .i64 k∧(∀j,j<k→∀y,x.src[j]?=some y→valE regs y=0)∧Below (w.heap.size+2) w1 wr) (fun i _=>x.src.length - (intOf i).toNat)
 case atStart=>exact⟨0,Nat.zero_le _,rfl,fun j hj=>by omega,by (repeat (first | exact Below.refl _ _ | refine Below.alloc ?_ (by first|omega|(simp<;>omega)) _ | refine Below.setCell ?_ (by first|omega|(simp<;>omega)) _ | refine below_drewN ?_ _ | refine Below.drew ?_))⟩
 case round =>
  obtain⟨k',hk,rfl,hall,hbl⟩:=hrel;have Hall:=hid hall;have hwr:Below w.heap.size w wr:=((by (repeat (first | exact Below.refl _ _ | refine Below.alloc ?_ (by first|omega|(simp<;>omega)) _ | refine Below.setCell ?_ (by first|omega|(simp<;>omega)) _ | refine below_drewN ?_ _ | refine Below.drew ?_)):Below w.heap.size w ((w.alloc (.cells #[.slice ga gn gc,.slice fa fn fc,.string s,.int .i64 p,.int .i64 regs,.slice ba bn bc,.slice (some ⟨b,off,none⟩) ahead.length ac] 53)).alloc (.cells #[.int .i64 x.dst,.slice ra x.src.length rc] 94)))).trans ((hb1.mono (by simp;omega)).trans (hbl.mono (by omega)));have Hwr:=hid hwr;have Hbl:=hid hbl;obtain⟨hc2,hf2⟩:=below_cells hbl;have hsz:=hbl.size;have hsz1:w.heap.size<wr.heap.size:=by omega
  have hsz2:w.heap.size+1<wr.heap.size:=by omega
  clear hall hwr hbl
  by_cases hlt:k'<x.src.length
  · obtain⟨b2,off2,cs,rfl,-,⟨rfl,-⟩,-,hcs⟩:=(Has.out.later rVal_mono Hwr.out).get hlt
    obtain⟨e0,e1⟩:=hcs.get2;have hb2lt:=cell_lt e0;clear hcs;have e0':=hid e0
    by_cases hv:valE regs x.src[k']=0
    · go_wp2_with (go_at_call 83;((with_reducible refine (val_any _ _ _ _ _ _ _ _ _ _ h0 h1).mono ?_);rintro e w2 ⟨rfl,hb2⟩))
      go_roundw
      case rel=>exact⟨k'+1,by omega,by go_num,ext_lt Hall.out (fun y hy=>by rw [List.getElem?_eq_getElem hlt] at hy;cases hy;exact hv),by have h:=Hbl.out;(have hz0:=(hb2).size;have hy0:=hz0;(try simp at hy0);have hz1:=(h).size;have hy1:=hz1;(try simp at hy1);repeat (first | exact Below.refl _ _ | refine Below.trans ?_ ((hb2).mono (by first|omega|(simp<;>omega))) | refine Below.trans ?_ ((h).mono (by first|omega|(simp<;>omega))) | refine Below.alloc ?_ (by first|omega|(simp<;>omega)) _ | refine Below.setCell ?_ (by first|omega|(simp<;>omega)) _ | refine below_drewN ?_ _ | refine Below.drew ?_))⟩
      case measure=>simp [intOf];omega
    · have Ha:=hid (argsE_bad (List.getElem?_eq_getElem hlt) hv)
      have hv3:valE regs x.src[k']=3:=(valE_or _ _).resolve_left hv;go_wp2_with (go_at_call 83;((with_reducible refine (val_any _ _ _ _ _ _ _ _ _ _ h0 h1).mono ?_);rintro e w2 ⟨rfl,hb2⟩));go_ret;exact⟨ret_int (by rw [Hr.out,Ha.out,hv3]),by have h:=Hwr.out;(have hz0:=(hb2).size;have hy0:=hz0;(try simp at hy0);have hz1:=(h).size;have hy1:=hz1;(try simp at hy1);repeat (first | exact Below.refl _ _ | refine Below.trans ?_ ((hb2).mono (by first|omega|(simp<;>omega))) | refine Below.trans ?_ ((h).mono (by first|omega|(simp<;>omega))) | refine Below.alloc ?_ (by first|omega|(simp<;>omega)) _ | refine Below.setCell ?_ (by first|omega|(simp<;>omega)) _ | refine below_drewN ?_ _ | refine Below.drew ?_))⟩
  · have Ha:=hid (argsE_zero (regs:=regs) (l:=x.src) (fun j y hy=>Hall.out j (by have:=(List.getElem?_eq_some_iff.1 hy).1;omega) y hy))
    go_wp2_with fail;go_ret;exact⟨ret_int (by rw [Hr.out,Ha.out]),by have h:=Hwr.out;(have hz0:=(h).size;have hy0:=hz0;(try simp at hy0);repeat (first | exact Below.refl _ _ | refine Below.trans ?_ ((h).mono (by first|omega|(simp<;>omega))) | refine Below.alloc ?_ (by first|omega|(simp<;>omega)) _ | refine Below.setCell ?_ (by first|omega|(simp<;>omega)) _ | refine below_drewN ?_ _ | refine Below.drew ?_))⟩

end Go.Proofs.YtnkogppgacappaaGreatDoor

namespace Go.Proofs.YtnkogppgacappaaGreatDoor
open Go.RowKit

def hits(to:List Int)(t:Nat)(i:Nat):List Int:=(to.filter fun x:Int=>decide (x=(t:Int))).map fun _=>(i:Int)
def predsOf : List DBlock → Nat → Nat → List Int
 | [],_,_=>[]
 | b :: r,s,t=>hits b.fin.to t s++predsOf r (s+1) t
def aheadF(l:List DBlock):List (List Int):=(List.range l.length).map fun t=>predsOf l 0 t
theorem predsOf_append(l r:List DBlock)(s t:Nat):predsOf (l++r) s t=predsOf l s t++predsOf r (s+l.length) t:=by
 induction l generalizing s with
 | nil=>simp [predsOf]
 | cons b l ih=>simp only [List.cons_append,predsOf,ih,List.append_assoc,List.length_cons];rw [show s+1+l.length=s+(l.length+1) by omega]
theorem predsOf_take(l:List DBlock)(k t:Nat)(h:k<l.length):predsOf (l.take (k+1)) 0 t=predsOf (l.take k) 0 t++hits l[k].fin.to t k:=by
 rw [List.take_succ_eq_append_getElem h,predsOf_append];simp [predsOf,List.length_take,Nat.min_eq_left (Nat.le_of_lt h)]
theorem hits_take(to:List Int)(j t i:Nat)(h:j<to.length):hits (to.take (j+1)) t i=hits (to.take j) t i++if to[j]=(t:Int) then [(i:Int)] else []:=by
 unfold hits;rw [List.take_succ_eq_append_getElem h,List.filter_append,List.map_append]
 congr 1
 by_cases hc:to[j]=(t:Int) <;> simp [hc]
theorem hits_len(to:List Int)(t i:Nat):(hits to t i).length≤to.length:=by
 unfold hits;rw [List.length_map];exact List.length_filter_le _ _

theorem predsOf_le(l:List DBlock)(m:Nat)(h:∀(i:Nat) (x:DBlock),l[i]?=some x→x.fin.to.length≤m)(k s t:Nat):(predsOf (l.take k) s t).length≤m * l.length:=by
 induction l generalizing k s with
 | nil=>simp [predsOf]
 | cons b l ih =>
   cases k with
   | zero=>simp [predsOf]
   | succ k =>
     have h1:=ih (fun i x hx=>h (i+1) x hx) k (s+1);have h2:=hits_len b.fin.to t s;have h3:=h 0 b rfl;simp only [List.take_succ_cons,predsOf,List.length_append,List.length_cons,Nat.mul_add,Nat.mul_one];omega
theorem hits_mem {to:List Int}{t i:Nat}{x:Int}(h:x∈hits to t i):x=i:=by
 unfold hits at h;obtain⟨_,_,h⟩:=List.mem_map.1 h;exact h.symm
theorem predsOf_mem {l:List DBlock}{s t:Nat}{x:Int}(h:x∈predsOf l s t):0≤x∧x<s+l.length:=by
 induction l generalizing s with
 | nil=>simp [predsOf] at h
 | cons b l ih =>
   simp only [predsOf,List.mem_append] at h;rcases h with h | h
   · have:=hits_mem h;simp only [List.length_cons];omega
   · have:=ih h;simp only [List.length_cons];omega

structure Fam (w:World)(base:Nat)(e:TypeId)(n:Nat)(V:Nat→Value)(R:Nat→List Value):Prop where
 own:∀t,t<n→w.ownsRow base e 1 (V t) (R t).length (R t)
 apart:∀t u k,t<n→u<n→t≠u→(V t).ownBlock=some k→(V u).ownBlock≠some k

theorem Fam.grown {w w':World}{base:Nat}{e:TypeId}{n:Nat}{V:Nat→Value}{R:Nat→List Value}(h:Fam w base e n V R)(hg:w.grownBy w' none):Fam w' base e n V R :=
 ⟨fun t ht=>(h.own t ht).kept hg (by cases (V t).ownBlock <;> simp),h.apart⟩
theorem Fam.alloc {w:World}{base:Nat}{e:TypeId}{n:Nat}{V:Nat→Value}{R:Nat→List Value}(h:Fam w base e n V R)(o:Obj):Fam (w.alloc o) base e n V R :=
 h.grown (World.grownBy_alloc _ _ _)
theorem Fam.setBelow {w:World}{base:Nat}{e:TypeId}{n:Nat}{V:Nat→Value}{R:Nat→List Value}(h:Fam w base e n V R){a:Addr}(ha:a.block<base)(u:Value):Fam (w.setCell a u) base e n V R :=
 ⟨fun t ht=>ownsRow_setCell_below (h.own t ht) ha u,h.apart⟩
theorem Fam.push {w w' : World} {base : Nat} {e : TypeId} {n : Nat} {V : Nat → Value} {R : Nat → List Value} (h : Fam w base e n V R) {t : Nat} (ht : t < n) {v' : Value} {x : Value}
 (ho:w'.ownsRow base e 1 v' ((R t).length+1) (R t++[x])) (hg:w.grownBy w' (V t).ownBlock) (hb:v'.ownBlock=(V t).ownBlock∨v'.ownBlock=some w.heap.size) :
 Fam w' base e n (fun u=>if u=t then v' else V u) (fun u=>if u=t then R t++[x] else R u):=by
 have hlt:∀u k,u<n→(V u).ownBlock=some k→k<w.heap.size:=fun u k hu hk=>((h.own u hu).lt k hk).2;refine⟨fun u hu=>?_,fun u1 u2 k h1 h2 hne hk=>?_⟩
 · by_cases hut:u=t
   · subst hut;simp only [if_true];rw [List.length_append];exact ho
   · simp only [if_neg hut]
     refine (h.own u hu).kept hg ?_;cases hu':(V u).ownBlock with
     | none=>exact .inl rfl
     | some k=>exact .inr (fun e=>h.apart u t k hu ht hut hu' e.symm)
 · by_cases e1:u1=t
   · have e2:u2≠t:=fun e=>hne (e1.trans e.symm)
     simp only [if_pos e1] at hk;simp only [if_neg e2];intro h2';rcases hb with hb | hb
     · rw [hb] at hk;exact h.apart t u2 k ht h2 (fun e=>e2 e.symm) hk h2'
     · rw [hb] at hk;cases hk;have:=hlt u2 _ h2 h2';omega
   · simp only [if_neg e1] at hk
     by_cases e2:u2=t
     · simp only [if_pos e2]
       rcases hb with hb | hb
       · rw [hb];exact h.apart u1 t k h1 ht e1 hk
       · rw [hb];intro e;cases e;have:=hlt u1 _ h1 hk;omega
     · simp only [if_neg e2];exact h.apart u1 u2 k h1 h2 hne hk

theorem own_ints {w:World}{base:Nat}{e:TypeId}{v:Value}{l:List Int}(h:w.ownsRow base e 1 v l.length (l.map (Value.int .i64)))(hl:∀x∈l,I64 x):SlAt (fun b=>base≤b) w 1 rInt v l:=by
 obtain⟨h1,h2⟩:=h;rcases h2 with⟨rfl,h2⟩ | ⟨g,cap,cur,rfl,hg,hh,hn,hm,hs,ht⟩
 · have:l=[]:=List.eq_nil_of_length_eq_zero h2
   subst this;exact⟨none,0,rfl,Nat.le_refl _,by omega,fun h=>absurd rfl h⟩
 · refine⟨_,cap,rfl,hn,by unfold maxLen at hm;exact hm,fun _=>⟨g,0,rfl,hg,fun i x hx=>⟨[.int .i64 x],⟨rfl,hl x (List.mem_of_getElem? hx)⟩,rfl,?_⟩⟩⟩
   refine .cons ?_ (.nil _ _ _);have h3:(l.map (Value.int .i64))[i]?=some (.int .i64 x):=by rw [List.getElem?_map,hx];rfl
   rw [←ht,Nat.mul_one,List.getElem?_take] at h3;have hi:i<l.length:=(List.getElem?_eq_some_iff.1 hx).1;rw [if_pos hi] at h3;simp only [World.cell?,hh,Nat.zero_add,Nat.mul_one];simpa using h3

theorem own_shape {w:World}{base:Nat}{e:TypeId}{size n:Nat}{v:Value}{xs:List Value}(h:w.ownsRow base e size v (n+1) xs):∃g cap,v = .slice (some ⟨g,0,none⟩) (n+1) cap∧base≤g∧g<w.heap.size:=by
 obtain⟨h1,h2⟩:=h;rcases h2 with⟨-,h2⟩ | ⟨g,cap,cur,rfl,hg,hh,-⟩
 · omega
 · refine⟨g,cap,rfl,hg,?_⟩
   rcases Nat.lt_or_ge g w.heap.size with h3 | h3
   · exact h3
   · rw [Array.getElem?_eq_none h3] at hh;cases hh

def Tab(w wr:World)(O:Nat)(T e:TypeId)(n:Nat)(R:Nat→List Int):Prop :=
 w.heap.size≤O∧O<wr.heap.size∧Below w.heap.size w wr∧∃V,wr.rowIs O T n V∧Fam wr (O+1) e n V (fun t=>(R t).map (Value.int .i64))
theorem Tab.alloc {w wr:World}{O:Nat}{T e:TypeId}{n:Nat}{R:Nat→List Int}(h:Tab w wr O T e n R)(o:Obj):Tab w (wr.alloc o) O T e n R:=by
 obtain⟨h1,h2,h3,V,h4,h5⟩:=h;exact⟨h1,by simp;omega,h3.alloc (by omega) _,V,h4.alloc _,h5.alloc _⟩
theorem Tab.congr {w wr:World}{O:Nat}{T e:TypeId}{n:Nat}{R R':Nat→List Int}(h:Tab w wr O T e n R)(hr:∀t,t<n→R t=R' t):Tab w wr O T e n R':=by
 obtain⟨h1,h2,h3,V,h4,h5⟩:=h;exact⟨h1,h2,h3,V,h4,⟨fun t ht=>by rw [←hr t ht];exact h5.own t ht,h5.apart⟩⟩
theorem Tab.push {w wr w1 : World} {O : Nat} {T e : TypeId} {n : Nat} {R : Nat → List Int} {V : Nat → Value} (h1 : w.heap.size ≤ O) (h2 : O < wr.heap.size) (h3 : Below w.heap.size w wr)
 (h4:wr.rowIs O T n V) (h5:Fam wr (O+1) e n V (fun t=>(R t).map (Value.int .i64))) {t:Nat} (ht:t<n) {v':Value} {x:Int} (o:Obj)
 (ho:w1.ownsRow (O+1) e 1 v' (((R t).map (Value.int .i64)).length+1) ((R t).map (Value.int .i64)++[.int .i64 x])) (hg:(wr.alloc o).grownBy w1 (V t).ownBlock)
 (hb:v'.ownBlock=(V t).ownBlock∨v'.ownBlock=some (wr.alloc o).heap.size) :
 w1.cell? ⟨O,t,none⟩=some (V t)∧w1.frozen? ⟨O,t,none⟩=false∧Tab w (w1.setCell ⟨O,t,none⟩ v') O T e n (fun u=>if u=t then R t++[x] else R u):=by
 have hne:some O≠(V t).ownBlock:=fun e=>by have:=((h5.own t ht).lt O e.symm).1;omega
 have hblk:w1.heap[O]?=(wr.alloc o).heap[O]?:=hg.block O (by simp;omega) hne;have hrow:w1.rowIs O T n V:=(h4.alloc o).of_block hblk;have hsz:=hg.size;simp at hsz;refine⟨hrow.cell ht,hrow.frozen t,h1,by simp [World.setCell];omega,?_,_,hrow.set t v',?_⟩
 · refine Below.setCell ((h3.alloc (by omega) o).grown hg (by simp;omega) (fun k hk=>by have:=((h5.own t ht).lt k hk).1;omega)) ?_ _
   exact h1
 · have hf:=(h5.alloc o).push ht ho hg hb
   have hf2:=hf.setBelow (a:=⟨O,t,none⟩) (Nat.lt_succ_self O) v';refine⟨fun u hu=>?_,hf2.apart⟩;have:=hf2.own u hu
   by_cases hut:u=t
   · subst hut;simpa using this
   · simpa [hut] using this
theorem Tab.done {w wr:World}{O:Nat}{T e:TypeId}{n:Nat}{R:Nat→List Int}(h:Tab w wr O T e n R)(hn:n≤1048576)(hR:∀t,t<n→∀x∈R t,I64 x) :
 SlAt (fun b=>w.heap.size≤b) wr 1 rRow (.slice (some ⟨O,0,none⟩) n n) ((List.range n).map R):=by
 obtain⟨h1,h2,h3,V,h4,h5⟩:=h;refine⟨_,n,by simp,by simp,by omega,fun _=>⟨O,0,rfl,h1,fun i x hx=>?_⟩⟩;have hi:i<n:=by have:=(List.getElem?_eq_some_iff.1 hx).1;simpa using this
 have hx':x=R i:=by rw [List.getElem?_map,List.getElem?_range hi] at hx;simpa using hx.symm
 subst hx';refine⟨[V i],⟨V i,rfl,?_⟩,rfl,.cons (by simpa using h4.cell hi) (.nil _ _ _)⟩;have h6:=h5.own i hi;rw [List.length_map] at h6;exact (own_ints h6 (hR i hi)).mono rInt_mono (fun b hb=>by omega) (Stays.refl _ _)

end Go.Proofs.YtnkogppgacappaaGreatDoor

namespace Go.Proofs.YtnkogppgacappaaGreatDoor
open Go.RowKit

theorem hits_len9(to:List Int)(t i:Nat):(hits to t i).length≤to.length:=by
 unfold hits;rw [List.length_map];exact List.length_filter_le _ _
theorem predsOf_len (t : Nat) : ∀ (l : List DBlock) (s : Nat), (∀ x ∈ l, x.fin.to.length ≤ 2) → (predsOf l s t).length ≤ 2 * l.length
 | [],_,_=>by simp [predsOf]
 | b :: r,s,h=>by
   have h1:=predsOf_len t r (s+1) (fun x hx=>h x (by simp [hx]));have h2:=hits_len9 b.fin.to t s;have h3:=h b (by simp);simp only [predsOf,List.length_append,List.length_cons];omega

theorem int_at9 {S:Nat→Prop}{w:World}{a:Option Addr}{n c:Nat}{l:List Int}(h:SlAt S w 1 rInt (.slice a n c) l){t:Nat}(ht:t<l.length):∃b off,a=some ⟨b,off,none⟩∧w.cell? ⟨b,off+t,none⟩=some (.int .i64 l[t]):=by
 obtain⟨b,off,cs,ha,-,⟨rfl,-⟩,-,hcs⟩:=h.get ht;have d:=hcs.get1;rw [Nat.mul_one] at d;exact⟨b,off,ha,d⟩

end Go.Proofs.YtnkogppgacappaaGreatDoor
