/- turneryref6.StillOf: word by word. -/
import Derived.Test.YtnkogppgacappaaGreatDoorPGlobs
namespace Go.Proofs.YtnkogppgacappaaGreatDoor
open Go.RowKit

def pureB(first:Int)(p:Nat)(l:List DIns):Bool:=!(l.any (spoilB first p))
theorem pureB_no {first:Int}{p:Nat}{l:List DIns}{y:DIns}(h:spoilB first p y=false):pureB first p (l++[y])=pureB first p l:=by
 unfold pureB;rw [List.any_append];simp [h]
theorem pureB_yes {first:Int}{p:Nat}{l:List DIns}{y:DIns}(h:spoilB first p y=true):pureB first p (l++[y])=false:=by
 unfold pureB;rw [List.any_append];simp [h]
theorem insU_succ {fs:List DFunc}{k:Nat}(h:k<fs.length):insU (fs.take (k+1))=insU (fs.take k)++insF fs[k]:=by
 unfold insU;rw [List.take_succ_eq_append_getElem h,List.flatMap_append];simp
def insB(bs:List DBlock)(b:Nat):List DIns:=(bs.take b).flatMap (·.list)
theorem insB_succ {bs:List DBlock}{b:Nat}(h:b<bs.length):insB bs (b+1)=insB bs b++bs[b].list:=by
 unfold insB;rw [List.take_succ_eq_append_getElem h,List.flatMap_append];simp
theorem insB_all(f:DFunc):insB f.blocks f.blocks.length=insF f:=by unfold insB insF;rw [List.take_length]

set_option maxRecDepth 100000 in
set_option maxHeartbeats 4000000 in
theorem refStillOf_any {S : Nat → Prop} (ga fa : Option Addr) (gc fc : Nat) (gs : List DGlobal) (fs : List DFunc) (w : World) (hg : SlAt S w 3 rGlobal (.slice ga gs.length gc) gs) (hf : SlAt S w 4 rFunc (.slice fa fs.length fc) fs)
 (hn:gs.length≤10) (hsz:∀g∈gs,0≤g.size∧g.size≤200) (N:Nat) (hN:wordsUp gs gs.length=(N:Int)) (hN2:N≤200) (hfn:fs.length≤1048576) (hfb:∀f∈fs,f.blocks.length≤1048576∧∀x∈f.blocks,x.list.length≤1048576) :
 Calls Tryz.prog 42 #[.agg #[.slice ga gs.length gc,.slice fa fs.length fc]] w fun e w' =>
  ∃a c,e = .returned (.slice a N c)∧SlAt (fun b=>w.heap.size≤b) w' 1 rBool (.slice a N c) (refStill gs (insU fs) N)∧Below w.heap.size w w':=by
 have Hg:=hid hg;have Hf:=hid hf;have Hsz:=hid hsz;have HN:=hid hN;have Hfb:=hid hfb;clear hg hf hsz hN hfb;obtain⟨ib,hib,hbz0,hbz1,hbz2⟩:=info_parts infoBool;go_enter Tryz.func42,Tryz.ntmps42;go_wp2_with fail;obtain⟨W,hW⟩:∃W,W=w.alloc (.cells #[.slice ga gs.length gc,.slice fa fs.length fc] 25):=⟨_,rfl⟩
 have hbW:Below w.heap.size w W:=by rw [hW];(repeat (first | exact Below.refl _ _ | refine Below.alloc ?_ (by first|omega|(simp<;>omega)) _ | refine Below.setCell ?_ (by first|omega|(simp<;>omega)) _ | refine below_drewN ?_ _ | refine Below.drew ?_))
 have hcW:CellsAt W w.heap.size 0 [.slice ga gs.length gc,.slice fa fs.length fc]:=by
  intro j u hj;rw [hW,Nat.zero_add,World.cell?_alloc_new];simpa using hj
 have hWs:W.heap.size=w.heap.size+1:=by rw [hW];simp
 rw [←hW];have HbW:=hid hbW;have HcW:=hid hcW;have HWs:=hid hWs;clear hW hbW hcW hWs;go_loopw [3,4] (fun v3 i wr=>∃(p:Nat) (v:Value),v=v3∧p≤N∧i = .int .i64 p∧Build W wr 4 1 rBool v (refStill gs (insU fs) p)) (fun _ i _=>N - (intOf i).toNat)
 case atStart=>exact⟨0,_,rfl,Nat.zero_le _,rfl,Build.start W 4 1 rBool⟩
 case round =>
  obtain⟨p,v,rfl,hp,rfl,hbd⟩:=hrel;have Hbd:=hid hbd;obtain⟨g0,g1⟩:=(HcW.out.later hbd.old).get2;rw [Nat.zero_add] at g1;have z0:w.heap.size<wr.heap.size:=cell_lt g0;have Hw:Hid (Below w.heap.size w wr):=HbW.out.trans (hbd.old.mono HbW.out.size);clear hbd
  by_cases hpl:p<N
  · go_wp2_with (first
     | (go_at_call 76; (with_reducible refine (wordsOf_any (S := S) ga fa gc fs.length fc gs wr (Hg.out.later rGlobal_mono Hw.out) hn Hsz.out).mono ?_); rintro e w1 ⟨rfl, hb1⟩; rw [HN.out]; have Hb1 := hid hb1; have g2 := cell_later' g0 hb1; have g3 := cell_later' g1 hb1; have z1 : w.heap.size < w1.heap.size := cell_lt g2; have Hw1 : Hid (Below w.heap.size w w1) := Hw.out.trans (hb1.mono Hw.out.size); clear hb1 g0 g1)
     | (go_at_call 43; (with_reducible refine (stillFirst_any (S := S) ga fa gc fs.length fc gs (p : Int) w1 (Hg.out.later rGlobal_mono Hw1.out) hn Hsz.out ⟨by omega, by omega⟩).mono ?_); rintro e w2 ⟨rfl, hb2⟩; have Hb2 := hid hb2; have g4 := cell_later' g2 hb2; have g5 := cell_later' g3 hb2; have z2 : w.heap.size < w2.heap.size := cell_lt g4; have Hw2 : Hid (Below w.heap.size w w2) := Hw1.out.trans (hb2.mono Hw1.out.size); clear hb2 g2 g3))
    obtain⟨first,hfirst⟩:∃first,first=(stFirst gs (p:Int)).1:=⟨_,rfl⟩
    rw [←hfirst];have Hfirst:=hid hfirst;have Hf2:Hid (SlAt S w2 4 rFunc (.slice fa fs.length fc) fs):=Hf.out.later rFunc_mono Hw2.out;clear hfirst g4;go_loop [7,8] (fun s i=>∃k:Nat,k≤fs.length∧i = .int .i64 k∧s = .bool (pureB first p (insU (fs.take k)))) (fun _ i=>fs.length - (intOf i).toNat)
    case atStart=>exact⟨0,Nat.zero_le _,rfl,rfl⟩
    case round =>
     obtain⟨k,hk,rfl,rfl⟩:=hrel
     by_cases hkl:k<fs.length
     · obtain⟨fb,foff,xa,xc,rfl,hcs,hxb,-,-⟩:=func_at Hf2.out hkl
       obtain⟨-,-,-,c3⟩:=hcs.get4;have zf:fb<w2.heap.size:=cell_lt c3;have hbl:=(Hfb.out _ (List.getElem_mem hkl)).1;have Hxb:=hid hxb;have Hst:Hid (insU (fs.take (k+1))=insU (fs.take k)++insF fs[k]):=insU_succ hkl;have Hxl:Hid (∀x∈fs[k].blocks,x.list.length≤1048576):=(Hfb.out _ (List.getElem_mem hkl)).2;obtain⟨bs,hbs⟩:∃bs,bs=fs[k].blocks:=⟨_,rfl⟩
       have Hall:Hid (insF fs[k]=insB bs bs.length):=by show _=_;rw [hbs,insB_all]
       rw [←hbs] at c3 hbl Hxb Hxl;obtain⟨l0,hl0⟩:∃l0,l0=insU (fs.take k):=⟨_,rfl⟩
       rw [←hl0] at Hst ⊢;clear hcs hxb hbs hl0;go_wp2_with fail;go_loop [7,9] (fun s i=>∃b:Nat,b≤bs.length∧i = .int .i64 b∧s = .bool (pureB first p (l0++insB bs b))) (fun _ i=>bs.length - (intOf i).toNat)
       case atStart=>exact⟨0,Nat.zero_le _,rfl,by simp [insB]⟩
       case round =>
        obtain⟨b,hb,rfl,rfl⟩:=hrel
        by_cases hbl2:b<bs.length
        · obtain⟨xb,xoff,pa,pc,la,lc,ta,tc,rfl,hcs,-,hl,-,-,-⟩:=block_at Hxb.out hbl2
          obtain⟨-,d1,-⟩:=hcs.get6;have zx:xb<w2.heap.size:=cell_lt d1;have hll:=Hxl.out _ (List.getElem_mem hbl2);have Hst2:Hid (insB bs (b+1)=insB bs b++bs[b].list):=insB_succ hbl2;obtain⟨ys,hys⟩:∃ys,ys=bs[b].list:=⟨_,rfl⟩
          rw [←hys] at d1 hl hll Hst2;have Hl:=hid hl;obtain⟨l1,hl1⟩:∃l1,l1=l0++insB bs b:=⟨_,rfl⟩
          rw [←hl1];have Hl1:=hid hl1;clear hcs hl hys hl1;go_wp2_with fail;go_loop [7,11] (fun s i=>∃m:Nat,m≤ys.length∧i = .int .i64 m∧s = .bool (pureB first p (l1++ys.take m))) (fun _ i=>ys.length - (intOf i).toNat)
          case atStart=>exact⟨0,Nat.zero_le _,rfl,by simp⟩
          case round =>
           obtain⟨m,hm,rfl,rfl⟩:=hrel
           by_cases hml:m<ys.length
           · obtain⟨lb,loff,fa',fc',rfl,hcs,-,-⟩:=ins_at Hl.out hml
             obtain⟨e0,-,e2,e3,e4,e5,-,-⟩:=hcs.get8;have zl:lb<w2.heap.size:=cell_lt e0;obtain⟨y,hy⟩:∃y,y=ys[m]:=⟨_,rfl⟩
             rw [←hy] at e0 e2 e3 e4 e5;have Htk:Hid (l1++ys.take (m+1)=(l1++ys.take m)++[y]):=by show _=_;rw [List.take_succ_eq_append_getElem hml,hy,List.append_assoc]
             obtain⟨l2,hl2⟩:∃l2,l2=l1++ys.take m:=⟨_,rfl⟩
             rw [←hl2] at Htk ⊢;obtain⟨op,hop⟩:∃op,y.op=op:=⟨_,rfl⟩
             obtain⟨ar,har⟩:∃ar,y.a.reg=ar:=⟨_,rfl⟩
             obtain⟨an,han⟩:∃an,y.a.n=an:=⟨_,rfl⟩
             obtain⟨br,hbr⟩:∃br,y.b.reg=br:=⟨_,rfl⟩
             obtain⟨bn,hbn⟩:∃bn,y.b.n=bn:=⟨_,rfl⟩
             have Hsp:Hid (spoilB first p y=(decide (op=19)&&(ar||(decide (an=(p:Int))&&(br||decide (bn≠first)))))):=by show _=_;unfold spoilB;rw [hop,har,han,hbr,hbn]
             rw [hop] at e0;rw [har] at e2;rw [han] at e3;rw [hbr] at e4;rw [hbn] at e5;clear hcs hy hl2 hop har han hbr hbn
             by_cases ho:op=19
             · have q0:(decide (op≤19)&&decide (19≤op))=true:=eq_yes ho
               cases ar with
               | true =>
                 have Hr:Hid (pureB first p (l1++ys.take (m+1))=false):=by show _=_;rw [Htk.out,pureB_yes (by rw [Hsp.out];simp [ho])]
                 clear ho;go_wp2_with fail;go_round
                 case rel=>exact⟨m+1,by omega,by go_num,by rw [Hr.out]⟩
                 case measure=>simp [intOf];omega
               | false =>
                 by_cases ha:an=(p:Int)
                 · have q1:(decide (an≤(p:Int))&&decide ((p:Int)≤an))=true:=eq_yes ha
                   cases br with
                   | true =>
                     have Hr:Hid (pureB first p (l1++ys.take (m+1))=false):=by show _=_;rw [Htk.out,pureB_yes (by rw [Hsp.out];simp [ho,ha])]
                     clear ho ha;go_wp2_with fail;go_round
                     case rel=>exact⟨m+1,by omega,by go_num,by rw [Hr.out]⟩
                     case measure=>simp [intOf];omega
                   | false =>
                     by_cases hb3:bn=first
                     · have q2:(decide (bn<first)||decide (first<bn))=false:=ne_no hb3
                       have Hr:Hid (pureB first p (l1++ys.take (m+1))=pureB first p l2):=by show _=_;rw [Htk.out,pureB_no (by rw [Hsp.out];simp [hb3])]
                       clear ho ha hb3;go_wp2_with fail;go_round
                       case rel=>exact⟨m+1,by omega,by go_num,by rw [Hr.out]⟩
                       case measure=>simp [intOf];omega
                     · have q2:(decide (bn<first)||decide (first<bn))=true:=ne_yes hb3
                       have Hr:Hid (pureB first p (l1++ys.take (m+1))=false):=by show _=_;rw [Htk.out,pureB_yes (by rw [Hsp.out];simp [ho,ha,hb3])]
                       clear ho ha hb3;go_wp2_with fail;go_round
                       case rel=>exact⟨m+1,by omega,by go_num,by rw [Hr.out]⟩
                       case measure=>simp [intOf];omega
                 · have q1:(decide (an≤(p:Int))&&decide ((p:Int)≤an))=false:=eq_no ha
                   have Hr:Hid (pureB first p (l1++ys.take (m+1))=pureB first p l2):=by show _=_;rw [Htk.out,pureB_no (by rw [Hsp.out];simp [ha])]
                   clear ho ha;go_wp2_with fail;go_round
                   case rel=>exact⟨m+1,by omega,by go_num,by rw [Hr.out]⟩
                   case measure=>simp [intOf];omega
             · have q0:(decide (op≤19)&&decide (19≤op))=false:=eq_no ho
               have Hr:Hid (pureB first p (l1++ys.take (m+1))=pureB first p l2):=by show _=_;rw [Htk.out,pureB_no (by rw [Hsp.out];simp [ho])]
               clear ho;go_wp2_with fail;go_round
               case rel=>exact⟨m+1,by omega,by go_num,by rw [Hr.out]⟩
               case measure=>simp [intOf];omega
           · have hmm:m=ys.length:=by omega
             have Hr:Hid (l1++ys.take m=l0++insB bs (b+1)):=by show _=_;rw [hmm,List.take_length,Hl1.out,Hst2.out,List.append_assoc]
             clear hmm;go_wp2_with fail;go_round
             case rel=>exact⟨b+1,by omega,by go_num,by rw [Hr.out]⟩
             case measure=>simp [intOf];omega
        · have hbb:b=bs.length:=by omega
          have Hr:Hid (l0++insB bs b=insU (fs.take (k+1))):=by show _=_;rw [hbb,Hst.out,Hall.out]
          clear hbb;go_wp2_with fail;go_round
          case rel=>exact⟨k+1,by omega,by go_num,by rw [Hr.out]⟩
          case measure=>simp [intOf];omega
     · have hkk:k=fs.length:=by omega
       obtain⟨q,hq⟩:∃q,q=pureB first p (insU (fs.take k)):=⟨_,rfl⟩
       rw [←hq];have Hstep:Hid (refStill gs (insU fs) (p+1)=refStill gs (insU fs) p++[q]):=by
        show _=_;rw [hq,hkk,List.take_length,Hfirst.out];unfold refStill pureB;rw [List.range_succ,List.map_append];rfl
       have hlen:(refStill gs (insU fs) p).length=p:=by unfold refStill;simp
       have Hlen:=hid hlen;have Hb12:Hid (Below wr.heap.size wr w2):=Hb1.out.trans (Hb2.out.mono Hb1.out.size);have z3:W.heap.size≤w2.heap.size:=by have:=Hbd.out.old.size;have:=Hb12.out.size;omega
       clear hkk hq hlen;go_wp2_with (at_builtin;refine wpList_append_Own rfl _ _ 66 rfl W.heap.size 4 ib _ 1 1 Tryz.underlying66 hib hbz0 hbz1 hbz2 rfl (by decide) rBool_mono v (refStill gs (insU fs) p) rfl ?_ ⟨w2.heap.size,0,none⟩ 1 [.bool q] q rfl rfl ?_ ?_ ?_ ?_ (by decide) ?_ ?_)
       · exact (Hbd.out.own.later rBool_mono Hb12.out).later rBool_mono (by (repeat (first | exact Below.refl _ _ | refine Below.alloc ?_ (by first|omega|(simp<;>omega)) _ | refine Below.setCell ?_ (by first|omega|(simp<;>omega)) _ | refine below_drewN ?_ _ | refine Below.drew ?_)))
       · rfl
       · exact rfl
       · rw [Hlen.out];omega
       · omega
       · intro v3 w3 hown hgrow g2 cap2 hv3
         have hb3:Below W.heap.size W w3:=by
          refine Below.grown ?_ hgrow (by simp;omega) (fun g hg=>(Hbd.out.own.lt g hg).1);have h:=Hbd.out.old;have h2:=Hb12.out;have hs8:=h.size;have hs9:=h2.size
          (have hz0:=(h2).size;have hy0:=hz0;(try simp at hy0);have hz1:=(h).size;have hy1:=hz1;(try simp at hy1);repeat (first | exact Below.refl _ _ | refine Below.trans ?_ ((h2).mono (by first|omega|(simp<;>omega))) | refine Below.trans ?_ ((h).mono (by first|omega|(simp<;>omega))) | refine Below.alloc ?_ (by first|omega|(simp<;>omega)) _ | refine Below.setCell ?_ (by first|omega|(simp<;>omega)) _ | refine below_drewN ?_ _ | refine Below.drew ?_))
         have Hbd3:Hid (Build W w3 4 1 rBool v3 (refStill gs (insU fs) (p+1))):=⟨by rw [Hstep.out];exact hown,hb3⟩
         clear hown hgrow hb3 hv3;go_wp2_with fail;go_roundw
         case rel=>exact⟨p+1,v3,rfl,by omega,by go_num,Hbd3.out⟩
         case measure=>simp [intOf];omega
  · have hpn:p=N:=by omega
    have hsl:=Hbd.out.own.toSl rBool_mono (by decide);rw [hpn] at hsl;obtain⟨a,c,hv,-⟩:=hsl.val;have hlen:(refStill gs (insU fs) N).length=N:=by unfold refStill;simp
    rw [hlen] at hv;subst hv;have Hsl:=hid hsl;clear hsl hpn hlen;go_wp2_with (go_at_call 76;(with_reducible refine (wordsOf_any (S:=S) ga fa gc fs.length fc gs wr (Hg.out.later rGlobal_mono Hw.out) hn Hsz.out).mono ?_);rintro e w1 ⟨rfl,hb1⟩;rw [HN.out];have Hb1:=hid hb1;have g2:=cell_later' g0 hb1;have g3:=cell_later' g1 hb1;have z1:w.heap.size<w1.heap.size:=cell_lt g2;have Hw1:Hid (Below w.heap.size w w1):=Hw.out.trans (hb1.mono Hw.out.size);clear hb1 g0 g1);go_ret;exact⟨a,c,rfl,(Hsl.out.later rBool_mono Hb1.out).mono rBool_mono (fun b hb=>by have:=hb.1;have:=HWs.out;omega) (Stays.refl _ _),Hw1.out⟩

end Go.Proofs.YtnkogppgacappaaGreatDoor
