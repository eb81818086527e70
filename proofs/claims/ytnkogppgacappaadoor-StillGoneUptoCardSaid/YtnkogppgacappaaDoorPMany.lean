/- turnerylaw6.many: how many instructions of a kind. -/
import Derived.Test.YtnkogppgacappaaDoorPStillR
import Derived.Test.YtnkogppgacappaaDoorPStillOk
namespace Go.Proofs.YtnkogppgacappaaDoor
open Go.RowKit

def cntO(op:Int)(l:List DIns):Nat:=l.countP fun y=>decide (y.op=op)
theorem cntO_snoc(op:Int)(l:List DIns)(y:DIns):cntO op (l++[y])=cntO op l+if y.op=op then 1 else 0:=by
 unfold cntO;rw [List.countP_append,List.countP_cons,List.countP_nil]
 by_cases h:y.op=op <;> simp [h]
theorem cntO_pre {op:Int}{l l':List DIns}(h:l <+: l'):cntO op l≤cntO op l':=h.sublist.countP_le
theorem take_pre {α:Type}(l:List α)(k:Nat):l.take k <+: l:=List.take_prefix k l
theorem insU_pre(fs:List DFunc)(k:Nat):insU (fs.take k) <+: insU fs:=by
 refine⟨(fs.drop k).flatMap insF,?_⟩;unfold insU;rw [←List.flatMap_append,List.take_append_drop]
theorem insB_pre(bs:List DBlock)(b:Nat):insB bs b <+: insB bs bs.length:=by
 refine⟨(bs.drop b).flatMap (·.list),?_⟩;unfold insB;rw [←List.flatMap_append,List.take_append_drop,List.take_length]

set_option maxRecDepth 100000 in
set_option maxHeartbeats 4000000 in
theorem many_any {S : Nat → Prop} (ga fa : Option Addr) (gn gc n fc : Nat) (fs : List DFunc) (op : Int) (w : World) (hf : SlAt S w 4 rFunc (.slice fa n fc) fs) (hn : fs.length = n)
 (hfn:fs.length≤1048576) (hfb:∀f∈fs,f.blocks.length≤1048576∧∀x∈f.blocks,x.list.length≤1048576) (hm:manyO op fs≤1048576) :
 Calls Tryd.prog 14 #[.agg #[.slice ga gn gc,.slice fa n fc],.int .i64 op] w fun e w'=>e = .returned (.int .i64 ((manyO op fs:Nat):Int))∧Below w.heap.size w w':=by
 subst hn;have hpre:∀l,l <+: insU fs→cntO op l≤1048576:=fun l h=>Nat.le_trans (cntO_pre h) hm;have Hpre:=hid hpre;have hall:manyO op fs=cntO op (insU (fs.take fs.length)):=by rw [List.take_length];rfl
 rw [hall];have Hf:=hid hf;have Hfb:=hid hfb;clear hf hfb hpre hm hall;go_enter Tryd.func14,Tryd.ntmps14;go_wp2_with fail;obtain⟨W,hW⟩:∃W,W=w.alloc (.cells #[.slice ga gn gc,.slice fa fs.length fc] 25):=⟨_,rfl⟩
 have hbW:Below w.heap.size w W:=by rw [hW];(repeat (first | exact Below.refl _ _ | refine Below.alloc ?_ (by first|omega|(simp<;>omega)) _ | refine Below.setCell ?_ (by first|omega|(simp<;>omega)) _ | refine below_drewN ?_ _ | refine Below.drew ?_))
 have hcW:CellsAt W w.heap.size 0 [.slice ga gn gc,.slice fa fs.length fc]:=by
  intro j u hj;rw [hW,Nat.zero_add,World.cell?_alloc_new];simpa using hj
 rw [←hW];have HbW:=hid hbW;obtain⟨-,g1⟩:=hcW.get2;rw [Nat.zero_add] at g1;have z0:w.heap.size<W.heap.size:=cell_lt g1;have Hf2:Hid (SlAt S W 4 rFunc (.slice fa fs.length fc) fs):=Hf.out.later rFunc_mono hbW;clear hW hbW hcW;go_loop [5,6] (fun s i=>∃k:Nat,k≤fs.length∧i = .int .i64 k∧s = .int .i64 ((cntO op (insU (fs.take k)):Nat):Int)) (fun _ i=>fs.length - (intOf i).toNat)
 case atStart=>exact⟨0,Nat.zero_le _,rfl,rfl⟩
 case round =>
  obtain⟨k,hk,rfl,rfl⟩:=hrel
  by_cases hkl:k<fs.length
  · obtain⟨fb,foff,xa,xc,rfl,hcs,hxb,-,-⟩:=func_at Hf2.out hkl
    obtain⟨-,-,-,c3⟩:=hcs.get4;have zf:fb<W.heap.size:=cell_lt c3;have hbl:=(Hfb.out _ (List.getElem_mem hkl)).1;have Hxb:=hid hxb;have Hst:Hid (insU (fs.take (k+1))=insU (fs.take k)++insF fs[k]):=insU_succ hkl;have Hxl:Hid (∀x∈fs[k].blocks,x.list.length≤1048576):=(Hfb.out _ (List.getElem_mem hkl)).2;obtain⟨bs,hbs⟩:∃bs,bs=fs[k].blocks:=⟨_,rfl⟩
    have Hall:Hid (insF fs[k]=insB bs bs.length):=by show _=_;rw [hbs,insB_all]
    have Hp0:Hid (insU (fs.take k)++insB bs bs.length <+: insU fs):=by
     show _ <+: _;rw [←Hall.out,←Hst.out];exact insU_pre fs (k+1)
    rw [←hbs] at c3 hbl Hxb Hxl;obtain⟨l0,hl0⟩:∃l0,l0=insU (fs.take k):=⟨_,rfl⟩
    rw [←hl0] at Hst Hp0 ⊢;clear hcs hxb hbs hl0;go_wp2_with fail;go_loop [5,7] (fun s i=>∃b:Nat,b≤bs.length∧i = .int .i64 b∧s = .int .i64 ((cntO op (l0++insB bs b):Nat):Int)) (fun _ i=>bs.length - (intOf i).toNat)
    case atStart=>exact⟨0,Nat.zero_le _,rfl,by simp [insB]⟩
    case round =>
     obtain⟨b,hb,rfl,rfl⟩:=hrel
     by_cases hbl2:b<bs.length
     · obtain⟨xb,xoff,pa,pc,la,lc,ta,tc,rfl,hcs,-,hl,-,-,-⟩:=block_at Hxb.out hbl2
       obtain⟨-,d1,-⟩:=hcs.get6;have zx:xb<W.heap.size:=cell_lt d1;have hll:=Hxl.out _ (List.getElem_mem hbl2);have Hst2:Hid (insB bs (b+1)=insB bs b++bs[b].list):=insB_succ hbl2;obtain⟨ys,hys⟩:∃ys,ys=bs[b].list:=⟨_,rfl⟩
       rw [←hys] at d1 hl hll Hst2;have Hp1:Hid (l0++insB bs b++ys <+: insU fs):=by
        show _ <+: _;rw [List.append_assoc,←Hst2.out];exact List.IsPrefix.trans ((List.prefix_append_right_inj l0).2 (insB_pre bs (b+1))) Hp0.out
       have Hl:=hid hl;obtain⟨l1,hl1⟩:∃l1,l1=l0++insB bs b:=⟨_,rfl⟩
       rw [←hl1] at Hp1 ⊢;have Hl1:=hid hl1;clear hcs hl hys hl1;go_wp2_with fail;go_loop [5,9] (fun s i=>∃m:Nat,m≤ys.length∧i = .int .i64 m∧s = .int .i64 ((cntO op (l1++ys.take m):Nat):Int)) (fun _ i=>ys.length - (intOf i).toNat)
       case atStart=>exact⟨0,Nat.zero_le _,rfl,by simp⟩
       case round =>
        obtain⟨m,hm,rfl,rfl⟩:=hrel
        by_cases hml:m<ys.length
        · obtain⟨lb,loff,fa',fc',rfl,hcs,-,-⟩:=ins_at Hl.out hml
          obtain⟨e0,-,-,-,-,-,-,-⟩:=hcs.get8;have zl:lb<W.heap.size:=cell_lt e0;obtain⟨y,hy⟩:∃y,y=ys[m]:=⟨_,rfl⟩
          rw [←hy] at e0;have Htk:Hid (cntO op (l1++ys.take (m+1))=cntO op (l1++ys.take m)+if y.op=op then 1 else 0):=by show _=_;rw [List.take_succ_eq_append_getElem hml,←hy,←List.append_assoc,cntO_snoc]
          have hcb:cntO op (l1++ys.take m)≤1048576:=Hpre.out _ (List.IsPrefix.trans ((List.prefix_append_right_inj l1).2 (take_pre ys m)) Hp1.out);obtain⟨c,hc⟩:∃c,c=cntO op (l1++ys.take m):=⟨_,rfl⟩
          rw [←hc] at Htk hcb ⊢;obtain⟨yo,hyo⟩:∃yo,y.op=yo:=⟨_,rfl⟩
          rw [hyo] at e0 Htk;clear hcs hy hc hyo
          by_cases ho:yo=op
          · have q0:(decide (yo≤op)&&decide (op≤yo))=true:=eq_yes ho
            have Hr:Hid (cntO op (l1++ys.take (m+1))=c+1):=by show _=_;rw [Htk.out,if_pos ho]
            clear ho;go_wp2_with fail;go_round
            case rel=>exact⟨m+1,by omega,by go_num,by rw [Hr.out];go_num⟩
            case measure=>simp [intOf];omega
          · have q0:(decide (yo≤op)&&decide (op≤yo))=false:=eq_no ho
            have Hr:Hid (cntO op (l1++ys.take (m+1))=c):=by show _=_;rw [Htk.out,if_neg ho,Nat.add_zero]
            clear ho;go_wp2_with fail;go_round
            case rel=>exact⟨m+1,by omega,by go_num,by rw [Hr.out]⟩
            case measure=>simp [intOf];omega
        · have hme:m=ys.length:=by omega
          have Hr:Hid (l1++ys.take m=l0++insB bs (b+1)):=by show _=_;rw [hme,List.take_length,Hl1.out,Hst2.out,List.append_assoc]
          go_wp2_with fail;go_round
          case rel=>exact⟨b+1,by omega,by go_num,by rw [Hr.out]⟩
          case measure=>simp [intOf];omega
     · have hbe:b=bs.length:=by omega
       have Hr:Hid (l0++insB bs b=insU (fs.take (k+1))):=by show _=_;rw [hbe,Hst.out,Hall.out]
       go_wp2_with fail;go_round
       case rel=>exact⟨k+1,by omega,by go_num,by rw [Hr.out]⟩
       case measure=>simp [intOf];omega
  · have hke:k=fs.length:=by omega
    subst hke;go_wp2_with fail;go_ret;exact⟨rfl,HbW.out⟩

end Go.Proofs.YtnkogppgacappaaDoor
