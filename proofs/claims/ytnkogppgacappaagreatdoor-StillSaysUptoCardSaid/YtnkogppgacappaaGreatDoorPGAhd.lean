/- The contract of code.ahead. The contract of graph.Ahead. -/
import Derived.Test.YtnkogppgacappaaGreatDoorPRefA
import Derived.Deep.OwnRows
namespace Go.Proofs.YtnkogppgacappaaGreatDoor
open Go.RowKit

theorem infoInts:(Tryz.prog.info? 33).map (fun i=>(i.zero,i.size,i.bytes))=some (some (.slice none 0 0),1,24):=by kernel_rfl
theorem infoInt:(Tryz.prog.info? 3).map (fun i=>(i.zero,i.size,i.bytes))=some (some (.int .i64 0),1,8):=by kernel_rfl

set_option maxRecDepth 100000 in
set_option maxHeartbeats 2000000 in
theorem ahead_any {S : Nat → Prop} (nm : ByteArray) (p r : Int) (ba : Option Addr) (bc : Nat) (bs : List DBlock) (w : World) (hb : SlAt S w 6 rBlock (.slice ba bs.length bc) bs) (hn : bs.length ≤ 1048576)
 (hto:∀(k:Nat) (x:DBlock),bs[k]?=some x→x.fin.to.length≤2∧∀t∈x.fin.to,0≤t∧t<(bs.length:Int)) :
 Calls Tryz.prog 49 #[.agg #[.string nm,.int .i64 p,.int .i64 r,.slice ba bs.length bc]] w fun e w' =>
  ∃v,e = .returned v∧SlAt (fun b=>w.heap.size≤b) w' 1 rRow v (aheadF bs)∧Below w.heap.size w w':=by
 have Hb:=hid hb;have Hto:=hid hto;clear hb hto;have hmk:=run_make_row' (P:=Tryz.prog) 32 33 (.slice none 0 0) 24 Tryz.underlying32 infoInts rfl .i64 .i64 bs.length (by omega) (by omega);obtain⟨i0,hi,hz0,hz1,hz2⟩:=info_parts infoInt;go_enter Tryz.func49,Tryz.ntmps49;go_wp2_with fail;go_loopw [15] (fun i wr=>∃k:Nat,k≤bs.length∧i = .int .i64 k∧Tab w wr (w.heap.size+1) 33 3 bs.length (fun t=>predsOf (bs.take k) 0 t)) (fun i _=>bs.length - (intOf i).toNat)
 case atStart =>
  refine⟨0,Nat.zero_le _,rfl,by omega,by simp,by (repeat (first | exact Below.refl _ _ | refine Below.alloc ?_ (by first|omega|(simp<;>omega)) _ | refine Below.setCell ?_ (by first|omega|(simp<;>omega)) _ | refine below_drewN ?_ _ | refine Below.drew ?_)),fun _ => .slice none 0 0,?_,⟨fun t ht=>?_,fun t u k _ _ _ hk=>by cases hk⟩⟩
  · have h:=World.rowIs_made (w.alloc (.cells #[.string nm,.int .i64 p,.int .i64 r,.slice ba bs.length bc] 38)) (.slice none 0 0) bs.length 33
    rw [show (w.alloc (.cells #[.string nm,.int .i64 p,.int .i64 r,.slice ba bs.length bc] 38)).heap.size=w.heap.size+1 by simp] at h;exact h
  · simpa [predsOf] using World.ownsRow_nil _ _ _ _
 case round =>
  obtain⟨k,hk,rfl,htab⟩:=hrel;have Htab:=hid htab
  by_cases hlt:k<bs.length
  · obtain⟨b,off,cs,rfl,hS,hx,-,hcs⟩:=Hb.out.get hlt
    obtain⟨pa,pc,la,lc,ta,tc,rfl,-,-,hts,hpm,hlm2,htm,-,-⟩:=hx.opens;obtain⟨c0,c1,c2,c3,c4,c5⟩:=(hcs.later htab.2.2.1).get6;have Hts:=hid hts;have htk2:=(Hto.out k _ (List.getElem?_eq_getElem hlt)).1;clear htab hcs hx hts;go_wp2_with fail;clear c0 c1 c2 c3 c4 c5;obtain⟨wo,rfl⟩:∃wo:World,wo=wr:=⟨_,rfl⟩
    go_loopw [24] (fun i wr=>∃j:Nat,j≤bs[k].fin.to.length∧i = .int .i64 j∧Tab w wr (w.heap.size+1) 33 3 bs.length (fun t=>predsOf (bs.take k) 0 t++hits (bs[k].fin.to.take j) t k)) (fun i _=>bs[k].fin.to.length - (intOf i).toNat)
    case atStart=>exact⟨0,Nat.zero_le _,rfl,(Htab.out.alloc _).congr (fun t _=>by simp [hits])⟩
    case round =>
     obtain⟨j,hj,rfl,htab⟩:=hrel;have Htab2:=hid htab
     by_cases hjl:j<bs[k].fin.to.length
     · obtain⟨b2,off2,cs,rfl,-,⟨rfl,hx64⟩,-,hcs⟩:=(Hts.out.later rInt_mono htab.2.2.1).get hjl
       have d0:=hcs.get1;rw [Nat.mul_one] at d0;have htk:=(Hto.out k _ (List.getElem?_eq_getElem hlt)).2 bs[k].fin.to[j] (List.getElem_mem hjl);obtain⟨t,ht⟩:=Int.eq_ofNat_of_zero_le htk.1;have htn:t<bs.length:=by omega
       rw [ht] at d0;obtain⟨R,hR⟩:∃R:Nat→List Int,R=(fun t=>predsOf (bs.take k) 0 t++hits (bs[k].fin.to.take j) t k):=⟨_,rfl⟩
       rw [←hR] at htab;obtain⟨t1,t2,t3,V,t4,t5⟩:=htab;have e0:=t4.cell htn;have hlen:(R t).length≤4194304:=by
        have h1:=predsOf_le bs 2 (fun i x hx=>(Hto.out i x hx).1) k 0 t;have h2:=hits_len (bs[k].fin.to.take j) t k;rw [hR,List.length_append];have:=List.length_take_le j bs[k].fin.to;omega
       have Hlen:=hid hlen;have HR:=hid hR;have Ht:=hid ht;have Ht1:=hid t1;have Ht3:=hid t3;have Ht4:=hid t4;have Ht5:=hid t5;clear hcs htk ht t1 t3 t4 t5 hlen hR;go_wp2_with (at_builtin;refine wpList_append_own_at _ rfl _ _ 33 rfl (w.heap.size+1+1) 3 i0 (.int .i64 0) 1 8 Tryz.underlying33 hi hz0 hz1 hz2 rfl (by decide) (V t) _ _ rfl ((Ht5.out.own t htn).alloc _) ⟨wr.heap.size,0,none⟩ 1 1 [.int .i64 k] rfl rfl (cell_one_new _ _ _) ?_ ?_ ?_ ?_ ?_)
       · intro u hu;simp at hu;subst hu;rfl
       · have:=Hlen.out;simp;unfold maxLen;omega
       · have:=Hlen.out;simp;omega
       · simp;omega
       · intro v' w1 hown hgrow hnil hblk
         obtain⟨q1,q2,htab'⟩:=Tab.push Ht1.out t2 Ht3.out Ht4.out Ht5.out htn (.cells #[.int .i64 k] 3) (by simpa using hown) hgrow (by simpa using hblk);have Htab3:=hid htab';have hown2:w1.ownsRow (w.heap.size+1+1) 3 1 v' ((R t).length+1) ((R t).map (Value.int .i64)++[.int .i64 k]):=by simpa using hown
         obtain⟨g,cap,rfl,-,-⟩:=own_shape hown2;clear hown hown2 hgrow hblk htab' hnil;go_wp2_with fail;go_roundw
         case rel =>
          refine⟨j+1,by omega,by go_num,Htab3.out.congr (fun u hu=>?_)⟩;rw [HR.out,hits_take _ _ _ _ hjl,Ht.out]
          by_cases hut:u=t
          · subst hut;simp
          · have:¬((t:Int)=(u:Int)):=by omega
            simp [hut,this]
         case measure=>simp [intOf];omega
     · go_wp2_with fail
       go_roundw
       case rel =>
        refine⟨k+1,by omega,by go_num,Htab2.out.congr (fun u hu=>?_)⟩;rw [predsOf_take _ _ _ hlt,show bs[k].fin.to.take j=bs[k].fin.to from List.take_of_length_le (by omega)]
       case measure=>simp [intOf];omega
  · go_wp2_with fail
    go_ret;obtain rfl:k=bs.length:=by omega
    have htab:=Htab.out;rw [List.take_length] at htab;exact⟨_,rfl,htab.done hn (fun t _ x hx=>by have:=predsOf_mem hx;unfold I64;omega),htab.2.2.1⟩

end Go.Proofs.YtnkogppgacappaaGreatDoor

namespace Go.Proofs.YtnkogppgacappaaGreatDoor
open Go.RowKit

set_option maxRecDepth 100000 in
set_option maxHeartbeats 2000000 in
theorem gahead_any {S : Nat → Prop} (nm : ByteArray) (p r : Int) (ba : Option Addr) (bc : Nat) (bs : List DBlock) (w : World) (hb : SlAt S w 6 rBlock (.slice ba bs.length bc) bs) (hn : bs.length ≤ 1048576)
 (hto:∀(k:Nat) (x:DBlock),bs[k]?=some x→x.fin.to.length≤2∧∀t∈x.fin.to,0≤t∧t<(bs.length:Int)) :
 Calls Tryz.prog 53 #[.agg #[.string nm,.int .i64 p,.int .i64 r,.slice ba bs.length bc]] w fun e w' =>
  ∃v,e = .returned v∧SlAt (fun b=>w.heap.size≤b) w' 1 rRow v (aheadF bs)∧Below w.heap.size w w':=by
 have Hb:=hid hb;have Hto:=hid hto;clear hb hto;have hmk:=run_make_row' (P:=Tryz.prog) 32 33 (.slice none 0 0) 24 Tryz.underlying32 infoInts rfl .i64 .i64 bs.length (by omega) (by omega);obtain⟨i0,hi,hz0,hz1,hz2⟩:=info_parts infoInt;go_enter Tryz.func53,Tryz.ntmps53;go_wp2_with fail;go_loopw [15] (fun i wr=>∃k:Nat,k≤bs.length∧i = .int .i64 k∧Tab w wr (w.heap.size+1) 33 3 bs.length (fun t=>predsOf (bs.take k) 0 t)) (fun i _=>bs.length - (intOf i).toNat)
 case atStart =>
  refine⟨0,Nat.zero_le _,rfl,by omega,by simp,by (repeat (first | exact Below.refl _ _ | refine Below.alloc ?_ (by first|omega|(simp<;>omega)) _ | refine Below.setCell ?_ (by first|omega|(simp<;>omega)) _ | refine below_drewN ?_ _ | refine Below.drew ?_)),fun _ => .slice none 0 0,?_,⟨fun t ht=>?_,fun t u k _ _ _ hk=>by cases hk⟩⟩
  · have h:=World.rowIs_made (w.alloc (.cells #[.string nm,.int .i64 p,.int .i64 r,.slice ba bs.length bc] 38)) (.slice none 0 0) bs.length 33
    rw [show (w.alloc (.cells #[.string nm,.int .i64 p,.int .i64 r,.slice ba bs.length bc] 38)).heap.size=w.heap.size+1 by simp] at h;exact h
  · simpa [predsOf] using World.ownsRow_nil _ _ _ _
 case round =>
  obtain⟨k,hk,rfl,htab⟩:=hrel;have Htab:=hid htab
  by_cases hlt:k<bs.length
  · obtain⟨b,off,cs,rfl,hS,hx,-,hcs⟩:=Hb.out.get hlt
    obtain⟨pa,pc,la,lc,ta,tc,rfl,-,-,hts,hpm,hlm2,htm,-,-⟩:=hx.opens;obtain⟨c0,c1,c2,c3,c4,c5⟩:=(hcs.later htab.2.2.1).get6;have Hts:=hid hts;have htk2:=(Hto.out k _ (List.getElem?_eq_getElem hlt)).1;clear htab hcs hx hts;go_wp2_with fail;clear c0 c1 c2 c3 c4 c5;obtain⟨wo,rfl⟩:∃wo:World,wo=wr:=⟨_,rfl⟩
    go_loopw [24] (fun i wr=>∃j:Nat,j≤bs[k].fin.to.length∧i = .int .i64 j∧Tab w wr (w.heap.size+1) 33 3 bs.length (fun t=>predsOf (bs.take k) 0 t++hits (bs[k].fin.to.take j) t k)) (fun i _=>bs[k].fin.to.length - (intOf i).toNat)
    case atStart=>exact⟨0,Nat.zero_le _,rfl,(Htab.out.alloc _).congr (fun t _=>by simp [hits])⟩
    case round =>
     obtain⟨j,hj,rfl,htab⟩:=hrel;have Htab2:=hid htab
     by_cases hjl:j<bs[k].fin.to.length
     · obtain⟨b2,off2,cs,rfl,-,⟨rfl,hx64⟩,-,hcs⟩:=(Hts.out.later rInt_mono htab.2.2.1).get hjl
       have d0:=hcs.get1;rw [Nat.mul_one] at d0;have htk:=(Hto.out k _ (List.getElem?_eq_getElem hlt)).2 bs[k].fin.to[j] (List.getElem_mem hjl);obtain⟨t,ht⟩:=Int.eq_ofNat_of_zero_le htk.1;have htn:t<bs.length:=by omega
       rw [ht] at d0;obtain⟨R,hR⟩:∃R:Nat→List Int,R=(fun t=>predsOf (bs.take k) 0 t++hits (bs[k].fin.to.take j) t k):=⟨_,rfl⟩
       rw [←hR] at htab;obtain⟨t1,t2,t3,V,t4,t5⟩:=htab;have e0:=t4.cell htn;have hlen:(R t).length≤4194304:=by
        have h1:=predsOf_le bs 2 (fun i x hx=>(Hto.out i x hx).1) k 0 t;have h2:=hits_len (bs[k].fin.to.take j) t k;rw [hR,List.length_append];have:=List.length_take_le j bs[k].fin.to;omega
       have Hlen:=hid hlen;have HR:=hid hR;have Ht:=hid ht;have Ht1:=hid t1;have Ht3:=hid t3;have Ht4:=hid t4;have Ht5:=hid t5;clear hcs htk ht t1 t3 t4 t5 hlen hR;go_wp2_with (at_builtin;refine wpList_append_own_at _ rfl _ _ 33 rfl (w.heap.size+1+1) 3 i0 (.int .i64 0) 1 8 Tryz.underlying33 hi hz0 hz1 hz2 rfl (by decide) (V t) _ _ rfl ((Ht5.out.own t htn).alloc _) ⟨wr.heap.size,0,none⟩ 1 1 [.int .i64 k] rfl rfl (cell_one_new _ _ _) ?_ ?_ ?_ ?_ ?_)
       · intro u hu;simp at hu;subst hu;rfl
       · have:=Hlen.out;simp;unfold maxLen;omega
       · have:=Hlen.out;simp;omega
       · simp;omega
       · intro v' w1 hown hgrow hnil hblk
         obtain⟨q1,q2,htab'⟩:=Tab.push Ht1.out t2 Ht3.out Ht4.out Ht5.out htn (.cells #[.int .i64 k] 3) (by simpa using hown) hgrow (by simpa using hblk);have Htab3:=hid htab';have hown2:w1.ownsRow (w.heap.size+1+1) 3 1 v' ((R t).length+1) ((R t).map (Value.int .i64)++[.int .i64 k]):=by simpa using hown
         obtain⟨g,cap,rfl,-,-⟩:=own_shape hown2;clear hown hown2 hgrow hblk htab' hnil;go_wp2_with fail;go_roundw
         case rel =>
          refine⟨j+1,by omega,by go_num,Htab3.out.congr (fun u hu=>?_)⟩;rw [HR.out,hits_take _ _ _ _ hjl,Ht.out]
          by_cases hut:u=t
          · subst hut;simp
          · have:¬((t:Int)=(u:Int)):=by omega
            simp [hut,this]
         case measure=>simp [intOf];omega
     · go_wp2_with fail
       go_roundw
       case rel =>
        refine⟨k+1,by omega,by go_num,Htab2.out.congr (fun u hu=>?_)⟩;rw [predsOf_take _ _ _ hlt,show bs[k].fin.to.take j=bs[k].fin.to from List.take_of_length_le (by omega)]
       case measure=>simp [intOf];omega
  · go_wp2_with fail
    go_ret;obtain rfl:k=bs.length:=by omega
    have htab:=Htab.out;rw [List.take_length] at htab;exact⟨_,rfl,htab.done hn (fun t _ x hx=>by have:=predsOf_mem hx;unfold I64;omega),htab.2.2.1⟩

end Go.Proofs.YtnkogppgacappaaGreatDoor
