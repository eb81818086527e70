import Derived.Test.YtnkfdeiigplhoaaGreatDoorPFour
/- The contract of code.ahead. The contract of graph.Ahead. -/
set_option maxHeartbeats 2000000
set_option maxRecDepth 100000
namespace Go.Proofs.YtnkfdeiigplhoaaGreatDoor
section
open Go.RowKit
theorem afB:(Tryz.prog.info? 26).map (fun i=>(i.zero,i.size,i.bytes))=some (some (.slice none 0 0),1,24):=by kernel_rfl
theorem ahr:(Tryz.prog.info? 3).map (fun i=>(i.zero,i.size,i.bytes))=some (some (.int .i64 0),1,8):=by kernel_rfl
theorem ahL {S : Nat -> Prop} (nm : ByteArray) (p r : Int) (ba : Option Addr) (bc : Nat) (bs : List aad) (w : World) (hb : SlAt S w 6 aaJ (.slice ba bs.length bc) bs) (hn : bs.length <= 1048576)
 (ay:∀(k:Nat) (x:aad),bs[k]?=some x->x.fin.to.length<=2∧∀t∈x.fin.to,0<=t∧t<(bs.length:Int)) :
 Calls Tryz.prog 52 #[.agg #[.string nm,.int .i64 p,.int .i64 r,.slice ba bs.length bc]] w fun e w' =>
  ∃v,e = .returned v∧SlAt (fun b=>w.heap.size<=b) w' 1 rRow v (aheadF bs)∧Below w.heap.size w w':=by
 have Hb:=hid hb;have ar:=hid ay;clear hb ay;have aL:=run_make_row' (P:=Tryz.prog) 27 26 (.slice none 0 0) 24 Tryz.underlying27 afB rfl .i64 .i64 bs.length (by omega) (by omega);obtain⟨i0,hi,aH,aI,aJ⟩:=info_parts ahr;go_enter Tryz.func52,Tryz.ntmps52;go_wp2_with fail;go_loopw [15] (fun i wr=>∃k:Nat,k<=bs.length∧i = .int .i64 k∧Tab w wr (w.heap.size+1) 26 3 bs.length (fun t=>aag (bs.take k) 0 t)) (fun i _=>bs.length - (intOf i).toNat)
 case atStart =>
  refine⟨0,Aah _,rfl,by omega,by simp,bE,fun _ => .slice none 0 0,?_,⟨fun t ht=>?_,fun t u k _ _ _ hk=>by cases hk⟩⟩
  . have h:=World.rowIs_made (w.alloc (.cells #[.string nm,.int .i64 p,.int .i64 r,.slice ba bs.length bc] 50)) (.slice none 0 0) bs.length 26
    rw [show (w.alloc (.cells #[.string nm,.int .i64 p,.int .i64 r,.slice ba bs.length bc] 50)).heap.size=w.heap.size+1 by simp] at h;exact h
  . simpa [aag] using World.ownsRow_nil _ _ _ _
 case round =>
  obtain⟨k,hk,rfl,ad⟩:=hrel;have ak:=hid ad
  by_cases hlt:k<bs.length
  . obtain⟨b,off,cs,rfl,hS,hx,-,aq⟩:=Hb.out.get hlt
    obtain⟨pa,pc,la,lc,ta,tc,rfl,-,-,az,aM,aE,aN,-,-⟩:=hx.opens;obtain⟨c0,c1,c2,c3,c4,c5⟩:=(aq.later ad.2.2.1).get6;have aD:=hid az;have aF:=(ar.out k _ (Aaa hlt)).1;clear ad aq hx az;go_wp2_with fail;clear c0 c1 c2 c3 c4 c5;obtain⟨wo,rfl⟩:∃wo:World,wo=wr:=⟨_,rfl⟩
    go_loopw [24] (fun i wr=>∃j:Nat,j<=bs[k].fin.to.length∧i = .int .i64 j∧Tab w wr (w.heap.size+1) 26 3 bs.length (fun t=>aag (bs.take k) 0 t++adU (bs[k].fin.to.take j) t k)) (fun i _=>bs[k].fin.to.length - (intOf i).toNat)
    case atStart=>exact⟨0,Aah _,rfl,(ak.out.alloc _).congr (fun t _=>by simp [adU])⟩
    case round =>
     obtain⟨j,hj,rfl,ad⟩:=hrel;have al:=hid ad
     by_cases hjl:j<bs[k].fin.to.length
     . obtain⟨b2,aK,cs,rfl,-,⟨rfl,aG⟩,-,aq⟩:=(aD.out.later aae ad.2.2.1).get hjl
       have d0:=aq.get1;rw [Aan] at d0;have ax:=(ar.out k _ (Aaa hlt)).2 bs[k].fin.to[j] (Aaf hjl);obtain⟨t,ht⟩:=Aas ax.1;have av:t<bs.length:=by omega
       rw [ht] at d0;obtain⟨R,hR⟩:∃R:Nat->List Int,R=(fun t=>aag (bs.take k) 0 t++adU (bs[k].fin.to.take j) t k):=⟨_,rfl⟩
       rw [<-hR] at ad;obtain⟨t1,t2,t3,V,t4,t5⟩:=ad;have e0:=t4.cell av;have hlen:(R t).length<=4194304:=by
        have h1:=ae2 bs 2 (fun i x hx=>(ar.out i x hx).1) k 0 t;have h2:=ahp (bs[k].fin.to.take j) t k;rw [hR,Aai];have:=List.length_take_le j bs[k].fin.to;omega
       have aj:=hid hlen;have HR:=hid hR;have Ht:=hid ht;have aA:=hid t1;have aB:=hid t3;have aC:=hid t4;have aw:=hid t5;clear aq ax ht t1 t3 t4 t5 hlen hR;go_wp2_with (at_builtin;refine wpList_append_own_at _ rfl _ _ 26 rfl (w.heap.size+1+1) 3 i0 (.int .i64 0) 1 8 Tryz.underlying26 hi aH aI aJ rfl (by decide) (V t) _ _ rfl ((aw.out.own t av).alloc _) ⟨wr.heap.size,0,none⟩ 1 1 [.int .i64 k] rfl rfl (cell_one_new _ _ _) ?_ ?_ ?_ ?_ ?_)
       . intro u hu;simp at hu;subst hu;rfl
       . have:=aj.out;simp;unfold maxLen;omega
       . have:=aj.out;simp;omega
       . simp;omega
       . intro v' w1 ai ae au ao
         obtain⟨q1,q2,ag⟩:=Tab.push aA.out t2 aB.out aC.out aw.out av (.cells #[.int .i64 k] 3) (by simpa using ai) ae (by simpa using ao);have an:=hid ag;have af:w1.ownsRow (w.heap.size+1+1) 3 1 v' ((R t).length+1) ((R t).map (Value.int .i64)++[.int .i64 k]):=by simpa using ai
         obtain⟨g,cap,rfl,-,-⟩:=acm af;clear ai af ae ao ag au;go_wp2_with fail;go_roundw
         case rel =>
          refine⟨j+1,by omega,by go_num,an.out.congr (fun u hu=>?_)⟩;rw [HR.out,aii _ _ _ _ hjl,Ht.out]
          by_cases hut:u=t
          . subst hut;simp
          . have:¬((t:Int)=(u:Int)):=by omega
            simp [hut,this]
         case measure=>simp [intOf];omega
     . go_wp2_with fail
       go_roundw
       case rel =>
        refine⟨k+1,by omega,by go_num,al.out.congr (fun u hu=>?_)⟩;rw [afj _ _ _ hlt,show bs[k].fin.to.take j=bs[k].fin.to from Aby (by omega)]
       case measure=>simp [intOf];omega
  . go_wp2_with fail
    go_ret;obtain rfl:k=bs.length:=by omega
    have ad:=ak.out;rw [Aay] at ad;exact⟨_,rfl,ad.done hn (fun t _ x hx=>by have:=abB hx;unfold I64;omega),ad.2.2.1⟩
end
section
open Go.RowKit
theorem agU {S : Nat -> Prop} (nm : ByteArray) (p r : Int) (ba : Option Addr) (bc : Nat) (bs : List aad) (w : World) (hb : SlAt S w 6 aaJ (.slice ba bs.length bc) bs) (hn : bs.length <= 1048576)
 (ay:∀(k:Nat) (x:aad),bs[k]?=some x->x.fin.to.length<=2∧∀t∈x.fin.to,0<=t∧t<(bs.length:Int)) :
 Calls Tryz.prog 120 #[.agg #[.string nm,.int .i64 p,.int .i64 r,.slice ba bs.length bc]] w fun e w' =>
  ∃v,e = .returned v∧SlAt (fun b=>w.heap.size<=b) w' 1 rRow v (aheadF bs)∧Below w.heap.size w w':=by
 have Hb:=hid hb;have ar:=hid ay;clear hb ay;have aL:=run_make_row' (P:=Tryz.prog) 27 26 (.slice none 0 0) 24 Tryz.underlying27 afB rfl .i64 .i64 bs.length (by omega) (by omega);obtain⟨i0,hi,aH,aI,aJ⟩:=info_parts ahr;go_enter Tryz.func120,Tryz.ntmps120;go_wp2_with fail;go_loopw [15] (fun i wr=>∃k:Nat,k<=bs.length∧i = .int .i64 k∧Tab w wr (w.heap.size+1) 26 3 bs.length (fun t=>aag (bs.take k) 0 t)) (fun i _=>bs.length - (intOf i).toNat)
 case atStart =>
  refine⟨0,Aah _,rfl,by omega,by simp,bE,fun _ => .slice none 0 0,?_,⟨fun t ht=>?_,fun t u k _ _ _ hk=>by cases hk⟩⟩
  . have h:=World.rowIs_made (w.alloc (.cells #[.string nm,.int .i64 p,.int .i64 r,.slice ba bs.length bc] 50)) (.slice none 0 0) bs.length 26
    rw [show (w.alloc (.cells #[.string nm,.int .i64 p,.int .i64 r,.slice ba bs.length bc] 50)).heap.size=w.heap.size+1 by simp] at h;exact h
  . simpa [aag] using World.ownsRow_nil _ _ _ _
 case round =>
  obtain⟨k,hk,rfl,ad⟩:=hrel;have ak:=hid ad
  by_cases hlt:k<bs.length
  . obtain⟨b,off,cs,rfl,hS,hx,-,aq⟩:=Hb.out.get hlt
    obtain⟨pa,pc,la,lc,ta,tc,rfl,-,-,az,aM,aE,aN,-,-⟩:=hx.opens;obtain⟨c0,c1,c2,c3,c4,c5⟩:=(aq.later ad.2.2.1).get6;have aD:=hid az;have aF:=(ar.out k _ (Aaa hlt)).1;clear ad aq hx az;go_wp2_with fail;clear c0 c1 c2 c3 c4 c5;obtain⟨wo,rfl⟩:∃wo:World,wo=wr:=⟨_,rfl⟩
    go_loopw [24] (fun i wr=>∃j:Nat,j<=bs[k].fin.to.length∧i = .int .i64 j∧Tab w wr (w.heap.size+1) 26 3 bs.length (fun t=>aag (bs.take k) 0 t++adU (bs[k].fin.to.take j) t k)) (fun i _=>bs[k].fin.to.length - (intOf i).toNat)
    case atStart=>exact⟨0,Aah _,rfl,(ak.out.alloc _).congr (fun t _=>by simp [adU])⟩
    case round =>
     obtain⟨j,hj,rfl,ad⟩:=hrel;have al:=hid ad
     by_cases hjl:j<bs[k].fin.to.length
     . obtain⟨b2,aK,cs,rfl,-,⟨rfl,aG⟩,-,aq⟩:=(aD.out.later aae ad.2.2.1).get hjl
       have d0:=aq.get1;rw [Aan] at d0;have ax:=(ar.out k _ (Aaa hlt)).2 bs[k].fin.to[j] (Aaf hjl);obtain⟨t,ht⟩:=Aas ax.1;have av:t<bs.length:=by omega
       rw [ht] at d0;obtain⟨R,hR⟩:∃R:Nat->List Int,R=(fun t=>aag (bs.take k) 0 t++adU (bs[k].fin.to.take j) t k):=⟨_,rfl⟩
       rw [<-hR] at ad;obtain⟨t1,t2,t3,V,t4,t5⟩:=ad;have e0:=t4.cell av;have hlen:(R t).length<=4194304:=by
        have h1:=ae2 bs 2 (fun i x hx=>(ar.out i x hx).1) k 0 t;have h2:=ahp (bs[k].fin.to.take j) t k;rw [hR,Aai];have:=List.length_take_le j bs[k].fin.to;omega
       have aj:=hid hlen;have HR:=hid hR;have Ht:=hid ht;have aA:=hid t1;have aB:=hid t3;have aC:=hid t4;have aw:=hid t5;clear aq ax ht t1 t3 t4 t5 hlen hR;go_wp2_with (at_builtin;refine wpList_append_own_at _ rfl _ _ 26 rfl (w.heap.size+1+1) 3 i0 (.int .i64 0) 1 8 Tryz.underlying26 hi aH aI aJ rfl (by decide) (V t) _ _ rfl ((aw.out.own t av).alloc _) ⟨wr.heap.size,0,none⟩ 1 1 [.int .i64 k] rfl rfl (cell_one_new _ _ _) ?_ ?_ ?_ ?_ ?_)
       . intro u hu;simp at hu;subst hu;rfl
       . have:=aj.out;simp;unfold maxLen;omega
       . have:=aj.out;simp;omega
       . simp;omega
       . intro v' w1 ai ae au ao
         obtain⟨q1,q2,ag⟩:=Tab.push aA.out t2 aB.out aC.out aw.out av (.cells #[.int .i64 k] 3) (by simpa using ai) ae (by simpa using ao);have an:=hid ag;have af:w1.ownsRow (w.heap.size+1+1) 3 1 v' ((R t).length+1) ((R t).map (Value.int .i64)++[.int .i64 k]):=by simpa using ai
         obtain⟨g,cap,rfl,-,-⟩:=acm af;clear ai af ae ao ag au;go_wp2_with fail;go_roundw
         case rel =>
          refine⟨j+1,by omega,by go_num,an.out.congr (fun u hu=>?_)⟩;rw [HR.out,aii _ _ _ _ hjl,Ht.out]
          by_cases hut:u=t
          . subst hut;simp
          . have:¬((t:Int)=(u:Int)):=by omega
            simp [hut,this]
         case measure=>simp [intOf];omega
     . go_wp2_with fail
       go_roundw
       case rel =>
        refine⟨k+1,by omega,by go_num,al.out.congr (fun u hu=>?_)⟩;rw [afj _ _ _ hlt,show bs[k].fin.to.take j=bs[k].fin.to from Aby (by omega)]
       case measure=>simp [intOf];omega
  . go_wp2_with fail
    go_ret;obtain rfl:k=bs.length:=by omega
    have ad:=ak.out;rw [Aay] at ad;exact⟨_,rfl,ad.done hn (fun t _ x hx=>by have:=abB hx;unfold I64;omega),ad.2.2.1⟩
end
end Go.Proofs.YtnkfdeiigplhoaaGreatDoor
