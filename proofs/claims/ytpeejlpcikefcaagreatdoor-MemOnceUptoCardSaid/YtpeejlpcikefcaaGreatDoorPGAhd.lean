import Derived.Test.YtpeejlpcikefcaaGreatDoorPRefA
/- The contract of code.ahead. The contract of graph.Ahead. -/
set_option maxHeartbeats 2000000
set_option maxRecDepth 100000
namespace Go.Proofs.YtpeejlpcikefcaaGreatDoor
section
open Go.RowKit
theorem amq:(Tryz.prog.info? 42).map (fun i=>(i.zero,i.size,i.bytes))=some (some (.slice none 0 0),1,24):=by kernel_rfl
theorem aop:(Tryz.prog.info? 3).map (fun i=>(i.zero,i.size,i.bytes))=some (some (.int .i64 0),1,8):=by kernel_rfl
theorem aoq {S : Nat -> Prop} (nm : ByteArray) (p r : Int) (ba : Option Addr) (bc : Nat) (bs : List DBlock) (w : World) (hb : SlAt S w 6 aa0 (.slice ba bs.length bc) bs) (hn : bs.length <= 1048576)
 (hto:∀(k:Nat) (x:DBlock),bs[k]?=some x->x.fin.to.length<=2∧∀t∈x.fin.to,0<=t∧t<(bs.length:Int)) :
 Calls Tryz.prog 70 #[.agg #[.string nm,.int .i64 p,.int .i64 r,.slice ba bs.length bc]] w fun e w' =>
  ∃v,e = .returned v∧SlAt (fun b=>w.heap.size<=b) w' 1 rRow v (aheadF bs)∧Below w.heap.size w w':=by
 have Hb:=hid hb;have ar:=hid hto;clear hb hto;have aJ:=run_make_row' (P:=Tryz.prog) 84 42 (.slice none 0 0) 24 Tryz.underlying84 amq rfl .i64 .i64 bs.length (by omega) (by omega);obtain⟨i0,hi,aG,aA,aH⟩:=info_parts aop;go_enter Tryz.func70,Tryz.ntmps70;go_wp2_with fail;go_loopw [15] (fun i wr=>∃k:Nat,k<=bs.length∧i = .int .i64 k∧Tab w wr (w.heap.size+1) 42 3 bs.length (fun t=>aaf (bs.take k) 0 t)) (fun i _=>bs.length - (intOf i).toNat)
 case atStart =>
  refine⟨0,Aaj _,rfl,by omega,by simp,bE,fun _ => .slice none 0 0,?_,⟨fun t ht=>?_,fun t u k _ _ _ hk=>by cases hk⟩⟩
  . have h:=World.rowIs_made (w.alloc (.cells #[.string nm,.int .i64 p,.int .i64 r,.slice ba bs.length bc] 37)) (.slice none 0 0) bs.length 42
    rw [show (w.alloc (.cells #[.string nm,.int .i64 p,.int .i64 r,.slice ba bs.length bc] 37)).heap.size=w.heap.size+1 by simp] at h;exact h
  . simpa [aaf] using World.ownsRow_nil _ _ _ _
 case round =>
  obtain⟨k,hk,rfl,ad⟩:=hrel;have al:=hid ad
  by_cases hlt:k<bs.length
  . obtain⟨b,off,cs,rfl,hS,hx,-,aj⟩:=Hb.out.get hlt
    obtain⟨pa,pc,la,lc,ta,tc,rfl,-,-,aw,aI,aE,aK,-,-⟩:=hx.opens;obtain⟨c0,c1,c2,c3,c4,c5⟩:=(aj.later ad.2.2.1).get6;have az:=hid aw;have aB:=(ar.out k _ (Aaa hlt)).1;clear ad aj hx aw;go_wp2_with fail;clear c0 c1 c2 c3 c4 c5;obtain⟨wo,rfl⟩:∃wo:World,wo=wr:=⟨_,rfl⟩
    go_loopw [24] (fun i wr=>∃j:Nat,j<=bs[k].fin.to.length∧i = .int .i64 j∧Tab w wr (w.heap.size+1) 42 3 bs.length (fun t=>aaf (bs.take k) 0 t++ae8 (bs[k].fin.to.take j) t k)) (fun i _=>bs[k].fin.to.length - (intOf i).toNat)
    case atStart=>exact⟨0,Aaj _,rfl,(al.out.alloc _).congr (fun t _=>by simp [ae8])⟩
    case round =>
     obtain⟨j,hj,rfl,ad⟩:=hrel;have ai:=hid ad
     by_cases hjl:j<bs[k].fin.to.length
     . obtain⟨b2,aD,cs,rfl,-,⟨rfl,ay⟩,-,aj⟩:=(az.out.later aaw ad.2.2.1).get hjl
       have d0:=aj.get1;rw [Abd] at d0;have au:=(ar.out k _ (Aaa hlt)).2 bs[k].fin.to[j] (Aaq hjl);obtain⟨t,ht⟩:=Abb au.1;have ao:t<bs.length:=by omega
       rw [ht] at d0;obtain⟨R,hR⟩:∃R:Nat->List Int,R=(fun t=>aaf (bs.take k) 0 t++ae8 (bs[k].fin.to.take j) t k):=⟨_,rfl⟩
       rw [<-hR] at ad;obtain⟨t1,t2,t3,V,t4,t5⟩:=ad;have e0:=t4.cell ao;have hlen:(R t).length<=4194304:=by
        have h1:=ai7 bs 2 (fun i x hx=>(ar.out i x hx).1) k 0 t;have h2:=ajH (bs[k].fin.to.take j) t k;rw [hR,Aau];have:=List.length_take_le j bs[k].fin.to;omega
       have ak:=hid hlen;have HR:=hid hR;have Ht:=hid ht;have aF:=hid t1;have ax:=hid t3;have aC:=hid t4;have av:=hid t5;clear aj au ht t1 t3 t4 t5 hlen hR;go_wp2_with (at_builtin;refine wpList_append_own_at _ rfl _ _ 42 rfl (w.heap.size+1+1) 3 i0 (.int .i64 0) 1 8 Tryz.underlying42 hi aG aA aH rfl (by decide) (V t) _ _ rfl ((av.out.own t ao).alloc _) ⟨wr.heap.size,0,none⟩ 1 1 [.int .i64 k] rfl rfl (cell_one_new _ _ _) ?_ ?_ ?_ ?_ ?_)
       . intro u hu;simp at hu;subst hu;rfl
       . have:=ak.out;simp;unfold maxLen;omega
       . have:=ak.out;simp;omega
       . simp;omega
       . intro v' w1 ah ag aq hblk
         obtain⟨q1,q2,ae⟩:=Tab.push aF.out t2 ax.out aC.out av.out ao (.cells #[.int .i64 k] 3) (by simpa using ah) ag (by simpa using hblk);have an:=hid ae;have af:w1.ownsRow (w.heap.size+1+1) 3 1 v' ((R t).length+1) ((R t).map (Value.int .i64)++[.int .i64 k]):=by simpa using ah
         obtain⟨g,cap,rfl,-,-⟩:=ah5 af;clear ah af ag hblk ae aq;go_wp2_with fail;go_roundw
         case rel =>
          refine⟨j+1,by omega,by go_num,an.out.congr (fun u hu=>?_)⟩;rw [HR.out,akL _ _ _ _ hjl,Ht.out]
          by_cases hut:u=t
          . subst hut;simp
          . have:¬((t:Int)=(u:Int)):=by omega
            simp [hut,this]
         case measure=>simp [intOf];omega
     . go_wp2_with fail
       go_roundw
       case rel =>
        refine⟨k+1,by omega,by go_num,ai.out.congr (fun u hu=>?_)⟩;rw [agH _ _ _ hlt,show bs[k].fin.to.take j=bs[k].fin.to from Abq (by omega)]
       case measure=>simp [intOf];omega
  . go_wp2_with fail
    go_ret;obtain rfl:k=bs.length:=by omega
    have ad:=al.out;rw [Aa1] at ad;exact⟨_,rfl,ad.done hn (fun t _ x hx=>by have:=abr hx;unfold I64;omega),ad.2.2.1⟩
end
section
open Go.RowKit
theorem adO {S : Nat -> Prop} (nm : ByteArray) (p r : Int) (ba : Option Addr) (bc : Nat) (bs : List DBlock) (w : World) (hb : SlAt S w 6 aa0 (.slice ba bs.length bc) bs) (hn : bs.length <= 1048576)
 (hto:∀(k:Nat) (x:DBlock),bs[k]?=some x->x.fin.to.length<=2∧∀t∈x.fin.to,0<=t∧t<(bs.length:Int)) :
 Calls Tryz.prog 74 #[.agg #[.string nm,.int .i64 p,.int .i64 r,.slice ba bs.length bc]] w fun e w' =>
  ∃v,e = .returned v∧SlAt (fun b=>w.heap.size<=b) w' 1 rRow v (aheadF bs)∧Below w.heap.size w w':=by
 have Hb:=hid hb;have ar:=hid hto;clear hb hto;have aJ:=run_make_row' (P:=Tryz.prog) 84 42 (.slice none 0 0) 24 Tryz.underlying84 amq rfl .i64 .i64 bs.length (by omega) (by omega);obtain⟨i0,hi,aG,aA,aH⟩:=info_parts aop;go_enter Tryz.func74,Tryz.ntmps74;go_wp2_with fail;go_loopw [15] (fun i wr=>∃k:Nat,k<=bs.length∧i = .int .i64 k∧Tab w wr (w.heap.size+1) 42 3 bs.length (fun t=>aaf (bs.take k) 0 t)) (fun i _=>bs.length - (intOf i).toNat)
 case atStart =>
  refine⟨0,Aaj _,rfl,by omega,by simp,bE,fun _ => .slice none 0 0,?_,⟨fun t ht=>?_,fun t u k _ _ _ hk=>by cases hk⟩⟩
  . have h:=World.rowIs_made (w.alloc (.cells #[.string nm,.int .i64 p,.int .i64 r,.slice ba bs.length bc] 37)) (.slice none 0 0) bs.length 42
    rw [show (w.alloc (.cells #[.string nm,.int .i64 p,.int .i64 r,.slice ba bs.length bc] 37)).heap.size=w.heap.size+1 by simp] at h;exact h
  . simpa [aaf] using World.ownsRow_nil _ _ _ _
 case round =>
  obtain⟨k,hk,rfl,ad⟩:=hrel;have al:=hid ad
  by_cases hlt:k<bs.length
  . obtain⟨b,off,cs,rfl,hS,hx,-,aj⟩:=Hb.out.get hlt
    obtain⟨pa,pc,la,lc,ta,tc,rfl,-,-,aw,aI,aE,aK,-,-⟩:=hx.opens;obtain⟨c0,c1,c2,c3,c4,c5⟩:=(aj.later ad.2.2.1).get6;have az:=hid aw;have aB:=(ar.out k _ (Aaa hlt)).1;clear ad aj hx aw;go_wp2_with fail;clear c0 c1 c2 c3 c4 c5;obtain⟨wo,rfl⟩:∃wo:World,wo=wr:=⟨_,rfl⟩
    go_loopw [24] (fun i wr=>∃j:Nat,j<=bs[k].fin.to.length∧i = .int .i64 j∧Tab w wr (w.heap.size+1) 42 3 bs.length (fun t=>aaf (bs.take k) 0 t++ae8 (bs[k].fin.to.take j) t k)) (fun i _=>bs[k].fin.to.length - (intOf i).toNat)
    case atStart=>exact⟨0,Aaj _,rfl,(al.out.alloc _).congr (fun t _=>by simp [ae8])⟩
    case round =>
     obtain⟨j,hj,rfl,ad⟩:=hrel;have ai:=hid ad
     by_cases hjl:j<bs[k].fin.to.length
     . obtain⟨b2,aD,cs,rfl,-,⟨rfl,ay⟩,-,aj⟩:=(az.out.later aaw ad.2.2.1).get hjl
       have d0:=aj.get1;rw [Abd] at d0;have au:=(ar.out k _ (Aaa hlt)).2 bs[k].fin.to[j] (Aaq hjl);obtain⟨t,ht⟩:=Abb au.1;have ao:t<bs.length:=by omega
       rw [ht] at d0;obtain⟨R,hR⟩:∃R:Nat->List Int,R=(fun t=>aaf (bs.take k) 0 t++ae8 (bs[k].fin.to.take j) t k):=⟨_,rfl⟩
       rw [<-hR] at ad;obtain⟨t1,t2,t3,V,t4,t5⟩:=ad;have e0:=t4.cell ao;have hlen:(R t).length<=4194304:=by
        have h1:=ai7 bs 2 (fun i x hx=>(ar.out i x hx).1) k 0 t;have h2:=ajH (bs[k].fin.to.take j) t k;rw [hR,Aau];have:=List.length_take_le j bs[k].fin.to;omega
       have ak:=hid hlen;have HR:=hid hR;have Ht:=hid ht;have aF:=hid t1;have ax:=hid t3;have aC:=hid t4;have av:=hid t5;clear aj au ht t1 t3 t4 t5 hlen hR;go_wp2_with (at_builtin;refine wpList_append_own_at _ rfl _ _ 42 rfl (w.heap.size+1+1) 3 i0 (.int .i64 0) 1 8 Tryz.underlying42 hi aG aA aH rfl (by decide) (V t) _ _ rfl ((av.out.own t ao).alloc _) ⟨wr.heap.size,0,none⟩ 1 1 [.int .i64 k] rfl rfl (cell_one_new _ _ _) ?_ ?_ ?_ ?_ ?_)
       . intro u hu;simp at hu;subst hu;rfl
       . have:=ak.out;simp;unfold maxLen;omega
       . have:=ak.out;simp;omega
       . simp;omega
       . intro v' w1 ah ag aq hblk
         obtain⟨q1,q2,ae⟩:=Tab.push aF.out t2 ax.out aC.out av.out ao (.cells #[.int .i64 k] 3) (by simpa using ah) ag (by simpa using hblk);have an:=hid ae;have af:w1.ownsRow (w.heap.size+1+1) 3 1 v' ((R t).length+1) ((R t).map (Value.int .i64)++[.int .i64 k]):=by simpa using ah
         obtain⟨g,cap,rfl,-,-⟩:=ah5 af;clear ah af ag hblk ae aq;go_wp2_with fail;go_roundw
         case rel =>
          refine⟨j+1,by omega,by go_num,an.out.congr (fun u hu=>?_)⟩;rw [HR.out,akL _ _ _ _ hjl,Ht.out]
          by_cases hut:u=t
          . subst hut;simp
          . have:¬((t:Int)=(u:Int)):=by omega
            simp [hut,this]
         case measure=>simp [intOf];omega
     . go_wp2_with fail
       go_roundw
       case rel =>
        refine⟨k+1,by omega,by go_num,ai.out.congr (fun u hu=>?_)⟩;rw [agH _ _ _ hlt,show bs[k].fin.to.take j=bs[k].fin.to from Abq (by omega)]
       case measure=>simp [intOf];omega
  . go_wp2_with fail
    go_ret;obtain rfl:k=bs.length:=by omega
    have ad:=al.out;rw [Aa1] at ad;exact⟨_,rfl,ad.done hn (fun t _ x hx=>by have:=abr hx;unfold I64;omega),ad.2.2.1⟩
end
end Go.Proofs.YtpeejlpcikefcaaGreatDoor
