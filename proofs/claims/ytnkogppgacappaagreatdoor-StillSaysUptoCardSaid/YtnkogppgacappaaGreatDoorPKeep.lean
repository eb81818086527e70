/- A world in which one row alone is turned. tidy.Keep: the walk. -/
import Derived.Test.YtnkogppgacappaaGreatDoorPFour
import Derived.Test.YtnkogppgacappaaGreatDoorPGlobs
import Derived.Test.YtnkogppgacappaaGreatDoorPKeep1
import Derived.Test.YtnkogppgacappaaGreatDoorPSortF
import Derived.Test.YtnkogppgacappaaGreatDoorPGCopy
import Derived.Test.YtnkogppgacappaaGreatDoorPGAhd
import Derived.Test.YtnkogppgacappaaGreatDoorPRepI
import Derived.BigRegion
import Derived.Deep.DeepCutAuto
import Derived.Deep.RegionHeld3
import Derived.Deep.RegionLaw
import Derived.Deep.RegionWith
namespace Go.Proofs.YtnkogppgacappaaGreatDoor
open Go.RowKit

structure RowSt (w0 W:World)(XB:Nat)(e:TypeId)(cs:List Value):Prop where
 size:w0.heap.size≤W.heap.size
 keep:∀b,b<w0.heap.size→b≠XB→W.heap[b]?=w0.heap[b]?
 env:W.os=w0.os∧W.tape=w0.tape∧W.output=w0.output
 row:W.heap[XB]?=some (.cells cs.toArray e (0,0))
section
variable {w0 W W' : World} {XB : Nat} {e : TypeId} {cs : List Value}
theorem RowSt.at(h:RowSt w0 W XB e cs){i:Nat}{u:Value}(hi:cs[i]?=some u):W.cell? ⟨XB,i,none⟩=some u:=by
 rw [cell_row h.row,List.getElem?_toArray];exact hi
theorem RowSt.fz(h:RowSt w0 W XB e cs)(i:Nat):W.frozen? ⟨XB,i,none⟩=false:=by simp [World.frozen?,h.row]
theorem RowSt.lt(h:RowSt w0 W XB e cs):XB<W.heap.size:=(Array.getElem?_eq_some_iff.1 h.row).1
theorem RowSt.set(h:RowSt w0 W XB e cs)(i:Nat)(u:Value):RowSt w0 (W.setCell ⟨XB,i,none⟩ u) XB e (cs.set i u) :=
 ⟨by simpa [World.setCell] using h.size,fun b h1 h2=>by rw [Below.heap_setCell _ _ _ _ (by dsimp only;exact h2)];exact h.keep b h1 h2,h.env,by rw [heap_set_row h.row];simp⟩
theorem RowSt.below {w:World}(h:RowSt w0 W XB e cs)(hb:Below w.heap.size w w0)(h1:w.heap.size≤XB):Below w.heap.size w W:=by
 have hz:=hb.size;exact⟨h.env.1.trans hb.os,h.env.2.1.trans hb.tape,h.env.2.2.trans hb.output,Nat.le_trans hz h.size,fun k hk=>(h.keep k (by omega) (by omega)).trans (hb.block k hk)⟩
theorem RowSt.sl {α:Type}{r:Rp α}(hr:r.Mono){S:Nat→Prop}{sz:Nat}{v:Value}{l:List α}(h:RowSt w0 W XB e cs)(hS:∀b,S b→b≠XB)(hs:SlAt S w0 sz r v l):SlAt S W sz r v l :=
 hs.mono hr (fun _ h=>h) (stays_at fun b hb hl=>h.keep b hl (hS b hb))
end
end Go.Proofs.YtnkogppgacappaaGreatDoor

namespace Go.Proofs.YtnkogppgacappaaGreatDoor
open Go.RowKit

theorem infoFrom:(Tryz.prog.info? 159).map (fun i=>(i.zero,i.size,i.bytes))=some (some (.agg #[.int .i64 0,.bool false,.int .i64 0]),3,24):=by kernel_rfl
set_option maxRecDepth 100000 in
set_option maxHeartbeats 8000000 in
theorem keep_any {S : Nat → Prop} (nm : ByteArray) (p r : Int) (bs : List DBlock) (V : Pth → Value) (base : Nat) (w : World) (hf : FunSt w base bs V) (hbase : base ≤ w.heap.size) (hok : FunOk bs)
 (oa:Option Addr) (m oc:Nat) (ord:List Int) (ho:SlAt S w 1 rInt (.slice oa m oc) ord) (hom:ord.length=m) (hm:m≤1048576) (hS:∀b,S b→b<w.heap.size∧∀q,okP bs q→(V q).ownBlock≠some b)
 (hin:∀x∈ord,0≤x∧x<(bs.length:Int)) (hnd:ord.Nodup) :
 Calls Tryz.prog 74 #[.agg #[.string nm,.int .i64 p,.int .i64 r,V .blks],.slice oa m oc] w fun e w' =>
  ∃V',e = .returned (.agg #[.string nm,.int .i64 p,.int .i64 r,V' .blks])∧FunSt w' base (keepF bs ord) V'∧Below base w w'∧Kept S w w' (keepF bs ord) V':=by
 obtain⟨ba,bc,hbv⟩:=RowsAt.shape (p := .blks) hf trivial;obtain⟨n,hn⟩:∃n,n=bs.length:=⟨_,rfl⟩
 have hbl:(elemsP bs V .blks).length=n:=by simp [elemsP,hn]
 rw [hbl] at hbv;have hn2:n≤1048576:=by rw [hn];exact hok.len
 have Hf:=hid hf;have Hok:=hid hok;have Ho:=hid ho;have Hom:=hid hom;have HS:=hid hS;have Hin:=hid hin;have Hnd:=hid hnd;have Hn:=hid hn;have Hbv:=hid hbv;rw [hbv];clear hf hok ho hom hS hin hnd hn hbl hbv;go_enter Tryz.func74,Tryz.ntmps74;go_upto_region 1 with (fail)
 obtain⟨W,hW⟩:∃W,W=(w.alloc (.cells #[.string nm,.int .i64 p,.int .i64 r,.slice ba n bc] 38)).alloc (.cells #[.string ⟨#[]⟩,.int .i64 0,.int .i64 0,.slice none 0 0] 38):=⟨_,rfl⟩
 obtain⟨hWs,h0,h1⟩:=two_cells w (.cells #[.string nm,.int .i64 p,.int .i64 r,.slice ba n bc] 38) (.cells #[.string ⟨#[]⟩,.int .i64 0,.int .i64 0,.slice none 0 0] 38);rw [←hW] at hWs h0 h1 ⊢;have hbW:Below w.heap.size w W:=by rw [hW];(repeat (first | exact Below.refl _ _ | refine Below.alloc ?_ (by first|omega|(simp<;>omega)) _ | refine Below.setCell ?_ (by first|omega|(simp<;>omega)) _ | refine below_drewN ?_ _ | refine Below.drew ?_))
 obtain⟨UB,hUB⟩:∃UB,UB=w.heap.size:=⟨_,rfl⟩
 obtain⟨UO,hUO⟩:∃UO,UO=w.heap.size+1:=⟨_,rfl⟩
 rw [←hUO] at h1 ⊢;rw [←hUB] at h0 ⊢;have HUs:Hid (UB=w.heap.size∧UO=w.heap.size+1∧W.heap.size=w.heap.size+2):=⟨hUB,hUO,hWs⟩
 have HB:Hid (base≤w.heap.size):=hbase;obtain⟨c0,c1,c2,c3⟩:=(cells_of (cs:=[_,_,_,_]) h0).get4;rw [Nat.zero_add] at c1 c2 c3;have H0:=hid h0;have H1:=hid h1;have HbW:=hid hbW;have zB:UB<W.heap.size:=cell_lt c0;clear hW h0 h1 hbW hUB hUO hWs hbase c0 c1 c2;go_upto_region 2 with (go_at_call 90;refine (repeatInts_any _ _ (-1) n hn2 _ (new_cells _ [.int .i64 (-1)] 3 rfl 0 _ rfl)).mono ?_;rintro e w2 ⟨T,rfl,hg,hrow,hb2⟩;have hWb2:Below W.heap.size W w2:=(by (have hz0:=(hb2).size;have hy0:=hz0;(try simp at hy0);repeat (first | exact Below.refl _ _ | refine Below.trans ?_ ((hb2).mono (by first|omega|(simp<;>omega))) | refine Below.alloc ?_ (by first|omega|(simp<;>omega)) _ | refine Below.setCell ?_ (by first|omega|(simp<;>omega)) _ | refine below_drewN ?_ _ | refine Below.drew ?_)));have hT:W.heap.size≤T:=(by simp at hg;omega);have Hrow:=hid hrow;have HWb2:=hid hWb2;have HT:=hid hT;clear hg hrow hb2 hWb2 hT)
 have hst:RowSt w2 w2 T 3 (plcRow ord n 0):=⟨Nat.le_refl _,fun _ _ _=>rfl,⟨rfl,rfl,rfl⟩,by rw [plcRow_zero];exact Hrow.out⟩
 have Hst:=hid hst;have Hb2:Hid (Below w.heap.size w w2):=HbW.out.trans (HWb2.out.mono HbW.out.size);clear hst c3 zB;go_wp2_with fail;go_loopw [30] (fun i wr=>∃k:Nat,k≤m∧i = .int .i64 (k:Int)∧RowSt w2 wr T 3 (plcRow ord n k)) (fun i _=>m - (intOf i).toNat)
 case atStart=>exact⟨0,Nat.zero_le _,rfl,Hst.out⟩
 case round =>
  obtain⟨k,hk,rfl,hst⟩:=hrel;have Hsk:=hid hst
  by_cases hkm:k<m
  · have hkl:k<ord.length:=by rw [Hom.out];exact hkm
    obtain⟨b,hb⟩:∃b,b=ord[k]:=⟨_,rfl⟩
    have hbi:=Hin.out ord[k] (List.getElem_mem hkl);rw [←hb,←Hn.out] at hbi;obtain⟨ob,ooff,rfl,c0⟩:=int_at9 (hst.sl rInt_mono (fun b hb=>by have:=(HS.out b hb).1;have:=HT.out;have:=HbW.out.size;omega) (Ho.out.later rInt_mono Hb2.out)) hkl;rw [←hb] at c0;obtain⟨q,rfl⟩:=Int.eq_ofNat_of_zero_le hbi.1;have hqn:q<n:=by omega
    have c1:=hst.at (plcRow_at ord n k hqn)
    have f1:=hst.fz q;have hset:=hst.set q (.int .i64 (k:Int));rw [plcRow_succ ord n k q hkl hb.symm] at hset;have Hset:=hid hset;have z0:ob<wr.heap.size:=cell_lt c0;have z1:T<wr.heap.size:=cell_lt c1;clear hst hb hbi hset;go_wp2_with fail;go_roundw
    case rel=>exact⟨k+1,by omega,by go_num,Hset.out⟩
    case measure=>simp [intOf];omega
  · have hkm':m=k:=by omega
    subst hkm';have hub:wr.heap[UB]?=some (.cells #[.string nm,.int .i64 p,.int .i64 r,.slice ba n bc] 38 (0,0)):=(hst.keep UB (by have:=HUs.out;have:=HWb2.out.size;omega) (by have:=HUs.out;have:=HT.out;omega)).trans ((HWb2.out.block UB (by have:=HUs.out;omega)).trans H0.out);have huo:wr.heap[UO]?=some (.cells #[.string ⟨#[]⟩,.int .i64 0,.int .i64 0,.slice none 0 0] 38 (0,0)):=(hst.keep UO (by have:=HUs.out;have:=HWb2.out.size;omega) (by have:=HUs.out;have:=HT.out;omega)).trans ((HWb2.out.block UO (by have:=HUs.out;omega)).trans H1.out);obtain⟨c0,c1,c2,c3⟩:=(cells_of (cs:=[_,_,_,_]) hub).get4;rw [Nat.zero_add] at c1 c2 c3;have hbr:Below w.heap.size w wr:=hst.below Hb2.out (by have:=HT.out;have:=HbW.out.size;omega);have hfr:FunSt wr base bs V:=Hf.out.later hbr;have hrd:SlAt (fun b=>base≤b∧b<wr.heap.size) wr 6 rBlock (.slice ba bs.length bc) bs:=by
     have h:=hfr.read Hok.out.num;rw [Hbv.out,Hn.out] at h;exact h
    have Hga:=hid (gahead_any nm p r ba bc bs wr hrd Hok.out.len Hok.out.hto);rw [←Hn.out] at Hga;have Hub:=hid hub;have Huo:=hid huo;have Hbr:=hid hbr;have Hfr:=hid hfr;have HTr:Hid (T<wr.heap.size):=hst.lt;clear hub huo hbr hfr hrd hst hkm hk;go_upto_region 8 with (go_at_call 53;refine Hga.out.mono ?_;rintro e W3 ⟨av,rfl,hav,hb3⟩;obtain⟨aa,ac,hav2,-⟩:=id hav.val;subst hav2;have Hav:=hid hav;have Hb3:=hid hb3;clear hav hb3)
    rw [show (aheadF bs).length=n by simp [aheadF,Hn.out]];have HX:Hid (∀b,w.heap.size≤b→b<W3.heap.size→keepX base S w.heap.size W3.heap.size b):=fun b h1 h2 => .inr (.inr ⟨h1,h2⟩);have hst3:=KpSt.start Hf.out (Hbr.out.trans (Hb3.out.mono Hbr.out.size)) HB.out HS.out ord;have Hst3:=hid hst3;have Hw3:Hid (Below w.heap.size w W3):=Hbr.out.trans (Hb3.out.mono Hbr.out.size);have Hub3:Hid (W3.heap[UB]?=some (.cells #[.string nm,.int .i64 p,.int .i64 r,.slice ba n bc] 38 (0,0))):=(Hb3.out.block UB (by have:=HTr.out;have:=HT.out;have:=HUs.out;omega)).trans Hub.out;have Huo3:Hid (W3.heap[UO]?=some (.cells #[.string ⟨#[]⟩,.int .i64 0,.int .i64 0,.slice none 0 0] 38 (0,0))):=(Hb3.out.block UO (by have:=HTr.out;have:=HT.out;have:=HUs.out;omega)).trans Huo.out;have Hrow3:Hid (W3.heap[T]?=some (.cells (plcRow ord n m).toArray 3 (0,0))):=(Hb3.out.block T HTr.out).trans Hsk.out.row;have Hnum:Hid (w.heap.size≤UB∧UB<W3.heap.size∧w.heap.size≤UO∧UO<W3.heap.size∧w.heap.size≤T∧T<W3.heap.size):=by
     show _∧_;have:=HTr.out;have:=HT.out;have:=HUs.out;have:=Hb3.out.size;omega
    have Hav3:Hid (SlAt (fun b=>w.heap.size≤b∧b<W3.heap.size) W3 1 rRow (.slice aa n ac) (aheadF bs)):=by
     have h:=Hav.out;rw [show (aheadF bs).length=n by simp [aheadF,Hn.out]] at h;exact (h.live (by decide) live_row).mono rRow_mono (fun b hb=>⟨Nat.le_trans Hbr.out.size hb.1,hb.2⟩) (Stays.refl _ _)
    clear hst3 c0 c1 c2 c3 Hga Hub Huo Hbr Hfr HTr Hsk Hst Hb2 Hrow Hav Hb3 HT HWb2 HbW;go_wp2_with fail;go_loopw [44,9] (fun s44 s9 wr=>∃(k:Nat) (bsk:List DBlock) (U:Pth→Value) (na:Option Addr) (nc:Nat),k≤m∧s44 = .int .i64 (k:Int)∧s9 = .slice na k nc∧U .vBlk = .slice na k nc∧KpSt W3 wr base (keepX base S w.heap.size W3.heap.size) bs ord V k bsk U) (fun s44 _ _=>m - (intOf s44).toNat)
    case atStart=>exact⟨0,bs,_,none,0,Nat.zero_le _,rfl,rfl,updP_self _ _ _,Hst3.out⟩
    case round =>
     obtain⟨wo,hwo⟩:∃wo:World,wo=wr:=⟨_,rfl⟩
     subst hwo;obtain⟨k,bsk,U,na,nc,hk,rfl,rfl,hnv,hst⟩:=hrel;have Hst:=hid hst;have Hnv:=hid hnv;have Hxc:Hid (∀b o u,w.heap.size≤b→b<W3.heap.size→W3.cell? ⟨b,o,none⟩=some u→wo.cell? ⟨b,o,none⟩=some u):=fun b o u h1 h2 h3=>hst.st.cell (HX.out b h1 h2) h3
     by_cases hkm:k<m
     · have hkl:k<ord.length:=by rw [Hom.out];exact hkm
       have hk':k≤ord.length:=Nat.le_of_lt hkl;have hbi:=Hin.out ord[k] (List.getElem_mem hkl);obtain⟨ob,ooff,rfl,o0⟩:=int_at9 ((Ho.out.later rInt_mono Hw3.out).mono rInt_mono (fun _ h=>h) (hst.st.stays (S:=S) fun b hb => .inr (.inl hb))) hkl;obtain⟨q,hq⟩:=Int.eq_ofNat_of_zero_le hbi.1;rw [hq] at o0 hbi;have hqn:q<bs.length:=by omega
       have hok:ord[k]?=some (q:Int):=by rw [List.getElem?_eq_getElem hkl,hq]
       obtain⟨hbq,hkp⟩:=hst.opens hqn hok Hnd.out;obtain⟨pa,pc,hvp⟩:=RowsAt.shape (p := .phis q) Hf.out hqn;obtain⟨la,lc,hvl⟩:=RowsAt.shape (p := .list q) Hf.out hqn;obtain⟨ta,tc,hvt⟩:=RowsAt.shape (p := .to q) Hf.out hqn;obtain⟨x,hx⟩:∃x,x=blkOf bs q:=⟨_,rfl⟩
       obtain⟨pn,hpn⟩:∃pn,pn=x.phis.length:=⟨_,rfl⟩
       obtain⟨ln,hln⟩:∃ln,ln=x.list.length:=⟨_,rfl⟩
       obtain⟨tn,htn⟩:∃tn,tn=x.fin.to.length:=⟨_,rfl⟩
       obtain⟨ek,hek⟩:∃ek,ek=x.fin.kind:=⟨_,rfl⟩
       obtain⟨er,her⟩:∃er,er=x.fin.on.reg:=⟨_,rfl⟩
       obtain⟨en,hen⟩:∃en,en=x.fin.on.n:=⟨_,rfl⟩
       rw [show (elemsP bs V (.phis q)).length=pn by simp [elemsP,hpn,hx]] at hvp;rw [show (elemsP bs V (.list q)).length=ln by simp [elemsP,hln,hx]] at hvl;rw [show (elemsP bs V (.to q)).length=tn by simp [elemsP,htn,hx]] at hvt;have hcs:(elN bsk U (nsO bs V ord k) .blks)[q]?=some [.slice pa pn pc,.slice la ln lc,.int .i64 ek,.bool er,.int .i64 en,.slice ta tn tc]:=by
        rw [elN_ne (by simp)];simp only [elemsP];rw [mapIdx_at,blkOf_self bsk (by rw [hst.len];exact hqn),hbq,Option.map_some,(hst.same.2 q).1,(hst.same.2 q).2.1,(hst.same.2 q).2.2,hvp,hvl,hvt,hek,her,hen,hx];rfl
       obtain⟨R,rc,hRv,-,-,hRb,hRl⟩:=hst.st.rows.addr (p := .blks) (.inl trivial) (Nat.lt_of_le_of_lt (Nat.zero_le _) (List.getElem?_eq_some_iff.1 hcs).1);rw [hst.same.1,Hbv.out] at hRv;have hba:ba=some ⟨R,0,none⟩:=by injection hRv
       subst hba;have hat6:CellsAt wo R (q * 6) [.slice pa pn pc,.slice la ln lc,.int .i64 ek,.bool er,.int .i64 en,.slice ta tn tc]:=(hst.st.rows.at (p := .blks) (.inl trivial) (hst.same.1.trans Hbv.out) hcs).1;obtain⟨q0,q1,q2,q3,q4,q5⟩:=hat6.get6;have u3:wo.cell? ⟨UB,3,none⟩=some (.slice (some ⟨R,0,none⟩) n bc):=by
        have h:=(cells_of (cs:=[_,_,_,_]) Hub3.out) 3 _ rfl;rw [Nat.zero_add] at h;exact Hxc.out UB 3 _ Hnum.out.1 Hnum.out.2.1 h
       have hqn2:q<n:=by rw [Hn.out];exact hqn
       have Hx:Hid (x=blkOf bs q):=hx;have Hdat:Hid (pn=x.phis.length∧ln=x.list.length∧tn=x.fin.to.length∧ek=x.fin.kind∧er=x.fin.on.reg∧en=x.fin.on.n):=⟨hpn,hln,htn,hek,her,hen⟩
       have Hvs:Hid (V (.phis q) = .slice pa pn pc∧V (.list q) = .slice la ln lc∧V (.to q) = .slice ta tn tc):=⟨hvp,hvl,hvt⟩
       have Hqn:=hid hqn;have Hok2:=hid hok;have hkp2:KpIn W3 wo base (keepX base S w.heap.size W3.heap.size) bsk q x V (nsO bs V ord k) (.slice na k nc) U:=by rw [hx,←hnv];exact hkp
       have Hkp:=hid hkp2;clear hst hnv hbi hq hok hbq hkp hkp2 hvp hvl hvt hx hpn hln htn hek her hen hcs hRv hRb hRl hat6 hkl hqn;go_upto_region 13 with (fail)
       obtain⟨LB,hLB⟩:∃LB,LB=wo.heap.size:=⟨_,rfl⟩
       obtain⟨W4,hW4⟩:∃W4,W4=wo.alloc (.cells #[.slice pa pn pc,.slice la ln lc,.int .i64 ek,.bool er,.int .i64 en,.slice ta tn tc] 76):=⟨_,rfl⟩
       have hl4:W4.heap[LB]?=some (.cells #[.slice pa pn pc,.slice la ln lc,.int .i64 ek,.bool er,.int .i64 en,.slice ta tn tc] 76 (0,0)):=by rw [hW4,hLB];exact heap_alloc_new _ _
       rw [←hW4,←hLB];have hb4:Below wo.heap.size wo W4:=by rw [hW4];(repeat (first | exact Below.refl _ _ | refine Below.alloc ?_ (by first|omega|(simp<;>omega)) _ | refine Below.setCell ?_ (by first|omega|(simp<;>omega)) _ | refine below_drewN ?_ _ | refine Below.drew ?_))
       have h4s:W4.heap.size=LB+1:=by rw [hW4,hLB];simp
       have hk4:KpIn W4 W4 base (keepX1 base S w.heap.size W3.heap.size LB) bsk q x V (nsO bs V ord k) (.slice na k nc) U:=by
        refine (Hkp.out.later hb4).keep (fun b hb=>?_) (fun pp hpp kk hkk hx=>?_)
        · rcases hb with h | h
          · exact Nat.lt_of_lt_of_le (Hkp.out.st.x_lt h) hb4.size
          · omega
        · rcases hx with h | h
          · exact Hkp.out.st.off pp hpp kk hkk h
          · have:=(Hkp.out.st.rows.lt hpp kk hkk).2;omega
       have Hk4:=hid hk4;have Hb4:Hid (Below wo.heap.size wo W4∧W4.heap.size=LB+1∧LB=wo.heap.size):=⟨hb4,h4s,hLB⟩
       have Hl4:=hid hl4;obtain⟨l0,l1,l2,l3,l4,l5⟩:=(cells_of (cs:=[_,_,_,_,_,_]) hl4).get6;rw [Nat.zero_add] at l1 l2 l3 l4 l5;have H4c:Hid (∀b o u,w.heap.size≤b→b<W3.heap.size→W3.cell? ⟨b,o,none⟩=some u→W4.cell? ⟨b,o,none⟩=some u):=fun b o u h1 h2 h3=>cell_later' (Hxc.out b o u h1 h2 h3) hb4;clear hLB hW4 hl4 hb4 h4s hk4 q0 q1 q2 q3 q4 q5 u3 o0;have hpn2:pn≤1048576:=by rw [Hdat.out.1,Hx.out];exact (Hok.out.small _ (List.mem_of_getElem? (blkOf_self bs Hqn.out))).phis
       go_wp2_with fail;clear l0 l1 l2 l3 l4 l5;go_loopw [56] (fun s56 wr=>∃(i:Nat) (U':Pth→Value),i≤pn∧s56 = .int .i64 (i:Int)∧KpIn W4 wr base (keepX1 base S w.heap.size W3.heap.size LB) bsk q (phiUp (plcO ord) (predsOf bs 0 q) x i) V (nsO bs V ord k) (.slice na k nc) U') (fun s56 _=>pn - (intOf s56).toNat)
       case atStart=>exact⟨0,U,Nat.zero_le _,rfl,by rw [phiUp_zero];exact Hk4.out⟩
       case round =>
        obtain⟨wp,hwp⟩:∃wp:World,wp=wr:=⟨_,rfl⟩
        subst hwp;obtain⟨i,U',hi,rfl,hin5⟩:=hrel;have Hin5:=hid hin5
        by_cases hipn:i<pn
        · obtain⟨ph,hph⟩:∃ph,x.phis[i]?=some ph:=⟨_,List.getElem?_eq_getElem (by have:=Hdat.out.1;omega)⟩
          have hbs:blkOf (bsk.set q (phiUp (plcO ord) (predsOf bs 0 q) x i)) q=phiUp (plcO ord) (predsOf bs 0 q) x i:=by rw [blkOf_set (by rw [Hst.out.len];exact Hqn.out),if_pos rfl]
          have hyp:(phiUp (plcO ord) (predsOf bs 0 q) x i).phis[i]?=some ph:=by
           show (x.phis.mapIdx _)[i]?=_;rw [mapIdx_at,hph];simp
          have hil:i<(phiUp (plcO ord) (predsOf bs 0 q) x i).phis.length:=(List.getElem?_eq_some_iff.1 hyp).1;obtain⟨fa,fc,hvf⟩:=RowsAt.shape (p := .src q i) hin5.st.rows (.inl (by show i<(blkOf _ q).phis.length;rw [hbs];exact hil));obtain⟨fn,hfn⟩:∃fn,fn=ph.src.length:=⟨_,rfl⟩
          obtain⟨pd,hpd⟩:∃pd,pd=ph.dst:=⟨_,rfl⟩
          have hcsr:elN (bsk.set q (phiUp (plcO ord) (predsOf bs 0 q) x i)) U' (nsO bs V ord k) (.src q i)=ph.src.map cellsV:=by
           rw [elN_ne (by simp)];simp only [elemsP];rw [hbs,List.getD_eq_getElem?_getD,hyp];rfl
          rw [hcsr,List.length_map,←hfn] at hvf;have hcs:(elN (bsk.set q (phiUp (plcO ord) (predsOf bs 0 q) x i)) U' (nsO bs V ord k) (.phis q))[i]?=some [.int .i64 pd,.slice fa fn fc]:=by
           rw [elN_ne (by simp)];simp only [elemsP];rw [hbs,mapIdx_at,hyp,Option.map_some,hvf,hpd]
          have hokq:okN (bsk.set q (phiUp (plcO ord) (predsOf bs 0 q) x i)) (.phis q) := .inl (by show q<_;rw [List.length_set,Hst.out.len];exact Hqn.out);obtain⟨P,pcap,hPv,-,-,hPb,hPl⟩:=hin5.st.rows.addr (p := .phis q) hokq (Nat.lt_of_le_of_lt (Nat.zero_le _) (List.getElem?_eq_some_iff.1 hcs).1);rw [(hin5.same.2 q).1,Hvs.out.1] at hPv;have hpa:pa=some ⟨P,0,none⟩:=by injection hPv
          subst hpa;have hat2:CellsAt wp P (i * 2) [.int .i64 pd,.slice fa fn fc]:=(hin5.st.rows.at (p := .phis q) hokq ((hin5.same.2 q).1.trans Hvs.out.1) hcs).1;obtain⟨q0,q1⟩:=hat2.get2;have hfn2:fn≤1048576:=by rw [hfn];exact (Hok.out.small _ (List.mem_of_getElem? (blkOf_self bs Hqn.out))).src ph (by rw [←Hx.out];exact List.mem_of_getElem? hph)
          have hAl:(predsOf bs 0 q).length=fn:=by rw [hfn];exact (Hok.out.src q Hqn.out ph (by rw [←Hx.out];exact List.mem_of_getElem? hph)).symm
          have Hph:=hid hph;have Hbs:=hid hbs;have Hyp:=hid hyp;have Hcsr:=hid hcsr;have Hfn:Hid (fn=ph.src.length∧pd=ph.dst):=⟨hfn,hpd⟩
          have Hvf:=hid hvf;have HAl:=hid hAl;have HP:Hid (base≤P∧P<wp.heap.size):=⟨hPb,hPl⟩
          clear hin5 hph hbs hyp hil hvf hfn hpd hcsr hcs hokq hPv hPb hPl hat2 hAl;go_upto_region 17 with (fail)
          obtain⟨PB,hPB⟩:∃PB,PB=wp.heap.size:=⟨_,rfl⟩
          obtain⟨W5,hW5⟩:∃W5,W5=wp.alloc (.cells #[.int .i64 pd,.slice fa fn fc] 94):=⟨_,rfl⟩
          have hl5:W5.heap[PB]?=some (.cells #[.int .i64 pd,.slice fa fn fc] 94 (0,0)):=by rw [hW5,hPB];exact heap_alloc_new _ _
          rw [←hW5,←hPB];have hb5:Below wp.heap.size wp W5:=by rw [hW5];(repeat (first | exact Below.refl _ _ | refine Below.alloc ?_ (by first|omega|(simp<;>omega)) _ | refine Below.setCell ?_ (by first|omega|(simp<;>omega)) _ | refine below_drewN ?_ _ | refine Below.drew ?_))
          have h5s:W5.heap.size=PB+1:=by rw [hW5,hPB];simp
          have H5c:Hid (∀b o u,w.heap.size≤b→b<W3.heap.size→W3.cell? ⟨b,o,none⟩=some u→W5.cell? ⟨b,o,none⟩=some u):=fun b o u h1 h2 h3=>cell_later' (Hin5.out.st.cell (.inl (HX.out b h1 h2)) (H4c.out b o u h1 h2 h3)) hb5;have Hin6:Hid (KpIn W4 W5 base (keepX1 base S w.heap.size W3.heap.size LB) bsk q (phiUp (plcO ord) (predsOf bs 0 q) x i) V (nsO bs V ord k) (.slice na k nc) U'):=Hin5.out.later hb5;have Hb5:Hid (Below wp.heap.size wp W5∧W5.heap.size=PB+1∧PB=wp.heap.size):=⟨hb5,h5s,hPB⟩
          have Hl5:=hid hl5;have hokf:okN (bsk.set q (phiUp (plcO ord) (predsOf bs 0 q) x i)) (.src q i) := .inl (by show i<(blkOf _ q).phis.length;rw [Hbs.out];exact (List.getElem?_eq_some_iff.1 Hyp.out).1);have Hokf:=hid hokf;obtain⟨b0,b1⟩:=(cells_of (cs:=[_,_]) hl5).get2;rw [Nat.zero_add] at b1;obtain⟨ab,aoff,cs,haa,hSa,hrr,-,hcsa⟩:=Hav3.out.get (k:=q) (by simp [aheadF];exact Hqn.out);rw [show (aheadF bs)[q]'(by simp [aheadF];exact Hqn.out)=predsOf bs 0 q from (List.getElem?_eq_some_iff.1 (ahead_at Hqn.out)).2] at hrr;obtain⟨rv,rfl,hrv⟩:=hrr;obtain⟨ra,rc,hrv2,-⟩:=id hrv.val;rw [HAl.out] at hrv2;subst hrv2;subst haa;have ha0:=hcsa.get1;rw [Nat.mul_one] at ha0;have Hrv:=hid hrv;have Ha0:Hid (W5.cell? ⟨ab,aoff+q,none⟩=some (.slice ra fn rc)):=H5c.out ab _ _ hSa.1 hSa.2 ha0;have HT5:Hid (∀x,x<n→W5.cell? ⟨T,x,none⟩=some (.int .i64 (plcF ord m x))):=fun x hx=>H5c.out T x _ Hnum.out.2.2.2.2.1 Hnum.out.2.2.2.2.2 (by rw [cell_row Hrow3.out,List.getElem?_toArray];exact plcRow_at ord n m hx);clear hPB hW5 hl5 hb5 h5s hokf hSa hrv hcsa ha0 q0 q1;go_wp2_with fail;clear b0 b1;go_loopw [64,15] (fun s64 s15 wr=>∃(j:Nat) (ga:Option Addr) (gc:Nat),j≤fn∧s64 = .int .i64 (j:Int)∧s15 = .slice ga (fromTo (plcO ord) (predsOf bs 0 q) ph.src j).length gc∧FrSt W5 wr (.slice ga (fromTo (plcO ord) (predsOf bs 0 q) ph.src j).length gc) (fromTo (plcO ord) (predsOf bs 0 q) ph.src j)) (fun s64 _ _=>fn - (intOf s64).toNat)
          case atStart=>exact⟨0,none,0,Nat.zero_le _,rfl,rfl,World.ownsRow_nil _ _ _ _,Below.refl _ _⟩
          case round =>
           obtain⟨j,ga,gc,hj,rfl,rfl,hfr⟩:=hrel;have Hfr:=hid hfr
           by_cases hjn:j<fn
           · obtain⟨v2,hv2⟩:∃v2,ph.src[j]?=some v2:=⟨_,List.getElem?_eq_getElem (by have:=Hfn.out.1;omega)⟩
             have hjA:j<(predsOf bs 0 q).length:=by rw [HAl.out];exact hjn
             obtain⟨pb,poff,cs,hpb,hSp,⟨rfl,-⟩,-,hcp⟩:=Hrv.out.get hjA;subst hpb;obtain⟨aq,haq⟩:=Int.eq_ofNat_of_zero_le (predsOf_mem (List.getElem_mem hjA)).1;have haqn:aq<n:=by have:=(predsOf_mem (List.getElem_mem hjA)).2;have:=Hn.out;omega
             have hAj:(predsOf bs 0 q)[j]?=some (aq:Int):=by rw [List.getElem?_eq_getElem hjA,haq]
             have c5:=hcp.get1;rw [Nat.mul_one,haq] at c5;have c6:=cell_later' (H5c.out pb _ _ hSp.1 hSp.2 c5) hfr.low;have c7:=cell_later' Ha0.out hfr.low;have c8:=cell_later' (HT5.out aq haqn) hfr.low;have hsrl:0<(elN (bsk.set q (phiUp (plcO ord) (predsOf bs 0 q) x i)) U' (nsO bs V ord k) (.src q i)).length:=by rw [Hcsr.out,List.length_map,←Hfn.out.1];omega
             obtain⟨F,fcap,hFv,-,-,-,-⟩:=Hin6.out.st.rows.addr Hokf.out hsrl;rw [Hvf.out] at hFv;have hfa:fa=some ⟨F,0,none⟩:=by injection hFv
             subst hfa;obtain⟨vr,hvr⟩:∃vr,vr=v2.reg:=⟨_,rfl⟩
             obtain⟨vn,hvn⟩:∃vn,vn=v2.n:=⟨_,rfl⟩
             have hFc:CellsAt W5 F (j * 2) [.bool vr,.int .i64 vn]:=(Hin6.out.st.rows.at Hokf.out Hvf.out (i:=j) (by rw [Hcsr.out,List.getElem?_map,hv2,hvr,hvn];rfl)).1;obtain⟨e0,e1⟩:=hFc.get2;have d0:=cell_later' e0 hfr.low;have d1:=cell_later' e1 hfr.low;obtain⟨d,hd⟩:∃d,d=plcF ord m aq:=⟨_,rfl⟩
             rw [←hd] at c8;have hd2:d=plcO ord aq:=by rw [hd];unfold plcO;rw [Hom.out]
             have z6:pb<wr.heap.size:=cell_lt c6;have z7:ab<wr.heap.size:=cell_lt c7;have z8:T<wr.heap.size:=cell_lt c8;have HD:=hid hd2;have HAj:=hid hAj;have Hv2:=hid hv2;have Hvr:Hid (vr=v2.reg∧vn=v2.n):=⟨hvr,hvn⟩
             clear hSp hcp c5 haq hAj hsrl hFv hvr hvn hFc e0 e1 hd hd2 hv2 hfr;go_upto_region 21 with (fail)
             obtain⟨VB,hVB⟩:∃VB,VB=wr.heap.size:=⟨_,rfl⟩
             obtain⟨W7,hW7⟩:∃W7,W7=wr.alloc (.cells #[.bool vr,.int .i64 vn] 72):=⟨_,rfl⟩
             have hl7:W7.heap[VB]?=some (.cells #[.bool vr,.int .i64 vn] 72 (0,0)):=by rw [hW7,hVB];exact heap_alloc_new _ _
             rw [←hW7,←hVB];have hb7:Below wr.heap.size wr W7:=by rw [hW7];(repeat (first | exact Below.refl _ _ | refine Below.alloc ?_ (by first|omega|(simp<;>omega)) _ | refine Below.setCell ?_ (by first|omega|(simp<;>omega)) _ | refine below_drewN ?_ _ | refine Below.drew ?_))
             have hfr7:FrSt W5 W7 (.slice ga (fromTo (plcO ord) (predsOf bs 0 q) ph.src j).length gc) (fromTo (plcO ord) (predsOf bs 0 q) ph.src j):=⟨ownsRow_later Hfr.out.own hb7,Hfr.out.low.trans (hb7.mono Hfr.out.low.size)⟩
             have Hfr7:=hid hfr7;obtain⟨v0,v1⟩:=(cells_of (cs:=[_,_]) hl7).get2;rw [Nat.zero_add] at v1;clear hW7 hVB hl7 hb7 hfr7 c6 c7 c8 d0 d1 z6 z7 z8
             by_cases hd0:0≤d
             · have hq0:decide (0≤d)=true:=decide_eq_true hd0
               obtain⟨i0,hi0,hz0,hz1,hz2⟩:=info_parts infoFrom;go_wp2_with (at_builtin;refine wpList_append_own_at _ rfl _ _ 157 rfl W5.heap.size 159 i0 (.agg #[.int .i64 0,.bool false,.int .i64 0]) 3 24 Tryz.underlying157 hi0 hz0 hz1 hz2 rfl (by decide) (.slice ga (fromTo (plcO ord) (predsOf bs 0 q) ph.src j).length gc) (fromTo (plcO ord) (predsOf bs 0 q) ph.src j).length (((fromTo (plcO ord) (predsOf bs 0 q) ph.src j).map cellsF).flatten) rfl ?_ ⟨W7.heap.size,0,none⟩ 1 1 [.int .i64 d,.bool vr,.int .i64 vn] rfl rfl ?_ ?_ ?_ ?_ ?_ ?_)
               · exact ownsRow_later Hfr7.out.own (by (repeat (first | exact Below.refl _ _ | refine Below.alloc ?_ (by first|omega|(simp<;>omega)) _ | refine Below.setCell ?_ (by first|omega|(simp<;>omega)) _ | refine below_drewN ?_ _ | refine Below.drew ?_)))
               · exact new_cells W7 [.int .i64 d,.bool vr,.int .i64 vn] 159 rfl
               · intro u hu
                 simp only [List.mem_cons,List.not_mem_nil,or_false] at hu;rcases hu with rfl | rfl | rfl <;> rfl
               · have:=fromTo_len (plcO ord) (predsOf bs 0 q) ph.src j;have:=Hfn.out.1;unfold maxLen;omega
               · have:=fromTo_len (plcO ord) (predsOf bs 0 q) ph.src j;have:=Hfn.out.1;omega
               · have:=Hfr7.out.low.size;simp;omega
               · intro v' w9 hown hgrow _ _
                 obtain⟨va,vc,rfl⟩:=ownsRow_shape hown;have hsn:=Hfr7.out.snoc (W8:=W7.alloc (.cells #[.int .i64 d,.bool vr,.int .i64 vn] 159)) (by (repeat (first | exact Below.refl _ _ | refine Below.alloc ?_ (by first|omega|(simp<;>omega)) _ | refine Below.setCell ?_ (by first|omega|(simp<;>omega)) _ | refine below_drewN ?_ _ | refine Below.drew ?_))) (d,v2) (by rw [Hvr.out.1,Hvr.out.2] at hown;exact hown) hgrow;have hstep:=fromTo_succ (at_:=plcO ord) HAj.out Hv2.out;rw [Int.toNat_natCast,←HD.out,if_pos hd0] at hstep;rw [←hstep] at hsn;have hlen:(fromTo (plcO ord) (predsOf bs 0 q) ph.src j).length+1=(fromTo (plcO ord) (predsOf bs 0 q) ph.src (j+1)).length:=by rw [hstep];simp
                 rw [hlen] at hsn;have Hsn:=hid hsn;have Hlen:=hid hlen;clear hown hgrow hsn hstep hlen;go_wp2_with fail;go_roundw
                 case rel=>exact⟨j+1,va,vc,by omega,by go_num,by rw [←Hlen.out],Hsn.out⟩
                 case measure=>simp [intOf];omega
             · have hq0:decide (0≤d)=false:=decide_eq_false hd0
               have hstep:=fromTo_succ (at_:=plcO ord) HAj.out Hv2.out;rw [Int.toNat_natCast,←HD.out,if_neg hd0,List.append_nil] at hstep;have Hstep:=hid hstep;clear hstep;go_wp2_with fail;go_roundw
               case rel=>exact⟨j+1,ga,gc,by omega,by go_num,by rw [Hstep.out],by rw [Hstep.out];exact Hfr7.out⟩
               case measure=>simp [intOf];omega
           · obtain⟨we,hwe⟩:∃we:World,we=wr:=⟨_,rfl⟩
             subst hwe;have hjf:fn=j:=by omega
             subst hjf;have hall:fromTo (plcO ord) (predsOf bs 0 q) ph.src fn=fromL (plcO ord) (predsOf bs 0 q) ph.src:=by
              rw [Hfn.out.1];exact fromTo_all (by rw [HAl.out];exact Nat.le_of_eq Hfn.out.1.symm)
             rw [hall] at hfr;rw [hall];obtain⟨sl,hsl⟩:∃sl,sl=(fromL (plcO ord) (predsOf bs 0 q) ph.src).mergeSort leF:=⟨_,rfl⟩
             obtain⟨sn,hsn⟩:∃sn,sn=(fromL (plcO ord) (predsOf bs 0 q) ph.src).length:=⟨_,rfl⟩
             have hso:=sortFrom_own _ we hfr.own (fromL_small ord (by rw [Hom.out];exact hm) _ _) (fromL_keys Hok.out ord q ph.src) (by have:=fromL_len (plcO ord) (predsOf bs 0 q) ph.src;rw [←Hfn.out.1] at this;omega);have hsll:sl.length=sn:=by rw [hsl,hsn];exact (List.mergeSort_perm _ _).length_eq
             rw [←hsn,←hsl] at hso;rw [←hsn] at hfr ⊢;have hsn2:sn≤fn:=by rw [hsn,Hfn.out.1];exact fromL_len _ _ _
             have Hso:=hid hso;have Hfr5:=hid hfr;have Hsl:=hid hsl;have Hsll:=hid hsll;clear hso hfr hsl hsll hsn hall Hfr hj hjn;go_upto_region 25 with (go_at_call 109;refine Hso.out.mono ?_;rintro e w6 ⟨rfl,ho6,hg6⟩;have Ho6:=hid ho6;have Hb6:Hid (Below W5.heap.size W5 w6):=Hfr5.out.low.grown hg6 Hfr5.out.low.size (fun b hb=>(Hfr5.out.own.lt b hb).1);clear ho6 hg6)
             have hin7:=Hin6.out.later Hb6.out;have hLB6:w6.heap[LB]?=some (.cells #[.slice (some ⟨P,0,none⟩) pn pc,.slice la ln lc,.int .i64 ek,.bool er,.int .i64 en,.slice ta tn tc] 76 (0,0)):=(hin7.st.kept LB (.inr rfl)).trans Hl4.out;have l0:=(cells_of (cs:=[_,_,_,_,_,_]) hLB6) 0 _ rfl;rw [Nat.zero_add] at l0;have hokq:okN (bsk.set q (phiUp (plcO ord) (predsOf bs 0 q) x i)) (.phis q) := .inl (by show q<_;rw [List.length_set,Hst.out.len];exact Hqn.out)
             obtain ⟨hat2, hz2⟩ := hin7.st.rows.at (p := .phis q) hokq ((hin7.same.2 q).1.trans Hvs.out.1) (i := i) (cs := [.int .i64 pd, .slice fa fn fc]) (by
              rw [elN_ne (by simp)]
              simp only [elemsP]
              rw [Hbs.out, mapIdx_at, Hyp.out, Option.map_some, Hvf.out, Hfn.out.2])
             have hat3:CellsAt w6 P (i * 2) [.int .i64 pd,.slice fa fn fc]:=hat2;have q1:=hat3.get2.2;have z1:=hz2 (i * 2+1);have hkp8:=hin7.src (i:=i) (g:=P) (c:=pc) (n:=pn) (v' := .slice none 0 0) (l:=[]) (by rw [Hst.out.len];exact Hqn.out) (List.getElem?_eq_some_iff.1 Hyp.out).1 Hvs.out.1 (World.ownsRow_nil _ _ _ _) ⟨rfl,rfl,rfl,Nat.le_refl _,fun _ _ _=>rfl⟩ (fun b hb=>by cases hb);obtain⟨Wc,hWc⟩:∃Wc,Wc=w6.setCell ⟨P,i * 2+1,none⟩ (.slice none 0 0):=⟨_,rfl⟩
             rw [←hWc] at hkp8;have hoc:Wc.ownsRow W5.heap.size 159 3 (.slice ga sn gc) sn (sl.map cellsF).flatten:=by
              rw [hWc];exact ownsRow_setCell_below Ho6.out (by show P<_;have:=HP.out;have:=Hb5.out;omega) _
             have hsz6:W5.heap.size≤Wc.heap.size:=by rw [hWc];have:=Hb6.out.size;simpa [World.setCell] using this
             have hgb:∀b,(Value.slice ga sn gc).ownBlock=some b→W5.heap.size≤b∧b<Wc.heap.size:=fun b hb=>hoc.lt b hb;have hkp9:KpIn Wc Wc base (keepX3 base S w.heap.size W3.heap.size LB PB (Value.slice ga sn gc).ownBlock) bsk q (srcB (phiUp (plcO ord) (predsOf bs 0 q) x i) i []) V (nsO bs V ord k) (.slice na k nc) (updP U' (.src q i) (.slice none 0 0)):=by
              refine hkp8.keep (fun b hb=>?_) (fun pp hpp kk hkk hx=>?_)
              · rcases hb with h | h | h
                · exact hkp8.st.x_lt h
                · have:=Hb5.out;omega
                · exact (hgb b h).2
              · rcases hx with h | h
                · exact hkp8.st.off pp hpp kk hkk h
                · have hlt:kk<PB:=by
                   by_cases e:pp = .src q i
                   · rw [e,updP_self] at hkk;cases hkk
                   · rw [updP_ne _ _ e] at hkk
                     have hppo:okN (bsk.set q (phiUp (plcO ord) (predsOf bs 0 q) x i)) pp:=by
                      have hqs:q<(bsk.set q (phiUp (plcO ord) (predsOf bs 0 q) x i)).length:=by rw [List.length_set,Hst.out.len];exact Hqn.out
                      have:=(okN_set (bs:=bsk.set q (phiUp (plcO ord) (predsOf bs 0 q) x i)) hqs (y:=srcB (phiUp (plcO ord) (predsOf bs 0 q) x i) i []) (by rw [Hbs.out];exact srcB_len _ _ _) (by rw [Hbs.out];rfl) pp).1;rw [List.set_set] at this;exact this hpp
                     have:=(Hin5.out.st.rows.lt hppo kk hkk).2;have:=Hb5.out;omega
                  rcases h with h | h
                  · omega
                  · have:=(hgb kk h).1;have:=Hb5.out;omega
             have Hkp8:=hid hkp8;have Hkp9:=hid hkp9;have Hoc:=hid hoc;have Hgb:=hid hgb;have HWc:=hid hWc;have Hb6s:=hid hsz6;clear hin7 hLB6 hokq hat2 hz2 hat3 hkp8 hkp9 hWc hoc hgb hsz6;go_upto_region 26 with (fail)
             rw [←HWc.out];clear l0 q1 z1;go_wp2_with fail;go_loopw [97] (fun s97 wr=>∃(j:Nat) (U2:Pth→Value),j≤sn∧s97 = .int .i64 (j:Int)∧KpIn Wc wr base (keepX3 base S w.heap.size W3.heap.size LB PB (Value.slice ga sn gc).ownBlock) bsk q (srcB (phiUp (plcO ord) (predsOf bs 0 q) x i) i ((sl.take j).map Prod.snd)) V (nsO bs V ord k) (.slice na k nc) U2) (fun s97 _=>sn - (intOf s97).toNat)
             case atStart=>exact⟨0,_,Nat.zero_le _,rfl,Hkp9.out⟩
             case round =>
              obtain⟨wl,hwl⟩:∃wl:World,wl=wr:=⟨_,rfl⟩
              subst hwl;obtain⟨j,U2,hj,rfl,hlp⟩:=hrel;have Hlp:=hid hlp
              by_cases hjn:j<sn
              · obtain⟨⟨d,v2⟩,hv2⟩:∃y,sl[j]?=some y:=⟨_,List.getElem?_eq_getElem (by rw [Hsll.out];exact hjn)⟩
                obtain⟨vr,hvr⟩:∃vr,vr=v2.reg:=⟨_,rfl⟩
                obtain⟨vn,hvn⟩:∃vn,vn=v2.n:=⟨_,rfl⟩
                obtain⟨G,gcap,hgv,hgc⟩:=ownsRow_at Hoc.out (fun cs hcs=>by obtain⟨y,_,rfl⟩:=List.mem_map.1 hcs;rfl) (j:=j) (cs:=[.int .i64 d,.bool vr,.int .i64 vn]) (by rw [List.getElem?_map,hv2,hvr,hvn];rfl) (by omega);have hga:ga=some ⟨G,0,none⟩:=by injection hgv
                subst hga;obtain⟨y0,y1,y2⟩:=hgc.get3;have x0:=hlp.st.cell (b:=G) (.inr (.inr rfl)) y0;have x1:=hlp.st.cell (b:=G) (.inr (.inr rfl)) y1;have x2:=hlp.st.cell (b:=G) (.inr (.inr rfl)) y2;have hqs:q<(bsk.set q (phiUp (plcO ord) (predsOf bs 0 q) x i)).length:=by rw [List.length_set,Hst.out.len];exact Hqn.out
                have hbq2:blkOf (bsk.set q (srcB (phiUp (plcO ord) (predsOf bs 0 q) x i) i ((sl.take j).map Prod.snd))) q=(srcB (phiUp (plcO ord) (predsOf bs 0 q) x i) i ((sl.take j).map Prod.snd)):=by rw [blkOf_set (by rw [Hst.out.len];exact Hqn.out),if_pos rfl]
                have hyi:i<(phiUp (plcO ord) (predsOf bs 0 q) x i).phis.length:=(List.getElem?_eq_some_iff.1 Hyp.out).1;have hph2:(srcB (phiUp (plcO ord) (predsOf bs 0 q) x i) i ((sl.take j).map Prod.snd)).phis[i]?=some ⟨pd,(sl.take j).map Prod.snd⟩:=by
                 show ((phiUp (plcO ord) (predsOf bs 0 q) x i).phis.set i _)[i]?=_;rw [List.getElem?_set_self hyi,List.getD_eq_getElem?_getD,Hyp.out,Hfn.out.2];rfl
                have hoks:okN (bsk.set q (srcB (phiUp (plcO ord) (predsOf bs 0 q) x i) i ((sl.take j).map Prod.snd))) (.src q i) := .inl (by show i<(blkOf _ q).phis.length;rw [hbq2,srcB_len];exact hyi);have hokq:okN (bsk.set q (srcB (phiUp (plcO ord) (predsOf bs 0 q) x i) i ((sl.take j).map Prod.snd))) (.phis q) := .inl (by show q<_;rw [List.length_set,Hst.out.len];exact Hqn.out);have hcs2:elN (bsk.set q (srcB (phiUp (plcO ord) (predsOf bs 0 q) x i) i ((sl.take j).map Prod.snd))) U2 (nsO bs V ord k) (.src q i)=((sl.take j).map Prod.snd).map cellsV:=by
                 rw [elN_ne (by simp)];simp only [elemsP];rw [hbq2,List.getD_eq_getElem?_getD,hph2];rfl
                obtain⟨sa,sc,hsv⟩:=RowsAt.shape hlp.st.rows hoks;have hown:=hlp.st.rows.own _ hoks;rw [hcs2,List.length_map,List.length_map,List.length_take,Hsll.out,Nat.min_eq_left hj] at hsv hown;rw [hsv] at hown
                obtain ⟨hat2, hz2⟩ := hlp.st.rows.at (p := .phis q) hokq ((hlp.same.2 q).1.trans Hvs.out.1) (i := i) (cs := [.int .i64 pd, .slice sa j sc]) (by
                 rw [elN_ne (by simp)]
                 simp only [elemsP]
                 rw [hbq2, mapIdx_at, hph2, Option.map_some, hsv])
                have hat3:CellsAt wl P (i * 2) [.int .i64 pd,.slice sa j sc]:=hat2;have k1:=hat3.get2.2;have kz:=hz2 (i * 2+1);have hLBl:wl.heap[LB]?=some (.cells #[.slice (some ⟨P,0,none⟩) pn pc,.slice la ln lc,.int .i64 ek,.bool er,.int .i64 en,.slice ta tn tc] 76 (0,0)):=(hlp.st.kept LB (.inl (.inr rfl))).trans ((Hkp8.out.st.kept LB (.inr rfl)).trans Hl4.out);have l0:=(cells_of (cs:=[_,_,_,_,_,_]) hLBl) 0 _ rfl;rw [Nat.zero_add] at l0;have hnLB:∀b,(Value.slice sa j sc).ownBlock=some b→b≠LB∧b≠P:=fun b hb=>by
                 refine⟨fun e=>hlp.st.off _ hoks b (by rw [hsv];exact hb) (.inl (.inr e)),fun e=>?_⟩;refine hlp.st.rows.apart (.src q i) (.phis q) hoks hokq (by simp) b (by rw [hsv];exact hb) ?_;rw [(hlp.same.2 q).1,Hvs.out.1,e];rfl
                have HPL:Hid (P≠LB):=by
                 intro e;have:=HP.out;have:=Hin5.out.st.off (.phis q) (.inl (by show q<_;rw [List.length_set,Hst.out.len];exact Hqn.out)) P (by rw [(Hin5.out.same.2 q).1,Hvs.out.1];rfl);exact this (.inr e)
                have Hown:=hid hown;have HnLB:=hid hnLB;have Hsv:=hid hsv;have Hv2:=hid hv2;have Hvr:Hid (vr=v2.reg∧vn=v2.n):=⟨hvr,hvn⟩
                have Hyi:=hid hyi;clear hlp hv2 hvr hvn hgv hgc y0 y1 y2 hqs hbq2 hyi hph2 hoks hokq hcs2 hsv hown hat2 hz2 hat3 hLBl hnLB;go_upto_region 29 with (fail)
                obtain⟨FB,hFB⟩:∃FB,FB=wl.heap.size:=⟨_,rfl⟩
                obtain⟨W8,hW8⟩:∃W8,W8=wl.alloc (.cells #[.int .i64 d,.bool vr,.int .i64 vn] 159):=⟨_,rfl⟩
                have hl8:W8.heap[FB]?=some (.cells #[.int .i64 d,.bool vr,.int .i64 vn] 159 (0,0)):=by rw [hW8,hFB];exact heap_alloc_new _ _
                rw [←hW8,←hFB];have hb8:Below wl.heap.size wl W8:=by rw [hW8];(repeat (first | exact Below.refl _ _ | refine Below.alloc ?_ (by first|omega|(simp<;>omega)) _ | refine Below.setCell ?_ (by first|omega|(simp<;>omega)) _ | refine below_drewN ?_ _ | refine Below.drew ?_))
                obtain⟨-,r1,r2⟩:=(cells_of (cs:=[_,_,_]) hl8).get3;rw [Nat.zero_add] at r1 r2;have l0w:=l0;have k1w:=k1;have l0:=cell_later' l0 hb8;have kz:=(hb8.frozen (p:=⟨P,i * 2+1,none⟩) (cell_lt k1)).trans kz;have k1:=cell_later' k1 hb8;have zL:LB<W8.heap.size:=cell_lt l0;have zP:P<W8.heap.size:=cell_lt k1;have zF:FB<W8.heap.size:=cell_lt r1;have HnF:Hid (FB≠LB∧FB≠P∧(Value.slice sa j sc).ownBlock≠some FB):=by
                 have h1:=Hown.out.lt;refine⟨fun e=>?_,fun e=>?_,fun e=>?_⟩
                 · have:=cell_lt l0w;omega
                 · have:=cell_lt k1w;omega
                 · have:=(h1 FB e).2;omega
                have Hb8:=hid hb8;clear hW8 hFB hl8 hb8 x0 x1 x2 l0w k1w;obtain⟨i1,hi1,hy0,hy1,hy2⟩:=info_parts infoVal;have hSa:Below W8.heap.size W8 (W8.alloc (.cells #[.bool vr,.int .i64 vn] 72)).drew:=((Below.refl W8.heap.size W8).alloc (Nat.le_refl _) _).drew;have HSd:Hid (W8.drew.cell? ⟨LB,0,none⟩=some (.slice (some ⟨P,0,none⟩) pn pc)∧W8.drew.cell? ⟨FB,1,none⟩=some (.bool vr)∧W8.drew.cell? ⟨FB,2,none⟩=some (.int .i64 vn)):=⟨l0,r1,r2⟩
                have HSa:Hid ((W8.alloc (.cells #[.bool vr,.int .i64 vn] 72)).drew.cell? ⟨LB,0,none⟩=some (.slice (some ⟨P,0,none⟩) pn pc)∧(W8.alloc (.cells #[.bool vr,.int .i64 vn] 72)).drew.cell? ⟨FB,1,none⟩=some (.bool vr)∧(W8.alloc (.cells #[.bool vr,.int .i64 vn] 72)).drew.cell? ⟨FB,2,none⟩=some (.int .i64 vn)):=⟨cell_later' l0 hSa,cell_later' r1 hSa,cell_later' r2 hSa⟩
                have HbSa:=hid hSa;clear hSa
                go_region_law
                 ((refine step_append_row rfl _ _ 78 rfl base 72 i1 (.agg #[.bool false, .int .i64 0]) 2 16 Tryz.underlying78 hi1 hy0 hy1 hy2 rfl (by decide) (.slice sa j sc) j ((((sl.take j).map Prod.snd).map cellsV).flatten) rfl ?_ ⟨W8.heap.size, 0, none⟩ 1 1 [.bool vr, .int .i64 vn] rfl rfl ?_ ?_ ?_ ?_ ?_ ?_
                   · exact ownsRow_later (ownsRow_later Hown.out Hb8.out) HbSa.out
                   · intro m u hu; exact new_cells _ _ _ rfl m u hu
                   · intro u hu; simp only [List.mem_cons, List.not_mem_nil, or_false] at hu; rcases hu with rfl | rfl <;> rfl
                   · unfold maxLen; omega
                   · omega
                   · have := Hlp.out.st.base_le; have := Hb8.out.size; simp; omega
                   intro v3 w9 hown9 hgrow hat9
                   obtain ⟨va3, vc3, rfl⟩ := ownsRow_shape hown9
                   have hb89 : ∀ b, b < W8.heap.size → (Value.slice sa j sc).ownBlock ≠ some b → w9.heap[b]? = W8.heap[b]? := fun b h1 h2 => (hgrow.block b (by simp; omega) (fun e => h2 e.symm)).trans (Below.heap_alloc W8.drew _ _ h1)
                   have n0 := (World.cell?_of_block (w := W8) (a := ⟨LB, 0, none⟩) (hb89 LB zL (fun e => (HnLB.out LB e).1 rfl))).trans l0
                   have m1 := (World.cell?_of_block (w := W8) (a := ⟨FB, 1, none⟩) (hb89 FB zF (fun e => HnF.out.2.2 e))).trans r1
                   have m2 := (World.cell?_of_block (w := W8) (a := ⟨FB, 2, none⟩) (hb89 FB zF (fun e => HnF.out.2.2 e))).trans r2
                   have n1 := (World.cell?_of_block (w := W8) (a := ⟨P, i * 2 + 1, none⟩) (hb89 P zP (fun e => (HnLB.out P e).2 rfl))).trans k1
                   have nz := (World.frozen?_of_block (w := W8) (a := ⟨P, i * 2 + 1, none⟩) (hb89 P zP (fun e => (HnLB.out P e).2 rfl))).trans kz
                   have HS9 : Hid (w9.cell? ⟨LB, 0, none⟩ = some (.slice (some ⟨P, 0, none⟩) pn pc) ∧ w9.cell? ⟨FB, 1, none⟩ = some (.bool vr) ∧ w9.cell? ⟨FB, 2, none⟩ = some (.int .i64 vn)) := ⟨n0, m1, m2⟩
                   have HS10 : Hid ((w9.setCell ⟨P, i * 2 + 1, none⟩ (.slice va3 (j + 1) vc3)).cell? ⟨LB, 0, none⟩ = some (.slice (some ⟨P, 0, none⟩) pn pc) ∧ (w9.setCell ⟨P, i * 2 + 1, none⟩ (.slice va3 (j + 1) vc3)).cell? ⟨FB, 1, none⟩ = some (.bool vr) ∧ (w9.setCell ⟨P, i * 2 + 1, none⟩ (.slice va3 (j + 1) vc3)).cell? ⟨FB, 2, none⟩ = some (.int .i64 vn)) := by
                    refine ⟨?_, ?_, ?_⟩
                    · exact (cell_set_ne _ (fun e => HPL.out e.symm) _ _).trans n0
                    · exact (cell_set_ne _ HnF.out.2.1 _ _).trans m1
                    · exact (cell_set_ne _ HnF.out.2.1 _ _).trans m2
                   have Hown9 := hid hown9
                   have Hgrow := hid hgrow
                   have Hat9 := hid hat9
                   clear hown9 hgrow hat9 hb89 m1 m2))
                all_goals
                 go_wp2_with fail;go_roundw
                 case rel =>
                  have hlat:=Hlp.out.later (Hb8.out.trans (((Below.refl W8.heap.size W8).drew.alloc (o := .cells #[.bool vr,.int .i64 vn] 72) (by simp)).mono Hb8.out.size));have hl2:(sl.take (j+1)).map Prod.snd=(sl.take j).map Prod.snd++[v2]:=by rw [List.take_add_one,Hv2.out];simp
                  have hln:((sl.take (j+1)).map Prod.snd).length=j+1:=by rw [List.length_map,List.length_take,Hsll.out];omega
                  have hnx := hlat.src (i := i) (g := P) (c := pc) (n := pn) (v' := .slice va3 (j + 1) vc3) (l := (sl.take (j + 1)).map Prod.snd) (by rw [Hst.out.len]; exact Hqn.out) (by rw [srcB_len]; exact Hyi.out) Hvs.out.1 (by
                   rw [hln, hl2, List.map_append, List.flatten_append]
                   have h := Hown9.out
                   rw [Hvr.out.1, Hvr.out.2] at h
                   exact h) (by rw [Hsv.out]; exact Hgrow.out) (fun b hb => by
                   rw [Hsv.out]
                   rcases Hat9.out with h | h
                   · exact .inl (by rw [← h]; exact hb)
                   · rw [h] at hb; cases hb; exact .inr (Nat.le_refl _))
                  rw [srcB_twice _ _ _ _ Hyi.out] at hnx;exact⟨j+1,_,by omega,by go_num,hnx⟩
                 case measure=>simp [intOf];omega
              · have hjs:sn=j:=by omega
                subst hjs;have hnx:=Hkp8.out.trans hlp (fun b hb => .inl hb);rw [show sl.take sn=sl by rw [←Hsll.out];exact List.take_length,show sl.map Prod.snd=(keepP (plcO ord) (predsOf bs 0 q) ph).src by rw [Hsl.out];rfl,phiUp_src Hph.out] at hnx;have Hnx:=hid hnx;clear hlp hnx hj hjn;go_wp2_with fail;go_roundw
                case rel=>exact⟨i+1,U2,by omega,by go_num,Hnx.out⟩
                case measure=>simp [intOf];omega
        · obtain⟨wp2,hwp2⟩:∃wp2:World,wp2=wp:=⟨_,rfl⟩
          subst hwp2;have hip:pn=i:=by omega
          subst hip;have hto:phiUp (plcO ord) (predsOf bs 0 q) x pn=toUp (plcO ord) (predsOf bs 0 q) x 0:=by rw [Hdat.out.1];exact phiUp_all _ _ _
          rw [hto] at hin5;have Hto:=hid hin5;have hLB6:wp2.heap[LB]?=some (.cells #[.slice pa pn pc,.slice la ln lc,.int .i64 ek,.bool er,.int .i64 en,.slice ta tn tc] 76 (0,0)):=(hin5.st.kept LB (.inr rfl)).trans Hl4.out;obtain⟨l0,l1,l2,l3,l4,l5⟩:=(cells_of (cs:=[_,_,_,_,_,_]) hLB6).get6;rw [Nat.zero_add] at l1 l2 l3 l4 l5;have htn2:tn≤1048576:=by rw [Hdat.out.2.2.1,Hx.out];exact (Hok.out.small _ (List.mem_of_getElem? (blkOf_self bs Hqn.out))).to
          clear hto hin5 hLB6 Hin5 hi hipn;go_wp2_with fail;clear l0 l1 l2 l3 l4 l5;go_loopw [122] (fun s122 wr=>∃(j:Nat),j≤tn∧s122 = .int .i64 (j:Int)∧KpIn W4 wr base (keepX1 base S w.heap.size W3.heap.size LB) bsk q (toUp (plcO ord) (predsOf bs 0 q) x j) V (nsO bs V ord k) (.slice na k nc) U') (fun s122 _=>tn - (intOf s122).toNat)
          case atStart=>exact⟨0,Nat.zero_le _,rfl,Hto.out⟩
          case round =>
           obtain⟨wq,hwq⟩:∃wq:World,wq=wr:=⟨_,rfl⟩
           subst hwq;obtain⟨j,hj,rfl,hin⟩:=hrel;have Hin2:=hid hin
           by_cases hjn:j<tn
           · obtain⟨t,ht⟩:∃t,x.fin.to[j]?=some t:=⟨_,List.getElem?_eq_getElem (by have:=Hdat.out.2.2.1;omega)⟩
             have hti:=Hok.out.toIn x (by rw [Hx.out];exact List.mem_of_getElem? (blkOf_self bs Hqn.out)) t (List.mem_of_getElem? ht);obtain⟨tq,rfl⟩:=Int.eq_ofNat_of_zero_le hti.1;have htq:tq<n:=by have:=Hn.out;omega
             have hbq2:blkOf (bsk.set q (toUp (plcO ord) (predsOf bs 0 q) x j)) q=toUp (plcO ord) (predsOf bs 0 q) x j:=by rw [blkOf_set (by rw [Hst.out.len];exact Hqn.out),if_pos rfl]
             have hokt:okN (bsk.set q (toUp (plcO ord) (predsOf bs 0 q) x j)) (.to q) := .inl (by show q<_;rw [List.length_set,Hst.out.len];exact Hqn.out);have htl:(toUp (plcO ord) (predsOf bs 0 q) x j).fin.to[j]?=some (tq:Int):=by
              show (x.fin.to.mapIdx _)[j]?=_;rw [mapIdx_at,ht];simp
             have hcs:(elN (bsk.set q (toUp (plcO ord) (predsOf bs 0 q) x j)) U' (nsO bs V ord k) (.to q))[j]?=some [.int .i64 (tq:Int)]:=by
              rw [elN_ne (by simp)];simp only [elemsP];rw [hbq2,List.getElem?_map,htl];rfl
             obtain⟨G,gcap,hGv,-,-,hGb,hGl⟩:=hin.st.rows.addr hokt (Nat.lt_of_le_of_lt (Nat.zero_le _) (List.getElem?_eq_some_iff.1 hcs).1);rw [(hin.same.2 q).2.2,Hvs.out.2.2] at hGv;have hta:ta=some ⟨G,0,none⟩:=by injection hGv
             subst hta;obtain⟨hat2,hz2⟩:=hin.st.rows.at (p := .to q) hokt ((hin.same.2 q).2.2.trans Hvs.out.2.2) hcs;have q0:=hat2.get1;rw [show j * Pth.sz (.to q)=j by simp [Pth.sz]] at q0;have qz:=hz2 j;have hLBl:wq.heap[LB]?=some (.cells #[.slice pa pn pc,.slice la ln lc,.int .i64 ek,.bool er,.int .i64 en,.slice (some ⟨G,0,none⟩) tn tc] 76 (0,0)):=(hin.st.kept LB (.inr rfl)).trans Hl4.out;have l5:=(cells_of (cs:=[_,_,_,_,_,_]) hLBl) 5 _ rfl;rw [Nat.zero_add] at l5;obtain⟨d,hd⟩:∃d,d=plcF ord m tq:=⟨_,rfl⟩
             have hd2:d=plcO ord tq:=by rw [hd];unfold plcO;rw [Hom.out]
             have c8:wq.cell? ⟨T,tq,none⟩=some (.int .i64 d):=by
              rw [hd];exact hin.st.cell (b:=T) (.inl (HX.out T Hnum.out.2.2.2.2.1 Hnum.out.2.2.2.2.2)) (H4c.out T tq _ Hnum.out.2.2.2.2.1 Hnum.out.2.2.2.2.2 (by rw [cell_row Hrow3.out,List.getElem?_toArray];exact plcRow_at ord n m htq))
             have hnx:=(Hin2.out.later (Below.refl wq.heap.size wq).drew).to (j:=j) (g:=G) (c:=tc) (n:=tn) (t:=d) (by rw [Hst.out.len];exact Hqn.out) (List.getElem?_eq_some_iff.1 htl).1 Hvs.out.2.2;have hup:=toUp_set (at_:=plcO ord) (A:=predsOf bs 0 q) (x:=x) ht;rw [Int.toNat_natCast,←hd2] at hup;rw [hup] at hnx;have Hnx:=hid hnx;have zG:G<wq.heap.size:=cell_lt q0;have zL:LB<wq.heap.size:=cell_lt l5;have zT:T<wq.heap.size:=cell_lt c8;clear hin ht hti hbq2 hokt htl hcs hGv hGb hGl hat2 hz2 hLBl hd hd2 hnx hup;go_wp2_with fail;go_big_region
             all_goals
              go_wp2_with fail;go_roundw
              case rel=>exact⟨j+1,by omega,by go_num,Hnx.out⟩
              case measure=>simp [intOf];omega
           · have hjt:tn=j:=by omega
             subst hjt;have hkb:toUp (plcO ord) (predsOf bs 0 q) x tn=keepB (plcO ord) (predsOf bs 0 q) x:=by rw [Hdat.out.2.2.1];exact toUp_all _ _ _
             rw [hkb] at hin;have hLBl:wq.heap[LB]?=some (.cells #[.slice pa pn pc,.slice la ln lc,.int .i64 ek,.bool er,.int .i64 en,.slice ta tn tc] 76 (0,0)):=(hin.st.kept LB (.inr rfl)).trans Hl4.out;obtain⟨l0,l1,l2,l3,l4,l5⟩:=(cells_of (cs:=[_,_,_,_,_,_]) hLBl).get6;rw [Nat.zero_add] at l1 l2 l3 l4 l5;have hown:=hin.st.rows.own .vBlk (.inr rfl);rw [elN_blk,hin.new,nsO_len hk'] at hown;have Hown:=hid hown;have hcb:cellsB (blkOf bs q) (V (.phis q)) (V (.list q)) (V (.to q))=[.slice pa pn pc,.slice la ln lc,.int .i64 ek,.bool er,.int .i64 en,.slice ta tn tc]:=by
              rw [Hvs.out.1,Hvs.out.2.1,Hvs.out.2.2,Hdat.out.2.2.2.1,Hdat.out.2.2.2.2.1,Hdat.out.2.2.2.2.2,Hx.out];rfl
             have Hcb:=hid hcb;have Hin3:=hid hin;obtain⟨ib,hib,hy0,hy1,hy2⟩:=info_parts infoBlock;clear hkb hin hLBl hown hcb hj hjn Hin2;go_wp2_with (at_builtin;refine wpList_append_own_at _ rfl _ _ 36 rfl base 76 ib (.agg #[.slice none 0 0,.slice none 0 0,.int .i64 0,.bool false,.int .i64 0,.slice none 0 0]) 6 96 Tryz.underlying36 hib hy0 hy1 hy2 rfl (by decide) (.slice na k nc) k ((nsO bs V ord k).flatten) rfl ?_ ⟨wq.heap.size,0,none⟩ 1 1 [.slice pa pn pc,.slice la ln lc,.int .i64 ek,.bool er,.int .i64 en,.slice ta tn tc] rfl rfl ?_ ?_ ?_ ?_ ?_ ?_)
             · exact ownsRow_later Hown.out (by (repeat (first | exact Below.refl _ _ | refine Below.alloc ?_ (by first|omega|(simp<;>omega)) _ | refine Below.setCell ?_ (by first|omega|(simp<;>omega)) _ | refine below_drewN ?_ _ | refine Below.drew ?_)))
             · intro m u hu;exact new_cells _ _ _ rfl m u hu
             · intro u hu
               simp only [List.mem_cons,List.not_mem_nil,or_false] at hu;rcases hu with rfl | rfl | rfl | rfl | rfl | rfl <;> rfl
             · unfold maxLen;omega
             · omega
             · have:=Hin3.out.st.base_le;simp;omega
             · intro v' w9 hown9 hgrow _ hat
               obtain⟨va,vc,rfl⟩:=ownsRow_shape hown9
               have hnext := (Hst.out.later Hb4.out.1).next (v' := .slice va (k + 1) vc) Hqn.out Hok2.out (by rw [← Hx.out]; exact Hin3.out.later (W' := wq.alloc (.cells #[.slice pa pn pc, .slice la ln lc, .int .i64 ek, .bool er, .int .i64 en, .slice ta tn tc] 76)) (by (repeat (first | exact Below.refl _ _ | refine Below.alloc ?_ (by first|omega|(simp<;>omega)) _ | refine Below.setCell ?_ (by first|omega|(simp<;>omega)) _ | refine below_drewN ?_ _ | refine Below.drew ?_)))) (fun b hb => Or.inl hb) (by rw [nsO_len hk', Hcb.out]; exact hown9) hgrow (fun b hb => by
                rcases hat with h | h
                · exact .inl (by rw [← h]; exact hb)
                · rw [h] at hb; cases hb; exact .inr (by simp))
               have Hnext:=hid hnext;clear hown9 hgrow hat hnext;go_wp2_with fail;go_roundw
               case rel=>exact⟨k+1,_,_,va,vc,by omega,by go_num,rfl,updP_self _ _ _,Hnext.out⟩
               case measure=>simp [intOf];omega
     · have hkm2:m=k:=by omega
       subst hkm2;have hub:wo.heap[UB]?=some (.cells #[.string nm,.int .i64 p,.int .i64 r,.slice ba n bc] 38 (0,0)):=(hst.st.kept UB (HX.out UB Hnum.out.1 Hnum.out.2.1)).trans Hub3.out;have huo:wo.heap[UO]?=some (.cells #[.string ⟨#[]⟩,.int .i64 0,.int .i64 0,.slice none 0 0] 38 (0,0)):=(hst.st.kept UO (HX.out UO Hnum.out.2.2.1 Hnum.out.2.2.2.1)).trans Huo3.out;obtain⟨c0,c1,c2,c3⟩:=(cells_of (cs:=[_,_,_,_]) hub).get4;obtain⟨o0,o1,o2,o3⟩:=(cells_of (cs:=[_,_,_,_]) huo).get4;rw [Nat.zero_add] at c1 c2 c3 o1 o2 o3;have f3:=thawed hub 3;have z0:=thawed huo 0;have z1:=thawed huo 1;have z2:=thawed huo 2;have z3:=thawed huo 3;have hne:¬UO=UB:=by have:=HUs.out;omega
       have ho4:CellsAt (wo.setCell ⟨UB,3,none⟩ (.slice na m nc)) UO 0 [.string ⟨#[]⟩,.int .i64 0,.int .i64 0,.slice none 0 0]:=fun j v hj=>by
        rw [cell_set_ne _ hne];exact cells_of huo j v hj
       have Ho4:=hid ho4;have Hne:=hid hne;clear hub huo hkm hk ho4;go_wp2_with fail;have hW5:=set4 (u0 := .string nm) (u1 := .int .i64 p) (u2 := .int .i64 r) (u3 := .slice na m nc) Ho4.out;refine bodyPost_ret (func_res1 rfl rfl hW5) rfl ?_;have hXU:∀b,keepX base S w.heap.size W3.heap.size b→∀q,okN bsk q→(U q).ownBlock≠some b:=fun b hb q hq e=>Hst.out.st.off q hq b e hb;have hxb:=hXU UB (HX.out UB Hnum.out.1 Hnum.out.2.1);have hxo:=hXU UO (HX.out UO Hnum.out.2.2.1 Hnum.out.2.2.2.1);have hrows:=Hst.out.st.rows;rw [←Hom.out] at hrows;have hpk:=KpSt.pick (by have h:=Hst.out;rw [←Hom.out] at h;exact h) Hin.out Hnd.out (((((hrows.setOff (o:=3) hxb (.slice na m nc)).setOff (o:=0) hxo (.string nm)).setOff (o:=1) hxo (.int .i64 p)).setOff (o:=2) hxo (.int .i64 r)).setOff (o:=3) hxo (.slice na m nc));refine⟨_,?_,hpk.1,?_,?_⟩
       · show _=Ending.returned (.agg #[.string nm,.int .i64 p,.int .i64 r,U .vBlk])
         rw [Hnv.out]
       · have hb:=(Hw3.out.mono HB.out).trans Hst.out.st.low
         have h1:base≤UB:=by have:=Hnum.out;have:=HB.out;omega
         have h2:base≤UO:=by have:=Hnum.out;have:=HB.out;omega
         exact ((((hb.setCell (p:=⟨UB,3,none⟩) h1 _).setCell (p:=⟨UO,0,none⟩) h2 _).setCell (p:=⟨UO,1,none⟩) h2 _).setCell (p:=⟨UO,2,none⟩) h2 _).setCell (p:=⟨UO,3,none⟩) h2 _
       · intro b hb
         have hbl:=(HS.out b hb).1;have h1:b≠UB:=by have:=Hnum.out;omega
         have h2:b≠UO:=by have:=Hnum.out;omega
         refine⟨?_,fun q hq e=>Hst.out.st.off _ (hpk.2 q hq) b e (.inr (.inl hb))⟩;refine (((((Kp.refl (fun b=>b≠UB∧b≠UO) wo).set (a:=⟨UB,3,none⟩) (fun h=>h.1 rfl) _).set (a:=⟨UO,0,none⟩) (fun h=>h.2 rfl) _).set (a:=⟨UO,1,none⟩) (fun h=>h.2 rfl) _).set (a:=⟨UO,2,none⟩) (fun h=>h.2 rfl) _ |>.set (a:=⟨UO,3,none⟩) (fun h=>h.2 rfl) _).block b ?_ ⟨h1,h2⟩ |>.trans ?_
         · exact Nat.lt_of_lt_of_le hbl (Nat.le_trans Hw3.out.size Hst.out.st.low.size)
         · exact (Hst.out.st.kept b (.inr (.inl hb))).trans (Hw3.out.block b hbl)

end Go.Proofs.YtnkogppgacappaaGreatDoor
