/- tidy.rename: the walk. -/
import Derived.Test.YtnkogppgacappaaGreatDoorPMrg1
import Derived.Test.YtnkogppgacappaaGreatDoorPGAhd
import Derived.Test.YtnkogppgacappaaGreatDoorPFour
import Derived.BigRegion
import Derived.Deep.DeepCutAuto
import Derived.Deep.RegionHeld3
namespace Go.Proofs.YtnkogppgacappaaGreatDoor
open Go.RowKit

theorem predsOf_tos : ∀ (l l' : List DBlock) (s t : Nat), l.map (·.fin.to) = l'.map (·.fin.to) → predsOf l s t = predsOf l' s t
 | [],[],_,_,_=>rfl
 | [],_ :: _,_,_,h=>by simp at h
 | _ :: _,[],_,_,h=>by simp at h
 | a :: l,b :: l',s,t,h=>by
   rw [List.map_cons,List.map_cons,List.cons.injEq] at h;rw [predsOf,predsOf,h.1,predsOf_tos l l' (s+1) t h.2]
theorem tos_map {bs bs2:List DBlock}(hl:bs2.length=bs.length)(h:∀i,(blkOf bs2 i).fin.to=(blkOf bs i).fin.to):bs2.map (·.fin.to)=bs.map (·.fin.to):=by
 apply List.ext_getElem?;intro i;rw [List.getElem?_map,List.getElem?_map]
 by_cases hi:i<bs.length
 · rw [blkOf_self bs hi,blkOf_self bs2 (by omega),Option.map_some,Option.map_some,h]
 · rw [List.getElem?_eq_none (by omega),List.getElem?_eq_none (by omega)]
theorem aheadF_tos {bs bs2:List DBlock}(hl:bs2.length=bs.length)(h:∀i,(blkOf bs2 i).fin.to=(blkOf bs i).fin.to):aheadF bs2=aheadF bs:=by
 unfold aheadF;rw [hl]
 congr 1
 funext t
 exact predsOf_tos _ _ _ _ (tos_map hl h)
def renX(X:Nat→Prop)(lo hi:Nat)(x:Nat):Prop:=X x∨(lo≤x∧x<hi)
theorem tos_at {bs:List DBlock}{k:Nat}{x:DBlock}(hx:bs[k]?=some x){bs2:List DBlock}(hl:bs2.length=bs.length)(h:∀i,(blkOf bs2 i).fin.to=(blkOf bs i).fin.to):∃y,bs2[k]?=some y∧y.fin.to=x.fin.to:=by
 have hk:=(List.getElem?_eq_some_iff.1 hx).1;refine⟨blkOf bs2 k,blkOf_self bs2 (by omega),?_⟩;rw [h k,blkOf_at hx]

set_option maxRecDepth 100000 in
set_option maxHeartbeats 8000000 in
theorem rename_any (nm : ByteArray) (p r : Int) (bs bs2 : List DBlock) (V : Pth → Value) (C : Pth → List (List Value)) (X : Nat → Prop) (base FB R t b n bc : Nat) (w : World)
 (hF:w.heap[FB]?=some (.cells #[.string nm,.int .i64 p,.int .i64 r,.slice (some ⟨R,0,none⟩) n bc] 38 (0,0)))
 (hst:RwSt w w base X (okP bs) V (srcC bs V C)) (hXF:X FB) (hC:∀q,(∀i,q ≠ .list i)→C q=elemsP bs V q) (hvb:V .blks = .slice (some ⟨R,0,none⟩) n bc)
 (hrd:SlAt (fun x=>base≤x∧x<w.heap.size) w 6 rBlock (.slice (some ⟨R,0,none⟩) n bc) bs2) (hl2:bs2.length=n) (hto2:∀i,(blkOf bs2 i).fin.to=(blkOf bs i).fin.to)
 (hn:bs.length=n) (hok:FunOk bs) (ht:t<n) (_hb:b<n) :
 Calls Tryz.prog 108 #[.pointer (some ⟨FB,0,none⟩),.int .i64 (t:Int),.int .i64 (b:Int)] w fun e w'=>e = .returned (.tuple #[])∧RwSt w w' base X (okP bs) V (srcC (renF bs t b (blkOf bs t).fin.to.length) V C):=by
 have hn2:n≤1048576:=by rw [←hn];exact hok.len
 have hll:bs2.length=bs.length:=by omega
 have Hga := hid (gahead_any nm p r (some ⟨R, 0, none⟩) bc bs2 w (by rw [hl2]; exact hrd) (by omega) (fun k x hx => by
  obtain ⟨y, hy, hyt⟩ := tos_at hx (bs2 := bs) hll.symm (fun i => (hto2 i).symm)
  have h := hok.hto k y hy
  rw [hyt] at h
  rw [hll]; exact h))
 rw [hl2,aheadF_tos hll hto2] at Hga;obtain⟨c0,c1,c2,c3⟩:=(cells_of (cs:=[_,_,_,_]) hF).get4;rw [Nat.zero_add] at c1 c2 c3;have HF:=hid hF;have Hst0:=hid hst;have HXF:=hid hXF;have HC:=hid hC;have Hvb:=hid hvb;have Hn:=hid hn;have Hok:=hid hok;clear hF hst hXF hC hvb hrd hl2 hto2 hn hok hll;go_enter Tryz.func108,Tryz.ntmps108;go_upto_region 1 with (go_at_call 53;refine Hga.out.mono ?_;rintro e W1 ⟨av,rfl,hav,hb1⟩;obtain⟨aa,ac,hav2,-⟩:=id hav.val;subst hav2;have Hav:=hid hav;have Hb1:=hid hb1;have c3:=cell_later' c3 hb1;clear hav hb1)
 rw [show (aheadF bs).length=n by simp [aheadF,Hn.out]];have hst1:RwSt W1 W1 base (renX X w.heap.size W1.heap.size) (okP bs) V (srcC bs V C):=by
  refine (Hst0.out.later Hb1.out).keep (fun x hx=>?_) (fun q hq k hk hx=>?_)
  · rcases hx with h | h
    · exact Nat.lt_of_lt_of_le (Hst0.out.old x h) Hb1.out.size
    · exact h.2
  · rcases hx with h | h
    · exact Hst0.out.off q hq k hk h
    · have:=(Hst0.out.rows.lt hq k hk).2;omega
 have Hst1:=hid hst1;have Hav1:Hid (SlAt (fun x=>w.heap.size≤x∧x<W1.heap.size) W1 1 rRow (.slice aa n ac) (aheadF bs)):=by
  have h:=Hav.out;rw [show (aheadF bs).length=n by simp [aheadF,Hn.out]] at h;exact h.live (by decide) live_row
 have HF1:Hid (W1.heap[FB]?=some (.cells #[.string nm,.int .i64 p,.int .i64 r,.slice (some ⟨R,0,none⟩) n bc] 38 (0,0))):=(Hb1.out.block FB (Hst0.out.old FB HXF.out)).trans HF.out;have htb:t<bs.length:=by rw [Hn.out];exact ht
 obtain⟨ta,tc,hvt⟩:=RowsAt.shape (p := .to t) hst1.rows htb;obtain⟨tn,htn⟩:∃tn,tn=(blkOf bs t).fin.to.length:=⟨_,rfl⟩
 have hcto:srcC bs V C (.to t)=elemsP bs V (.to t):=HC.out (.to t) (by simp);rw [hcto,show (elemsP bs V (.to t)).length=tn by simp [elemsP,htn]] at hvt;have hcbl:srcC bs V C .blks=elemsP bs V .blks:=HC.out .blks (by simp);have hcr:(elemsP bs V .blks)[t]?=some (cellsB (blkOf bs t) (V (.phis t)) (V (.list t)) (V (.to t))):=by
  simp only [elemsP];rw [mapIdx_at,blkOf_self bs htb];rfl
 have hat:=(hst1.rows.at (p := .blks) trivial (g:=R) (n:=n) (c:=bc) Hvb.out (i:=t) (cs:=cellsB (blkOf bs t) (V (.phis t)) (V (.list t)) (V (.to t))) (by rw [hcbl];exact hcr)).1;have r5:W1.cell? ⟨R,t * 6+5,none⟩=some (.slice ta tn tc):=by
  have h:=hat 5 (V (.to t)) rfl;rw [hvt] at h;exact h
 have Hvt:=hid hvt;have Htn:=hid htn;have Htb:=hid htb;have htn2:tn≤2:=by rw [htn];exact Hok.out.to2 _ (List.mem_of_getElem? (blkOf_self bs htb))
 have Hb1s:Hid (w.heap.size≤W1.heap.size):=Hb1.out.size;clear hst1 hvt htn hcto hcbl hcr hat htb c0 c1 c2 Hga Hav;go_wp2_with fail;clear r5 c3;go_loopw [30] (fun s30 wr=>∃(k:Nat),k≤tn∧s30 = .int .i64 (k:Int)∧RwSt W1 wr base (renX X w.heap.size W1.heap.size) (okP bs) V (srcC (renF bs t b k) V C)) (fun s30 _=>tn - (intOf s30).toNat)
 case atStart=>exact⟨0,Nat.zero_le _,rfl,Hst1.out⟩
 case round =>
  obtain⟨wo,hwo⟩:∃wo:World,wo=wr:=⟨_,rfl⟩
  subst hwo;obtain⟨k,hk,rfl,hst⟩:=hrel;have Hst:=hid hst
  by_cases hkn:k<tn
  · obtain⟨u,hu⟩:∃u,(blkOf bs t).fin.to[k]?=some u:=⟨_,List.getElem?_eq_getElem (by rw [←Htn.out];exact hkn)⟩
    have hui:=Hok.out.toIn _ (List.mem_of_getElem? (blkOf_self bs Htb.out)) u (List.mem_of_getElem? hu);obtain⟨q,rfl⟩:=Int.eq_ofNat_of_zero_le hui.1;have hqb:q<bs.length:=by omega
    have hqn:q<n:=by have:=Hn.out;omega
    have hcto:(srcC (renF bs t b k) V C (.to t))[k]?=some [.int .i64 (q:Int)]:=by
     rw [show srcC (renF bs t b k) V C (.to t)=elemsP bs V (.to t) from HC.out (.to t) (by simp)];simp only [elemsP];rw [List.getElem?_map,hu];rfl
    obtain⟨G,gcap,hGv,-,-,hGb,hGl⟩:=hst.rows.addr (p := .to t) Htb.out (Nat.lt_of_le_of_lt (Nat.zero_le _) (List.getElem?_eq_some_iff.1 hcto).1);rw [Hvt.out] at hGv;have hta:ta=some ⟨G,0,none⟩:=by injection hGv
    subst hta;have t0:=(hst.rows.at (p := .to t) Htb.out Hvt.out hcto).1.get1;rw [show k * Pth.sz (.to t)=k by simp [Pth.sz]] at t0;obtain⟨ab,aoff,cs,haa,hSa,hrr,-,hcsa⟩:=Hav1.out.get (k:=q) (by simp [aheadF];exact hqb);rw [show (aheadF bs)[q]'(by simp [aheadF];exact hqb)=predsOf bs 0 q from (List.getElem?_eq_some_iff.1 (ahead_at hqb)).2] at hrr;obtain⟨rv,rfl,hrv⟩:=hrr;obtain⟨A,hA⟩:∃A,A=predsOf bs 0 q:=⟨_,rfl⟩
    rw [←hA] at hrv;obtain⟨an,han⟩:∃an,an=A.length:=⟨_,rfl⟩
    obtain⟨ra,rc,hrv2,-⟩:=id hrv.val;rw [←han] at hrv2;subst hrv2;subst haa;have ha0:=hcsa.get1;rw [Nat.mul_one] at ha0;have a0:wo.cell? ⟨ab,aoff+q,none⟩=some (.slice ra an rc):=hst.cell (b:=ab) (.inr hSa) ha0;have hrvo:SlAt (fun x=>w.heap.size≤x∧x<W1.heap.size) wo 1 rInt (.slice ra an rc) A:=hrv.mono rInt_mono (fun _ h=>h) (hst.stays fun x hx => .inr hx);have hmem:(t:Int)∈A:=by
     rw [hA];exact predsOf_got (blkOf_self bs Htb.out) (List.mem_of_getElem? hu)
    obtain⟨kk,hidx,hkk,hAk⟩:=idxInt_at hmem;have hjv:=cntJ_lt (b:=b) hmem;obtain⟨pb,poff,rfl,hcell⟩:∃pb poff,ra=some ⟨pb,poff,none⟩∧∀(j:Nat) a,A[j]?=some a→wo.cell? ⟨pb,poff+j,none⟩=some (.int .i64 a):=by
     have h0:0<A.length:=by omega
     obtain⟨pb,poff,h1,-⟩:=int_at hrvo h0;refine⟨pb,poff,h1,fun j a hj=>?_⟩;obtain⟨hj1,hj2⟩:=List.getElem?_eq_some_iff.1 hj;obtain⟨pb2,poff2,h3,h4⟩:=int_at hrvo hj1;rw [h1] at h3;cases h3;rw [hj2] at h4;exact h4
    have Hix := hid (indexInt_any (some ⟨pb, poff, none⟩) an rc A (t : Int) wo hrvo han.symm (by
     have := predsOf_le1 bs 0 q Hok.out.toNd
     rw [← hA] at this
     have := Hn.out
     omega))
    rw [hidx] at Hix;have Hcell:=hid hcell;have Hkk:Hid (idxInt A (t:Int)=(kk:Int)∧kk<an):=⟨hidx,by rw [han];exact hkk⟩
    have Hjv:Hid (cntJ A t b an+1≤an):=by show _≤_;rw [han];exact hjv
    have Hu:=hid hu;have HA:=hid hA;have Han:=hid han;have Hqb:=hid hqb;have han2:an≤1048576:=by
     have:=predsOf_le1 bs 0 q Hok.out.toNd;rw [←hA] at this;have:=Hn.out;omega
    clear hu hui hqb hcto hGv hGb hGl hSa hrv hcsa ha0 hrvo hmem hidx hkk hAk hjv hcell hA han hst;go_upto_region 5 with (go_at_call 95;refine Hix.out.mono ?_;rintro e w' ⟨rfl,hw⟩;subst hw)
    go_wp2_with fail;go_loopw [45,10] (fun s45 s10 wr=>∃(j:Nat),j≤an∧s45 = .int .i64 (j:Int)∧s10 = .int .i64 ((cntJ A t b j:Nat):Int)∧wo=wr) (fun s45 _ _=>an - (intOf s45).toNat)
    case atStart=>exact⟨0,Nat.zero_le _,rfl,rfl,rfl⟩
    case round =>
     obtain⟨j,hj,rfl,rfl,hw⟩:=hrel;subst hw
     by_cases hjn:j<an
     · obtain⟨a,ha⟩:∃a,A[j]?=some a:=⟨_,List.getElem?_eq_getElem (by rw [←Han.out];exact hjn)⟩
       have q0:=Hcell.out j a ha;have hstep:=cntJ_succ (t:=t) (b:=b) ha;have hcle:=cntJ_le A t b j;have hcn:cntJ A t b j≤1048576:=by omega
       obtain⟨cj,hcj⟩:∃cj,cj=cntJ A t b j:=⟨_,rfl⟩
       rw [←hcj] at hstep hcn ⊢;have Hstep:=hid hstep;have Hcj:=hid hcj;clear hstep hcle hcj ha
       by_cases h1:a<(b:Int)
       · have d1:decide (a<(b:Int))=true:=decide_eq_true h1
         by_cases h2:a=(t:Int)
         · have d2:=ne_no h2
           have e1:cntJ A t b (j+1)=cj:=by have h:=Hstep.out;rw [if_neg (fun h=>h.2 h2)] at h;simpa using h
           have He1:=hid e1;clear e1 h1 h2;go_wp2_with fail;go_roundw
           case rel=>exact⟨j+1,by omega,by go_num,by rw [He1.out],trivial⟩
           case measure=>simp [intOf];omega
         · have d2:=ne_yes h2
           have e1:cntJ A t b (j+1)=cj+1:=by have h:=Hstep.out;rw [if_pos ⟨h1,h2⟩] at h;exact h
           have He1:=hid e1;clear e1 h1 h2;go_wp2_with fail;go_roundw
           case rel=>exact⟨j+1,by omega,by go_num,by rw [He1.out];go_num,trivial⟩
           case measure=>simp [intOf];omega
       · have d1:decide (a<(b:Int))=false:=decide_eq_false h1
         have e1:cntJ A t b (j+1)=cj:=by have h:=Hstep.out;rw [if_neg (fun h=>h1 h.1)] at h;simpa using h
         have He1:=hid e1;clear e1 h1;go_wp2_with fail;go_roundw
         case rel=>exact⟨j+1,by omega,by go_num,by rw [He1.out],trivial⟩
         case measure=>simp [intOf];omega
     · have hja:an=j:=by omega
       subst hja;obtain⟨jv,hjv⟩:∃jv,jv=cntJ A t b an:=⟨_,rfl⟩
       have hjv2:jv+1≤an:=by rw [hjv];exact Hjv.out
       rw [←hjv];have Hjv2:=hid hjv;clear hjv;have hFo:wo.heap[FB]?=some (.cells #[.string nm,.int .i64 p,.int .i64 r,.slice (some ⟨R,0,none⟩) n bc] 38 (0,0)):=(Hst.out.kept FB (.inl HXF.out)).trans HF1.out;have c3:=(cells_of (cs:=[_,_,_,_]) hFo) 3 _ rfl;rw [Nat.zero_add] at c3;obtain⟨pa,pc,hvp⟩:=RowsAt.shape (p := .phis q) Hst0.out.rows Hqb.out;obtain⟨x,hx⟩:∃x,x=blkOf bs q:=⟨_,rfl⟩
       obtain⟨pn,hpn⟩:∃pn,pn=x.phis.length:=⟨_,rfl⟩
       rw [show srcC bs V C (.phis q)=elemsP bs V (.phis q) from HC.out (.phis q) (by simp),show (elemsP bs V (.phis q)).length=pn by simp [elemsP,hpn,hx]] at hvp;have hcr:(elemsP bs V .blks)[q]?=some (cellsB (blkOf bs q) (V (.phis q)) (V (.list q)) (V (.to q))):=by
        simp only [elemsP];rw [mapIdx_at,blkOf_self bs Hqb.out];rfl
       have hat:=(Hst.out.rows.at (p := .blks) trivial (g:=R) (n:=n) (c:=bc) Hvb.out (i:=q) (cs:=cellsB (blkOf bs q) (V (.phis q)) (V (.list q)) (V (.to q))) (by rw [show srcC (renF bs t b k) V C .blks=elemsP bs V .blks from HC.out .blks (by simp)];exact hcr)).1;have r0:wo.cell? ⟨R,q * 6,none⟩=some (.slice pa pn pc):=by
        have h:=hat 0 (V (.phis q)) rfl;rw [hvp] at h;exact h
       have hnt:¬((q:Int)∈(blkOf bs t).fin.to.take k):=fun hm=>by
        obtain⟨i2,hi2,hi3⟩:=List.getElem_of_mem hm;have hil:i2<(blkOf bs t).fin.to.length:=by rw [List.length_take] at hi2;omega
        rw [List.getElem_take] at hi3;have hkl:=(List.getElem?_eq_some_iff.1 Hu.out).1;have hki:=(List.getElem?_eq_some_iff.1 Hu.out).2;have hlt:i2<k:=by rw [List.length_take] at hi2;omega
        exact (List.pairwise_iff_getElem.1 (Hok.out.toNd _ (List.mem_of_getElem? (blkOf_self bs Htb.out)))) i2 k hil hkl hlt (hi3.trans hki.symm)
       have hrq:blkOf (renF bs t b k) q=x:=by rw [renF_at Hok.out.toIn Hok.out.toNd Htb.out,if_neg hnt,hx]
       have hqr:q<(renF bs t b k).length:=by rw [renF_len];exact Hqb.out
       have hst3:RwSt W1 wo base (renX X w.heap.size W1.heap.size) (okP bs) V (srcC ((renF bs t b k).set q (renUp A t b x 0)) V C):=by
        rw [renUp_zero,←hrq,list_set_self (blkOf_self _ hqr)];exact Hst.out
       have Hst3:=hid hst3;have Hx:=hid hx;have Hpn:=hid hpn;have Hvp:=hid hvp;have Hrq:=hid hrq;have Hqr:=hid hqr;have Hhat:=hid hat;have hpn2:pn≤1048576:=by rw [hpn,hx];exact (Hok.out.small _ (List.mem_of_getElem? (blkOf_self bs Hqb.out))).phis
       clear hFo hvp hx hpn hcr hat hnt hrq hqr hst3 hj hjn;go_wp2_with fail;clear c3 r0;go_loopw [69] (fun s69 wr=>∃(i:Nat),i≤pn∧s69 = .int .i64 (i:Int)∧RwSt W1 wr base (renX X w.heap.size W1.heap.size) (okP bs) V (srcC ((renF bs t b k).set q (renUp A t b x i)) V C)) (fun s69 _=>pn - (intOf s69).toNat)
       case atStart=>exact⟨0,Nat.zero_le _,rfl,Hst3.out⟩
       case round =>
        obtain⟨wl,hwl⟩:∃wl:World,wl=wr:=⟨_,rfl⟩
        subst hwl;obtain⟨i,hi,rfl,hlp⟩:=hrel;have Hlp:=hid hlp
        by_cases hip:i<pn
        · obtain⟨ph,hph⟩:∃ph,x.phis[i]?=some ph:=⟨_,List.getElem?_eq_getElem (by rw [←Hpn.out];exact hip)⟩
          have hbq:blkOf ((renF bs t b k).set q (renUp A t b x i)) q=renUp A t b x i:=by rw [blkOf_set Hqr.out,if_pos rfl]
          have hyp:(renUp A t b x i).phis[i]?=some ph:=by
           show (x.phis.mapIdx _)[i]?=_;rw [mapIdx_at,hph];simp
          have hoks:okP bs (.src q i):=by show i<(blkOf bs q).phis.length;rw [←Hx.out,←Hpn.out];exact hip
          have hcs2:srcC ((renF bs t b k).set q (renUp A t b x i)) V C (.src q i)=ph.src.map cellsV:=by
           simp only [srcC,elemsP];rw [hbq,List.getD_eq_getElem?_getD,hyp];rfl
          have hsl:ph.src.length=an:=by
           rw [Han.out,HA.out];exact Hok.out.src q Hqb.out ph (by rw [←Hx.out];exact List.mem_of_getElem? hph)
          obtain⟨g,fc,hgv,hgc,hgc2,hgb,hgl⟩:=hlp.rows.addr hoks (by rw [hcs2,List.length_map,hsl];have:=Hkk.out.2;omega);rw [hcs2,List.length_map,hsl] at hgv hgc;have hown:=hlp.rows.own _ hoks;rw [hcs2,List.length_map,hsl,hgv] at hown;obtain⟨v2,hv2⟩:∃v2,ph.src[kk]?=some v2:=⟨_,List.getElem?_eq_getElem (by rw [hsl];exact Hkk.out.2)⟩
          obtain⟨vr,hvr⟩:∃vr,vr=v2.reg:=⟨_,rfl⟩
          obtain⟨vn,hvn⟩:∃vn,vn=v2.n:=⟨_,rfl⟩
          have hgat:CellsAt wl g (kk * 2) [.bool vr,.int .i64 vn]:=(hlp.rows.at hoks hgv (i:=kk) (by rw [hcs2,List.getElem?_map,hv2,hvr,hvn];rfl)).1;obtain⟨g0,g1⟩:=hgat.get2;obtain⟨pd,hpd⟩:∃pd,pd=ph.dst:=⟨_,rfl⟩
          have hcph:(C (.phis q))[i]?=some [.int .i64 pd,V (.src q i)]:=by
           rw [HC.out (.phis q) (by simp)];simp only [elemsP];rw [←Hx.out,mapIdx_at,hph,Option.map_some,hpd]
          obtain⟨P,pcap,hPv,-,-,hPb,hPl⟩:=hlp.rows.addr (p := .phis q) Hqb.out (Nat.lt_of_le_of_lt (Nat.zero_le _) (List.getElem?_eq_some_iff.1 hcph).1);rw [Hvp.out] at hPv;have hpa:pa=some ⟨P,0,none⟩:=by injection hPv
          subst hpa;obtain⟨hat2,hz2⟩:=hlp.rows.at (p := .phis q) Hqb.out Hvp.out hcph;rw [hgv] at hat2;have hat3:CellsAt wl P (i * 2) [.int .i64 pd,.slice (some ⟨g,0,none⟩) an fc]:=hat2;obtain⟨p0,p1⟩:=hat3.get2;have pz:=hz2 (i * 2+1);have hFl:wl.heap[FB]?=some (.cells #[.string nm,.int .i64 p,.int .i64 r,.slice (some ⟨R,0,none⟩) n bc] 38 (0,0)):=(hlp.kept FB (.inl HXF.out)).trans HF1.out;have c3:=(cells_of (cs:=[_,_,_,_]) hFl) 3 _ rfl;rw [Nat.zero_add] at c3;have hcr:(elemsP bs V .blks)[q]?=some (cellsB (blkOf bs q) (V (.phis q)) (V (.list q)) (V (.to q))):=by
           simp only [elemsP];rw [mapIdx_at,blkOf_self bs Hqb.out];rfl
          have r0:wl.cell? ⟨R,q * 6,none⟩=some (.slice (some ⟨P,0,none⟩) pn pc):=by
           have h:=(hlp.rows.at (p := .blks) trivial (g:=R) (n:=n) (c:=bc) Hvb.out (i:=q) (by rw [show srcC ((renF bs t b k).set q (renUp A t b x i)) V C .blks=elemsP bs V .blks from HC.out .blks (by simp)];exact hcr)).1 0 (V (.phis q)) rfl;rw [Hvp.out] at h;exact h
          have hgne:g≠FB∧g≠R∧g≠P∧P≠FB∧P≠R:=by
           refine⟨fun e=>hlp.off _ hoks g (by rw [hgv];rfl) (by rw [e];exact .inl HXF.out),fun e=>?_,fun e=>?_,fun e=>hlp.off (.phis q) Hqb.out P (by rw [Hvp.out];rfl) (by rw [e];exact .inl HXF.out),fun e=>?_⟩
           · exact hlp.rows.apart (.src q i) .blks hoks trivial (by simp) g (by rw [hgv];rfl) (by rw [Hvb.out,e];rfl)
           · exact hlp.rows.apart (.src q i) (.phis q) hoks Hqb.out (by simp) g (by rw [hgv];rfl) (by rw [Hvp.out,e];rfl)
           · exact hlp.rows.apart (.phis q) .blks Hqb.out trivial (by simp) P (by rw [Hvp.out];rfl) (by rw [Hvb.out,e];rfl)
          have Hne:=hid hgne;have Hown:=hid hown;have Hgc:Hid (an≤fc∧fc≤9223372036854775807∧base≤g):=⟨hgc,hgc2,hgb⟩
          have Hgv:=hid hgv;have Hph:=hid hph;have Hbq:=hid hbq;have Hyp:=hid hyp;have Hsl:=hid hsl;have Hv2:=hid hv2;have Hvr:Hid (vr=v2.reg∧vn=v2.n):=⟨hvr,hvn⟩
          have Hcph:=hid hcph;have Hoks:=hid hoks;have hkkn:=Hkk.out.2;clear hph hbq hyp hoks hcs2 hsl hgv hgc hgc2 hgb hgl hown hv2 hvr hvn hgat hpd hcph hPv hat2 hz2 hat3 hFl hcr hgne hlp;go_upto_region 15 with (fail)
          obtain⟨PB,hPB⟩:∃PB,PB=wl.heap.size:=⟨_,rfl⟩
          obtain⟨W7,hW7⟩:∃W7,W7=wl.alloc (.cells #[.int .i64 pd,.slice (some ⟨g,0,none⟩) an fc] 94):=⟨_,rfl⟩
          have hl7:W7.heap[PB]?=some (.cells #[.int .i64 pd,.slice (some ⟨g,0,none⟩) an fc] 94 (0,0)):=by rw [hW7,hPB];exact heap_alloc_new _ _
          rw [←hW7,←hPB];have hb7:Below wl.heap.size wl W7:=by rw [hW7];(repeat (first | exact Below.refl _ _ | refine Below.alloc ?_ (by first|omega|(simp<;>omega)) _ | refine Below.setCell ?_ (by first|omega|(simp<;>omega)) _ | refine below_drewN ?_ _ | refine Below.drew ?_))
          have h7s:W7.heap.size=PB+1:=by rw [hW7,hPB];simp
          obtain⟨b0,b1⟩:=(cells_of (cs:=[_,_]) hl7).get2;rw [Nat.zero_add] at b1;have g0:=cell_later' g0 hb7;have g1:=cell_later' g1 hb7;have c3:=cell_later' c3 hb7;have r0:=cell_later' r0 hb7;have p1:=cell_later' p1 hb7;have pz:=(hb7.frozen (p:=⟨P,i * 2+1,none⟩) (by have:=Hlp.out.rows.lt (p := .phis q) Hqb.out P (by rw [Hvp.out];rfl);exact this.2)).trans pz;have zg7:g<W7.heap.size:=cell_lt g0;have HPB:Hid (PB=wl.heap.size∧W7.heap.size=PB+1):=⟨hPB,h7s⟩
          have Hb7:=hid hb7;clear hW7 hPB hl7 h7s p0 b0 hb7;go_upto_region 16 with (fail)
          obtain⟨VB,hVB⟩:∃VB,VB=W7.heap.size:=⟨_,rfl⟩
          obtain⟨W8,hW8⟩:∃W8,W8=W7.alloc (.cells #[.bool vr,.int .i64 vn] 72):=⟨_,rfl⟩
          have hl8:W8.heap[VB]?=some (.cells #[.bool vr,.int .i64 vn] 72 (0,0)):=by rw [hW8,hVB];exact heap_alloc_new _ _
          rw [←hW8,←hVB];have hb8:Below W7.heap.size W7 W8:=by rw [hW8];(repeat (first | exact Below.refl _ _ | refine Below.alloc ?_ (by first|omega|(simp<;>omega)) _ | refine Below.setCell ?_ (by first|omega|(simp<;>omega)) _ | refine below_drewN ?_ _ | refine Below.drew ?_))
          obtain⟨v0,v1⟩:=(cells_of (cs:=[_,_]) hl8).get2;rw [Nat.zero_add] at v1;have b1:=cell_later' b1 hb8;have c3:=cell_later' c3 hb8;have r0:=cell_later' r0 hb8;have pz:=(hb8.frozen (p:=⟨P,i * 2+1,none⟩) (cell_lt p1)).trans pz;have p1:=cell_later' p1 hb8;have hbl8:Below wl.heap.size wl W8:=Hb7.out.trans (hb8.mono Hb7.out.size);have hgl:g<wl.heap.size:=(Hlp.out.rows.lt Hoks.out g (by rw [Hgv.out];rfl)).2;have hPl:P<wl.heap.size:=(Hlp.out.rows.lt (p := .phis q) Hqb.out P (by rw [Hvp.out];rfl)).2;have Hne8:Hid (FB≠g∧R≠g∧PB≠g∧VB≠g∧P≠g∧FB≠P∧R≠P∧PB≠P∧VB≠P):=by
           obtain⟨n1,n2,n3,n4,n5⟩:=Hne.out;have h1:=HPB.out;refine⟨n1.symm,n2.symm,?_,?_,n3.symm,n4.symm,n5.symm,?_,?_⟩ <;> omega
          have Hlt8:Hid (FB<W8.heap.size∧R<W8.heap.size∧PB<W8.heap.size∧VB<W8.heap.size∧P<W8.heap.size∧g<W8.heap.size):=⟨cell_lt c3,cell_lt r0,cell_lt b1,cell_lt v0,cell_lt p1,Nat.lt_of_lt_of_le hgl hbl8.size⟩
          have HSg:Hid (∀w':World,W8.grownBy w' (some g)→(w'.cell? ⟨FB,3,none⟩=some (.slice (some ⟨R,0,none⟩) n bc)∧w'.cell? ⟨R,q * 6,none⟩=some (.slice (some ⟨P,0,none⟩) pn pc)∧w'.cell? ⟨PB,1,none⟩=some (.slice (some ⟨g,0,none⟩) an fc)∧w'.cell? ⟨VB,0,none⟩=some (.bool vr)∧w'.cell? ⟨VB,1,none⟩=some (.int .i64 vn))):=fun w' hg=>by
           have hk:∀x,x<W8.heap.size→x≠g→w'.heap[x]?=W8.heap[x]?:=fun x h1 h2=>hg.block x h1 (fun e=>h2 (by cases e;rfl));exact⟨(World.cell?_of_block (w:=W8) (a:=⟨FB,3,none⟩) (hk FB Hlt8.out.1 Hne8.out.1)).trans c3,(World.cell?_of_block (w:=W8) (a:=⟨R,q * 6,none⟩) (hk R Hlt8.out.2.1 Hne8.out.2.1)).trans r0,(World.cell?_of_block (w:=W8) (a:=⟨PB,1,none⟩) (hk PB Hlt8.out.2.2.1 Hne8.out.2.2.1)).trans b1,(World.cell?_of_block (w:=W8) (a:=⟨VB,0,none⟩) (hk VB Hlt8.out.2.2.2.1 Hne8.out.2.2.2.1)).trans v0,(World.cell?_of_block (w:=W8) (a:=⟨VB,1,none⟩) (hk VB Hlt8.out.2.2.2.1 Hne8.out.2.2.2.1)).trans v1⟩
          have HPg:Hid (∀w':World,W8.grownBy w' (some g)→w'.cell? ⟨P,i * 2+1,none⟩=some (.slice (some ⟨g,0,none⟩) an fc)∧w'.frozen? ⟨P,i * 2+1,none⟩=false):=fun w' hg=>by
           have hk:w'.heap[P]?=W8.heap[P]?:=hg.block P Hlt8.out.2.2.2.2.1 (fun e=>Hne8.out.2.2.2.2.1 (by cases e;rfl));exact⟨(World.cell?_of_block (w:=W8) (a:=⟨P,i * 2+1,none⟩) hk).trans p1,(World.frozen?_of_block (w:=W8) (a:=⟨P,i * 2+1,none⟩) hk).trans pz⟩
          have hown8:W8.ownsRow base 72 2 (.slice (some ⟨g,0,none⟩) an fc) an (ph.src.map cellsV).flatten:=ownsRow_later Hown.out hbl8;have HgA:Hid (W8.grownBy W8.drew (some g)):=grownBy_drew _ _;have HgB:Hid (W8.grownBy (W8.alloc (.cells #[.bool vr,.int .i64 vn] 72)).drew (some g)):=grownBy_same (World.grownBy_alloc _ _ _) (grownBy_drew _ _);obtain⟨dl,hdl⟩:∃dl,dl=delL ph.src kk:=⟨_,rfl⟩
          have HdA:Hid (Calls Tryz.prog 131 #[.slice (some ⟨g,0,none⟩) an fc,.int .i64 (kk:Int),.int .i64 ((kk:Int)+1)] W8.drew fun e w'=>e = .returned (.slice (some ⟨g,0,none⟩) (an - 1) fc)∧W8.grownBy w' (some g)∧w'.ownsRow base 72 2 (.slice (some ⟨g,0,none⟩) (an - 1) fc) (an - 1) (dl.map cellsV).flatten):=by
           rw [hdl];refine (delete_row (w:=W8.drew) (ownsRow_later hown8 (Below.refl _ _).drew) Hkk.out.2 han2).mono ?_;rintro e w' ⟨rfl,h1,h2⟩;exact⟨rfl,grownBy_same HgA.out h1,h2⟩
          have HdB:Hid (Calls Tryz.prog 131 #[.slice (some ⟨g,0,none⟩) an fc,.int .i64 (kk:Int),.int .i64 ((kk:Int)+1)] (W8.alloc (.cells #[.bool vr,.int .i64 vn] 72)).drew fun e w'=>e = .returned (.slice (some ⟨g,0,none⟩) (an - 1) fc)∧W8.grownBy w' (some g)∧w'.ownsRow base 72 2 (.slice (some ⟨g,0,none⟩) (an - 1) fc) (an - 1) (dl.map cellsV).flatten∧w'.heap[W8.heap.size]?=some (.cells #[.bool vr,.int .i64 vn] 72 (0,0))):=by
           rw [hdl];refine (delete_row (w:=(W8.alloc (.cells #[.bool vr,.int .i64 vn] 72)).drew) (ownsRow_later hown8 (((Below.refl W8.heap.size W8).alloc (Nat.le_refl _) _).drew)) Hkk.out.2 han2).mono ?_;rintro e w' ⟨rfl,h1,h2⟩;exact⟨rfl,grownBy_same HgB.out h1,h2,(h1.block W8.heap.size (by show _<(W8.alloc _).heap.size;simp) (fun e=>by cases e;exact absurd Hlt8.out.2.2.2.2.2 (Nat.lt_irrefl _))).trans (heap_alloc_new W8 _)⟩
          obtain⟨il,hil⟩:∃il,il=renL A t b ph.src:=⟨_,rfl⟩
          have hil2:il=insL dl jv v2:=by
           rw [hil,hdl];unfold renL;rw [Hkk.out.1,Int.toNat_natCast,←Han.out,←Hjv2.out,List.getD_eq_getElem?_getD,Hv2.out];rfl
          have HI1:Hid (∀w10:World,W8.grownBy w10 (some g)→w10.ownsRow base 72 2 (.slice (some ⟨g,0,none⟩) (an - 1) fc) (an - 1) (dl.map cellsV).flatten→Calls Tryz.prog 130 #[.slice (some ⟨g,0,none⟩) (an - 1) fc,.int .i64 (jv:Int),.slice (some ⟨w10.heap.size,0,none⟩) 1 1] (w10.alloc (.cells #[.bool vr,.int .i64 vn] 72)) fun e w'=>e = .returned (.slice (some ⟨g,0,none⟩) an fc)∧W8.grownBy w' (some g)∧w'.ownsRow base 72 2 (.slice (some ⟨g,0,none⟩) an fc) an (il.map cellsV).flatten):=fun w10 hg ho=>by
           rw [hil2];refine (insert_row v2 (ownsRow_later ho (by (repeat (first | exact Below.refl _ _ | refine Below.alloc ?_ (by first|omega|(simp<;>omega)) _ | refine Below.setCell ?_ (by first|omega|(simp<;>omega)) _ | refine below_drewN ?_ _ | refine Below.drew ?_)))) (j:=jv) (by omega) (by have:=Hgc.out;omega) (by omega) (by rw [←Hvr.out.1,←Hvr.out.2];exact heap_alloc_new _ _) (by have:=hg.size;have:=Hlt8.out;omega)).mono ?_;rintro e w' ⟨rfl,h1,h2⟩;rw [show an - 1+1=an by omega] at h2 ⊢;exact⟨rfl,grownBy_same (grownBy_same hg (World.grownBy_alloc _ _ _)) h1,h2⟩
          have HI2:Hid (∀w10:World,W8.grownBy w10 (some g)→w10.ownsRow base 72 2 (.slice (some ⟨g,0,none⟩) (an - 1) fc) (an - 1) (dl.map cellsV).flatten→w10.heap[W8.heap.size]?=some (.cells #[.bool vr,.int .i64 vn] 72 (0,0))→Calls Tryz.prog 130 #[.slice (some ⟨g,0,none⟩) (an - 1) fc,.int .i64 (jv:Int),.slice (some ⟨W8.heap.size,0,none⟩) 1 1] w10 fun e w'=>e = .returned (.slice (some ⟨g,0,none⟩) an fc)∧W8.grownBy w' (some g)∧w'.ownsRow base 72 2 (.slice (some ⟨g,0,none⟩) an fc) an (il.map cellsV).flatten):=fun w10 hg ho hbx=>by
           rw [hil2];refine (insert_row v2 ho (j:=jv) (by omega) (by have:=Hgc.out;omega) (by omega) (by rw [←Hvr.out.1,←Hvr.out.2];exact hbx) (by have:=Hlt8.out;omega)).mono ?_;rintro e w' ⟨rfl,h1,h2⟩;rw [show an - 1+1=an by omega] at h2 ⊢;exact⟨rfl,grownBy_same hg h1,h2⟩
          have hw1:IntKind.i64.wrap ((kk:Int)+1)=(kk:Int)+1:=by rw [IntKind.wrap_i64];omega
          have hSd:W8.drew.cell? ⟨FB,3,none⟩=some (.slice (some ⟨R,0,none⟩) n bc)∧W8.drew.cell? ⟨R,q * 6,none⟩=some (.slice (some ⟨P,0,none⟩) pn pc)∧W8.drew.cell? ⟨PB,1,none⟩=some (.slice (some ⟨g,0,none⟩) an fc)∧W8.drew.cell? ⟨VB,0,none⟩=some (.bool vr)∧W8.drew.cell? ⟨VB,1,none⟩=some (.int .i64 vn):=HSg.out _ HgA.out;have Hbl8:=hid hbl8;have Hil:=hid hil;clear hW8 hVB hl8 hb8 hbl8 hgl hPl hown8 hdl hil hil2 hSd g0 g1 zg7
          go_region_held3 (fun w' => w'.cell? ⟨FB, 3, none⟩ = some (.slice (some ⟨R, 0, none⟩) n bc) ∧ w'.cell? ⟨R, q * 6, none⟩ = some (.slice (some ⟨P, 0, none⟩) pn pc) ∧ w'.cell? ⟨PB, 1, none⟩ = some (.slice (some ⟨g, 0, none⟩) an fc) ∧ w'.cell? ⟨VB, 0, none⟩ = some (.bool vr) ∧ w'.cell? ⟨VB, 1, none⟩ = some (.int .i64 vn))
           ((first
             | with_reducible exact HS12.out
             | with_reducible exact HSg.out _ HG11.out
             | with_reducible exact HSg.out _ (grownBy_same HG10.out (World.grownBy_alloc _ _ _))
             | with_reducible exact HSg.out _ HG10.out
             | with_reducible exact HSg.out _ HGx.out
             | with_reducible exact HSg.out _ HgB.out
             | with_reducible exact HSg.out _ HgA.out))
           ((first
             | (go_at_call 131; (with_reducible refine HdA.out.mono ?_); rintro e w10 ⟨rfl, hg10, ho10⟩
                have HG10 := hid hg10
                have HO10 := hid ho10
                clear hg10 ho10)
             | (go_at_call 131; (with_reducible refine HdB.out.mono ?_); rintro e w10 ⟨rfl, hg10, ho10, hbx⟩
                have HGx := hid hg10
                have HOx := hid ho10
                have HBX := hid hbx
                clear hg10 ho10 hbx)
             | (go_at_call 130; (with_reducible refine (HI1.out w10 HG10.out HO10.out).mono ?_); rintro e w11 ⟨rfl, hg11, ho11⟩
                have HG11 := hid hg11
                have hp := HPg.out w11 hg11
                have p11 := hp.1
                have z11 := hp.2
                have hs11 := HSg.out w11 hg11
                have HS12 : Hid ((w11.setCell ⟨P, i * 2 + 1, none⟩ (.slice (some ⟨g, 0, none⟩) an fc)).cell? ⟨FB, 3, none⟩ = some (.slice (some ⟨R, 0, none⟩) n bc) ∧ (w11.setCell ⟨P, i * 2 + 1, none⟩ (.slice (some ⟨g, 0, none⟩) an fc)).cell? ⟨R, q * 6, none⟩ = some (.slice (some ⟨P, 0, none⟩) pn pc) ∧ (w11.setCell ⟨P, i * 2 + 1, none⟩ (.slice (some ⟨g, 0, none⟩) an fc)).cell? ⟨PB, 1, none⟩ = some (.slice (some ⟨g, 0, none⟩) an fc) ∧ (w11.setCell ⟨P, i * 2 + 1, none⟩ (.slice (some ⟨g, 0, none⟩) an fc)).cell? ⟨VB, 0, none⟩ = some (.bool vr) ∧ (w11.setCell ⟨P, i * 2 + 1, none⟩ (.slice (some ⟨g, 0, none⟩) an fc)).cell? ⟨VB, 1, none⟩ = some (.int .i64 vn)) := ⟨(cell_set_ne _ Hne8.out.2.2.2.2.2.1 _ _).trans hs11.1, (cell_set_ne _ Hne8.out.2.2.2.2.2.2.1 _ _).trans hs11.2.1, (cell_set_ne _ Hne8.out.2.2.2.2.2.2.2.1 _ _).trans hs11.2.2.1, (cell_set_ne _ Hne8.out.2.2.2.2.2.2.2.2 _ _).trans hs11.2.2.2.1, (cell_set_ne _ Hne8.out.2.2.2.2.2.2.2.2 _ _).trans hs11.2.2.2.2⟩
                have Ho11 := hid ho11
                clear hg11 ho11 hp hs11)
             | (go_at_call 130; (with_reducible refine (HI2.out w10 HGx.out HOx.out HBX.out).mono ?_); rintro e w11 ⟨rfl, hg11, ho11⟩
                have HG11 := hid hg11
                have hp := HPg.out w11 hg11
                have p11 := hp.1
                have z11 := hp.2
                have hs11 := HSg.out w11 hg11
                have HS12 : Hid ((w11.setCell ⟨P, i * 2 + 1, none⟩ (.slice (some ⟨g, 0, none⟩) an fc)).cell? ⟨FB, 3, none⟩ = some (.slice (some ⟨R, 0, none⟩) n bc) ∧ (w11.setCell ⟨P, i * 2 + 1, none⟩ (.slice (some ⟨g, 0, none⟩) an fc)).cell? ⟨R, q * 6, none⟩ = some (.slice (some ⟨P, 0, none⟩) pn pc) ∧ (w11.setCell ⟨P, i * 2 + 1, none⟩ (.slice (some ⟨g, 0, none⟩) an fc)).cell? ⟨PB, 1, none⟩ = some (.slice (some ⟨g, 0, none⟩) an fc) ∧ (w11.setCell ⟨P, i * 2 + 1, none⟩ (.slice (some ⟨g, 0, none⟩) an fc)).cell? ⟨VB, 0, none⟩ = some (.bool vr) ∧ (w11.setCell ⟨P, i * 2 + 1, none⟩ (.slice (some ⟨g, 0, none⟩) an fc)).cell? ⟨VB, 1, none⟩ = some (.int .i64 vn)) := ⟨(cell_set_ne _ Hne8.out.2.2.2.2.2.1 _ _).trans hs11.1, (cell_set_ne _ Hne8.out.2.2.2.2.2.2.1 _ _).trans hs11.2.1, (cell_set_ne _ Hne8.out.2.2.2.2.2.2.2.1 _ _).trans hs11.2.2.1, (cell_set_ne _ Hne8.out.2.2.2.2.2.2.2.2 _ _).trans hs11.2.2.2.1, (cell_set_ne _ Hne8.out.2.2.2.2.2.2.2.2 _ _).trans hs11.2.2.2.2⟩
                have Ho11 := hid ho11
                clear hg11 ho11 hp hs11)))
          all_goals
           go_wp2_with fail;go_roundw
           case rel =>
            have hnx:=(Hlp.out.later Hbl8.out).srcSame (u:=q) (i:=i) (g:=g) (P:=P) (c:=fc) (pn:=pn) (pc:=pc) (m:=an) (d := .int .i64 pd) (by rw [List.length_set];exact Hqr.out) (by rw [Hbq.out];exact (List.getElem?_eq_some_iff.1 Hyp.out).1) Hoks.out Hqb.out Hgv.out Hvp.out Hcph.out (l:=il) (by have h:=Ho11.out.1;rw [flat_len (il.map cellsV) (fun i cs hi=>cellsV_wid il cs (List.mem_of_getElem? hi)),List.length_map] at h;omega) Ho11.out HG11.out;rw [List.set_set,Hbq.out,Hil.out,renUp_src Hph.out] at hnx;exact⟨i+1,by omega,by go_num,hnx⟩
           case measure=>simp [intOf];omega
        · have hpi:pn=i:=by omega
          subst hpi;have hren:renUp A t b x pn=renB A t b x:=by rw [Hpn.out];exact renUp_all _ _ _ _
          have hnx:RwSt W1 wl base (renX X w.heap.size W1.heap.size) (okP bs) V (srcC (renF bs t b (k+1)) V C):=by
           rw [renF_succ Hu.out];unfold renTo;rw [Int.toNat_natCast,Hrq.out,←HA.out,←hren];exact hlp
          have Hnx:=hid hnx;clear hren hnx hlp hi hip;go_wp2_with fail;go_roundw
          case rel=>exact⟨k+1,by omega,by go_num,Hnx.out⟩
          case measure=>simp [intOf];omega
  · have hkt:tn=k:=by omega
    subst hkt;clear hk hkn;go_wp2_with fail;go_end0;refine⟨rfl,?_⟩;have h:=(Hst0.out.later Hb1.out).trans Hst.out (fun x hx => .inl hx);rw [Htn.out] at h;exact h

end Go.Proofs.YtnkogppgacappaaGreatDoor
