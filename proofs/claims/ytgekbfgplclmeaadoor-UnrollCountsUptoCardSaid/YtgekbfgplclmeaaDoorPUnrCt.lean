import Derived.Test.YtgekbfgplclmeaaDoorPRunC
/- UnrollCounts: the law's walk. -/
namespace Go.Proofs.YtgekbfgplclmeaaDoor
open Go.RowKit
set_option maxRecDepth 100000 in
set_option maxHeartbeats 4000000 in
theorem aeg (w : World) (hw : ab5 w) (ga : Option Addr) (gc : Nat) (fa : Option Addr) (fc : Nat) (gs : List aat) (fs : List aal) (hg : SlAt (fun b => b < w.heap.size) w 3 abd (.slice ga gs.length gc) gs) (hf : SlAt (fun b => b < w.heap.size) w 4 abT (.slice fa fs.length fc) fs)
 (bB:afB gs fs) (k:Int) (c7 : -9223372036854775808<=k) (aw:k<=9223372036854775807) (b:Int) (cu : -9223372036854775808<=b) (bm:b<=9223372036854775807) (ca:Option Addr) (cc:Nat) (C:List Int) (hC:SlAt (fun b=>b<w.heap.size) w 1 abe (.slice ca C.length cc) C) (_hcl:C.length<=1048576) (fuel:Int) (dc : -9223372036854775808<=fuel) (dd:fuel<=9223372036854775807) :
 Calls Tryd.prog 3 #[.agg #[.slice ga gs.length gc,.slice fa fs.length fc],.int .i64 k,.int .i64 b,.slice ca C.length cc,.int .i64 fuel] w fun e w'=>e = .returned (.bool true)∧Below w.heap.size w w':=by
 have bt:=bB.globals;have br:=bB.funcs;have a8:=hid bB.many;have Hg:=hid hg;have Hf:=hid hf;have Hw:=hid hw;have HC:=hid hC;clear hg hf hw bB hC;go_enter Tryd.func3,Tryd.ntmps3;obtain⟨W,hW⟩:∃W,W=(w.alloc (.cells #[.slice ga gs.length gc,.slice fa fs.length fc] 25)):=⟨_,rfl⟩
 have aL:Below w.heap.size w W:=by rw [hW];exact bE
 have g0:W.cell? ⟨w.heap.size,0,none⟩=some (.slice ga gs.length gc):=by rw [hW];simp
 have g1:W.cell? ⟨w.heap.size,1,none⟩=some (.slice fa fs.length fc):=by rw [hW];simp
 have c2:W.heap.size=w.heap.size+1:=by rw [hW];simp
 go_wp2_with fail;rw [<-hW];obtain⟨UB,bH⟩:∃UB,UB=w.heap.size:=⟨_,rfl⟩
 rw [<-bH] at g0 g1;refine (afr (S:=fun b=>b<w.heap.size) ga gc fa fc gs fs k b W ⟨c7,aw⟩ ⟨cu,bm⟩ (Hg.out.later aaC aL) (Hf.out.later aan aL) (ab5.below Hw.out aL) (fun b hb=>by omega) bt br a8.out).mono ?_;intro e w1 ad;obtain⟨n1,p1,q1,cM,rfl,bo⟩:=(show ∃n p q:Int,aaB ⟨gs,fs⟩ k b=(n,p,q)∧e = .returned (.tuple #[.int .i64 n,.agg #[.int .i64 p,.int .i64 q]])∧Below W.heap.size W w1 from ad)
 have ch:=hid cM;have ck:Hid (Below w.heap.size w w1):=aL.trans (bo.mono (by omega));have g0:=aab g0 bo;have g1:=aab g1 bo;have z1:UB<w1.heap.size:=aac g0;clear cM bo aL hW c2 ad;simp only [];rw [<-bH];clear bH;go_wp2_with fail;obtain⟨W2,bj⟩:∃W2,W2=w1.alloc (.cells #[.int .i64 p1,.int .i64 q1] 28):=⟨_,rfl⟩
 rw [<-bj];have bp:Below w1.heap.size w1 W2:=by rw [bj];exact bE
 have az:Hid (Below w.heap.size w W2):=ck.out.trans (bp.mono ck.out.size);have g0:=aab g0 bp;have g1:=aab g1 bp;have g2:W2.cell? ⟨w1.heap.size,0,none⟩=some (.int .i64 p1):=by rw [bj];simp
 obtain⟨F1,cm⟩:∃F1,F1=w1.heap.size:=⟨_,rfl⟩
 rw [<-cm] at g2 ⊢;clear bp bj cm;refine (afr (S:=fun b=>b<w.heap.size) ga gc fa fc gs fs (-1) b W2 ⟨by omega,by omega⟩ ⟨cu,bm⟩ (Hg.out.later aaC az.out) (Hf.out.later aan az.out) (ab5.below Hw.out az.out) (fun b hb=>by have:=az.out.size;omega) bt br a8.out).mono ?_;intro e w3 ad;obtain⟨n2,p2,q2,cN,rfl,an⟩:=(show ∃n p q:Int,aaB ⟨gs,fs⟩ (-1) b=(n,p,q)∧e = .returned (.tuple #[.int .i64 n,.agg #[.int .i64 p,.int .i64 q]])∧Below W2.heap.size W2 w3 from ad)
 obtain⟨cH,-⟩:=agG cN;have be:Hid (Below w.heap.size w w3):=az.out.trans (an.mono az.out.size);have g0:=aab g0 an;have g1:=aab g1 an;have g2:=aab g2 an;have z3:UB<w3.heap.size:=aac g0;have y3:F1<w3.heap.size:=aac g2;have q0:(decide (p2<=0)&&decide (0<=p2))=false:=afE cH;clear cN an ad cH;simp only []
 by_cases hp1:p1=0
 case neg =>
  have ax:=agF ch.out hp1;subst ax;have dx:(decide (p1<0)||decide (0<p1))=true:=abN hp1;clear hp1;go_wp2_with fail;go_ret;exact⟨rfl,by have h:=be.out;exact bE1 h⟩
 case pos =>
  subst hp1;obtain⟨bC,kn,bb,f,rfl,rfl,bu,cv,ax,rfl⟩:=afX ch.out;have bw:kn<fs.length:=(Aae.1 bu).1;have de:fs[kn]=f:=(Aae.1 bu).2;have bN:=ajs bC bu;have aN:=(acU bC).1;have aE:=aip f.blocks bb;rw [<-ax] at aE
  by_cases hn0:n1=0
  . subst hn0
    clear ax aE;go_wp2_with fail;go_ret;exact⟨rfl,by have h:=be.out;exact bE1 h⟩
  . have bS:aiw ⟨gs,fs⟩:=aiz Hg.out Hf.out
    obtain⟨x,hx⟩:∃x,f.blocks[bb]?=some x:=⟨_,Aaa cv⟩
    obtain⟨q,p,n,cG,bx,aW,cK,cJ,aX,bT⟩:=LpU.of bC bS bu hx (by rw [<-ax];exact hn0);have aV:n1=(n:Int):=by rw [ax,cG]
    obtain⟨gm,hm,bQ,-⟩:=aet aN;have ae:=fun (h0:(runR ⟨gs,fs⟩ C fuel.toNat).state=0)=>amH bx (inp:=C) (fun v hv=>by obtain⟨-,-,h⟩:=HC.out.all v hv;exact h) hm bQ h0
    have bF:=hid ae;have cY:=hid (amI aN bS (inp:=C) (fun v hv=>by obtain⟨-,-,h⟩:=HC.out.all v hv;exact h) hm bQ fuel.toNat);have cW:Hid (p≠bb):=bx.apart;have di:=hid bN.1;have dj:=hid bx;have c8:(decide (n1<=0)&&decide (0<=n1))=false:=afE hn0;obtain⟨bn,aM⟩:∃bn,bn=f.blocks.length:=⟨_,rfl⟩
    have cw:bn<=40:=by have:=bN.1.len.2;omega
    rw [<-aM] at cv bT;have aH:=hid aM;subst de;have cR:∀V1,Below w.heap.size w V1->Calls Tryd.prog 7 #[.agg #[.slice ga gs.length gc,.slice fa fs.length fc],.int .i64 (kn:Int)] V1 fun e w'=>∃a c,e = .returned (.tuple #[.slice a bn c,.agg #[.int .i64 0,.int .i64 0]])∧SlAt (fun b=>V1.heap.size<=b) w' 1 rRow (.slice a bn c) (aheadF fs[kn].blocks)∧Below V1.heap.size V1 w':=fun V1 hb=>by
     rw [aM];exact afA (S:=fun b=>b<w.heap.size) ga gc fa fc gs fs kn V1 (Hg.out.later aaC hb) (Hf.out.later aan hb) (ab5.below Hw.out hb) bt br a8.out aN bw
    have cS:∀V1,Below w.heap.size w V1->Calls Tryd.prog 8 #[.agg #[.slice ga gs.length gc,.slice fa fs.length fc],.slice ca C.length cc,.int .i64 fuel] V1 fun e w'=>ae7 ⟨gs,fs⟩ C fuel V1 e w':=fun V1 hb =>
     ah2 (S:=fun b=>b<w.heap.size) ga gc fa fc gs fs ca cc C fuel V1 (Hg.out.later aaC hb) (Hf.out.later aan hb) (HC.out.later aaf hb) (ab5.below Hw.out hb) (fun b bm=>Aba bm hb.size) bt br a8.out ⟨dc,dd⟩
    obtain⟨W4,bI⟩:∃W4,W4=w3.alloc (.cells #[.int .i64 p2,.int .i64 q2] 28):=⟨_,rfl⟩
    have ao:Below w3.heap.size w3 W4:=by rw [bI];exact bE
    have g0:=aab g0 ao;have g1:=aab g1 ao;have b8:Hid (W4.cell? ⟨UB,0,none⟩=some (.slice ga gs.length gc)∧W4.cell? ⟨UB,1,none⟩=some (.slice fa fs.length fc)):=⟨g0,g1⟩
    have zU:=aac g0;have bf:Hid (Below w.heap.size w W4):=be.out.trans (ao.mono be.out.size);obtain⟨F2,cn⟩:∃F2,F2=w3.heap.size:=⟨_,rfl⟩
    have cl:=hid cS;have cZ:=hid cR;have HL:Hid ((n:Int)=n1∧(aag fs[kn].blocks 0 bb).length=2∧q<2∧(aag fs[kn].blocks 0 bb)[q]?=some (p:Int)∧(aag fs[kn].blocks 0 bb)[1 - q]?=some (bb:Int)∧p<bn):=⟨aV.symm,aW,cK,cJ,aX,bT⟩
    have b9:Hid (W4=w3.alloc (.cells #[.int .i64 p2,.int .i64 q2] 28)∧F2=w3.heap.size):=⟨bI,cn⟩
    have bD:=hid aN;have dk:=hid aE;have dq:(kn:Int)<(fs.length:Int):=by omega
    have dp:(bb:Int)<(bn:Int):=by omega
    have c6:(0:Int)<=(kn:Int):=by omega
    have c4:(0:Int)<=(bb:Int):=by omega
    obtain⟨L,hL⟩:∃L,L=fs.length:=⟨_,rfl⟩
    have dh:=hid hL;obtain⟨fb,ar,xa,xc,bM,cC,b7,-,-⟩:=acM (Hf.out.later aan bf.out) bw;subst bM;have c3:=cC.get4.2.2.2;rw [<-aM] at c3 b7;have cg:=hid c3;have c0:=hid b7;have bR:n1<=8:=aE.2;have aU:0<=n1:=aE.1;clear cS cR aV aW cK cJ aX bT bI cn aN ax cG aE bx ae hm bQ bS bN ao cC b7 hx aM bC c3 hL g0 g1 zU;go_upto_region 7 with (fail)
    rw [<-b9.out.1,<-b9.out.2];obtain⟨g0,g1⟩:W4.cell? ⟨UB,0,none⟩=some (.slice ga gs.length gc)∧W4.cell? ⟨UB,1,none⟩=some (.slice (some ⟨fb,ar,none⟩) fs.length fc):=⟨b8.out.1,b8.out.2⟩
    have zU:=aac g0;go_upto_region 8 with (go_at_call 7;refine (cZ.out W4 bf.out).mono ?_;rintro e w5 ⟨aa,ac,rfl,a6,an⟩;have cf:=hid an;have aJ:=hid a6;clear an a6)
    obtain⟨W6,bk⟩:∃W6,W6=w5.alloc (.cells #[.int .i64 0,.int .i64 0] 28):=⟨_,rfl⟩
    have ao:Below w5.heap.size w5 W6:=by rw [bk];exact bE
    have ag:Hid (Below W4.heap.size W4 W6):=cf.out.trans (ao.mono cf.out.size);have f30:W6.cell? ⟨w5.heap.size,0,none⟩=some (.int .i64 0):=by rw [bk];simp
    have a7:=aJ.out.later aau ao;rw [<-bk];obtain⟨F3,cp⟩:∃F3,F3=w5.heap.size:=⟨_,rfl⟩
    rw [<-cp] at f30 ⊢;have g0:=aab g0 ag.out;have g1:=aab g1 ag.out;have zU:=aac g0;have cT:=aac f30;have aA:Hid (Below w.heap.size w W6):=bf.out.trans (ag.out.mono bf.out.size);have bG:=hid a7;clear bk ao cp a7 aJ;have bJ:(aheadF fs[kn].blocks).length=bn:=by unfold aheadF;rw [Aal,List.length_range,aH.out]
    have av:bb<(aheadF fs[kn].blocks).length:=by omega
    obtain⟨ab,c1,ra,rc,rfl,au,b4⟩:=ahi bG.out av;have cq:(aheadF fs[kn].blocks)[bb]=aag fs[kn].blocks 0 bb:=by
     have h2:(aheadF fs[kn].blocks)[bb]?=some (aag fs[kn].blocks 0 bb):=by unfold aheadF;rw [Aap,Abg (by rw [<-aH.out];omega)];rfl
     rw [Aaa av] at h2;exact Option.some.inj h2
    rw [cq,HL.out.2.1] at au b4;have ay:0<(aag fs[kn].blocks 0 bb).length:=by rw [HL.out.2.1];omega
    have aY:1<(aag fs[kn].blocks 0 bb).length:=by rw [HL.out.2.1];omega
    have cb:=hid au;have cj:=hid b4;clear bJ av cq au b4
    by_cases hE:abV ⟨gs,fs⟩ C.length fuel=(0,0)
    . have aF : Hid (Calls Tryd.prog 8 #[.agg #[.slice ga gs.length gc, .slice (some ⟨fb, ar, none⟩) fs.length fc], .slice ca C.length cc, .int .i64 fuel] W6 fun e w' => ∃ qa qc oa oc, e = .returned (.tuple #[.slice qa fs.length qc, .agg #[.int .i64 (runR ⟨gs, fs⟩ C fuel.toNat).state, .int .i64 (runR ⟨gs, fs⟩ C fuel.toNat).value, .slice oa (runR ⟨gs, fs⟩ C fuel.toNat).out.length oc, .int .i64 ((runR ⟨gs, fs⟩ C fuel.toNat).steps : Int)], .agg #[.int .i64 0, .int .i64 0]]) ∧
       SlAt (fun b => W6.heap.size <= b) w' 1 rRow (.slice qa fs.length qc) (runR ⟨gs, fs⟩ C fuel.toNat).cnt ∧ Below W6.heap.size W6 w') := by
       refine (cl.out W6 aA.out).mono ?_;rintro e w' ⟨h1,⟨-,qa,qc,oa,oc,h2,h3,-⟩ | ⟨c,a,cx,h2,-⟩⟩
       . exact⟨qa,qc,oa,oc,h2,h3,h1⟩
       . rw [hE] at h2
         obtain⟨rfl,rfl⟩:0=c∧0=a:=by simpa using h2
         simp at cx
      have aB:0<=fuel∧fuel<=100000:=by
       unfold abV at hE;rw [bD.out,if_neg (by simp)] at hE
       by_cases e1:30<C.length
       . rw [if_pos e1] at hE;simp at hE
       . rw [if_neg e1] at hE
         by_cases e2:¬(0<=fuel∧fuel<=100000)
         . rw [if_pos e2] at hE;simp at hE
         . exact Classical.not_not.1 e2
      obtain⟨R,hR⟩:∃R,R=runR ⟨gs,fs⟩ C fuel.toNat:=⟨_,rfl⟩
      have aZ:=cY.out;have ae:=bF.out;rw [<-hR] at aF aZ ae;obtain⟨cr,cB,aP,aQ⟩:=aZ.1.cnt.2 kn fs[kn] (Aaa bw);have cz:R.cnt.length=fs.length:=aZ.1.cnt.1;have aO:∀v∈cr,0<=v∧v<=100001:=fun v hv=>by have:=aQ v hv;have:=aZ.2;omega
      obtain⟨st,cO⟩:∃x,x=R.state:=⟨_,rfl⟩
      rw [<-cO] at aF ae;have cV:=hid (show R.cnt[kn]?=some cr∧cr.length=bn∧∀v∈cr,0<=v∧v<=100001 from ⟨cB,by rw [aH.out];exact aP,aO⟩);have cU:=hid cz;have aI:=hid ae;clear hE aB hR aZ ae cB aP aQ cz aO cO;go_upto_region 9 with (go_at_call 8;refine aF.out.mono ?_;rintro e w7 ⟨qa,qc,oa,oc,rfl,cL,aK⟩;have aG:=hid aK;have cX:=hid cL;clear aK cL)
      obtain⟨W8,aj⟩:∃W8,W8=(w7.alloc (.cells #[.int .i64 st,.int .i64 R.value,.slice oa R.out.length oc,.int .i64 (R.steps:Int)] 35)).alloc (.cells #[.int .i64 0,.int .i64 0] 28):=⟨_,rfl⟩
      have aD:Below w7.heap.size w7 W8:=by rw [aj];exact bE
      have af:Hid (Below W6.heap.size W6 W8):=aG.out.trans (aD.mono aG.out.size);have e0:W8.cell? ⟨w7.heap.size+1,0,none⟩=some (.int .i64 0):=by rw [aj];simp
      have o0:W8.cell? ⟨w7.heap.size,0,none⟩=some (.int .i64 st):=by rw [aj];simp
      have bX:=cX.out.later aau aD;rw [<-aj];have zE:=aac e0;have zO:=aac o0;clear aj aD;have f30:=aab f30 af.out;have g1:=aab g1 af.out;have au:=aab cb.out af.out;have c3:=aab (aab cg.out ag.out) af.out;have cT:=aac f30;have zg:=aac g1;have zh:=aac au;have zc:=aac c3;have aq:Hid (Below w.heap.size w W8):=aA.out.trans (af.out.mono aA.out.size);clear g0 zU
      by_cases hst0:st=0
      . subst hst0
        obtain⟨E,bg,bh,aB⟩:=aI.out rfl;obtain⟨k1,k2,k3⟩:=cV.out;have bq:bb<cr.length:=by omega
        have bz:p<cr.length:=by rw [k2];exact HL.out.2.2.2.2.2
        have cy:cAt R.cnt kn bb=cr[bb]:=by unfold cAt;rw [Aab (i:=kn),k1];show cr.getD bb 0=_;rw [Aab,Aaa bq];rfl
        have cA:cAt R.cnt kn p=cr[p]:=by unfold cAt;rw [Aab (i:=kn),k1];show cr.getD p 0=_;rw [Aab,Aaa bz];rfl
        rw [cy] at bg;rw [cA] at bh aB;have bK:=k3 _ (Aai bq);have bV:=k3 _ (Aai bz);have bO:kn<R.cnt.length:=by rw [cU.out];exact bw
        have aS:R.cnt[kn]=cr:=by
         rw [Aaa bO] at k1;exact Option.some.inj k1
        obtain⟨qb,df,dy,dz,rfl,bY,bA⟩:=ahi bX bO;rw [aS] at bY bA;obtain⟨b1,o1,db,ak⟩:=abq bA bq;subst db;obtain⟨dm,dt,bZ,bL⟩:=abq bA bz;cases bZ;rw [k2] at bY;obtain⟨vb,cP⟩:∃v,v=cr[bb]:=⟨_,rfl⟩
        obtain⟨vp,cQ⟩:∃v,v=cr[p]:=⟨_,rfl⟩
        rw [<-cP] at bg bK ak;rw [<-cQ] at bh aB bV bL;have zq:=aac bY;have zr:=aac ak
        -- the blocks ahead
        obtain⟨b2,o2,b0,bl⟩:=abq ((cj.out.later aaf af.out)) ay;subst b0;obtain⟨dn,du,b3,ct⟩:=abq ((cj.out.later aaf af.out)) aY;cases b3;have zA:=aac bl;rw [Aas] at bl
        -- the end of the block ahead
        have cI:p<fs[kn].blocks.length:=by rw [<-aH.out];exact HL.out.2.2.2.2.2
        obtain⟨xb,dg,dv,dw,la,lc,ta,tc,b6,aR,-⟩:=adr ((c0.out.later aam ag.out).later aam af.out) (by rw [<-aH.out];exact HL.out.2.2.2.2.2:p<fs[kn].blocks.length);subst b6;obtain⟨-,-,d2,-⟩:=aR.get6;obtain⟨kd,bP⟩:∃v,v=fs[kn].blocks[p].fin.kind:=⟨_,rfl⟩
        rw [<-bP] at d2;have zd:=aac d2;have cE:kd=2->(E:Int)=vp:=fun e=>aB _ (Aaa cI) (by rw [<-bP];exact e);have cF:(n:Int)=n1:=HL.out.1;have al:vb=n1 * (E:Int):=by rw [bg,<-cF]
        have hmul:0<=n1 * vp∧n1 * vp<=800008:=by
         have h1:n1 * vp<=8 * vp:=Int.mul_le_mul_of_nonneg_right bR bV.1;exact⟨Int.mul_nonneg aU bV.1,by omega⟩
        have hle:vb<=n1 * vp:=by rw [al];exact Int.mul_le_mul_of_nonneg_left bh aU
        have aT:vb.tmod n1=0:=by rw [al];exact Int.mul_tmod_right _ _
        have dr:(p:Int)<(bn:Int):=by have:=HL.out.2.2.2.2.2;omega
        have c9:(0:Int)<=(p:Int):=by omega
        have bU:¬(p:Int)=(bb:Int):=by have:=cW.out;omega
        have da:decide ((p:Int)=(bb:Int))=false:=decide_eq_false bU;have aC:=HL.out;have bd:Hid (vb=n1 * (E:Int)∧(kd=2->(E:Int)=vp)):=⟨al,cE⟩
        clear bg bh aB cy cA bO aS bA aR bP cP cQ k1 k2 k3 bq bz bX cI cE cF al;have bW:q=0∨q=1:=by have:=aC.2.2.1;omega
        rcases bW with rfl | rfl
        . have a0:(aag fs[kn].blocks 0 bb)[0]=(p:Int):=by
           have h:=aC.2.2.2.1;rw [Aaa ay] at h;exact Option.some.inj h
          rw [a0] at bl;clear aC ct a0
          by_cases aw:kd=2
          . have ai:vb=n1 * vp:=by rw [bd.out.1,bd.out.2 aw]
            have b5:IntKind.i64.wrap (n1 * vp)=n1 * vp:=by rw [IntKind.wrap_i64];omega
            rw [ai] at ak;subst aw;clear ai hle aT bK;go_wp2_with fail;go_quiet (fail);go_wp2_with fail;go_quiet (fail);go_wp2_with fail;go_ret;exact⟨by simp,by have h:=aq.out;exact bE1 h⟩
          . have b5:IntKind.i64.wrap (n1 * vp)=n1 * vp:=by rw [IntKind.wrap_i64];omega
            go_wp2_with fail;go_quiet (fail);go_wp2_with fail;go_quiet (fail);go_wp2_with fail;go_ret;exact⟨by simp,by have h:=aq.out;exact bE1 h⟩
        . have a0:(aag fs[kn].blocks 0 bb)[0]=(bb:Int):=by
           have h:=aC.2.2.2.2.1;rw [Aaa ay] at h;exact Option.some.inj h
          have a1:(aag fs[kn].blocks 0 bb)[1]=(p:Int):=by
           have h:=aC.2.2.2.1;rw [Aaa aY] at h;exact Option.some.inj h
          rw [a0] at bl;rw [a1] at ct;clear aC a0 a1
          by_cases aw:kd=2
          . have ai:vb=n1 * vp:=by rw [bd.out.1,bd.out.2 aw]
            have b5:IntKind.i64.wrap (n1 * vp)=n1 * vp:=by rw [IntKind.wrap_i64];omega
            rw [ai] at ak;subst aw;clear ai hle aT bK;go_wp2_with fail;go_quiet (fail);go_wp2_with fail;go_quiet (fail);go_wp2_with fail;go_ret;exact⟨by simp,by have h:=aq.out;exact bE1 h⟩
          . have b5:IntKind.i64.wrap (n1 * vp)=n1 * vp:=by rw [IntKind.wrap_i64];omega
            go_wp2_with fail;go_quiet (fail);go_wp2_with fail;go_quiet (fail);go_wp2_with fail;go_ret;exact⟨by simp,by have h:=aq.out;exact bE1 h⟩
      . have ds:(decide (st<0)||decide (0<st))=true:=abN hst0
        clear hst0 bX;go_wp2_with fail;go_ret;exact⟨rfl,aq.out⟩
    . have aF:Hid (Calls Tryd.prog 8 #[.agg #[.slice ga gs.length gc,.slice (some ⟨fb,ar,none⟩) fs.length fc],.slice ca C.length cc,.int .i64 fuel] W6 fun e w'=>∃c a:Int,c≠0∧e = .returned (.tuple #[.slice none 0 0,.agg #[.int .i64 0,.int .i64 0,.slice none 0 0,.int .i64 0],.agg #[.int .i64 c,.int .i64 a]])∧Below W6.heap.size W6 w'):=by
       refine (cl.out W6 aA.out).mono ?_;rintro e w' ⟨h1,⟨h2,-⟩ | ⟨c,a,cx,h2,h3⟩⟩
       . exact absurd h2 hE
       . refine⟨c,a,?_,h3,h1⟩
         unfold abV at h2;rw [bD.out,if_neg (by simp)] at h2;unfold abV at hE;rw [bD.out,if_neg (by simp)] at hE
         by_cases e1:30<C.length
         . rw [if_pos e1] at h2;have:=(Prod.mk.inj h2).1;omega
         . rw [if_neg e1] at h2 hE
           by_cases e2:¬(0<=fuel∧fuel<=100000)
           . rw [if_pos e2] at h2;have:=(Prod.mk.inj h2).1;omega
           . rw [if_neg e2] at hE;exact absurd rfl hE
      clear hE;go_upto_region 9 with (go_at_call 8;refine aF.out.mono ?_;rintro e w7 ⟨ec,ea,cD,rfl,aK⟩;have aG:=hid aK;clear aK)
      obtain⟨W8,aj⟩:∃W8,W8=(w7.alloc (.cells #[.int .i64 0,.int .i64 0,.slice none 0 0,.int .i64 0] 35)).alloc (.cells #[.int .i64 ec,.int .i64 ea] 28):=⟨_,rfl⟩
      have aD:Below w7.heap.size w7 W8:=by rw [aj];exact bE
      have af:Hid (Below W6.heap.size W6 W8):=aG.out.trans (aD.mono aG.out.size);have e0:W8.cell? ⟨w7.heap.size+1,0,none⟩=some (.int .i64 ec):=by rw [aj];simp
      rw [<-aj];have zE:=aac e0;clear aj aD;have f30:=aab f30 af.out;have g1:=aab g1 af.out;have au:=aab cb.out af.out;have c3:=aab (aab cg.out ag.out) af.out;have cT:=aac f30;have zg:=aac g1;have zh:=aac au;have zc:=aac c3;have c5:(decide (ec<0)||decide (0<ec))=true:=abN cD;have aq:Hid (Below w.heap.size w W8):=aA.out.trans (af.out.mono aA.out.size);clear g0 zU cD;go_wp2_with fail;go_ret;exact⟨rfl,aq.out⟩
end Go.Proofs.YtgekbfgplclmeaaDoor
