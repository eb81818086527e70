import Derived.Test.YtgekbfgplclmeaaDoorPTwo
import Derived.Test.YtgekbfgplclmeaaDoorPUnrQ
/- unroll.rounds. -/
namespace Go.Proofs.YtgekbfgplclmeaaDoor
open Go.RowKit Go.Maps
structure aeh (W0 W:World)(KX M cnt:Nat)(m:Km):Prop where
 size:W0.heap.size<=W.heap.size
 keep:∀b,b<W0.heap.size->b≠KX->W.heap[b]?=W0.heap[b]?
 env:W.os=W0.os∧W.tape=W0.tape∧W.output=W0.output
 box:W.heap[KX]?=some (.cells #[.map (some M)] 101 (0,0))
 map:ab0 W M cnt m
section
variable {W0 W W' : World} {KX M cnt : Nat} {m : Km}
theorem aeh.later(h:aeh W0 W KX M cnt m)(hb:Below W.heap.size W W'):aeh W0 W' KX M cnt m:=by
 have hz:=h.size;exact⟨Aaj hz hb.size,fun b h1 h2=>(hb.block b (by omega)).trans (h.keep b h1 h2),⟨hb.os.trans h.env.1,hb.tape.trans h.env.2.1,hb.output.trans h.env.2.2⟩,(hb.block KX (Aan.1 h.box).1).trans h.box,h.map.later hb⟩
theorem aeh.cell(h:aeh W0 W KX M cnt m){b o:Nat}{v:Value}(hc:W0.cell? ⟨b,o,none⟩=some v)(h1:b≠KX):W.cell? ⟨b,o,none⟩=some v:=by
 rw [World.cell?_of_block (w:=W0) (a:=⟨b,o,none⟩) (h.keep b (aac hc) h1)];exact hc
theorem aeh.atBox(h:aeh W0 W KX M cnt m):W.cell? ⟨KX,0,none⟩=some (.map (some M)):=by simp [World.cell?,h.box]
theorem aeh.fz(h:aeh W0 W KX M cnt m):W.frozen? ⟨KX,0,none⟩=false:=by simp [World.frozen?,h.box]
theorem aeh.sl {α:Type}{r:Rp α}(hr:r.Mono){S:Nat->Prop}{sz:Nat}{v:Value}{l:List α}(h:aeh W0 W KX M cnt m)(hS:∀b,S b->b≠KX)(hs:SlAt S W0 sz r v l):SlAt S W sz r v l :=
 hs.mono hr (fun _ h=>h) (adH fun b hb hl=>h.keep b hl (hS b hb))
theorem aeh.below {w:World}(h:aeh W0 W KX M cnt m)(hb:Below w.heap.size w W0)(h1:w.heap.size<=KX):Below w.heap.size w W:=by
 have hz:=hb.size;exact⟨h.env.1.trans hb.os,h.env.2.1.trans hb.tape,h.env.2.2.trans hb.output,Aaj hz h.size,fun k hk=>(h.keep k (by omega) (by omega)).trans (hb.block k hk)⟩
theorem aeh.turn(h:aeh W0 W KX M cnt m){N c:Nat}{m':Km}(hN:ab0 W N c m')(dp:N≠KX):aeh W0 (W.setCell ⟨KX,0,none⟩ (.map (some N))) KX N c m':=by
 refine⟨by simpa [World.setCell] using h.size,fun b h1 h2=>?_,h.env,?_,?_⟩
 . rw [Below.heap_setCell _ _ _ _ (by dsimp only;exact h2)];exact h.keep b h1 h2
 . rw [aaK h.box];rfl
 . obtain⟨D,h1,h2⟩:=hN
   exact⟨D,h1.setCell (by dsimp only;exact dp) _,h2⟩
theorem aeh.wrote(h:aeh W0 W KX M cnt m)(hg:W.grownBy W' (some M))(hM:W0.heap.size<=M)(dp:M≠KX){c:Nat}{m':Km}(hm:ab0 W' M c m'):aeh W0 W' KX M c m':=by
 have hz:=h.size;refine⟨Aaj hz hg.size,fun b h1 h2=>?_,⟨hg.os.trans h.env.1,hg.tape.trans h.env.2.1,hg.output.trans h.env.2.2⟩,?_,hm⟩
 . rw [hg.block b (by omega) (fun e=>by injection e with e;omega)];exact h.keep b h1 h2
 . rw [hg.block KX (Aan.1 h.box).1 (fun e=>by injection e with e;omega)];exact h.box
end
@[go_sem] theorem als(p q r:Bool)(w:World):(Instr.field 105 (.agg #[.bool p,.bool q,.bool r]) 2).run Tryd.prog w = .ok (.bool r) w:=by kernel_rfl
set_option maxRecDepth 100000 in
set_option maxHeartbeats 8000000 in
theorem aih {S : Nat -> Prop} (nm : ByteArray) (ba : Option Addr) (bc : Nat) (f : aal) (b before : Nat) (ex : Int) (x : aad) (w : World) (hf : agQ f) (hx : f.blocks[b]? = some x) (h2 : (aag f.blocks 0 b).length = 2) (cO : x.fin.kind = 3) (dQ : before < 2)
 (hb:SlAt S w 6 aa2 (.slice ba f.blocks.length bc) f.blocks) (hS:∀b,S b->b<w.heap.size) :
 Calls Tryd.prog 18 #[.agg #[.string nm,.int .i64 f.params,.int .i64 f.regs,.slice ba f.blocks.length bc],.agg #[.int .i64 (before:Int),.int .i64 ((1 - before:Nat):Int),.int .i64 ex],.int .i64 (b:Int)] w fun e w'=>e = .returned (.int .i64 (aa8 x (b:Int) before))∧Below w.heap.size w w':=by
 have Hf:=hid hf;have HS:=hid hS;have Hx:=hid hx;have df:b<f.blocks.length:=(Aae.1 hx).1;have bT:f.blocks.length<=40:=hf.len.2;obtain⟨back,aI⟩:∃back,back=1 - before:=⟨_,rfl⟩
 rw [<-aI];have bS:back<2:=by omega
 obtain⟨xb,c8,pa,pc,dy,lc,ta,tc,cK,cL,cW,cQ,bq,dM,cD⟩:=adr hb df;subst cK;have dx:f.blocks[b]=x:=(Aae.1 hx).2;rw [dx] at cL cW cQ bq cD;obtain⟨d0,d1,d2,d3,d4,d5⟩:=cL.get6;have zx:xb<w.heap.size:=aac d0;have aM:=hf.many x (Aah hx);have eh:x.phis.length<=300:=aM.1;have eg:x.list.length<=300:=aM.2;have c1:x.fin.to.length=2:=by
  have:=(hf.kind b x hx).2.2.1;rw [cO] at this;omega
 have b2:∀p∈x.phis,p.src.length=2:=fun p hp=>by rw [(hf.phi b x hx p hp).2.1,h2]
 have ek:f.regs<=100:=hf.pr.2.2.2;have cx:=hid cW;have cu:=hid cQ;have cy:=hid bq;have dH:=hid b2;have dD:=hid cD;have dA:=hid aI;rw [c1] at d5;obtain⟨bn,bU⟩:∃bn,bn=f.blocks.length:=⟨_,rfl⟩
 rw [<-bU] at df bT ⊢;have cS:=@run_makeMap Tryd.prog;have dG:Hid (VOk f.regs x.fin.on):=hf.on b x hx;have dC:=hid cO;have bB:=hid c1;clear hf hS hx aI hb cL cW cQ bq dM cD dx aM c1 b2 bU h2 cO;go_enter Tryd.func18,Tryd.ntmps18;go_wp2_with fail;obtain⟨Wa,bP⟩:∃Wa,Wa=(w.alloc (.cells #[.string nm,.int .i64 f.params,.int .i64 f.regs,.slice (some ⟨xb,c8,none⟩) bn bc] 40)).alloc (.cells #[.int .i64 (before:Int),.int .i64 (back:Int),.int .i64 ex] 69):=⟨_,rfl⟩
 have ha:Below w.heap.size w Wa:=by rw [bP];exact bE
 have cX:Wa.heap.size=w.heap.size+1+1:=by rw [bP];simp
 have l1:Wa.cell? ⟨w.heap.size+1,1,none⟩=some (.int .i64 (back:Int)):=by rw [bP];simp
 rw [<-bP];obtain⟨Wx,aT⟩:∃Wx,Wx=Wa.alloc (.cells #[.slice pa x.phis.length pc,.slice dy x.list.length lc,.int .i64 x.fin.kind,.bool x.fin.on.reg,.int .i64 x.fin.on.n,.slice ta 2 tc] 48):=⟨_,rfl⟩
 have c5:Below Wa.heap.size Wa Wx:=by rw [aT];exact bE
 have cZ:Wx.heap.size=w.heap.size+1+1+1:=by rw [aT];simp [cX]
 have x0:Wx.cell? ⟨Wa.heap.size,0,none⟩=some (.slice pa x.phis.length pc):=by rw [aT];simp
 have x1:Wx.cell? ⟨Wa.heap.size,1,none⟩=some (.slice dy x.list.length lc):=by rw [aT];simp
 have x3:Wx.cell? ⟨Wa.heap.size,3,none⟩=some (.bool x.fin.on.reg):=by rw [aT];simp
 have x4:Wx.cell? ⟨Wa.heap.size,4,none⟩=some (.int .i64 x.fin.on.n):=by rw [aT];simp
 have x5:Wx.cell? ⟨Wa.heap.size,5,none⟩=some (.slice ta 2 tc):=by rw [aT];simp
 rw [cX] at x0 x1 x3 x4 x5;rw [<-aT];obtain⟨Wm,bQ⟩:∃Wm,Wm=Wx.alloc (.map #[] 0):=⟨_,rfl⟩
 have cT:Below Wx.heap.size Wx Wm:=by rw [bQ];exact bE
 have cY:Wm.heap.size=w.heap.size+1+1+1+1:=by rw [bQ];simp [cZ]
 have bN:ab0 Wm (w.heap.size+1+1+1) 0 aic:=by rw [<-cZ,bQ];exact ab0.made Wx
 rw [<-bQ];obtain⟨W0,bO⟩:∃W0,W0=Wm.alloc (.cells #[.map (some (w.heap.size+1+1+1))] 101):=⟨_,rfl⟩
 have cC:Below Wm.heap.size Wm W0:=by rw [bO];exact bE
 have dT:W0.heap.size=w.heap.size+1+1+1+1+1:=by rw [bO];simp [cY]
 have bk:W0.heap[w.heap.size+1+1+1+1]?=some (.cells #[.map (some (w.heap.size+1+1+1))] 101 (0,0)):=by rw [bO,<-cY];exact heap_alloc_new _ _
 have bN:=bN.later cC;have bt:Below Wx.heap.size Wx W0:=cT.trans (cC.mono cT.size);have cI:Below Wa.heap.size Wa W0:=c5.trans (bt.mono c5.size);have L1:=hid (aab l1 cI);have X0:=hid (aab x0 bt);have X1:=hid (aab x1 bt);have X3:=hid (aab x3 bt);have X4:=hid (aab x4 bt);have X5:=hid (aab x5 bt);have bL:Hid (Below w.heap.size w W0):=ha.trans (cI.mono ha.size);rw [<-bO];obtain⟨LB,cF⟩:∃LB,LB=w.heap.size+1:=⟨_,rfl⟩
 obtain⟨XB,cH⟩:∃XB,XB=w.heap.size+1+1:=⟨_,rfl⟩
 obtain⟨M0,aR⟩:∃M0,M0=w.heap.size+1+1+1:=⟨_,rfl⟩
 obtain⟨KX,cE⟩:∃KX,KX=w.heap.size+1+1+1+1:=⟨_,rfl⟩
 rw [<-cE,<-aR] at bk;rw [<-aR] at bN;rw [<-cF] at L1;rw [<-cH] at X0 X1 X3 X4 X5;rw [<-cE,<-aR,<-cH,<-cF];have dN:LB≠KX:=by omega
 have bC:XB≠KX:=by omega
 have dw:w.heap.size<=KX:=by omega
 have ef:KX<W0.heap.size:=by omega
 have b6:aeh W0 W0 KX M0 0 aic:=⟨Aad _,fun _ _ _=>rfl,⟨rfl,rfl,rfl⟩,bk,bN⟩
 have bJ:=hid b6;have ct:Hid (∀b,S b->b≠KX):=fun b hb=>by have:=HS.out b hb;omega
 have cx:=hid (cx.out.later abC bL.out);have cu:=hid (cu.out.later acf bL.out);have cy:=hid (cy.out.later aaf bL.out);clear cS ha cX l1 bP c5 cZ x0 x1 x3 x4 x5 aT cT cY bN bQ cC dT bk bt cI bO cF cH aR cE b6 d0 d1 d2 d3 d4 d5 zx;go_loopw [10,11] (fun s10 s11 wr=>∃(j k M cnt:Nat) (m:Km),j<=8∧k<2∧s10 = .int .i64 (k:Int)∧s11 = .int .i64 ((j:Int)+1)∧cnt<=600∧aeh W0 wr KX M cnt m∧ahJ x (b:Int) back (8 - j) (j+1) k m=aa8 x (b:Int) before) (fun _ s11 _=>9 - (intOf s11).toNat)
 case atStart=>exact⟨0,before,M0,0,aic,by omega,dQ,rfl,rfl,by omega,bJ.out,by unfold aa8;rw [dA.out]⟩
 case round =>
  clear bJ;obtain⟨j,k,M,cnt,m,hj,hk,rfl,rfl,dR,b3,bF⟩:=hrel;have dK:=hid b3;have db:=hid bF;have dB:Hid (Below w.heap.size w wr):=b3.below bL.out dw;have x0:=b3.cell X0.out bC;have zX:XB<wr.heap.size:=aac x0;have dU:W0.heap.size<=wr.heap.size:=b3.size;clear b3 bF
  by_cases hj8:j<8
  . have q8:decide ((j:Int)+1<=8)=true:=decide_eq_true (by omega)
    have cS:=@run_makeMap Tryd.prog;go_wp2_with fail;clear cS x0;obtain⟨Wn,ck⟩:∃Wn,Wn=wr.alloc (.map #[] 0):=⟨_,rfl⟩
    have bU:Below wr.heap.size wr Wn:=by rw [ck];exact bE
    have cG:ab0 Wn wr.heap.size 0 aic:=by rw [ck];exact ab0.made wr
    rw [<-ck];obtain⟨N,hN⟩:∃N,N=wr.heap.size:=⟨_,rfl⟩
    rw [<-hN] at cG ⊢;have dc:N≠KX:=by omega
    have dO:W0.heap.size<=N:=by omega
    have HN:=hid hN;have c9:=hid cG;have da:=hid bU;obtain⟨Wr,dP⟩:∃Wr:World,Wr=wr:=⟨_,rfl⟩
    subst dP;clear ck bU cG hN;go_loopw [45] (fun s45 wp=>∃(p c:Nat),p<=x.phis.length∧c<=p∧s45 = .int .i64 (p:Int)∧Below Wr.heap.size Wr wp∧ab0 wp N c (agP k m (x.phis.take p))) (fun s45 _=>x.phis.length - (intOf s45).toNat)
    case atStart=>exact⟨0,0,Aaf _,Aaf _,rfl,da.out,c9.out⟩
    case round =>
     clear c9 da;obtain⟨p,c,hp,hc,rfl,bV,bY⟩:=hrel;have bz:=hid bV;have cv:=hid bY;have aj:=dK.out.later bV;have bK:=hid aj
     by_cases hpl2:p<x.phis.length
     . obtain⟨pb,dX,fa,fc,cV,e0,e1,aB,di,-⟩:=amm (aj.sl abC ct.out cx.out) hpl2
       subst cV;have zp:pb<wr.heap.size:=aac e0;obtain⟨y,hy⟩:∃y,y=x.phis[p]:=⟨_,rfl⟩
       rw [<-hy] at e0 e1 aB;have be:y∈x.phis:=by rw [hy];exact Aai _
       have bu:=dH.out y be;rw [bu] at e1 aB;have b8:=Hf.out.phi b x Hx.out y be;obtain⟨q,hq⟩:=Aao b8.1.1;have ej:q<100:=by have:=b8.1.2;omega
       rw [hq] at e0;obtain⟨vb,dZ,dV,v0,v1⟩:=amx aB (k:=k) (by rw [bu];exact hk);subst dV;have zv:vb<wr.heap.size:=aac v0;obtain⟨v,hv⟩:∃v,v=y.src[k]'(by rw [bu];exact hk):=⟨_,rfl⟩
       rw [<-hv] at v0 v1;have c2:v∈y.src:=by rw [hv];exact Aai _
       have c3:=b8.2.2 v c2;have cn:I64 v.n:=by
        obtain⟨b9,o9,ee,-,-,⟨-,h9⟩,-,-⟩:=aB.get (k:=k) (by rw [bu];exact hk);rw [hv];exact h9
       have cm:y.src.getD k ⟨false,0⟩=v:=by rw [Aab,Aaa (by rw [bu];exact hk),hv];rfl
       obtain⟨r,hr⟩:∃r,r=v.reg:=⟨_,rfl⟩
       obtain⟨n,hn⟩:∃n,n=v.n:=⟨_,rfl⟩
       have aZ:v=⟨r,n⟩:=by rw [hr,hn]
       rw [<-hr] at v0;rw [<-hn] at v1 cn;have c4:r=true->0<=n∧n<1048576:=fun h=>by
        have:=c3 (by rw [<-hr];exact h);rw [<-hn] at this;omega
       have a1:Hid (agP k m (x.phis.take (p+1))=abb k m (agP k m (x.phis.take p)) y):=by show _=_;rw [aje hpl2,hy]
       have i0:(0:Int)<=(k:Int):=by omega
       have i1:(k:Int)<2:=by omega
       have aJ:∀w',Below wr.heap.size wr w'->Calls Tryd.prog 35 #[.agg #[.bool r,.int .i64 n],.pointer (some ⟨KX,0,none⟩)] w' fun e ai=>∃c:Int,e = .returned (.tuple #[.int .i64 c,.bool (aaI m ⟨r,n⟩).isSome])∧(∀x,aaI m ⟨r,n⟩=some x->c=bi x)∧Below wr.heap.size wr ai∧Below w'.heap.size w' ai:=fun w' h =>
        (aep KX M cnt m r n w' (aab aj.atBox h) (aj.map.later h) cn c4).mono fun e ai ⟨c,h1,h2,_,h4⟩=>⟨c,h1,h2,h.trans (h4.mono h.size),h4⟩
       have av:=hid aJ;have Hq:=hid hq;cases ho:aaI m ⟨r,n⟩ with
       | some z =>
         have Hs:Hid (abb k m (agP k m (x.phis.take p)) y=ahb (agP k m (x.phis.take p)) q z):=by
          show _=_;rw [aji (x:=z) (by rw [cm,aZ];exact ho),hq,Aag]
         have cP:=ag3 q (by omega);rw [ho] at av;clear aj aB hy be bu b8 di hq hv c2 c3 cn cm hr hn aZ c4 aJ ho bV bY
         go_wp2_with (first
          | (go_at_call 35; (with_reducible refine (av.out _ ?_).mono ?_); exact bE; rintro e w2 ⟨cc, rfl, ak, ad, ao⟩; have cM := ak z rfl; subst cM; have af := hid ad; have p0 : w2.cell? ⟨wr.heap.size, 0, none⟩ = some (.int .i64 (q : Int)) := (ao.cell (p := ⟨wr.heap.size, 0, none⟩) (by simp)).trans (by simp); have zw : wr.heap.size < w2.heap.size := aac p0; clear ak ad ao)
          | (at_mapUpdate; obtain ⟨D, hD, bM⟩ := (cv.out.later af.out); have cr := hid bM; clear bM; refine wpList_mapUpdate_own _ rfl _ _ _ 101 rfl 3 3 amD Tryd.underlying101 _ N c _ rfl hD (by unfold maxLen; omega) _ _ _ rfl rfl cP _ [] (plainElem_int Tryd.underlying3 (al6 _)) ?_; intro w3 a8 aK))
         have dm:ab0 w3 N (c+1) (agP k m (x.phis.take (p+1))):=by rw [a1.out,Hs.out];exact ab0.put a8 hD cr.out
         have ao:Below Wr.heap.size Wr w3:=(bz.out.trans (af.out.mono bz.out.size)).grown aK (Aaj bz.out.size af.out.size) (fun g e=>by cases e;rw [<-HN.out];exact Aad _);have dF:=hid dm;have aD:=hid ao;clear a8 aK dm ao hD;go_wp2_with fail;go_roundw
         case rel=>exact⟨p+1,c+1,by omega,by omega,by go_num,aD.out,dF.out⟩
         case measure=>simp [intOf];omega
       | none =>
         have Hs:Hid (abb k m (agP k m (x.phis.take p)) y=agP k m (x.phis.take p)):=by
          show _=_;rw [ajh (by rw [cm,aZ];exact ho)]
         rw [ho] at av;clear aj aB hy be bu b8 di hq hv c2 c3 cn cm hr hn aZ c4 aJ ho bV bY
         go_wp2_with (first
          | (go_at_call 35; (with_reducible refine (av.out _ ?_).mono ?_); exact bE; rintro e w2 ⟨cc, rfl, ak, ad, ao⟩; have af := hid ad; clear ak ad ao))
         go_roundw
         case rel=>exact⟨p+1,c,by omega,by omega,by go_num,bz.out.trans (af.out.mono bz.out.size),by rw [a1.out,Hs.out];exact cv.out.later af.out⟩
         case measure=>simp [intOf];omega
     . have dr:p=x.phis.length:=by omega
       have bG:Hid (ab0 wr N c (agP k m x.phis)):=by
        have h:=bY;rw [dr,Aa0] at h;exact h
       have l1:=aj.cell L1.out dN;have x1:=aj.cell X1.out bC;have kb:=aj.atBox;have kf:=aj.fz;have zL:LB<wr.heap.size:=aac l1;have ea:XB<wr.heap.size:=aac x1;have zK:KX<wr.heap.size:=aac kb;clear dr bY bV aj;go_wp2_with fail;go_region;obtain⟨V,hV⟩:∃V,V=(wr.setCell ⟨KX,0,none⟩ (.map (some N))).drew:=⟨_,rfl⟩
       rw [<-hV];have bm:aeh W0 V KX N c (agP k m x.phis):=by rw [hV];exact (bK.out.turn bG.out dc).later (Below.refl _ _).drew
       have bj:=hid bm;have x1:=bm.cell X1.out bC;have eb:XB<V.heap.size:=aac x1;obtain⟨m1,cR⟩:∃m1,m1=agP k m x.phis:=⟨_,rfl⟩
       have dE:=hid cR;rw [<-cR] at bj;have bX:c<=300:=by omega
       clear hV bm l1 kb kf cR bK bG cv bz;go_wp2_with fail;clear x1 ea eb zL zK zX;go_loopw [71] (fun s71 wq=>∃(i c:Nat),i<=x.list.length∧c<=300+i∧s71 = .int .i64 (i:Int)∧aeh W0 wq KX N c (ad7 m1 (x.list.take i))) (fun s71 _=>x.list.length - (intOf s71).toNat)
       case atStart=>exact⟨0,c,Aaf _,by omega,rfl,bj.out⟩
       case round =>
        clear bj hp hc bX;obtain⟨i,c,hi,hc,rfl,aE⟩:=hrel;have ed:=hid aE
        by_cases hil:i<x.list.length
        . obtain⟨ib,dW,fa,fc,cN,aV,-,hI⟩:=amf (aE.sl acf ct.out cu.out) hil
          subst cN;obtain⟨y,hy⟩:∃y,y=x.list[i]:=⟨_,rfl⟩
          rw [<-hy] at aV hI;obtain⟨e0,e1,e2,e3,e4,e5,e6,e7⟩:=aV.get8;have zi:ib<wr.heap.size:=aac e0;have be:y∈x.list:=by rw [hy];exact Aai _
          have bf:=Hf.out.ins b x Hx.out y be;have a1:Hid (ad7 m1 (x.list.take (i+1))=aaN (ad7 m1 (x.list.take i)) y):=by show _=_;rw [agw hil,hy]
          obtain⟨op,hop⟩:∃op,op=y.op:=⟨_,rfl⟩
          obtain⟨dst,aW⟩:∃dst,dst=y.dst:=⟨_,rfl⟩
          obtain⟨ar,bR⟩:∃ar,ar=y.a.reg:=⟨_,rfl⟩
          obtain⟨an,bD⟩:∃an,an=y.a.n:=⟨_,rfl⟩
          obtain⟨br,bW⟩:∃br,br=y.b.reg:=⟨_,rfl⟩
          obtain⟨aw,aA⟩:∃aw,aw=y.b.n:=⟨_,rfl⟩
          obtain⟨cB,bl⟩:∃cB,cB=y.fn:=⟨_,rfl⟩
          obtain⟨al,cJ⟩:∃al,al=y.args.length:=⟨_,rfl⟩
          rw [<-hop] at e0;rw [<-aW] at e1;rw [<-bR] at e2;rw [<-bD] at e3;rw [<-bW] at e4;rw [<-aA] at e5;rw [<-bl] at e6;rw [<-cJ] at e7;have c6:y.a=⟨ar,an⟩:=by rw [bR,bD]
          have c7:y.b=⟨br,aw⟩:=by rw [bW,aA]
          obtain⟨Wb,aS⟩:∃Wb,Wb=wr.alloc (.cells #[.int .i64 op,.int .i64 dst,.bool ar,.int .i64 an,.bool br,.int .i64 aw,.int .i64 cB,.slice fa al fc] 63):=⟨_,rfl⟩
          have cl:Below wr.heap.size wr Wb:=by rw [aS];exact bE
          have au:=aE.later cl;have ec:=hid cl;have az:=hid au
          by_cases h17:17<y.op
          . have Hs:Hid (aaN (ad7 m1 (x.list.take i)) y=ad7 m1 (x.list.take i)):=aiZ h17
            rw [<-hop] at h17;have bw:=hid aS;clear aE aV hI bf be hy hop aW bR bD bW aA bl cJ c6 c7 aS cl au;go_wp2_with fail;rw [<-bw.out];go_roundw
            case rel=>exact⟨i+1,c,by omega,by omega,by go_num,by rw [a1.out,Hs.out];exact az.out⟩
            case measure=>simp [intOf];omega
          . have cU:=bf.op.1
            have dh:=bf.low (by omega);obtain⟨q,hq⟩:=Aao dh;have ei:q<100:=by have:=bf.dst.2;omega
            have dS:dst=(q:Int):=aW.trans hq;subst dS;have b0:Wb.cell? ⟨wr.heap.size,0,none⟩=some (.int .i64 op):=by rw [aS];simp
            have b1:Wb.cell? ⟨wr.heap.size,1,none⟩=some (.int .i64 (q:Int)):=by rw [aS];simp
            have b4:Wb.cell? ⟨wr.heap.size,4,none⟩=some (.bool br):=by rw [aS];simp
            have b5:Wb.cell? ⟨wr.heap.size,5,none⟩=some (.int .i64 aw):=by rw [aS];simp
            have aP:wr.heap.size<Wb.heap.size:=aac b0;have dt:ar=true->0<=an∧an<1048576:=fun h=>by
             have:=bf.a (by rw [<-bR];exact h);rw [<-bD] at this;omega
            have du:br=true->0<=aw∧aw<1048576:=fun h=>by
             have:=bf.b (by rw [<-bW];exact h);rw [<-aA] at this;omega
            have dd:I64 an:=by rw [bD];exact hI.2.2.1
            have de:I64 aw:=by rw [aA];exact hI.2.2.2.1
            have bA:Hid (∀w',Below Wb.heap.size Wb w'->Calls Tryd.prog 35 #[.agg #[.bool ar,.int .i64 an],.pointer (some ⟨KX,0,none⟩)] w' fun e ai=>∃cc:Int,e = .returned (.tuple #[.int .i64 cc,.bool (aaI (ad7 m1 (x.list.take i)) ⟨ar,an⟩).isSome])∧(∀z,aaI (ad7 m1 (x.list.take i)) ⟨ar,an⟩=some z->cc=bi z)∧Below Wb.heap.size Wb ai∧Below w'.heap.size w' ai):=fun w' h =>
             (aep KX N c _ ar an w' (aab au.atBox h) (au.map.later h) dd dt).mono fun e ai ⟨cc,h1,h2,_,h4⟩=>⟨cc,h1,h2,h.trans (h4.mono h.size),h4⟩
            have bg:Hid (∀w',Below Wb.heap.size Wb w'->Calls Tryd.prog 35 #[.agg #[.bool br,.int .i64 aw],.pointer (some ⟨KX,0,none⟩)] w' fun e ai=>∃cc:Int,e = .returned (.tuple #[.int .i64 cc,.bool (aaI (ad7 m1 (x.list.take i)) ⟨br,aw⟩).isSome])∧(∀z,aaI (ad7 m1 (x.list.take i)) ⟨br,aw⟩=some z->cc=bi z)∧Below Wb.heap.size Wb ai∧Below w'.heap.size w' ai):=fun w' h =>
             (aep KX N c _ br aw w' (aab au.atBox h) (au.map.later h) de du).mono fun e ai ⟨cc,h1,h2,_,h4⟩=>⟨cc,h1,h2,h.trans (h4.mono h.size),h4⟩
            have kb:Wb.cell? ⟨KX,0,none⟩=some (.map (some N)):=au.atBox;have aH:KX<Wb.heap.size:=aac kb;have cf:=hid h17;have a7:op<=17:=by omega
            have a6:1<=op:=by omega
            have cw:=hid hop;have Hq:=hid hq;have dL:=hid bf;have cA:=hid c6;have cj:=hid c7;have bw:=hid aS;have dI:=hid (ag3 q (by omega));clear aE aV hI bf be hy hop aW bR bD bW aA bl cJ aS cl au dt du dd de h17 cU dh hq c6 c7;cases hoa:aaI (ad7 m1 (x.list.take i)) ⟨ar,an⟩ with
            | none =>
              have Hs:Hid (aaN (ad7 m1 (x.list.take i)) y=ad7 m1 (x.list.take i)):=by show _=_;exact alb cf.out (by rw [cA.out];exact hoa)
              rw [hoa] at bA;obtain⟨ob,ax⟩:∃ob,ob=aaI (ad7 m1 (x.list.take i)) ⟨br,aw⟩:=⟨_,rfl⟩
              rw [<-ax] at bg;clear hoa ax
              go_wp2_with (first
               | (go_at_call 35; rw [<- bw.out]; (with_reducible refine (bA.out _ ?_).mono ?_); exact Below.refl _ _; rintro e w2 ⟨ca, rfl, ag, ad, -⟩;  have b0 := aab b0 ad; have b1 := aab b1 ad; have kb := aab kb ad; have aP := aac b0; have aH := aac kb; have b4 := aab b4 ad; have b5 := aab b5 ad; have af := hid ad; clear ad ag)
               | (go_at_call 35; (with_reducible refine (bg.out _ ?_).mono ?_); exact af.out; rintro e w3 ⟨cb, rfl, aU, ao, ae⟩;  have b0 := aab b0 ae; have b1 := aab b1 ae; have kb := aab kb ae; have aP := aac b0; have aH := aac kb; have aD := hid ao; clear ao ae aU))
              go_roundw
              case rel=>exact⟨i+1,c,by omega,by omega,by go_num,by rw [a1.out,Hs.out];exact az.out.later aD.out⟩
              case measure=>simp [intOf];omega
            | some za =>
              rw [hoa] at bA;cases ax:aaI (ad7 m1 (x.list.take i)) ⟨br,aw⟩ with
              | none =>
                have Hs:Hid (aaN (ad7 m1 (x.list.take i)) y=ad7 m1 (x.list.take i)):=by show _=_;exact alc cf.out (by rw [cj.out];exact ax)
                have dg:br=true:=by
                 cases hbr2:br with
                 | true=>rfl
                 | false=>rw [hbr2] at ax;unfold aaI at ax;simp at ax
                have cg:Hid (shpB op=true):=by
                 show _=_;cases hs:shpB op with
                 | true=>rfl
                 | false =>
                   have h1:=dL.out.offB (by rw [<-cw.out];exact hs);rw [cj.out] at h1;injection h1 with h1;rw [dg] at h1;cases h1
                have ch:Hid (∀w',Calls Tryd.prog 36 #[.int .i64 op] w' fun e ai=>∃sp sq,e = .returned (.agg #[.bool sp,.bool sq,.bool true])∧Below w'.heap.size w' ai):=fun w'=>(ac1 op w').mono fun e ai ⟨h1,h2⟩=>⟨shpD op,shpA op,by rw [h1,cg.out],h2⟩
                rw [ax] at bg;clear hoa ax dg
                go_wp2_with (first
                 | (go_at_call 35; rw [<- bw.out]; (with_reducible refine (bA.out _ ?_).mono ?_); exact Below.refl _ _; rintro e w2 ⟨ca, rfl, ag, ad, -⟩; have ak := ag _ rfl; subst ak; have b0 := aab b0 ad; have b1 := aab b1 ad; have kb := aab kb ad; have aP := aac b0; have aH := aac kb; have b4 := aab b4 ad; have b5 := aab b5 ad; have af := hid ad; clear ad ag)
                 | (go_at_call 35; (with_reducible refine (bg.out _ ?_).mono ?_); exact af.out; rintro e w3 ⟨cb, rfl, aU, ao, ae⟩;  have b0 := aab b0 ae; have b1 := aab b1 ae; have kb := aab kb ae; have aP := aac b0; have aH := aac kb; have aD := hid ao; clear ao ae aU)
                 | (go_at_call 36; ((with_reducible refine (ch.out _).mono ?_); rintro e w4 ⟨sp, sq, rfl, aq⟩; have b0 := aab b0 aq; have b1 := aab b1 aq; have kb := aab kb aq; have aP := aac b0; have aH := aac kb; have bx := hid (aD.out.trans (aq.mono aD.out.size)); clear aq)))
                go_roundw
                case rel=>exact⟨i+1,c,by omega,by omega,by go_num,by rw [a1.out,Hs.out];exact az.out.later bx.out⟩
                case measure=>simp [intOf];omega
              | some zb =>
                rw [ax] at bg;obtain⟨sb,ds⟩:∃sb,shpB op=sb:=⟨_,rfl⟩
                have cg:=hid ds;have ch:Hid (∀w',Calls Tryd.prog 36 #[.int .i64 op] w' fun e ai=>∃sp sq,e = .returned (.agg #[.bool sp,.bool sq,.bool sb])∧Below w'.heap.size w' ai):=fun w'=>(ac1 op w').mono fun e ai ⟨h1,h2⟩=>⟨shpD op,shpA op,by rw [h1,cg.out],h2⟩
                clear ds cg;cases ht:aaV op za zb with
                | none =>
                  have Hs:Hid (aaN (ad7 m1 (x.list.take i)) y=ad7 m1 (x.list.take i)):=by show _=_;exact ala cf.out (by rw [cA.out];exact hoa) (by rw [cj.out];exact ax) (by rw [<-cw.out];exact ht)
                  have cz:Hid (∀w',Calls Tryd.prog 37 #[.int .i64 op,.int .i64 (bi za),.int .i64 (bi zb)] w' fun e ai=>e = .returned (.tuple #[.int .i64 0,.bool false])∧w'=ai):=fun w'=>by have h:=aeW op za zb w' a6 a7;rw [ht] at h;exact h
                  clear hoa ax ht;cases sb
                  all_goals
                   go_wp2_with (first
                    | (go_at_call 35; rw [<- bw.out]; (with_reducible refine (bA.out _ ?_).mono ?_); exact Below.refl _ _; rintro e w2 ⟨ca, rfl, ag, ad, -⟩; have ak := ag _ rfl; subst ak; have b0 := aab b0 ad; have b1 := aab b1 ad; have kb := aab kb ad; have aP := aac b0; have aH := aac kb; have b4 := aab b4 ad; have b5 := aab b5 ad; have af := hid ad; clear ad ag)
                    | (go_at_call 35; (with_reducible refine (bg.out _ ?_).mono ?_); exact af.out; rintro e w3 ⟨cb, rfl, aU, ao, ae⟩; have ak := aU _ rfl; subst ak; have b0 := aab b0 ae; have b1 := aab b1 ae; have kb := aab kb ae; have aP := aac b0; have aH := aac kb; have aD := hid ao; clear ao ae aU)
                    | (go_at_call 36; ((with_reducible refine (ch.out _).mono ?_); rintro e w4 ⟨sp, sq, rfl, aq⟩; have b0 := aab b0 aq; have b1 := aab b1 aq; have kb := aab kb aq; have aP := aac b0; have aH := aac kb; have bx := hid (aD.out.trans (aq.mono aD.out.size)); clear aq))
                    | (go_at_call 37; (with_reducible refine (cz.out _).mono ?_); rintro e w' ⟨rfl, rfl⟩))
                   go_roundw
                   case rel=>exact⟨i+1,c,by omega,by omega,by go_num,by rw [a1.out,Hs.out];exact az.out.later bx.out⟩
                   case measure=>simp [intOf];omega
                | some zz =>
                  have Hs:Hid (aaN (ad7 m1 (x.list.take i)) y=ahb (ad7 m1 (x.list.take i)) q zz):=by
                   show _=_;rw [ald cf.out (by rw [cA.out];exact hoa) (by rw [cj.out];exact ax) (z:=zz) (by rw [<-cw.out];exact ht),Hq.out,Aag]
                  have cz:Hid (∀w',Calls Tryd.prog 37 #[.int .i64 op,.int .i64 (bi za),.int .i64 (bi zb)] w' fun e ai=>e = .returned (.tuple #[.int .i64 (bi zz),.bool true])∧w'=ai):=fun w'=>by have h:=aeW op za zb w' a6 a7;rw [ht] at h;exact h
                  clear hoa ax ht;cases sb
                  all_goals
                   go_wp2_with (first
                    | (go_at_call 35; rw [<- bw.out]; (with_reducible refine (bA.out _ ?_).mono ?_); exact Below.refl _ _; rintro e w2 ⟨ca, rfl, ag, ad, -⟩; have ak := ag _ rfl; subst ak; have b0 := aab b0 ad; have b1 := aab b1 ad; have kb := aab kb ad; have aP := aac b0; have aH := aac kb; have b4 := aab b4 ad; have b5 := aab b5 ad; have af := hid ad; clear ad ag)
                    | (go_at_call 35; (with_reducible refine (bg.out _ ?_).mono ?_); exact af.out; rintro e w3 ⟨cb, rfl, aU, ao, ae⟩; have ak := aU _ rfl; subst ak; have b0 := aab b0 ae; have b1 := aab b1 ae; have kb := aab kb ae; have aP := aac b0; have aH := aac kb; have aD := hid ao; clear ao ae aU)
                    | (go_at_call 36; ((with_reducible refine (ch.out _).mono ?_); rintro e w4 ⟨sp, sq, rfl, aq⟩; have b0 := aab b0 aq; have b1 := aab b1 aq; have kb := aab kb aq; have aP := aac b0; have aH := aac kb; have bx := hid (aD.out.trans (aq.mono aD.out.size)); clear aq))
                    | (go_at_call 37; (with_reducible refine (cz.out _).mono ?_); rintro e w' ⟨rfl, rfl⟩)
                    | (at_mapUpdate; obtain ⟨D, hD, bM⟩ := (az.out.later bx.out).map; have cr := hid bM; clear bM; refine wpList_mapUpdate_own _ rfl _ _ _ 101 rfl 3 3 amD Tryd.underlying101 _ N c _ rfl hD (by unfold maxLen; omega) _ _ _ rfl rfl dI.out _ [] (plainElem_int Tryd.underlying3 (al6 _)) ?_; intro w5 bd aL))
                   have dn:ab0 w5 N (c+1) (ad7 m1 (x.list.take (i+1))):=by rw [a1.out,Hs.out];exact ab0.put bd hD cr.out
                   have dJ:=hid ((az.out.later bx.out).wrote aL dO dc dn);clear bd aL dn hD;go_wp2_with fail;go_roundw
                   case rel=>exact⟨i+1,c+1,by omega,by omega,by go_num,dJ.out⟩
                   case measure=>simp [intOf];omega
        . have dj:i=x.list.length:=by omega
          have bI:Hid (aeh W0 wr KX N c (abA x k m)):=by
           have h:=aE;rw [dj,Aa0,dE.out] at h;exact h
          have bq:=aE.sl aaf ct.out cy.out;obtain⟨tb,dY,c0,t0⟩:=afJ bq (t:=0) (by have:=bB.out;omega);obtain⟨el,dz,b7,t1⟩:=afJ bq (t:=1) (by have:=bB.out;omega);subst c0;cases b7;obtain⟨aF,bo⟩:∃aF,aF=x.fin.to[0]'(by have:=bB.out;omega):=⟨_,rfl⟩
          obtain⟨aG,bp⟩:∃aG,aG=x.fin.to[1]'(by have:=bB.out;omega):=⟨_,rfl⟩
          have g0:x.fin.to.getD 0 0=aF:=by rw [Aab,Aaa (by have:=bB.out;omega),bo];rfl
          have g1:x.fin.to.getD 1 0=aG:=by rw [Aab,Aaa (by have:=bB.out;omega),bp];rfl
          rw [<-bo,Aas] at t0;rw [<-bp] at t1;have x3:=aE.cell X3.out bC;have x4:=aE.cell X4.out bC;have x5:=aE.cell X5.out bC;have kb:=aE.atBox;have aH:KX<wr.heap.size:=aac kb;have cp:XB<wr.heap.size:=aac x3;have cq:tb<wr.heap.size:=aac t0;obtain⟨aQ,aX⟩:∃aQ,aQ=x.fin.on.reg:=⟨_,rfl⟩
          obtain⟨aC,aN⟩:∃aC,aC=x.fin.on.n:=⟨_,rfl⟩
          have bZ:x.fin.on=⟨aQ,aC⟩:=by rw [aX,aN]
          rw [<-aX] at x3;rw [<-aN] at x4;have dv:aQ=true->0<=aC∧aC<1048576:=fun h=>by
           have h1:=dG.out (by rw [<-aX];exact h);have h2:=Hf.out.pr.2.2.2;rw [<-aN] at h1;omega
          have dq:I64 aC:=by rw [aN];exact dD.out
          have bh:Hid (Calls Tryd.prog 35 #[.agg #[.bool aQ,.int .i64 aC],.pointer (some ⟨KX,0,none⟩)] wr fun e ai=>∃cc:Int,e = .returned (.tuple #[.int .i64 cc,.bool (aaI (abA x k m) ⟨aQ,aC⟩).isSome])∧(∀z,aaI (abA x k m) ⟨aQ,aC⟩=some z->cc=bi z)∧Below wr.heap.size wr ai) :=
           (aep KX N c _ aQ aC wr bI.out.atBox bI.out.map dq dv).mono fun e ai ⟨cc,h1,h2,_,h4⟩=>⟨cc,h1,h2,h4⟩
          have ay:Hid (Below w.heap.size w wr):=bI.out.below bL.out dw;have bF:ahJ x (b:Int) back (8 - j) (j+1) k m=match aaI (abA x k m) ⟨aQ,aC⟩ with | none=>0 | some on=>if (if bi on=0 then aG else aF)≠(b:Int) then ((j+1:Nat):Int) else ahJ x (b:Int) back (8 - (j+1)) (j+1+1) back (abA x k m):=by
           rw [show 8 - j=(8 - (j+1))+1 by omega,ahJ,bZ];cases aaI (abA x k m) ⟨aQ,aC⟩ with
           | none=>rfl
           | some on=>dsimp only;rw [ajT,g0,g1]
          rw [db.out] at bF;have bH:=hid bF;clear aE dj bq g0 g1 bo bp aX aN bZ dv dq bF;cases hon:aaI (abA x k m) ⟨aQ,aC⟩ with
          | none =>
            have Hr:Hid (aa8 x (b:Int) before=0):=by show _=_;rw [bH.out,hon]
            rw [hon] at bh;clear hon;go_wp2_with (go_at_call 35;(with_reducible refine bh.out.mono ?_);rintro e w2 ⟨ca,rfl,ag,ad⟩;have af:=hid ad;clear ad ag);go_ret;exact⟨aaq Hr.out.symm,ay.out.trans (af.out.mono ay.out.size)⟩
          | some on =>
            have hr:aa8 x (b:Int) before=if (if bi on=0 then aG else aF)≠(b:Int) then ((j+1:Nat):Int) else ahJ x (b:Int) back (8 - (j+1)) (j+1+1) back (abA x k m):=by rw [bH.out,hon]
            rw [hon] at bh;clear hon;obtain⟨tt,aY⟩:∃tt,tt=if bi on=0 then aG else aF:=⟨_,rfl⟩
            rw [<-aY] at hr
            by_cases htb:tt=(b:Int)
            . have Hr:Hid (ahJ x (b:Int) back (8 - (j+1)) (j+1+1) back (abA x k m)=aa8 x (b:Int) before):=by show _=_;rw [hr,if_neg (by simpa using htb)]
              by_cases hz:bi on=0
              . have aO:aG=tt:=by rw [aY,if_pos hz]
                have q1:(decide (bi on<=0)&&decide (0<=bi on))=true:=aey hz;have q2:(decide (aG<(b:Int))||decide ((b:Int)<aG))=false:=aib (aO.trans htb);clear hr aY htb hz aO;go_wp2_with (go_at_call 35;(with_reducible refine bh.out.mono ?_);rintro e w2 ⟨ca,rfl,ag,ad⟩;have ak:=ag _ rfl;subst ak;have x3:=aab x3 ad;have x5:=aab x5 ad;have t0:=aab t0 ad;have t1:=aab t1 ad;have cp:=aac x3;have cq:=aac t0;have af:=hid ad;clear ad ag);go_roundw
                case rel=>exact⟨j+1,back,N,c,abA x k m,by omega,bS,rfl,by go_num,by omega,bI.out.later af.out,Hr.out⟩
                case measure=>simp [intOf];omega
              . have aO:aF=tt:=by rw [aY,if_neg hz]
                have q1:(decide (bi on<=0)&&decide (0<=bi on))=false:=afE hz;have q2:(decide (aF<(b:Int))||decide ((b:Int)<aF))=false:=aib (aO.trans htb);clear hr aY htb hz aO;go_wp2_with (go_at_call 35;(with_reducible refine bh.out.mono ?_);rintro e w2 ⟨ca,rfl,ag,ad⟩;have ak:=ag _ rfl;subst ak;have x3:=aab x3 ad;have x5:=aab x5 ad;have t0:=aab t0 ad;have t1:=aab t1 ad;have cp:=aac x3;have cq:=aac t0;have af:=hid ad;clear ad ag);go_roundw
                case rel=>exact⟨j+1,back,N,c,abA x k m,by omega,bS,rfl,by go_num,by omega,bI.out.later af.out,Hr.out⟩
                case measure=>simp [intOf];omega
            . have Hr:Hid (aa8 x (b:Int) before=(j:Int)+1):=by show _=_;rw [hr,if_pos htb];omega
              by_cases hz:bi on=0
              . have aO:aG=tt:=by rw [aY,if_pos hz]
                have q1:(decide (bi on<=0)&&decide (0<=bi on))=true:=aey hz;have q2:(decide (aG<(b:Int))||decide ((b:Int)<aG))=true:=abN (fun e=>htb (aO.symm.trans e));clear hr aY htb hz aO;go_wp2_with (go_at_call 35;(with_reducible refine bh.out.mono ?_);rintro e w2 ⟨ca,rfl,ag,ad⟩;have ak:=ag _ rfl;subst ak;have x3:=aab x3 ad;have x5:=aab x5 ad;have t0:=aab t0 ad;have t1:=aab t1 ad;have cp:=aac x3;have cq:=aac t0;have af:=hid ad;clear ad ag);go_ret;exact⟨aaq Hr.out.symm,ay.out.trans (af.out.mono ay.out.size)⟩
              . have aO:aF=tt:=by rw [aY,if_neg hz]
                have q1:(decide (bi on<=0)&&decide (0<=bi on))=false:=afE hz;have q2:(decide (aF<(b:Int))||decide ((b:Int)<aF))=true:=abN (fun e=>htb (aO.symm.trans e));clear hr aY htb hz aO;go_wp2_with (go_at_call 35;(with_reducible refine bh.out.mono ?_);rintro e w2 ⟨ca,rfl,ag,ad⟩;have ak:=ag _ rfl;subst ak;have x3:=aab x3 ad;have x5:=aab x5 ad;have t0:=aab t0 ad;have t1:=aab t1 ad;have cp:=aac x3;have cq:=aac t0;have af:=hid ad;clear ad ag);go_ret;exact⟨aaq Hr.out.symm,ay.out.trans (af.out.mono ay.out.size)⟩
  . have dk:j=8:=by omega
    have Hr:Hid (aa8 x (b:Int) before=0):=by
     show _=_;rw [<-db.out,dk];rfl
    have q8:decide ((j:Int)+1<=8)=false:=decide_eq_false (by omega);clear dk hj8;go_wp2_with fail;go_ret;exact⟨aaq Hr.out.symm,dB.out⟩
end Go.Proofs.YtgekbfgplclmeaaDoor
