import Derived.Test.YtpeejlpcikefcaaGreatDoorPSsa0
/- tidy.rename: the walk. tidy.ChainsOf: the walk. tidy's namer: plain, and in memory. tidy.NamesOf, plain. tidy, plain: what is asked of a function's blocks stays where some of them are kept. -/
set_option maxHeartbeats 8000000
set_option maxRecDepth 100000
namespace Go.Proofs.YtpeejlpcikefcaaGreatDoor
section
open Go.RowKit
theorem acH : ∀ (l l' : List DBlock) (s t : Nat), l.map (·.fin.to) = l'.map (·.fin.to) -> aaf l s t = aaf l' s t
 | [],[],_,_,_=>rfl
 | [],_ :: _,_,_,h=>by simp at h
 | _ :: _,[],_,_,h=>by simp at h
 | a :: l,b :: l',s,t,h=>by
   rw [Aa1,Aa1,List.cons.injEq] at h;rw [aaf,aaf,h.1,acH l l' (s+1) t h.2]
theorem asT {bs bs2:List DBlock}(hl:bs2.length=bs.length)(h:∀i,(blkOf bs2 i).fin.to=(blkOf bs i).fin.to):bs2.map (·.fin.to)=bs.map (·.fin.to):=by
 apply Aao;intro i;rw [Aak,Aak]
 by_cases hi:i<bs.length
 . rw [aan bs hi,aan bs2 (by omega),Aaw,Aaw,h]
 . rw [Aap (by omega),Aap (by omega)]
theorem anL {bs bs2:List DBlock}(hl:bs2.length=bs.length)(h:∀i,(blkOf bs2 i).fin.to=(blkOf bs i).fin.to):aheadF bs2=aheadF bs:=by
 unfold aheadF;rw [hl]
 congr 1
 funext t
 exact acH _ _ _ _ (asT hl h)
def atM(X:Nat->Prop)(lo hi:Nat)(x:Nat):Prop:=X x∨(lo<=x∧x<hi)
theorem atN {bs:List DBlock}{k:Nat}{x:DBlock}(hx:bs[k]?=some x){bs2:List DBlock}(hl:bs2.length=bs.length)(h:∀i,(blkOf bs2 i).fin.to=(blkOf bs i).fin.to):∃y,bs2[k]?=some y∧y.fin.to=x.fin.to:=by
 have hk:=(Aad.1 hx).1;refine⟨blkOf bs2 k,aan bs2 (by omega),?_⟩;rw [h k,aaZ hx]
theorem anM (nm : ByteArray) (p r : Int) (bs bs2 : List DBlock) (V : Pth -> Value) (C : Pth -> List (List Value)) (X : Nat -> Prop) (base FB R t b n bc : Nat) (w : World)
 (hF:w.heap[FB]?=some (.cells #[.string nm,.int .i64 p,.int .i64 r,.slice (some ⟨R,0,none⟩) n bc] 37 (0,0)))
 (aL:abE w w base X (okP bs) V (afY bs V C)) (fM:X FB) (hC:∀q,(∀i,q ≠ .list i)->C q=aae bs V q) (fq:V .blks = .slice (some ⟨R,0,none⟩) n bc)
 (bq:SlAt (fun x=>base<=x∧x<w.heap.size) w 6 aa2 (.slice (some ⟨R,0,none⟩) n bc) bs2) (eR:bs2.length=n) (ca:∀i,(blkOf bs2 i).fin.to=(blkOf bs i).fin.to)
 (hn:bs.length=n) (ad:acC bs) (ht:t<n) (_hb:b<n) :
 Calls Tryz.prog 88 #[.pointer (some ⟨FB,0,none⟩),.int .i64 (t:Int),.int .i64 (b:Int)] w fun e w'=>e = .returned (.tuple #[])∧abE w w' base X (okP bs) V (afY (agU bs t b (blkOf bs t).fin.to.length) V C):=by
 have hQ:n<=1048576:=by rw [<-hn];exact ad.len
 have bI:bs2.length=bs.length:=by omega
 have ck := hid (adQ nm p r (some ⟨R, 0, none⟩) bc bs2 w (by rw [eR]; exact bq) (by omega) (fun k x hx => by
  obtain ⟨y, hy, gG⟩ := atN hx (bs2 := bs) bI.symm (fun i => (ca i).symm)
  have h := ad.hto k y hy
  rw [gG] at h
  rw [bI]; exact h))
 rw [eR,anL bI ca] at ck;obtain⟨c0,c1,c2,c3⟩:=(aad (cs:=[_,_,_,_]) hF).get4;rw [Aab] at c1 c2 c3;have HF:=hid hF;have aG:=hid aL;have cP:=hid fM;have HC:=hid hC;have di:=hid fq;have Hn:=hid hn;have aX:=hid ad;clear hF aL fM hC fq bq eR ca hn ad bI;go_enter Tryz.func88,Tryz.ntmps88;go_upto_region 1 with (go_at_call 74;refine ck.out.mono ?_;rintro e W1 ⟨av,rfl,dJ,eA⟩;obtain⟨aa,ac,dO,-⟩:=id dJ.val;subst dO;have fr:=hid dJ;have cA:=hid eA;have c3:=aab c3 eA;clear dJ eA)
 rw [show (aheadF bs).length=n by simp [aheadF,Hn.out]];have aj:abE W1 W1 base (atM X w.heap.size W1.heap.size) (okP bs) V (afY bs V C):=by
  refine (aG.out.later cA.out).keep (fun x hx=>?_) (fun q hq k hk hx=>?_)
  . rcases hx with h | h
    . exact Aay (aG.out.old x h) cA.out.size
    . exact h.2
  . rcases hx with h | h
    . exact aG.out.off q hq k hk h
    . have:=(aG.out.rows.lt hq k hk).2;omega
 have ay:=hid aj;have eD:Hid (SlAt (fun x=>w.heap.size<=x∧x<W1.heap.size) W1 1 rRow (.slice aa n ac) (aheadF bs)):=by
  have h:=fr.out;rw [show (aheadF bs).length=n by simp [aheadF,Hn.out]] at h;exact h.live (by decide) amm
 have fb:Hid (W1.heap[FB]?=some (.cells #[.string nm,.int .i64 p,.int .i64 r,.slice (some ⟨R,0,none⟩) n bc] 37 (0,0))):=(cA.out.block FB (aG.out.old FB cP.out)).trans HF.out;have aD:t<bs.length:=by rw [Hn.out];exact ht
 obtain⟨ta,tc,aN⟩:=aah.shape (p := .to t) aj.rows aD;obtain⟨tn,aR⟩:∃tn,tn=(blkOf bs t).fin.to.length:=⟨_,rfl⟩
 have ar:afY bs V C (.to t)=aae bs V (.to t):=HC.out (.to t) (by simp);rw [ar,show (aae bs V (.to t)).length=tn by simp [aae,aR]] at aN;have c5:afY bs V C .blks=aae bs V .blks:=HC.out .blks (by simp);have aI:(aae bs V .blks)[t]?=some (abe (blkOf bs t) (V (.phis t)) (V (.list t)) (V (.to t))):=by
  simp only [aae];rw [aai,aan bs aD];rfl
 have ct:=(aj.rows.at (p := .blks) trivial (g:=R) (n:=n) (c:=bc) di.out (i:=t) (cs:=abe (blkOf bs t) (V (.phis t)) (V (.list t)) (V (.to t))) (by rw [c5];exact aI)).1;have r5:W1.cell? ⟨R,t * 6+5,none⟩=some (.slice ta tn tc):=by
  have h:=ct 5 (V (.to t)) rfl;rw [aN] at h;exact h
 have dS:=hid aN;have eV:=hid aR;have bB:=hid aD;have gM:tn<=2:=by rw [aR];exact aX.out.to2 _ (Aae (aan bs aD))
 have gY:Hid (w.heap.size<=W1.heap.size):=cA.out.size;clear aj aN aR ar c5 aI ct aD c0 c1 c2 ck fr;go_wp2_with fail;clear r5 c3;go_loopw [30] (fun s30 wr=>∃(k:Nat),k<=tn∧s30 = .int .i64 (k:Int)∧abE W1 wr base (atM X w.heap.size W1.heap.size) (okP bs) V (afY (agU bs t b k) V C)) (fun s30 _=>tn - (intOf s30).toNat)
 case atStart=>exact⟨0,Aaj _,rfl,ay.out⟩
 case round =>
  obtain⟨wo,eO⟩:∃wo:World,wo=wr:=⟨_,rfl⟩
  subst eO;obtain⟨k,hk,rfl,aL⟩:=hrel;have cr:=hid aL
  by_cases hkn:k<tn
  . obtain⟨u,hu⟩:∃u,(blkOf bs t).fin.to[k]?=some u:=⟨_,Aaa (by rw [<-eV.out];exact hkn)⟩
    have ff:=aX.out.toIn _ (Aae (aan bs bB.out)) u (Aae hu);obtain⟨q,rfl⟩:=Abc ff.1;have cY:q<bs.length:=by omega
    have ie:q<n:=by have:=Hn.out;omega
    have ar:(afY (agU bs t b k) V C (.to t))[k]?=some [.int .i64 (q:Int)]:=by
     rw [show afY (agU bs t b k) V C (.to t)=aae bs V (.to t) from HC.out (.to t) (by simp)];simp only [aae];rw [Aak,hu];rfl
    obtain⟨G,ei,bV,-,-,hK,hV⟩:=aL.rows.addr (p := .to t) bB.out (Aca (Aaj _) (Aad.1 ar).1);rw [dS.out] at bV;have eg:ta=some ⟨G,0,none⟩:=by injection bV
    subst eg;have t0:=(aL.rows.at (p := .to t) bB.out dS.out ar).1.get1;rw [show k * Pth.sz (.to t)=k by simp [Pth.sz]] at t0;obtain⟨ab,aC,cs,eT,eW,cS,-,bm⟩:=eD.out.get (k:=q) (by simp [aheadF];exact cY);rw [show (aheadF bs)[q]'(by simp [aheadF];exact cY)=aaf bs 0 q from (Aad.1 (ajp cY)).2] at cS;obtain⟨rv,rfl,cu⟩:=cS;obtain⟨A,hA⟩:∃A,A=aaf bs 0 q:=⟨_,rfl⟩
    rw [<-hA] at cu;obtain⟨an,aM⟩:∃an,an=A.length:=⟨_,rfl⟩
    obtain⟨ra,rc,cJ,-⟩:=id cu.val;rw [<-aM] at cJ;subst cJ;subst eT;have cq:=bm.get1;rw [Abd] at cq;have a0:wo.cell? ⟨ab,aC+q,none⟩=some (.slice ra an rc):=aL.cell (b:=ab) (.inr eW) cq;have bj:SlAt (fun x=>w.heap.size<=x∧x<W1.heap.size) wo 1 acz (.slice ra an rc) A:=cu.mono aax (fun _ h=>h) (aL.stays fun x hx => .inr hx);have bS:(t:Int)∈A:=by
     rw [hA];exact ad8 (aan bs bB.out) (Aae hu)
    obtain⟨kk,b7,eZ,hB⟩:=ahU bS;have bQ:=apl (b:=b) bS;obtain⟨pb,aJ,rfl,bF⟩:∃pb aJ,ra=some ⟨pb,aJ,none⟩∧∀(j:Nat) a,A[j]?=some a->wo.cell? ⟨pb,aJ+j,none⟩=some (.int .i64 a):=by
     have h0:0<A.length:=by omega
     obtain⟨pb,aJ,h1,-⟩:=adv bj h0;refine⟨pb,aJ,h1,fun j a hj=>?_⟩;obtain⟨gS,gJ⟩:=Aad.1 hj;obtain⟨iu,e7,h3,h4⟩:=adv bj gS;rw [h1] at h3;cases h3;rw [gJ] at h4;exact h4
    have fA := hid (akI (some ⟨pb, aJ, none⟩) an rc A (t : Int) wo bj aM.symm (by
     have := afo bs 0 q aX.out.toNd
     rw [<- hA] at this
     have := Hn.out
     omega))
    rw [b7] at fA;have c7:=hid bF;have cm:Hid (ae9 A (t:Int)=(kk:Int)∧kk<an):=⟨b7,by rw [aM];exact eZ⟩
    have gX:Hid (cntJ A t b an+1<=an):=by show _<=_;rw [aM];exact bQ
    have Hu:=hid hu;have HA:=hid hA;have ev:=hid aM;have aH:=hid cY;have cK:an<=1048576:=by
     have:=afo bs 0 q aX.out.toNd;rw [<-hA] at this;have:=Hn.out;omega
    clear hu ff cY ar bV hK hV eW cu bm cq bj bS b7 eZ hB bQ bF hA aM aL;go_upto_region 5 with (go_at_call 109;refine fA.out.mono ?_;rintro e w' ⟨rfl,hw⟩;subst hw)
    go_wp2_with fail;go_loopw [45,10] (fun s45 s10 wr=>∃(j:Nat),j<=an∧s45 = .int .i64 (j:Int)∧s10 = .int .i64 ((cntJ A t b j:Nat):Int)∧wo=wr) (fun s45 _ _=>an - (intOf s45).toNat)
    case atStart=>exact⟨0,Aaj _,rfl,rfl,rfl⟩
    case round =>
     obtain⟨j,hj,rfl,rfl,hw⟩:=hrel;subst hw
     by_cases hjn:j<an
     . obtain⟨a,ha⟩:∃a,A[j]?=some a:=⟨_,Aaa (by rw [<-ev.out];exact hjn)⟩
       have q0:=c7.out j a ha;have aY:=apk (t:=t) (b:=b) ha;have eN:=asL A t b j;have fN:cntJ A t b j<=1048576:=by omega
       obtain⟨cj,dW⟩:∃cj,cj=cntJ A t b j:=⟨_,rfl⟩
       rw [<-dW] at aY fN ⊢;have aV:=hid aY;have ik:=hid dW;clear aY eN dW ha
       by_cases h1:a<(b:Int)
       . have d1:decide (a<(b:Int))=true:=decide_eq_true h1
         by_cases h2:a=(t:Int)
         . have d2:=aol h2
           have e1:cntJ A t b (j+1)=cj:=by have h:=aV.out;rw [if_neg (fun h=>h.2 h2)] at h;simpa using h
           have cZ:=hid e1;clear e1 h1 h2;go_wp2_with fail;go_roundw
           case rel=>exact⟨j+1,by omega,by go_num,by rw [cZ.out],trivial⟩
           case measure=>simp [intOf];omega
         . have d2:=aez h2
           have e1:cntJ A t b (j+1)=cj+1:=by have h:=aV.out;rw [if_pos ⟨h1,h2⟩] at h;exact h
           have cZ:=hid e1;clear e1 h1 h2;go_wp2_with fail;go_roundw
           case rel=>exact⟨j+1,by omega,by go_num,by rw [cZ.out];go_num,trivial⟩
           case measure=>simp [intOf];omega
       . have d1:decide (a<(b:Int))=false:=decide_eq_false h1
         have e1:cntJ A t b (j+1)=cj:=by have h:=aV.out;rw [if_neg (fun h=>h1 h.1)] at h;simpa using h
         have cZ:=hid e1;clear e1 h1;go_wp2_with fail;go_roundw
         case rel=>exact⟨j+1,by omega,by go_num,by rw [cZ.out],trivial⟩
         case measure=>simp [intOf];omega
     . have fS:an=j:=by omega
       subst fS;obtain⟨jv,bQ⟩:∃jv,jv=cntJ A t b an:=⟨_,rfl⟩
       have gK:jv+1<=an:=by rw [bQ];exact gX.out
       rw [<-bQ];have eM:=hid bQ;clear bQ;have fk:wo.heap[FB]?=some (.cells #[.string nm,.int .i64 p,.int .i64 r,.slice (some ⟨R,0,none⟩) n bc] 37 (0,0)):=(cr.out.kept FB (.inl cP.out)).trans fb.out;have c3:=(aad (cs:=[_,_,_,_]) fk) 3 _ rfl;rw [Aab] at c3;obtain⟨pa,pc,bg⟩:=aah.shape (p := .phis q) aG.out.rows aH.out;obtain⟨x,hx⟩:∃x,x=blkOf bs q:=⟨_,rfl⟩
       obtain⟨pn,bA⟩:∃pn,pn=x.phis.length:=⟨_,rfl⟩
       rw [show afY bs V C (.phis q)=aae bs V (.phis q) from HC.out (.phis q) (by simp),show (aae bs V (.phis q)).length=pn by simp [aae,bA,hx]] at bg;have aI:(aae bs V .blks)[q]?=some (abe (blkOf bs q) (V (.phis q)) (V (.list q)) (V (.to q))):=by
        simp only [aae];rw [aai,aan bs aH.out];rfl
       have ct:=(cr.out.rows.at (p := .blks) trivial (g:=R) (n:=n) (c:=bc) di.out (i:=q) (cs:=abe (blkOf bs q) (V (.phis q)) (V (.list q)) (V (.to q))) (by rw [show afY (agU bs t b k) V C .blks=aae bs V .blks from HC.out .blks (by simp)];exact aI)).1;have r0:wo.cell? ⟨R,q * 6,none⟩=some (.slice pa pn pc):=by
        have h:=ct 0 (V (.phis q)) rfl;rw [bg] at h;exact h
       have fG:¬((q:Int)∈(blkOf bs t).fin.to.take k):=fun hm=>by
        obtain⟨i2,fI,fo⟩:=Aav hm;have cB:i2<(blkOf bs t).fin.to.length:=by rw [Aat] at fI;omega
        rw [List.getElem_take] at fo;have gH:=(Aad.1 Hu.out).1;have gz:=(Aad.1 Hu.out).2;have gB:i2<k:=by rw [Aat] at fI;omega
        exact (Acp.1 (aX.out.toNd _ (Aae (aan bs bB.out)))) i2 k cB gH gB (fo.trans gz.symm)
       have dI:blkOf (agU bs t b k) q=x:=by rw [apq aX.out.toIn aX.out.toNd bB.out,if_neg fG,hx]
       have dM:q<(agU bs t b k).length:=by rw [amI];exact aH.out
       have c8:abE W1 wo base (atM X w.heap.size W1.heap.size) (okP bs) V (afY ((agU bs t b k).set q (afp A t b x 0)) V C):=by
        rw [anu,<-dI,abW (aan _ dM)];exact cr.out
       have el:=hid c8;have Hx:=hid hx;have dZ:=hid bA;have be:=hid bg;have gx:=hid dI;have fv:=hid dM;have fW:=hid ct;have gL:pn<=1048576:=by rw [bA,hx];exact (aX.out.small _ (Aae (aan bs aH.out))).phis
       clear fk bg hx bA aI ct fG dI dM c8 hj hjn;go_wp2_with fail;clear c3 r0;go_loopw [69] (fun s69 wr=>∃(i:Nat),i<=pn∧s69 = .int .i64 (i:Int)∧abE W1 wr base (atM X w.heap.size W1.heap.size) (okP bs) V (afY ((agU bs t b k).set q (afp A t b x i)) V C)) (fun s69 _=>pn - (intOf s69).toNat)
       case atStart=>exact⟨0,Aaj _,rfl,el.out⟩
       case round =>
        obtain⟨wl,hT⟩:∃wl:World,wl=wr:=⟨_,rfl⟩
        subst hT;obtain⟨i,hi,rfl,aE⟩:=hrel;have dE:=hid aE
        by_cases hip:i<pn
        . obtain⟨ph,cM⟩:∃ph,x.phis[i]?=some ph:=⟨_,Aaa (by rw [<-dZ.out];exact hip)⟩
          have dP:blkOf ((agU bs t b k).set q (afp A t b x i)) q=afp A t b x i:=by rw [aaR fv.out,if_pos rfl]
          have hyp:(afp A t b x i).phis[i]?=some ph:=by
           show (x.phis.mapIdx _)[i]?=_;rw [aai,cM];simp
          have az:okP bs (.src q i):=by show i<(blkOf bs q).phis.length;rw [<-Hx.out,<-dZ.out];exact hip
          have aU:afY ((agU bs t b k).set q (afp A t b x i)) V C (.src q i)=ph.src.map aaz:=by
           simp only [afY,aae];rw [dP,Aaf,hyp];rfl
          have cp:ph.src.length=an:=by
           rw [ev.out,HA.out];exact aX.out.src q aH.out ph (by rw [<-Hx.out];exact Aae cM)
          obtain⟨g,fc,bt,dH,cy,fy,dn⟩:=aE.rows.addr az (by rw [aU,Aah,cp];have:=cm.out.2;omega);rw [aU,Aah,cp] at bt dH;have bN:=aE.rows.own _ az;rw [aU,Aah,cp,bt] at bN;obtain⟨v2,bp⟩:∃v2,ph.src[kk]?=some v2:=⟨_,Aaa (by rw [cp];exact cm.out.2)⟩
          obtain⟨vr,eb⟩:∃vr,vr=v2.reg:=⟨_,rfl⟩
          obtain⟨vn,dT⟩:∃vn,vn=v2.n:=⟨_,rfl⟩
          have dh:aal wl g (kk * 2) [.bool vr,.int .i64 vn]:=(aE.rows.at az bt (i:=kk) (by rw [aU,Aak,bp,eb,dT];rfl)).1;obtain⟨g0,g1⟩:=dh.get2;obtain⟨pd,fJ⟩:∃pd,pd=ph.dst:=⟨_,rfl⟩
          have bl:(C (.phis q))[i]?=some [.int .i64 pd,V (.src q i)]:=by
           rw [HC.out (.phis q) (by simp)];simp only [aae];rw [<-Hx.out,aai,cM,Aaw,fJ]
          obtain⟨P,gC,en,-,-,ic,fD⟩:=aE.rows.addr (p := .phis q) aH.out (Aca (Aaj _) (Aad.1 bl).1);rw [be.out] at en;have hM:pa=some ⟨P,0,none⟩:=by injection en
          subst hM;obtain⟨b8,cC⟩:=aE.rows.at (p := .phis q) aH.out be.out bl;rw [bt] at b8;have cw:aal wl P (i * 2) [.int .i64 pd,.slice (some ⟨g,0,none⟩) an fc]:=b8;obtain⟨p0,p1⟩:=cw.get2;have pz:=cC (i * 2+1);have fe:wl.heap[FB]?=some (.cells #[.string nm,.int .i64 p,.int .i64 r,.slice (some ⟨R,0,none⟩) n bc] 37 (0,0)):=(aE.kept FB (.inl cP.out)).trans fb.out;have c3:=(aad (cs:=[_,_,_,_]) fe) 3 _ rfl;rw [Aab] at c3;have aI:(aae bs V .blks)[q]?=some (abe (blkOf bs q) (V (.phis q)) (V (.list q)) (V (.to q))):=by
           simp only [aae];rw [aai,aan bs aH.out];rfl
          have r0:wl.cell? ⟨R,q * 6,none⟩=some (.slice (some ⟨P,0,none⟩) pn pc):=by
           have h:=(aE.rows.at (p := .blks) trivial (g:=R) (n:=n) (c:=bc) di.out (i:=q) (by rw [show afY ((agU bs t b k).set q (afp A t b x i)) V C .blks=aae bs V .blks from HC.out .blks (by simp)];exact aI)).1 0 (V (.phis q)) rfl;rw [be.out] at h;exact h
          have cU:g≠FB∧g≠R∧g≠P∧P≠FB∧P≠R:=by
           refine⟨fun e=>aE.off _ az g (by rw [bt];rfl) (by rw [e];exact .inl cP.out),fun e=>?_,fun e=>?_,fun e=>aE.off (.phis q) aH.out P (by rw [be.out];rfl) (by rw [e];exact .inl cP.out),fun e=>?_⟩
           . exact aE.rows.apart (.src q i) .blks az trivial (by simp) g (by rw [bt];rfl) (by rw [di.out,e];rfl)
           . exact aE.rows.apart (.src q i) (.phis q) az aH.out (by simp) g (by rw [bt];rfl) (by rw [be.out,e];rfl)
           . exact aE.rows.apart (.phis q) .blks aH.out trivial (by simp) P (by rw [be.out];rfl) (by rw [di.out,e];rfl)
          have br:=hid cU;have eQ:=hid bN;have fa:Hid (an<=fc∧fc<=9223372036854775807∧base<=g):=⟨dH,cy,fy⟩
          have fg:=hid bt;have fU:=hid cM;have e9:=hid dP;have Hyp:=hid hyp;have ia:=hid cp;have aS:=hid bp;have dr:Hid (vr=v2.reg∧vn=v2.n):=⟨eb,dT⟩
          have eG:=hid bl;have cx:=hid az;have gl:=cm.out.2;clear cM dP hyp az aU cp bt dH cy fy dn bN bp eb dT dh fJ bl en b8 cC cw fe aI cU aE;go_upto_region 15 with (fail)
          obtain⟨PB,cz⟩:∃PB,PB=wl.heap.size:=⟨_,rfl⟩
          obtain⟨W7,cE⟩:∃W7,W7=wl.alloc (.cells #[.int .i64 pd,.slice (some ⟨g,0,none⟩) an fc] 115):=⟨_,rfl⟩
          have e8:W7.heap[PB]?=some (.cells #[.int .i64 pd,.slice (some ⟨g,0,none⟩) an fc] 115 (0,0)):=by rw [cE,cz];exact heap_alloc_new _ _
          rw [<-cE,<-cz];have bD:Below wl.heap.size wl W7:=by rw [cE];exact bE
          have fE:W7.heap.size=PB+1:=by rw [cE,cz];simp
          obtain⟨b0,b1⟩:=(aad (cs:=[_,_]) e8).get2;rw [Aab] at b1;have g0:=aab g0 bD;have g1:=aab g1 bD;have c3:=aab c3 bD;have r0:=aab r0 bD;have p1:=aab p1 bD;have pz:=(bD.frozen (p:=⟨P,i * 2+1,none⟩) (by have:=dE.out.rows.lt (p := .phis q) aH.out P (by rw [be.out];rfl);exact this.2)).trans pz;have gh:g<W7.heap.size:=aac g0;have gj:Hid (PB=wl.heap.size∧W7.heap.size=PB+1):=⟨cz,fE⟩
          have e5:=hid bD;clear cE cz e8 fE p0 b0 bD;go_upto_region 16 with (fail)
          obtain⟨VB,ez⟩:∃VB,VB=W7.heap.size:=⟨_,rfl⟩
          obtain⟨W8,dq⟩:∃W8,W8=W7.alloc (.cells #[.bool vr,.int .i64 vn] 41):=⟨_,rfl⟩
          have fj:W8.heap[VB]?=some (.cells #[.bool vr,.int .i64 vn] 41 (0,0)):=by rw [dq,ez];exact heap_alloc_new _ _
          rw [<-dq,<-ez];have cc:Below W7.heap.size W7 W8:=by rw [dq];exact bE
          obtain⟨v0,v1⟩:=(aad (cs:=[_,_]) fj).get2;rw [Aab] at v1;have b1:=aab b1 cc;have c3:=aab c3 cc;have r0:=aab r0 cc;have pz:=(cc.frozen (p:=⟨P,i * 2+1,none⟩) (aac p1)).trans pz;have p1:=aab p1 cc;have bh:Below wl.heap.size wl W8:=e5.out.trans (cc.mono e5.out.size);have dn:g<wl.heap.size:=(dE.out.rows.lt cx.out g (by rw [fg.out];rfl)).2;have fD:P<wl.heap.size:=(dE.out.rows.lt (p := .phis q) aH.out P (by rw [be.out];rfl)).2;have ae:Hid (FB≠g∧R≠g∧PB≠g∧VB≠g∧P≠g∧FB≠P∧R≠P∧PB≠P∧VB≠P):=by
           obtain⟨n1,n2,n3,n4,n5⟩:=br.out;have h1:=gj.out;refine⟨n1.symm,n2.symm,?_,?_,n3.symm,n4.symm,n5.symm,?_,?_⟩ <;> omega
          have aw:Hid (FB<W8.heap.size∧R<W8.heap.size∧PB<W8.heap.size∧VB<W8.heap.size∧P<W8.heap.size∧g<W8.heap.size):=⟨aac c3,aac r0,aac b1,aac v0,aac p1,Aay dn bh.size⟩
          have bw:Hid (∀w':World,W8.grownBy w' (some g)->(w'.cell? ⟨FB,3,none⟩=some (.slice (some ⟨R,0,none⟩) n bc)∧w'.cell? ⟨R,q * 6,none⟩=some (.slice (some ⟨P,0,none⟩) pn pc)∧w'.cell? ⟨PB,1,none⟩=some (.slice (some ⟨g,0,none⟩) an fc)∧w'.cell? ⟨VB,0,none⟩=some (.bool vr)∧w'.cell? ⟨VB,1,none⟩=some (.int .i64 vn))):=fun w' hg=>by
           have hk:∀x,x<W8.heap.size->x≠g->w'.heap[x]?=W8.heap[x]?:=fun x h1 h2=>hg.block x h1 (fun e=>h2 (by cases e;rfl));exact⟨(World.cell?_of_block (w:=W8) (a:=⟨FB,3,none⟩) (hk FB aw.out.1 ae.out.1)).trans c3,(World.cell?_of_block (w:=W8) (a:=⟨R,q * 6,none⟩) (hk R aw.out.2.1 ae.out.2.1)).trans r0,(World.cell?_of_block (w:=W8) (a:=⟨PB,1,none⟩) (hk PB aw.out.2.2.1 ae.out.2.2.1)).trans b1,(World.cell?_of_block (w:=W8) (a:=⟨VB,0,none⟩) (hk VB aw.out.2.2.2.1 ae.out.2.2.2.1)).trans v0,(World.cell?_of_block (w:=W8) (a:=⟨VB,1,none⟩) (hk VB aw.out.2.2.2.1 ae.out.2.2.2.1)).trans v1⟩
          have fF:Hid (∀w':World,W8.grownBy w' (some g)->w'.cell? ⟨P,i * 2+1,none⟩=some (.slice (some ⟨g,0,none⟩) an fc)∧w'.frozen? ⟨P,i * 2+1,none⟩=false):=fun w' hg=>by
           have hk:w'.heap[P]?=W8.heap[P]?:=hg.block P aw.out.2.2.2.2.1 (fun e=>ae.out.2.2.2.2.1 (by cases e;rfl));exact⟨(World.cell?_of_block (w:=W8) (a:=⟨P,i * 2+1,none⟩) hk).trans p1,(World.frozen?_of_block (w:=W8) (a:=⟨P,i * 2+1,none⟩) hk).trans pz⟩
          have a7:W8.ownsRow base 41 2 (.slice (some ⟨g,0,none⟩) an fc) an (ph.src.map aaz).flatten:=aao eQ.out bh;have ed:Hid (W8.grownBy W8.drew (some g)):=acS _ _;have fC:Hid (W8.grownBy (W8.alloc (.cells #[.bool vr,.int .i64 vn] 41)).drew (some g)):=aa4 (World.grownBy_alloc _ _ _) (acS _ _);obtain⟨dl,dx⟩:∃dl,dl=aqr ph.src kk:=⟨_,rfl⟩
          have gw:Hid (Calls Tryz.prog 111 #[.slice (some ⟨g,0,none⟩) an fc,.int .i64 (kk:Int),.int .i64 ((kk:Int)+1)] W8.drew fun e w'=>e = .returned (.slice (some ⟨g,0,none⟩) (an - 1) fc)∧W8.grownBy w' (some g)∧w'.ownsRow base 41 2 (.slice (some ⟨g,0,none⟩) (an - 1) fc) (an - 1) (dl.map aaz).flatten):=by
           rw [dx];refine (aiL (w:=W8.drew) (aao a7 (Below.refl _ _).drew) cm.out.2 cK).mono ?_;rintro e w' ⟨rfl,h1,h2⟩;exact⟨rfl,aa4 ed.out h1,h2⟩
          have gF:Hid (Calls Tryz.prog 111 #[.slice (some ⟨g,0,none⟩) an fc,.int .i64 (kk:Int),.int .i64 ((kk:Int)+1)] (W8.alloc (.cells #[.bool vr,.int .i64 vn] 41)).drew fun e w'=>e = .returned (.slice (some ⟨g,0,none⟩) (an - 1) fc)∧W8.grownBy w' (some g)∧w'.ownsRow base 41 2 (.slice (some ⟨g,0,none⟩) (an - 1) fc) (an - 1) (dl.map aaz).flatten∧w'.heap[W8.heap.size]?=some (.cells #[.bool vr,.int .i64 vn] 41 (0,0))):=by
           rw [dx];refine (aiL (w:=(W8.alloc (.cells #[.bool vr,.int .i64 vn] 41)).drew) (aao a7 (((Below.refl W8.heap.size W8).alloc (Aac _) _).drew)) cm.out.2 cK).mono ?_;rintro e w' ⟨rfl,h1,h2⟩;exact⟨rfl,aa4 fC.out h1,h2,(h1.block W8.heap.size (by show _<(W8.alloc _).heap.size;simp) (fun e=>by cases e;exact absurd aw.out.2.2.2.2.2 (Abq _))).trans (heap_alloc_new W8 _)⟩
          obtain⟨il,cB⟩:∃il,il=arY A t b ph.src:=⟨_,rfl⟩
          have b6:il=arP dl jv v2:=by
           rw [cB,dx];unfold arY;rw [cm.out.1,Aan,<-ev.out,<-eM.out,Aaf,aS.out];rfl
          have gd:Hid (∀aF:World,W8.grownBy aF (some g)->aF.ownsRow base 41 2 (.slice (some ⟨g,0,none⟩) (an - 1) fc) (an - 1) (dl.map aaz).flatten->Calls Tryz.prog 110 #[.slice (some ⟨g,0,none⟩) (an - 1) fc,.int .i64 (jv:Int),.slice (some ⟨aF.heap.size,0,none⟩) 1 1] (aF.alloc (.cells #[.bool vr,.int .i64 vn] 41)) fun e w'=>e = .returned (.slice (some ⟨g,0,none⟩) an fc)∧W8.grownBy w' (some g)∧w'.ownsRow base 41 2 (.slice (some ⟨g,0,none⟩) an fc) an (il.map aaz).flatten):=fun aF hg ho=>by
           rw [b6];refine (aiM v2 (aao ho bE) (j:=jv) (by omega) (by have:=fa.out;omega) (by omega) (by rw [<-dr.out.1,<-dr.out.2];exact heap_alloc_new _ _) (by have:=hg.size;have:=aw.out;omega)).mono ?_;rintro e w' ⟨rfl,h1,h2⟩;rw [show an - 1+1=an by omega] at h2 ⊢;exact⟨rfl,aa4 (aa4 hg (World.grownBy_alloc _ _ _)) h1,h2⟩
          have gD:Hid (∀aF:World,W8.grownBy aF (some g)->aF.ownsRow base 41 2 (.slice (some ⟨g,0,none⟩) (an - 1) fc) (an - 1) (dl.map aaz).flatten->aF.heap[W8.heap.size]?=some (.cells #[.bool vr,.int .i64 vn] 41 (0,0))->Calls Tryz.prog 110 #[.slice (some ⟨g,0,none⟩) (an - 1) fc,.int .i64 (jv:Int),.slice (some ⟨W8.heap.size,0,none⟩) 1 1] aF fun e w'=>e = .returned (.slice (some ⟨g,0,none⟩) an fc)∧W8.grownBy w' (some g)∧w'.ownsRow base 41 2 (.slice (some ⟨g,0,none⟩) an fc) an (il.map aaz).flatten):=fun aF hg ho dz=>by
           rw [b6];refine (aiM v2 ho (j:=jv) (by omega) (by have:=fa.out;omega) (by omega) (by rw [<-dr.out.1,<-dr.out.2];exact dz) (by have:=aw.out;omega)).mono ?_;rintro e w' ⟨rfl,h1,h2⟩;rw [show an - 1+1=an by omega] at h2 ⊢;exact⟨rfl,aa4 hg h1,h2⟩
          have ir:IntKind.i64.wrap ((kk:Int)+1)=(kk:Int)+1:=by rw [IntKind.wrap_i64];omega
          have gO:W8.drew.cell? ⟨FB,3,none⟩=some (.slice (some ⟨R,0,none⟩) n bc)∧W8.drew.cell? ⟨R,q * 6,none⟩=some (.slice (some ⟨P,0,none⟩) pn pc)∧W8.drew.cell? ⟨PB,1,none⟩=some (.slice (some ⟨g,0,none⟩) an fc)∧W8.drew.cell? ⟨VB,0,none⟩=some (.bool vr)∧W8.drew.cell? ⟨VB,1,none⟩=some (.int .i64 vn):=bw.out _ ed.out;have eU:=hid bh;have gu:=hid cB;clear dq ez fj cc bh dn fD a7 dx cB b6 gO g0 g1 gh
          go_region_held3 (fun w' => w'.cell? ⟨FB, 3, none⟩ = some (.slice (some ⟨R, 0, none⟩) n bc) ∧ w'.cell? ⟨R, q * 6, none⟩ = some (.slice (some ⟨P, 0, none⟩) pn pc) ∧ w'.cell? ⟨PB, 1, none⟩ = some (.slice (some ⟨g, 0, none⟩) an fc) ∧ w'.cell? ⟨VB, 0, none⟩ = some (.bool vr) ∧ w'.cell? ⟨VB, 1, none⟩ = some (.int .i64 vn))
           ((first
             | with_reducible exact cI.out
             | with_reducible exact bw.out _ b9.out
             | with_reducible exact bw.out _ (aa4 bY.out (World.grownBy_alloc _ _ _))
             | with_reducible exact bw.out _ bY.out
             | with_reducible exact bw.out _ fB.out
             | with_reducible exact bw.out _ fC.out
             | with_reducible exact bw.out _ ed.out))
           ((first
             | (go_at_call 111; (with_reducible refine gw.out.mono ?_); rintro e aF ⟨rfl, aP, a6⟩
                have bY := hid aP
                have eB := hid a6
                clear aP a6)
             | (go_at_call 111; (with_reducible refine gF.out.mono ?_); rintro e aF ⟨rfl, aP, a6, dz⟩
                have fB := hid aP
                have gA := hid a6
                have gi := hid dz
                clear aP a6 dz)
             | (go_at_call 110; (with_reducible refine (gd.out aF bY.out eB.out).mono ?_); rintro e aq ⟨rfl, ax, aT⟩
                have b9 := hid ax
                have hp := fF.out aq ax
                have gv := hp.1
                have hR := hp.2
                have af := bw.out aq ax
                have cI : Hid ((aq.setCell ⟨P, i * 2 + 1, none⟩ (.slice (some ⟨g, 0, none⟩) an fc)).cell? ⟨FB, 3, none⟩ = some (.slice (some ⟨R, 0, none⟩) n bc) ∧ (aq.setCell ⟨P, i * 2 + 1, none⟩ (.slice (some ⟨g, 0, none⟩) an fc)).cell? ⟨R, q * 6, none⟩ = some (.slice (some ⟨P, 0, none⟩) pn pc) ∧ (aq.setCell ⟨P, i * 2 + 1, none⟩ (.slice (some ⟨g, 0, none⟩) an fc)).cell? ⟨PB, 1, none⟩ = some (.slice (some ⟨g, 0, none⟩) an fc) ∧ (aq.setCell ⟨P, i * 2 + 1, none⟩ (.slice (some ⟨g, 0, none⟩) an fc)).cell? ⟨VB, 0, none⟩ = some (.bool vr) ∧ (aq.setCell ⟨P, i * 2 + 1, none⟩ (.slice (some ⟨g, 0, none⟩) an fc)).cell? ⟨VB, 1, none⟩ = some (.int .i64 vn)) := ⟨(aam _ ae.out.2.2.2.2.2.1 _ _).trans af.1, (aam _ ae.out.2.2.2.2.2.2.1 _ _).trans af.2.1, (aam _ ae.out.2.2.2.2.2.2.2.1 _ _).trans af.2.2.1, (aam _ ae.out.2.2.2.2.2.2.2.2 _ _).trans af.2.2.2.1, (aam _ ae.out.2.2.2.2.2.2.2.2 _ _).trans af.2.2.2.2⟩
                have bW := hid aT
                clear ax aT hp af)
             | (go_at_call 110; (with_reducible refine (gD.out aF fB.out gA.out gi.out).mono ?_); rintro e aq ⟨rfl, ax, aT⟩
                have b9 := hid ax
                have hp := fF.out aq ax
                have gv := hp.1
                have hR := hp.2
                have af := bw.out aq ax
                have cI : Hid ((aq.setCell ⟨P, i * 2 + 1, none⟩ (.slice (some ⟨g, 0, none⟩) an fc)).cell? ⟨FB, 3, none⟩ = some (.slice (some ⟨R, 0, none⟩) n bc) ∧ (aq.setCell ⟨P, i * 2 + 1, none⟩ (.slice (some ⟨g, 0, none⟩) an fc)).cell? ⟨R, q * 6, none⟩ = some (.slice (some ⟨P, 0, none⟩) pn pc) ∧ (aq.setCell ⟨P, i * 2 + 1, none⟩ (.slice (some ⟨g, 0, none⟩) an fc)).cell? ⟨PB, 1, none⟩ = some (.slice (some ⟨g, 0, none⟩) an fc) ∧ (aq.setCell ⟨P, i * 2 + 1, none⟩ (.slice (some ⟨g, 0, none⟩) an fc)).cell? ⟨VB, 0, none⟩ = some (.bool vr) ∧ (aq.setCell ⟨P, i * 2 + 1, none⟩ (.slice (some ⟨g, 0, none⟩) an fc)).cell? ⟨VB, 1, none⟩ = some (.int .i64 vn)) := ⟨(aam _ ae.out.2.2.2.2.2.1 _ _).trans af.1, (aam _ ae.out.2.2.2.2.2.2.1 _ _).trans af.2.1, (aam _ ae.out.2.2.2.2.2.2.2.1 _ _).trans af.2.2.1, (aam _ ae.out.2.2.2.2.2.2.2.2 _ _).trans af.2.2.2.1, (aam _ ae.out.2.2.2.2.2.2.2.2 _ _).trans af.2.2.2.2⟩
                have bW := hid aT
                clear ax aT hp af)))
          all_goals
           go_wp2_with fail;go_roundw
           case rel =>
            have db:=(dE.out.later eU.out).srcSame (u:=q) (i:=i) (g:=g) (P:=P) (c:=fc) (pn:=pn) (pc:=pc) (m:=an) (d := .int .i64 pd) (by rw [Aar];exact fv.out) (by rw [e9.out];exact (Aad.1 Hyp.out).1) cx.out aH.out fg.out be.out eG.out (l:=il) (by have h:=bW.out.1;rw [abp (il.map aaz) (fun i cs hi=>aca il cs (Aae hi)),Aah] at h;omega) bW.out b9.out;rw [Aaz,e9.out,gu.out,apn fU.out] at db;exact⟨i+1,by omega,by go_num,db⟩
           case measure=>simp [intOf];omega
        . have gU:pn=i:=by omega
          subst gU;have c6:afp A t b x pn=ap8 A t b x:=by rw [dZ.out];exact apm _ _ _ _
          have db:abE W1 wl base (atM X w.heap.size W1.heap.size) (okP bs) V (afY (agU bs t b (k+1)) V C):=by
           rw [apo Hu.out];unfold ajz;rw [Aan,gx.out,<-HA.out,<-c6];exact aE
          have gb:=hid db;clear c6 db aE hi hip;go_wp2_with fail;go_roundw
          case rel=>exact⟨k+1,by omega,by go_num,gb.out⟩
          case measure=>simp [intOf];omega
  . have gR:tn=k:=by omega
    subst gR;clear hk hkn;go_wp2_with fail;go_end0;refine⟨rfl,?_⟩;have h:=(aG.out.later cA.out).trans cr.out (fun x hx => .inl hx);rw [eV.out] at h;exact h
end
section
open Go.RowKit
theorem anN {S : Nat -> Prop} (nm : ByteArray) (p r : Int) (bs : List DBlock) (V : Pth -> Value) (base : Nat) (w : World) (hf : abK w base bs V) (bH : base <= w.heap.size) (ad : ae4 bs)
 (hS:∀b,S b->b<w.heap.size∧∀q,okP bs q->(V q).ownBlock≠some b) :
 Calls Tryz.prog 57 #[.agg #[.string nm,.int .i64 p,.int .i64 r,V .blks]] w fun e w' =>
  ∃V',e = .returned (.agg #[.string nm,.int .i64 p,.int .i64 r,V' .blks])∧abK w' base (acm bs) V'∧Below base w w'∧as6 S w w' (acm bs) V':=by
 obtain⟨ba,bc,dB⟩:=aah.shape (p := .blks) hf trivial;obtain⟨n,hn⟩:∃n,n=bs.length:=⟨_,rfl⟩
 rw [show (aae bs V .blks).length=n by simp [aae,hn]] at dB;have hQ:n<=1048576:=by rw [hn];exact ad.ok.len
 have Hf:=hid hf;have aX:=hid ad;have HS:=hid hS;have Hn:=hid hn;have fO:=hid dB;rw [dB];clear hf ad hn dB hS;go_enter Tryz.func57,Tryz.ntmps57;go_upto_region 1 with (fail)
 obtain⟨W,hW⟩:∃W,W=(w.alloc (.cells #[.string nm,.int .i64 p,.int .i64 r,.slice ba n bc] 37)).alloc (.cells #[.string ⟨#[]⟩,.int .i64 0,.int .i64 0,.slice none 0 0] 37):=⟨_,rfl⟩
 obtain⟨eI,h0,h1⟩:=abQ w (.cells #[.string nm,.int .i64 p,.int .i64 r,.slice ba n bc] 37) (.cells #[.string ⟨#[]⟩,.int .i64 0,.int .i64 0,.slice none 0 0] 37);rw [<-hW] at eI h0 h1 ⊢;have dU:Below w.heap.size w W:=by rw [hW];exact bE
 obtain⟨UB,dL⟩:∃UB,UB=w.heap.size:=⟨_,rfl⟩
 obtain⟨UO,ef⟩:∃UO,UO=w.heap.size+1:=⟨_,rfl⟩
 rw [<-ef] at h1 ⊢;rw [<-dL] at h0 ⊢;have eY:Hid (UB=w.heap.size∧UO=w.heap.size+1∧W.heap.size=w.heap.size+2):=⟨dL,ef,eI⟩
 have HB:Hid (base<=w.heap.size):=bH;have H0:=hid h0;have H1:=hid h1;have eC:=hid dU;obtain⟨X,hX⟩:∃X:Nat->Prop,X=fun x=>x=UB∨x=UO∨S x:=⟨_,rfl⟩
 have aL:abE W W base X (okP bs) V (aae bs V):=by
  refine abE.start (Hf.out.later dU) (fun x hx=>?_) (fun q hq k hk hx=>?_) (by omega)
  . rw [hX] at hx
    rcases hx with h | h | h
    . omega
    . omega
    . have:=(HS.out x h).1
      omega
  . have:=(aah.lt Hf.out hq k hk).2
    rw [hX] at hx;rcases hx with h | h | h
    . omega
    . omega
    . exact (HS.out k h).2 q hq hk
 have cr:=hid aL;have HX:Hid (X UB∧X UO):=by rw [hX];exact⟨.inl rfl,.inr (.inl rfl)⟩
 have eX:Hid (∀b,S b->X b):=by rw [hX];exact fun b hb => .inr (.inr hb)
 clear hW h0 h1 dU dL ef eI bH aL hX;go_wp2_with fail;go_loopw [3] (fun s3 wr=>∃(b:Nat) (V1:Pth->Value),b<=n∧s3 = .int .i64 (b:Int)∧abE W wr base X (okP (abD bs b)) V1 (aae (abD bs b) V1)∧V1 .blks = .slice ba n bc) (fun s3 _=>n - (intOf s3).toNat)
 case atStart=>exact⟨0,V,Aaj _,rfl,cr.out,fO.out⟩
 case round =>
  obtain⟨wo,eO⟩:∃wo:World,wo=wr:=⟨_,rfl⟩
  subst eO;obtain⟨b,V1,hb,rfl,aj,dm⟩:=hrel;have ay:=hid aj;have e4:=hid dm;obtain⟨dy,cQ⟩:=acD aX.out b (by rw [<-Hn.out];exact hb);obtain⟨l0,dD⟩:∃l0,l0=abD bs b:=⟨_,rfl⟩
  rw [<-dD] at dy cQ aj;rw [<-Hn.out] at cQ;have bP:wo.heap[UB]?=some (.cells #[.string nm,.int .i64 p,.int .i64 r,.slice ba n bc] 37 (0,0)):=(aj.kept UB HX.out.1).trans H0.out;obtain⟨c0,c1,c2,c3⟩:=(aad (cs:=[_,_,_,_]) bP).get4;rw [Aab] at c1 c2 c3
  by_cases hbn:b<n
  . obtain⟨R,rc,eK,-,-,-,hJ⟩:=aj.rows.addr (p := .blks) trivial (by simp [aae];omega)
    rw [dm] at eK;have gE:ba=some ⟨R,0,none⟩:=by injection eK
    subst gE;have fP:b<l0.length:=by omega
    have cR:=hid dD;have fX:=hid dy;have fR:=hid cQ;clear aj dm dy cQ dD bP eK hJ c0 c1 c2;go_upto_region 5 with (fail)
    clear c3;go_loopg [5] (jN l0) (fun g s5 wr=>∃(l:List DBlock) (V2:Pth->Value),g=jN l∧abL (jN l) l b=abL (jN l0) l0 b∧ae4 l∧l.length=n∧abE W wr base X (okP l) V2 (aae l V2)∧V2 .blks = .slice (some ⟨R,0,none⟩) n bc)
    case atStart=>exact⟨l0,V1,rfl,rfl,fX.out,fR.out,by rw [cR.out];exact ay.out,e4.out⟩
    case round =>
     obtain⟨wi,gy⟩:∃wi:World,wi=wr:=⟨_,rfl⟩
     subst gy;obtain⟨l,V2,hg,eh,aZ,bI,ah,bp⟩:=hrel;have ak:b<l.length:=by omega
     obtain⟨x,hx⟩:∃x,x=blkOf l b:=⟨_,rfl⟩
     obtain⟨ta,tc,aN⟩:=aah.shape (p := .to b) ah.rows ak;obtain⟨tn,aR⟩:∃tn,tn=x.fin.to.length:=⟨_,rfl⟩
     rw [show (aae l V2 (.to b)).length=tn by simp [aae,aR,hx]] at aN;obtain⟨la,lc,cW⟩:=aah.shape (p := .list b) ah.rows ak;obtain⟨ln,du⟩:∃ln,ln=x.list.length:=⟨_,rfl⟩
     rw [show (aae l V2 (.list b)).length=ln by simp [aae,du,hx]] at cW;obtain⟨ek,cv⟩:∃ek,ek=x.fin.kind:=⟨_,rfl⟩
     have aI:∀c,c<l.length->(aae l V2 .blks)[c]?=some (abe (blkOf l c) (V2 (.phis c)) (V2 (.list c)) (V2 (.to c))):=fun c hc=>by
      simp only [aae];rw [aai,aan l hc];rfl
     have aK:=ah.rows.at (p := .blks) trivial (g:=R) (n:=n) (c:=bc) bp (aI b ak);have r2:wi.cell? ⟨R,b * 6+2,none⟩=some (.int .i64 ek):=by rw [cv,hx];exact aK.1 2 _ rfl
     have r5:wi.cell? ⟨R,b * 6+5,none⟩=some (.slice ta tn tc):=by rw [<-aN];exact aK.1 5 _ rfl
     have r1:wi.cell? ⟨R,b * 6+1,none⟩=some (.slice la ln lc):=by rw [<-cW];exact aK.1 1 _ rfl
     have bu:wi.heap[UB]?=some (.cells #[.string nm,.int .i64 p,.int .i64 r,.slice (some ⟨R,0,none⟩) n bc] 37 (0,0)):=(ah.kept UB HX.out.1).trans H0.out;have dc:=hid eh;have al:=hid aZ;have bz:=hid bI;have ag:=hid ah;have aS:=hid bp;have h7:=hid aI;have Hx:=hid hx;have dS:=hid aN;have cf:=hid cW;have cX:=hid aK;have ey:=hid bu;have cb:Hid (tn=x.fin.to.length∧ln=x.list.length∧ek=x.fin.kind):=⟨aR,du,cv⟩
     have Hg:=hid hg
     by_cases hk2:ek=2
     . have fV:=aml hk2
       have cg:tn=1:=by rw [aR];exact aZ.jump x (by rw [hx];exact aar ak) (by rw [<-cv];exact hk2)
       obtain⟨t,ht⟩:∃t,t=toJ l b:=⟨_,rfl⟩
       have aA:x.fin.to=[((t:Nat):Int)]∧t<l.length:=by
        match hh:x.fin.to,aR with
        | [u],_ =>
          have hu:=aZ.ok.toIn x (by rw [hx];exact aar ak) u (by rw [hh];simp);have e:((t:Nat):Int)=u:=by rw [ht];unfold toJ;rw [<-hx,hh];simp;omega
          exact⟨by rw [e],by omega⟩
        | [],h=>rw [cg] at h;simp at h
        | _ :: _ :: _,h=>rw [cg] at h;simp at h
       have ar:(aae l V2 (.to b))[0]?=some [.int .i64 (t:Int)]:=by
        simp only [aae];rw [<-hx,aA.1];rfl
       obtain⟨G,ei,bV,-,-,-,-⟩:=ah.rows.addr (p := .to b) ak (Aca (Aaj _) (Aad.1 ar).1);rw [aN] at bV;have eg:ta=some ⟨G,0,none⟩:=by injection bV
       subst eg;have t0:=(ah.rows.at (p := .to b) ak aN ar).1.get1;rw [show 0 * Pth.sz (.to b)=0 by simp] at t0;obtain⟨y,hy⟩:∃y,y=blkOf l t:=⟨_,rfl⟩
       obtain⟨pa,pc,bg⟩:=aah.shape (p := .phis t) ah.rows aA.2;obtain⟨ya,yc,bo⟩:=aah.shape (p := .list t) ah.rows aA.2;obtain⟨za,zc,bx⟩:=aah.shape (p := .to t) ah.rows aA.2;obtain⟨pn,bA⟩:∃pn,pn=y.phis.length:=⟨_,rfl⟩
       obtain⟨yn,eL⟩:∃yn,yn=y.list.length:=⟨_,rfl⟩
       obtain⟨zn,dV⟩:∃zn,zn=y.fin.to.length:=⟨_,rfl⟩
       rw [show (aae l V2 (.phis t)).length=pn by simp [aae,bA,hy]] at bg;rw [show (aae l V2 (.list t)).length=yn by simp [aae,eL,hy]] at bo;rw [show (aae l V2 (.to t)).length=zn by simp [aae,dV,hy]] at bx;obtain⟨yk,ec⟩:∃yk,yk=y.fin.kind:=⟨_,rfl⟩
       obtain⟨yr,eo⟩:∃yr,yr=y.fin.on.reg:=⟨_,rfl⟩
       obtain⟨ym,dX⟩:∃ym,ym=y.fin.on.n:=⟨_,rfl⟩
       have bZ:=ah.rows.at (p := .blks) trivial (g:=R) (n:=n) (c:=bc) bp (aI t aA.2);have bJ:aal wi R (t * 6) [.slice pa pn pc,.slice ya yn yc,.int .i64 yk,.bool yr,.int .i64 ym,.slice za zn zc]:=by
        have h:=bZ.1;rw [bg,bo,bx,<-hy] at h;rw [ec,eo,dX];exact h
       obtain⟨y0,y1,y2,y3,y4,y5⟩:=bJ.get6;have c3:=(aad (cs:=[_,_,_,_]) bu) 3 _ rfl;rw [Aab] at c3;have gV:t<n:=by omega
       have Ht:Hid (t=toJ l b∧x.fin.to=[((t:Nat):Int)]∧t<l.length):=⟨ht,aA.1,aA.2⟩
       have Hy:=hid hy;have bT:Hid (pn=y.phis.length∧yn=y.list.length∧zn=y.fin.to.length∧yk=y.fin.kind∧yr=y.fin.on.reg∧ym=y.fin.on.n):=⟨bA,eL,dV,ec,eo,dX⟩
       have ee:Hid (V2 (.phis t) = .slice pa pn pc∧V2 (.list t) = .slice ya yn yc∧V2 (.to t) = .slice za zn zc):=⟨bg,bo,bx⟩
       have hG:=hid bZ;subst cg;clear hg eh aZ bI ah bp aI hx aN aR cW du cv aK bu ht aA ar bV hy bg bo bx bA eL dV ec eo dX bZ bJ;go_upto_region 8 with (fail)
       obtain⟨YB,c4⟩:∃YB,YB=wi.heap.size:=⟨_,rfl⟩
       obtain⟨W4,cF⟩:∃W4,W4=wi.alloc (.cells #[.slice pa pn pc,.slice ya yn yc,.int .i64 yk,.bool yr,.int .i64 ym,.slice za zn zc] 46):=⟨_,rfl⟩
       have dR:W4.heap[YB]?=some (.cells #[.slice pa pn pc,.slice ya yn yc,.int .i64 yk,.bool yr,.int .i64 ym,.slice za zn zc] 46 (0,0)):=by rw [cF,c4];exact heap_alloc_new _ _
       rw [<-cF,<-c4];have eJ:Below wi.heap.size wi W4:=by rw [cF];exact bE
       have fx:W4.heap.size=YB+1:=by rw [cF,c4];simp
       have dp:Hid (YB=wi.heap.size∧W4.heap.size=YB+1):=⟨c4,fx⟩
       obtain⟨w0,w1,w2,w3,w4,w5⟩:=(aad (cs:=[_,_,_,_,_,_]) dR).get6;rw [Aab] at w1 w2 w3 w4 w5;have gp:=hid dR;have bX:=hid eJ;have bO:W4.heap[UB]?=some (.cells #[.string nm,.int .i64 p,.int .i64 r,.slice (some ⟨R,0,none⟩) n bc] 37 (0,0)):=(eJ.block UB (ag.out.x_lt HX.out.1)).trans ey.out;obtain⟨c0,c1,c2,c3⟩:=(aad (cs:=[_,_,_,_]) bO).get4;rw [Aab] at c1 c2 c3;have gr:=hid bO;clear c4 cF dR eJ fx bO y0 y1 y2 y3 y4 y5 r1 r2 r5 t0
       by_cases aD:t=b
       . have fT:=asu aD
         have ao:Hid (acd l b=false):=by
          show _=_;unfold acd;rw [<-Ht.out.1,decide_eq_false (fun h:t≠b=>h aD)];simp
         clear aD;go_wp2_with fail;go_roundw
         case rel=>exact⟨b+1,V2,by omega,by go_num,by rw [abr,<-cR.out,<-dc.out,acV ao.out];exact ag.out.later bX.out,aS.out⟩
         case measure=>simp [intOf];omega
       . have fT:=atu aD
         by_cases hp0:pn=0
         . subst hp0
           obtain⟨an,aM⟩:∃an,an=(aaf l 0 t).length:=⟨_,rfl⟩
           have ck:Hid (Calls Tryz.prog 74 #[.agg #[.string nm,.int .i64 p,.int .i64 r,.slice (some ⟨R,0,none⟩) n bc]] W4 fun e w'=>∃ab aC ac ra rc,e = .returned (.slice (some ⟨ab,aC,none⟩) n ac)∧w'.cell? ⟨ab,aC+t,none⟩=some (.slice ra an rc)∧Below W4.heap.size W4 w'):=by
            have bq:=(show abK W4 base l V2 from (ag.out.later bX.out).rows).read al.out.ok.num;rw [aS.out] at bq;have fK:=adQ nm p r (some ⟨R,0,none⟩) bc l W4 (by rw [bz.out];exact bq) al.out.ok.len al.out.ok.hto;rw [bz.out] at fK;refine fK.mono ?_;rintro e w' ⟨v,rfl,hv,hb⟩;obtain⟨aa,ac,rfl,-⟩:=id hv.val;rw [show (aheadF l).length=n by simp [aheadF,bz.out]] at hv ⊢;have gP:t<(aheadF l).length:=by simp [aheadF,bz.out];omega
            obtain⟨ab,aC,cs,eT,-,cS,-,bm⟩:=hv.get gP;rw [show (aheadF l)[t]=aaf l 0 t from (Aad.1 (ajp Ht.out.2.2)).2] at cS;obtain⟨rv,rfl,cu⟩:=cS;obtain⟨ra,rc,rfl,-⟩:=id cu.val;subst eT;have cq:=bm.get1;rw [Abd,<-aM] at cq;exact⟨ab,aC,ac,ra,rc,rfl,cq,hb⟩
           by_cases han1:1<an
           . have gT:decide ((1:Int)<(an:Int))=true:=decide_eq_true (by omega)
             have ao:Hid (acd l b=false):=by
              show _=_;unfold acd;rw [<-Ht.out.1,<-aM,decide_eq_false (show ¬an<=1 by omega)];simp
             clear aD han1 aM;go_wp2_with (go_at_call 74;refine ck.out.mono ?_;rintro e w5 ⟨ab,aC,ac,ra,rc,rfl,fH,da⟩;have df:=hid da;clear da);go_roundw
             case rel=>exact⟨b+1,V2,by omega,by go_num,by rw [abr,<-cR.out,<-dc.out,acV ao.out];exact ag.out.later (bX.out.trans (df.out.mono bX.out.size)),aS.out⟩
             case measure=>simp [intOf];omega
           . have gT:decide ((1:Int)<(an:Int))=false:=decide_eq_false (by omega)
             have bf:Hid (acd l b=true):=by
              show _=_;unfold acd;rw [<-Ht.out.1,<-aM,<-Hx.out,<-cb.out.2.2,<-Hy.out,<-bT.out.1,decide_eq_true hk2,decide_eq_true (show t≠b from aD),decide_eq_true (show an<=1 by omega)];rfl
             have bB:Hid (t≠b):=aD;clear aD han1 aM;go_upto_region 9 with (go_at_call 74;refine ck.out.mono ?_;rintro e w5 ⟨ab,aC,ac,ra,rc,rfl,fH,da⟩;have df:=hid da;clear da)
             have aO:Below wi.heap.size wi w5:=bX.out.trans (df.out.mono bX.out.size);have h5:abE W w5 base X (okP l) V2 (aae l V2):=ag.out.later aO;have dC:=aab w1 df.out;have dK:w5.cell? ⟨R,b * 6+1,none⟩=some (.slice la ln lc):=by
              have h:=cX.out.1 1 (V2 (.list b)) rfl;rw [cf.out] at h;exact aab h aO
             have fh:R<wi.heap.size:=(ag.out.rows.lt (p := .blks) trivial R (by rw [aS.out];rfl)).2;have fl:w5.frozen? ⟨R,b * 6+1,none⟩=false:=(aO.frozen (p:=⟨R,b * 6+1,none⟩) fh).trans (cX.out.2 _);have cO:∀u∈(aae l V2 (.list t)).flatten,u.oneCell'=true:=by
              refine akj fun cs gf u hu=>?_;obtain⟨m,hm⟩:=Acl.1 gf;simp only [aae] at hm;rw [aai] at hm;cases hz:(blkOf l t).list[m]? with
              | none=>rw [hz] at hm;cases hm
              | some z =>
                rw [hz] at hm;cases hm;obtain⟨xa,xc,gQ⟩:=aah.shape (p := .args t m) ag.out.rows (show m<_ from (Aad.1 hz).1);simp only [abN,Aam,Aaq,or_false] at hu;rcases hu with rfl | rfl | rfl | rfl | rfl | rfl | rfl | rfl <;> first | rfl | (rw [gQ];rfl)
             have aQ:(aae l V2 (.list b)).length=ln:=by simp [aae,<-Hx.out,<-cb.out.2.1]
             have aB:(aae l V2 (.list t)).length=yn:=by simp [aae,<-Hy.out,<-bT.out.2.1]
             have fp:∀cs∈aae l V2 (.list t),cs.length=8:=h5.rows.wid (.list t) Ht.out.2.2;obtain⟨i0,e0,fm,ft,cC⟩:=info_parts ahq;have aW:=h5.rows.own (.list b) ak;have a8:=h5.rows.own (.list t) Ht.out.2.2;rw [aQ,cf.out] at aW;rw [aB,ee.out.2.1] at a8;have eu:=(al.out.ok.small _ (aar ak)).list;have et:=(al.out.ok.small _ (aar Ht.out.2.2)).list;rw [<-Hx.out,<-cb.out.2.1] at eu;rw [<-Hy.out,<-bT.out.2.1] at et;have eH:Hid (∀ty,∃v' w',(Builtin.append_ #[39,39] ty #[.slice la ln lc,.slice ya yn yc]).run Tryz.prog w5.drew = .ok v' w'∧w'.ownsRow base 49 8 v' (ln+yn) ((aae l V2 (.list b)).flatten++(aae l V2 (.list t)).flatten)∧w5.grownBy w' (Value.slice la ln lc).ownBlock∧(v'.ownBlock=(Value.slice la ln lc).ownBlock∨v'.ownBlock=some w5.heap.size)):=fun ty=>by
              obtain ⟨v', w', g1, g2, g3, g4⟩ := ahZ (P := Tryz.prog) (w := w5.drew) base 39 ty 49 i0 _ 8 _ Tryz.underlying39 e0 fm ft cC rfl (by decide) (.slice la ln lc) ln (aae l V2 (.list b)).flatten (aao aW (Below.refl _ _).drew) ya yn yc (aae l V2 (.list t)).flatten (by rw [abp _ (fun i cs hi => fp cs (Aae hi)), aB]) (fun hm => by
               obtain ⟨g, c, e, -, -, -, -⟩ := h5.rows.addr (p := .list t) Ht.out.2.2 (by rw [aB]; exact hm)
               rw [ee.out.2.1] at e
               have hI : ya = some ⟨g, 0, none⟩ := by injection e
               subst hI
               exact ⟨⟨g, 0, none⟩, rfl, fun j u hj => a8.cells (g := g) rfl j u hj⟩) cO (by unfold maxLen; omega) (by omega) (Aai (h5.base_le) (Aac _))
              exact⟨v',w',g1,g2,aa4 (acS w5 _) g3,g4⟩
             have br:Hid (R≠YB∧∀k,(Value.slice la ln lc).ownBlock=some k->k≠R∧k≠YB∧k≠UB):=by
              refine⟨by have:=dp.out;omega,fun k hk=>⟨fun e=>?_,fun e=>?_,fun e=>?_⟩⟩
              . exact ag.out.rows.apart (.list b) .blks ak trivial (by simp) k (by rw [cf.out];exact hk) (by rw [aS.out,e];rfl)
              . have:=(ag.out.rows.lt (p := .list b) ak k (by rw [cf.out];exact hk)).2
                have:=dp.out;omega
              . exact ag.out.off (.list b) ak k (by rw [cf.out];exact hk) (by rw [e];exact HX.out.1)
             have ij:Hid (w5.drew.cell? ⟨YB,1,none⟩=some (.slice ya yn yc)):=dC;have zY:YB<w5.heap.size:=aac dC;have zR:R<w5.heap.size:=aac dK;have H5:=hid h5;have gW:=hid aO;have cH:Hid ((aae l V2 (.list b)).length=ln∧(aae l V2 (.list t)).length=yn):=⟨aQ,aB⟩
             clear aO h5 cO aQ aB fp aW a8 fh w0 w1 w2 w3 w4 c0 c1 c2 c3 fH e0 fm ft cC
             go_region_law
              ((refine aiu rfl _ _ 39 39 rfl (.slice la ln lc) (.slice ya yn yc) rfl rfl eH.out ?_
                intro v9 w9 ⟨dN, eE, dk⟩
                obtain ⟨va, vc, rfl⟩ := aap dN
                have hk : ∀ x, x < w5.heap.size -> (∀ k, (Value.slice la ln lc).ownBlock = some k -> k ≠ x) -> w9.heap[x]? = w5.heap[x]? := fun x h1 h2 => eE.block x h1 (fun e => h2 x e.symm rfl)
                have n1 := (World.cell?_of_block (w := w5) (a := ⟨R, b * 6 + 1, none⟩) (hk R zR (fun k hk => (br.out.2 k hk).1))).trans dK
                have nz := (World.frozen?_of_block (w := w5) (a := ⟨R, b * 6 + 1, none⟩) (hk R zR (fun k hk => (br.out.2 k hk).1))).trans fl
                have n2 := (World.cell?_of_block (w := w5) (a := ⟨YB, 1, none⟩) (hk YB zY (fun k hk => (br.out.2 k hk).2.1))).trans dC
                have hZ := hid n2
                have hD : Hid ((w9.setCell ⟨R, b * 6 + 1, none⟩ (.slice va (ln + yn) vc)).cell? ⟨YB, 1, none⟩ = some (.slice ya yn yc)) := (aam _ (fun e => br.out.1 e.symm) _ _).trans n2
                have gN := hid hk
                have gg := hid dN
                have hU := hid eE
                have dj := hid dk
                clear hk dN eE dk n2))
             all_goals
              obtain⟨bG,bn⟩:∃bG,bG=w9.setCell ⟨R,b * 6+1,none⟩ (.slice va (ln+yn) vc):=⟨_,rfl⟩
              have bk := H5.out.addList (t := t) (R := R) (n := n) (bc := bc) (v' := .slice va (ln + yn) vc) ak aS.out gg.out (by rw [cH.out.1, cH.out.2]) (by rw [cf.out]; exact hU.out) (fun k hk => by
               rw [cf.out]
               rcases dj.out with h | h
               . exact .inl (by rw [<- h]; exact hk)
               . rw [h] at hk; cases hk; exact .inr (Aac _))
              rw [<-bn] at bk;obtain⟨V3,cn⟩:∃V3,V3=aaU V2 (.list b) (.slice va (ln+yn) vc):=⟨_,rfl⟩
              rw [<-cn] at bk;have dw:V3 .blks = .slice (some ⟨R,0,none⟩) n bc:=by rw [cn,aag _ _ (by simp)];exact aS.out
              have bR:bG.heap[YB]?=some (.cells #[.slice pa 0 pc,.slice ya yn yc,.int .i64 yk,.bool yr,.int .i64 ym,.slice za zn zc] 46 (0,0)):=by
               rw [bn,Below.heap_setCell _ _ _ _ (fun e=>br.out.1 (by rw [<-show YB=R from e])),gN.out YB zY (fun k hk=>(br.out.2 k hk).2.1)];exact (df.out.block YB (by have:=dp.out;omega)).trans gp.out
              have dd:bG.heap[UB]?=some (.cells #[.string nm,.int .i64 p,.int .i64 r,.slice (some ⟨R,0,none⟩) n bc] 37 (0,0)):=(bk.kept UB HX.out.1).trans H0.out;have cT:abE bG bG base (fun z=>X z∨z=YB) (okP l) V3 (afY l V3 (agq l V3 b t)):=by
               refine (bk.keep (fun z hz=>?_) (fun q hq k hk hz=>?_)).congr (fun q _=>rfl) (fun q _=>?_)
               . rcases hz with h | h
                 . exact bk.x_lt h
                 . rw [h];exact (Aag.1 bR).1
               . rcases hz with h | h
                 . exact bk.off q hq k hk h
                 . by_cases e:q = .list b
                   . subst e
                     rw [cn,aaj] at hk;rcases dj.out with h2 | h2
                     . exact (br.out.2 k (by rw [<-h2];exact hk)).2.1 h
                     . rw [h2] at hk;cases hk;omega
                   . rw [cn,aag _ _ e] at hk
                     have:=(ag.out.rows.lt hq k hk).2;have:=dp.out;omega
               . cases q with
                 | src c j=>exact (abt (.src c j) (by simp)).symm
                 | _=>rfl
              have bq:=anw bk.rows al.out.ok.num ak Ht.out.2.2;rw [dw] at bq;have eF:=hid (anM nm p r l (l.set b (atG l b t)) V3 (agq l V3 b t) (fun z=>X z∨z=YB) base UB R t b n bc bG dd cT (.inl HX.out.1) (fun q hq=>abt q hq) dw bq (by rw [Aar];exact bz.out) (fun c=>by rw [amJ l b t ak c]) bz.out al.out.ok (by have:=bz.out;omega) hbn);have ew:=hid bk;have er:=hid bR;have hL:=hid cn;have c9:=hid dw;have eP:=hid bn;clear bk bR dd cT bq cn dw bn n1 nz dC dK fl zY zR;go_upto_region 11 with (rw [<-eP.out];go_at_call 88;refine eF.out.mono ?_;rintro e aq ⟨rfl,fi⟩;have dF:=hid fi;clear fi)
              have cL:aq.heap[YB]?=some (.cells #[.slice pa 0 pc,.slice ya yn yc,.int .i64 yk,.bool yr,.int .i64 ym,.slice za zn zc] 46 (0,0)):=(dF.out.kept YB (.inr rfl)).trans er.out;have cV:aq.heap[UB]?=some (.cells #[.string nm,.int .i64 p,.int .i64 r,.slice (some ⟨R,0,none⟩) n bc] 37 (0,0)):=(dF.out.kept UB (.inl HX.out.1)).trans ((ew.out.kept UB HX.out.1).trans H0.out);obtain⟨-,-,y2,y3,y4,y5⟩:=(aad (cs:=[_,_,_,_,_,_]) cL).get6;rw [Aab] at y2 y3 y4 y5;have bM:∀c,c<l.length->(afY (agU l t b (blkOf l t).fin.to.length) V3 (agq l V3 b t) .blks)[c]?=some (abe (blkOf l c) (V3 (.phis c)) (V3 (.list c)) (V3 (.to c))):=fun c hc=>by
               show (agq l V3 b t .blks)[c]?=_;rw [abt _ (by simp)];simp only [aae];rw [aai,aan l hc];rfl
              have au:=dF.out.rows.at (p := .blks) trivial (g:=R) (n:=n) (c:=bc) c9.out (bM b ak);obtain⟨-,-,b2,b3,b4,b5⟩:=au.1.get6;have z2:=au.2 (b * 6+2);have z3:=au.2 (b * 6+3);have z4:=au.2 (b * 6+4);have z5:=au.2 (b * 6+5);have hN:aq.cell? ⟨R,b * 6+2,none⟩=some (.int .i64 (blkOf l b).fin.kind):=b2;have hE:aq.cell? ⟨R,b * 6+3,none⟩=some (.bool (blkOf l b).fin.on.reg):=b3;have fQ:aq.cell? ⟨R,b * 6+4,none⟩=some (.int .i64 (blkOf l b).fin.on.n):=b4;have gn:aq.cell? ⟨R,b * 6+5,none⟩=some (V3 (.to b)):=b5;have cN:=hid bM;have fY:=hid cV;clear cL cV bM au b2 b3 b4 b5;go_upto_region 12 with (fail)
              obtain⟨bd,bU⟩:∃bd,bd=(((aq.setCell ⟨R,b * 6+2,none⟩ (.int .i64 yk)).setCell ⟨R,b * 6+2+1,none⟩ (.bool yr)).setCell ⟨R,b * 6+2+2,none⟩ (.int .i64 ym)).setCell ⟨R,b * 6+2+3,none⟩ (.slice za zn zc):=⟨_,rfl⟩
              rw [<-bU];have dt:abE bG bd base (fun z=>X z∨z=YB) (okP l) V3 (aaU (afY (agU l t b (blkOf l t).fin.to.length) V3 (agq l V3 b t)) .blks (((afY (agU l t b (blkOf l t).fin.to.length) V3 (agq l V3 b t)) .blks).set b [V3 (.phis b),V3 (.list b),.int .i64 yk,.bool yr,.int .i64 ym,.slice za zn zc])):=by
               rw [bU];exact dF.out.set4 trivial c9.out (i:=b) (cN.out b ak) (.int .i64 yk) (.bool yr) (.int .i64 ym) (.slice za zn zc)
              have dY:(aaU (afY (agU l t b (blkOf l t).fin.to.length) V3 (agq l V3 b t)) .blks (((afY (agU l t b (blkOf l t).fin.to.length) V3 (agq l V3 b t)) .blks).set b [V3 (.phis b),V3 (.list b),.int .i64 yk,.bool yr,.int .i64 ym,.slice za zn zc]) .blks)[t]?=some (abe (blkOf l t) (V3 (.phis t)) (V3 (.list t)) (V3 (.to t))):=by
               rw [aaj,Acm (fun e=>bB.out e.symm)];exact cN.out t Ht.out.2.2
              have ai:=dt.rows.at (p := .blks) trivial (g:=R) (n:=n) (c:=bc) c9.out dY;obtain⟨t0,t1,t2,t3,t4,t5⟩:=ai.1.get6;have ib:bd.cell? ⟨R,t * 6,none⟩=some (V3 (.phis t)):=t0;have hY:bd.cell? ⟨R,t * 6+1,none⟩=some (V3 (.list t)):=t1;have h9:bd.cell? ⟨R,t * 6+2,none⟩=some (.int .i64 (blkOf l t).fin.kind):=t2;have iq:bd.cell? ⟨R,t * 6+3,none⟩=some (.bool (blkOf l t).fin.on.reg):=t3;have ih:bd.cell? ⟨R,t * 6+4,none⟩=some (.int .i64 (blkOf l t).fin.on.n):=t4;have h8:bd.cell? ⟨R,t * 6+5,none⟩=some (V3 (.to t)):=t5;have x0:=ai.2 (t * 6);have x1:=ai.2 (t * 6+1);have x2:=ai.2 (t * 6+2);have x3:=ai.2 (t * 6+3);have x4:=ai.2 (t * 6+4);have x5:=ai.2 (t * 6+5);have dg:bd.heap[UB]?=some (.cells #[.string nm,.int .i64 p,.int .i64 r,.slice (some ⟨R,0,none⟩) n bc] 37 (0,0)):=(dt.kept UB (.inl HX.out.1)).trans ((ew.out.kept UB HX.out.1).trans H0.out);have c3:=(aad (cs:=[_,_,_,_]) dg) 3 _ rfl;rw [Aab] at c3;have fw:=dt.set6 trivial c9.out (i:=t) dY (.slice none 0 0) (.slice none 0 0) (.int .i64 1) (.bool false) (.int .i64 0) (.slice none 0 0)
              have fu := anx (b := b) al.out ak bf.out fw (fun q hq => by
               rw [aag _ _ hq, aag _ _ hq, <- Ht.out.1]; rfl) (by
               rw [aaj, aaj, <- Ht.out.1]
               have e1 : afY (agU l t b (blkOf l t).fin.to.length) V3 (agq l V3 b t) .blks = aae l V3 .blks := abt .blks (by simp)
               have e2 : V3 (.to t) = .slice za zn zc := by rw [hL.out, aag _ _ (by simp)]; exact ee.out.2.2
               rw [e1, e2]
               unfold abe
               show _ = ((aae l V3 .blks).set b [V3 (.phis b), V3 (.list b), .int .i64 (blkOf l t).fin.kind, .bool (blkOf l t).fin.on.reg, .int .i64 (blkOf l t).fin.on.n, .slice za zn zc]).set t _
               rw [<- Hy.out, <- bT.out.2.2.2.1, <- bT.out.2.2.2.2.1, <- bT.out.2.2.2.2.2]; rfl)
              have fZ:=hid (ew.out.trans fu (fun z hz => .inl hz));clear bU dt dY ai t0 t1 t2 t3 t4 t5 dg fw fu y2 y3 y4 y5 z2 z3 z4 z5 hN hE fQ gn;go_wp2_with fail;go_roundg (jN (aaJ l b))
              case measure =>
               have h1:=ag4 al.out ak bf.out;have h2:=Hg.out;omega
              case rel =>
               refine⟨aaJ l b,ap9 l b (toJ l b) V3,rfl,by rw [<-akJ al.out ak bf.out];exact dc.out,adg al.out ak bf.out,by rw [aaQ];exact bz.out,fZ.out,?_⟩;unfold ap9;rw [aag _ _ (by simp),aag _ _ (by simp),aag _ _ (by simp)];exact c9.out
         . have ig:decide (0<pn)=true:=decide_eq_true (by omega)
           have ao:Hid (acd l b=false):=by
            show _=_;unfold acd;rw [<-Ht.out.1,<-Hy.out,<-bT.out.1,decide_eq_false hp0];simp
           clear hp0 aD;go_wp2_with fail;go_roundw
           case rel=>exact⟨b+1,V2,by omega,by go_num,by rw [abr,<-cR.out,<-dc.out,acV ao.out];exact ag.out.later bX.out,aS.out⟩
           case measure=>simp [intOf];omega
     . have fV:=ac0 hk2
       have ao:Hid (acd l b=false):=by
        show _=_;unfold acd;rw [<-hx,<-cv,decide_eq_false hk2];rfl
       clear hg eh aZ bI ah bp aI hx aN aR cW du cv aK bu hk2;go_wp2_with fail;go_roundw
       case rel=>exact⟨b+1,V2,by omega,by go_num,by rw [abr,<-cR.out,<-dc.out,acV ao.out];exact ag.out,aS.out⟩
       case measure=>simp [intOf];omega
  . have dQ:b=n:=by omega
    subst dQ;have bK:wo.heap[UO]?=some (.cells #[.string ⟨#[]⟩,.int .i64 0,.int .i64 0,.slice none 0 0] 37 (0,0)):=(aj.kept UO HX.out.2).trans H1.out;obtain⟨o0,o1,o2,o3⟩:=(aad (cs:=[_,_,_,_]) bK).get4;rw [Aab] at o1 o2 o3;have z0:=aaq bK 0;have z1:=aaq bK 1;have z2:=aaq bK 2;have z3:=aaq bK 3;have gZ:Hid (aal wo UO 0 [.string ⟨#[]⟩,.int .i64 0,.int .i64 0,.slice none 0 0]):=aad bK;clear bP bK hbn hb aj dy cQ dD dm;go_wp2_with fail;have ga:=as3 (u0 := .string nm) (u1 := .int .i64 p) (u2 := .int .i64 r) (u3 := .slice ba b bc) gZ.out;refine bodyPost_ret (adR rfl rfl ga) rfl ?_;have ds:∀q,okP (abD bs b) q->(V1 q).ownBlock≠some UO:=fun q hq e=>ay.out.off q hq UO e HX.out.2;have cD:=((((ay.out.rows.setOff (o:=0) ds (.string nm)).setOff (o:=1) ds (.int .i64 p)).setOff (o:=2) ds (.int .i64 r)).setOff (o:=3) ds (.slice ba b bc))
    refine⟨V1,by rw [e4.out],by unfold acm;rw [<-Hn.out];exact cD,?_,?_⟩
    . have gm:=(eC.out.mono HB.out).trans ay.out.low
      have h2:base<=UO:=by have:=eY.out;have:=HB.out;omega
      exact (((gm.setCell (p:=⟨UO,0,none⟩) h2 _).setCell (p:=⟨UO,1,none⟩) h2 _).setCell (p:=⟨UO,2,none⟩) h2 _).setCell (p:=⟨UO,3,none⟩) h2 _
    . intro b2 ep
      have ak:=(HS.out b2 ep).1;have h2:b2≠UO:=by have:=eY.out;omega
      refine⟨?_,fun q hq e=>ay.out.off q (by unfold acm at hq;rw [<-Hn.out] at hq;exact hq) b2 e (eX.out b2 ep)⟩;refine ((((Kp.refl (fun b=>b≠UO) wo).set (a:=⟨UO,0,none⟩) (fun h=>h rfl) _).set (a:=⟨UO,1,none⟩) (fun h=>h rfl) _).set (a:=⟨UO,2,none⟩) (fun h=>h rfl) _ |>.set (a:=⟨UO,3,none⟩) (fun h=>h rfl) _).block b2 ?_ h2 |>.trans ?_
      . exact Aay ak (Aai eC.out.size ay.out.low.size)
      . exact (ay.out.kept b2 (eX.out b2 ep)).trans (eC.out.block b2 ak)
end
section
open Go.RowKit
structure Nm where
 now:List Int
 many:Int
def nmS(s:Nm)(r:Int):Nm:=if s.now.getD r.toNat 0<0 then ⟨s.now.set r.toNat s.many,s.many+1⟩ else s
def nmR(s:Nm)(r:Int):Int:=(nmS s r).now.getD r.toNat 0
def aeY(s:Nm)(v:aaA):Nm:=if v.reg then nmS s v.n else s
def aep(s:Nm)(v:aaA):aaA:=if v.reg then ⟨true,nmR s v.n⟩ else v
structure aha (n:Nat)(s:Nm):Prop where
 len:s.now.length=n
 lo:∀x∈s.now,-1<=x∧x<s.many
 cnt:s.many=(s.now.countP (fun x=>decide (0<=x)):Nat)
variable {n:Nat}{s:Nm}
theorem aha.many_le(h:aha n s):0<=s.many∧s.many<=n:=by
 have:=h.cnt;have h2:=List.countP_le_length (p:=fun x:Int=>decide (0<=x)) (l:=s.now);have:=h.len;omega
theorem adJ {p : Int -> Bool} : ∀ {l : List Int} {i : Nat} {x y : Int}, l[i]? = some x -> p x = false -> p y = true -> (l.set i y).countP p = l.countP p + 1
 | [],_,_,_,h,_,_=>by simp at h
 | a :: l,0,x,y,h,h1,h2=>by
   have e:a=x:=by simpa using h
   subst e;rw [List.set_cons_zero,List.countP_cons,List.countP_cons,h1,h2];simp
 | a :: l,i+1,x,y,h,h1,h2=>by
   rw [List.set_cons_succ,List.countP_cons,List.countP_cons,adJ (by simpa using h) h1 h2];omega
theorem aha.room(h:aha n s){r:Nat}(hr:r<n)(h0:s.now.getD r 0<0):s.many<n:=by
 have hg:s.now[r]?=some (s.now.getD r 0):=by rw [Aaf,Aaa (by rw [h.len];exact hr)];rfl
 have h1:=adJ (p:=fun x:Int=>decide (0<=x)) (y:=0) hg (decide_eq_false (by omega)) (decide_eq_true (Int.le_refl _));have h2:=List.countP_le_length (p:=fun x:Int=>decide (0<=x)) (l:=s.now.set r 0);rw [Aar] at h2;have:=h.cnt;have:=h.len;omega
theorem aha.step(h:aha n s){r:Int}(hr:0<=r∧r<n):aha n (nmS s r):=by
 unfold nmS
 by_cases h0:s.now.getD r.toNat 0<0
 . rw [if_pos h0]
   have hg:s.now[r.toNat]?=some (s.now.getD r.toNat 0):=by rw [Aaf,Aaa (by rw [h.len];omega)];rfl
   have hm:=h.many_le;refine⟨by rw [Aar];exact h.len,fun x hx=>?_,?_⟩
   . rcases List.mem_or_eq_of_mem_set hx with h1 | h1
     . have:=h.lo x h1
       show -1<=x∧x<s.many+1;omega
     . subst h1
       show -1<=s.many∧s.many<s.many+1;omega
   . show s.many+1=((s.now.set r.toNat s.many).countP _:Nat)
     rw [adJ hg (decide_eq_false (by omega)) (decide_eq_true (by omega))];have:=h.cnt;omega
 . rw [if_neg h0];exact h
theorem atO(h:aha n s){r:Int}(hr:0<=r∧r<n):0<=nmR s r∧nmR s r<(nmS s r).many∧(nmS s r).now[r.toNat]?=some (nmR s r):=by
 have h2:=h.step hr;have hg:(nmS s r).now[r.toNat]?=some (nmR s r):=by
  unfold nmR;rw [Aaf,Aaa (by rw [h2.len];omega)];rfl
 refine⟨?_,(h2.lo _ (Aae hg)).2,hg⟩;unfold nmR nmS
 by_cases h0:s.now.getD r.toNat 0<0
 . rw [if_pos h0]
   show 0<=(s.now.set r.toNat s.many).getD r.toNat 0;rw [Aaf,Aa5 (by rw [h.len];omega)];exact h.many_le.1
 . rw [if_neg h0];omega
def InV(n:Nat)(v:aaA):Prop:=v.reg=true->0<=v.n∧v.n<n
structure afC (W:World)(T NB n:Nat)(s:Nm):Prop where
 row:W.heap[T]?=some (.cells (s.now.map (Value.int .i64)).toArray 3 (0,0))
 box:W.heap[NB]?=some (.cells #[.slice (some ⟨T,0,none⟩) n n,.int .i64 s.many] 136 (0,0))
 ok:aha n s
def NmF(T NB:Nat)(b:Nat):Prop:=b≠T∧b≠NB
variable {W:World}{T NB:Nat}
theorem afC.later{W':World}(h:afC W T NB n s){F:Nat->Prop}(hk:Kp F W W')(h1:F T)(h2:F NB):afC W' T NB n s :=
 ⟨(hk.block T (Aag.1 h.row).1 h1).trans h.row,(hk.block NB (Aag.1 h.box).1 h2).trans h.box,h.ok⟩
theorem afC.live(h:afC W T NB n s):T<W.heap.size∧NB<W.heap.size:=⟨(Aag.1 h.row).1,(Aag.1 h.box).1⟩
theorem afC.below{W':World}(h:afC W T NB n s)(hb:Below W.heap.size W W'):afC W' T NB n s:=h.later (F:=fun _=>True) (Kp.of hb) trivial trivial
theorem afC.ne(h:afC W T NB n s):T≠NB:=fun e=>by
 have h1:=h.row;rw [e,h.box] at h1;have h2:=congrArg (fun o:Option Obj=>match o with | some (.cells _ t _)=>t | _=>0) h1;exact absurd (show (136:Nat)=3 from h2) (by decide)
theorem afC.put(h:afC W T NB n s){r:Nat}(hr:r<n)(h0:s.now.getD r 0<0):afC ((W.setCell ⟨T,r,none⟩ (.int .i64 s.many)).setCell ⟨NB,1,none⟩ (.int .i64 (s.many+1))) T NB n (nmS s (r:Int)):=by
 have dv:=h.ne;have h2:nmS s (r:Int)=⟨s.now.set r s.many,s.many+1⟩:=by unfold nmS;rw [Aan,if_pos h0]
 refine⟨?_,?_,h.ok.step (by omega)⟩
 . rw [Below.heap_setCell _ _ _ _ dv,aak h.row,h2]
   simp
 . have hb:(W.setCell ⟨T,r,none⟩ (.int .i64 s.many)).heap[NB]?=_:=(Below.heap_setCell W ⟨T,r,none⟩ _ _ (fun e=>dv e.symm)).trans h.box
   rw [aak hb,h2];rfl
end
section
open Go.RowKit
def abf(s:Nm)(l:List aaA):Nm:=l.foldl aeY s
def ajL(s:Nm)(d:Int):Nm:=if 0<=d then nmS s d else s
def acX(s:Nm)(y:aaK):Nm:=ajL (abf (aeY (aeY s y.a) y.b) y.args) y.dst
def anO(s:Nm)(p:acr):Nm:=nmS s p.dst
def aqc(s:Nm)(x:DBlock):Nm:=aeY (x.list.foldl acX (x.phis.foldl anO s)) x.fin.on
def aib(s:Nm)(p:Nat):Nm:=(List.range p).foldl (fun (s:Nm) (r:Nat)=>nmS s (r:Int)) s
def abG(s:Nm)(l:List aaA)(k:Nat):List aaA:=l.mapIdx fun m v=>if m<k then aep (abf s (l.take m)) v else v
def ai8(s:Nm)(p:acr):Nm:=abf (nmS s p.dst) p.src
def atQ(s:Nm)(p:acr)(k:Nat):acr:=⟨nmR s p.dst,abG (nmS s p.dst) p.src k⟩
def atb(s:Nm)(p:acr):acr:=atQ s p p.src.length
def aco(s:Nm)(l:List acr)(k:Nat):List acr:=l.mapIdx fun i p=>if i<k then atb ((l.take i).foldl ai8 s) p else p
def afc(s:Nm)(y:aaK):Nm:=aeY (aeY s y.a) y.b
def at2(s:Nm)(d:Int):Int:=if 0<=d then nmR s d else d
def arx(s:Nm)(y:aaK):aaK:=⟨y.op,at2 (abf (afc s y) y.args) y.dst,aep s y.a,aep (aeY s y.a) y.b,y.fn,abG (afc s y) y.args y.args.length⟩
def adX(s:Nm)(l:List aaK)(k:Nat):List aaK:=l.mapIdx fun i y=>if i<k then arx ((l.take i).foldl acX s) y else y
def ary(s:Nm)(x:DBlock):Nm:=x.list.foldl acX (x.phis.foldl ai8 s)
def ajM(s:Nm)(x:DBlock):Nm:=aeY (ary s x) x.fin.on
def ar3(s:Nm)(x:DBlock):DBlock:=⟨aco s x.phis x.phis.length,adX (x.phis.foldl ai8 s) x.list x.list.length,⟨x.fin.kind,aep (ary s x) x.fin.on,x.fin.to⟩⟩
def afd(s:Nm)(l:List DBlock)(k:Nat):List DBlock:=l.mapIdx fun i x=>if i<k then ar3 ((l.take i).foldl ajM s) x else x
def nm0(n:Nat):Nm:=⟨List.replicate n (-1),0⟩
def al2(p n:Nat)(bs:List DBlock):Nm:=bs.foldl aqc (aib (nm0 n) p)
def adm(p n:Nat)(bs:List DBlock):List DBlock:=afd (al2 p n bs) bs bs.length
def afe(p n:Nat)(bs:List DBlock):Int:=(bs.foldl ajM (al2 p n bs)).many
structure aee (n:Nat)(x:DBlock):Prop where
 phi:∀p∈x.phis,(0<=p.dst∧p.dst<n)∧∀v∈p.src,InV n v
 ins:∀y∈x.list,InV n y.a∧InV n y.b∧(∀v∈y.args,InV n v)∧y.dst<n
 on:InV n x.fin.on
variable {α:Type}{k:Nat}
theorem abo{β:Type}(f:β->α->β)(s:β){l:List α}{x:α}(h:l[k]?=some x):(l.take (k+1)).foldl f s=f ((l.take k).foldl f s) x:=by
 rw [Ab7,h,List.foldl_append];rfl
theorem ai9{β:Type}(f:β->α->β)(s:β){l:List α}(h:k=l.length):(l.take k).foldl f s=l.foldl f s:=by rw [h,Aa0]
theorem aja(s:Nm)(k:Nat):aib s (k+1)=nmS (aib s k) (k:Int):=by
 unfold aib;rw [List.range_succ,List.foldl_append];rfl
theorem aic(f:Nat->α->α)(l:List α):(l.mapIdx fun i x=>if i<0 then f i x else x)=l:=by
 apply Aao;intro i;rw [Abt];cases l[i]? <;> rfl
theorem ak6(f:Nat->α->α){l:List α}{x:α}(h:l[k]?=some x):(l.mapIdx fun i x=>if i<k then f i x else x).set k (f k x)=l.mapIdx fun i x=>if i<k+1 then f i x else x:=by
 have hk:=(Aad.1 h).1;apply Aao;intro i;rw [Aa6,Abi,Abt,Abt]
 by_cases e:k=i
 . subst e;rw [if_pos rfl,if_pos hk,h];simp
 . rw [if_neg e]
   congr 1
   funext y
   by_cases h2:i<k
   . rw [if_pos h2,if_pos (by omega)]
   . rw [if_neg h2,if_neg (by omega)]
theorem apS(f:Nat->α->α){l:List α}{x:α}(h:l[k]?=some x):(l.mapIdx fun i x=>if i<k then f i x else x)[k]?=some x:=by
 rw [Abt,h];simp
theorem aid(s:Nm)(l:List aaA):abG s l 0=l:=aic _ _
variable {l:List aaA}{v:aaA}
theorem ajb(s:Nm)(h:l[k]?=some v):(abG s l k).set k (aep (abf s (l.take k)) v)=abG s l (k+1):=ak6 (fun m v=>aep (abf s (l.take m)) v) h
theorem ak7(s:Nm)(h:l[k]?=some v):(abG s l k)[k]?=some v:=apS (fun m v=>aep (abf s (l.take m)) v) h
theorem al3(s:Nm)(l:List acr):aco s l 0=l:=aic _ _
theorem anP(s:Nm){l:List acr}{p:acr}(h:l[k]?=some p):(aco s l k).set k (atb ((l.take k).foldl ai8 s) p)=aco s l (k+1):=ak6 (fun m p=>atb ((l.take m).foldl ai8 s) p) h
theorem aie(s:Nm){l:List acr}{p:acr}(h:l[k]?=some p):(aco s l k)[k]?=some p:=apS (fun m p=>atb ((l.take m).foldl ai8 s) p) h
theorem al4(s:Nm)(l:List aaK):adX s l 0=l:=aic _ _
theorem anQ(s:Nm){l:List aaK}{y:aaK}(h:l[k]?=some y):(adX s l k).set k (arx ((l.take k).foldl acX s) y)=adX s l (k+1):=ak6 (fun m y=>arx ((l.take m).foldl acX s) y) h
theorem aif(s:Nm){l:List aaK}{y:aaK}(h:l[k]?=some y):(adX s l k)[k]?=some y:=apS (fun m y=>arx ((l.take m).foldl acX s) y) h
theorem al5(s:Nm)(l:List DBlock):afd s l 0=l:=aic _ _
theorem anR(s:Nm){l:List DBlock}{x:DBlock}(h:l[k]?=some x):(afd s l k).set k (ar3 ((l.take k).foldl ajM s) x)=afd s l (k+1):=ak6 (fun m x=>ar3 ((l.take m).foldl ajM s) x) h
theorem apT(s:Nm){l:List DBlock}{x:DBlock}(h:l[k]?=some x):(afd s l k)[k]?=some x:=apS (fun m x=>ar3 ((l.take m).foldl ajM s) x) h
theorem ajc(s:Nm)(l:List DBlock)(k:Nat):(afd s l k).length=l.length:=by simp [afd]
theorem afv(s:Nm)(h:l[k]?=some v):abf s (l.take (k+1))=aeY (abf s (l.take k)) v:=abo _ _ h
theorem apU(n:Nat):aha n (nm0 n):=by
 refine⟨by simp [nm0],fun x hx=>?_,?_⟩
 . rw [List.eq_of_mem_replicate hx]
   show (-1:Int) <= -1∧(-1:Int)<0;omega
 . show (0:Int)=((List.replicate n (-1:Int)).countP _:Nat)
   rw [List.countP_eq_zero.2 (fun a ha=>by rw [List.eq_of_mem_replicate ha];decide)];rfl
theorem atS {w:World}{b:Nat}{a0 a1 a2 a3 u0 u1 u2 u3:Value}{ty:TypeId}(h:w.heap[b]?=some (.cells #[a0,a1,a2,a3] ty (0,0))) :
 ((((w.setCell ⟨b,0,none⟩ u0).setCell ⟨b,1,none⟩ u1).setCell ⟨b,2,none⟩ u2).setCell ⟨b,3,none⟩ u3).heap[b]?=some (.cells #[u0,u1,u2,u3] ty (0,0)) :=
 aak (aak (aak (aak h u0) u1) u2) u3
end
section
theorem aih : ∀ {l m : List Int}, l.Pairwise (· < ·) -> m.Pairwise (· < ·) -> (∀ x, x ∈ l ↔ x ∈ m) -> l = m
 | [],[],_,_,_=>rfl
 | [],b :: m,_,_,h=>by have:=(h b).2 (Aa3 ..);cases this
 | a :: l,[],_,_,h=>by have:=(h a).1 (Aa3 ..);cases this
 | a :: l,b :: m,h1,h2,h=>by
   obtain⟨p1,q1⟩:=List.pairwise_cons.1 h1;obtain⟨p2,q2⟩:=List.pairwise_cons.1 h2;have e:a=b:=by
    rcases Aam.1 ((h a).1 (Aa3 ..)) with h3 | h3
    . exact h3
    . rcases Aam.1 ((h b).2 (Aa3 ..)) with h4 | h4
      . exact h4.symm
      . have:=p2 a h3
        have:=p1 b h4;omega
   subst e;rw [aih q1 q2 fun x=>?_];constructor
   . intro hx
     rcases Aam.1 ((h x).1 (Aa2 _ hx)) with h3 | h3
     . have:=p1 x hx;omega
     . exact h3
   . intro hx
     rcases Aam.1 ((h x).2 (Aa2 _ hx)) with h3 | h3
     . have:=p2 x hx;omega
     . exact h3
theorem aeN {α : Type} [BEq α] [LawfulBEq α] (f : α -> Nat) : ∀ {l m : List α}, l.Nodup -> (∀ x ∈ l, x ∈ m) -> (l.map f).sum <= (m.map f).sum
 | [],_,_,_=>Aaj _
 | a :: l,m,h,hm=>by
   obtain⟨h1,h2⟩:=List.nodup_cons.1 h;have hp:=List.perm_cons_erase (hm a (Aa3 ..));have e:(m.map f).sum=((a :: m.erase a).map f).sum:=(hp.map f).sum_nat;rw [e,Aa1,Abj,Aa1,Abj];have:=aeN f h2 (m:=m.erase a) fun x hx=>(List.mem_erase_of_ne (fun e=>h1 (by rw [<-e];exact hx))).2 (hm x (Aa2 _ hx));omega
structure ak8 (bs:List DBlock)(ord:List Int):Prop where
 inn:∀x∈ord,0<=x∧x<(bs.length:Int)
 nd:ord.Nodup
 clo:∀x∈ord,∀t∈(blkOf bs x.toNat).fin.to,t∈ord
 head:ord[0]?=some 0
variable {bs:List DBlock}
theorem acp{b:Nat}(h:b<bs.length):acn bs b=(blkOf bs b).fin.to:=by
 unfold acn;rw [aan bs h]
theorem aef(h:aem bs):ak8 bs (ordL bs):=by
 obtain⟨p1,p2,-,A,hA⟩:=abb h;refine⟨fun x hx=>p1 x (Abs.1 hx),List.pairwise_reverse.2 (p2.imp fun h e=>h e.symm),fun x hx t ht=>?_,?_⟩
 . have fL:=Abs.1 hx
   have hb:=p1 x fL;rw [<-acp (by omega)] at ht;exact Abs.2 (aed h x fL t ht)
 . unfold ordL
   rw [hA];simp
variable {x:Nat}
theorem ajN{l : List Int}  : ∀ {k i : Nat}, i < k -> l.getD i 0 = (x : Int) -> 0 <= ako l k x
 | 0,i,h,_=>by omega
 | k+1,i,h,e=>by
   unfold ako
   by_cases c:l.getD k 0=(x:Int)
   . rw [if_pos c];omega
   . rw [if_neg c]
     refine ajN (i:=i) ?_ e;rcases Abm.1 h with h | h
     . exact h
     . subst h;exact absurd e c
variable {ord:List Int}{k:Nat}
theorem adK(hn:ord.Nodup)(h:ord[k]?=some (x:Int)):aa8 ord x=(k:Int):=by
 have hk:=(Aad.1 h).1;have h0:0<=aa8 ord x:=ajN hk (by rw [Aaf,h];rfl);obtain⟨i,h1,h2,h3⟩:=afK ord x _ h0;have e:ord[i]?=some (x:Int):=by
  rw [Aaf,Aaa h1] at h3;rw [Aaa h1];exact congrArg some h3
 have hi := af5 hn h1 hk (by
  have a1 := Aaa h1
  have a2 := Aaa hk
  rw [e] at a1
  rw [h] at a2
  exact Option.some.inj (a1.symm.trans a2))
 unfold aa8;rw [h2,hi]
theorem arz:0<=aa8 ord x↔(x:Int)∈ord:=by
 constructor
 . intro h
   obtain⟨i,h1,h2,h3⟩:=afK ord x _ h;rw [Aaf,Aaa h1] at h3;rw [<-h3];exact Aas h1
 . intro h
   obtain⟨i,hi,e⟩:=Aav h;exact ajN hi (by rw [Aaf,Aaa hi,e];rfl)
theorem abg(bs:List DBlock)(ord:List Int):(aa1 bs ord).length=ord.length:=by simp [aa1]
theorem af9{b:Int}(h:ord[k]?=some b):(aa1 bs ord)[k]?=some (afl (aa8 ord) (aaf bs 0 b.toNat) (blkOf bs b.toNat)):=by
 unfold aa1;rw [Aak,h];rfl
theorem acY{b:Int}(h:ord[k]?=some b):blkOf (aa1 bs ord) k=afl (aa8 ord) (aaf bs 0 b.toNat) (blkOf bs b.toNat):=aaZ (af9 h)
theorem ab1{x:DBlock}(h:x∈aa1 bs ord):∃b∈ord,x=afl (aa8 ord) (aaf bs 0 b.toNat) (blkOf bs b.toNat):=by
 obtain⟨b,hb,rfl⟩:=Aal.1 h;exact⟨b,hb,rfl⟩
section
variable {bs : List DBlock} {ord : List Int}
theorem afw(ho:ak8 bs ord){b t:Int}(hb:b∈ord)(ht:t∈(blkOf bs b.toNat).fin.to):∃i:Nat,ord[i]?=some t∧aa8 ord t.toNat=(i:Int)∧i<ord.length:=by
 have hm:=ho.clo b hb t ht;obtain⟨i,hi,e⟩:=Aav hm;have hr:=ho.inn t hm;have e2:ord[i]?=some ((t.toNat:Nat):Int):=by rw [Aaa hi,e,Abf hr.1]
 exact⟨i,by rw [Aaa hi,e],adK ho.nd e2,hi⟩
theorem ak9(ad:acC bs)(ho:ak8 bs ord):∀x∈aa1 bs ord,x.fin.to.Nodup:=fun x hx=>by
 obtain⟨b,hb,rfl⟩:=ab1 hx;have dA:=ho.inn b hb;have eS:=ad.toNd _ (aar (bs:=bs) (c:=b.toNat) (by omega));show (List.map _ _).Nodup;refine List.pairwise_map.2 (List.Pairwise.imp_of_mem (fun {s t} hs ht dv e=>dv ?_) eS);obtain⟨i,h1,h2,-⟩:=afw ho hb hs;obtain⟨j,h3,h4,-⟩:=afw ho hb ht;have:i=j:=by omega
 subst this;exact Option.some.inj (h1.symm.trans h3)
theorem aiw(ho:ak8 bs ord){k:Nat}{b:Int}(hk:ord[k]?=some b)(x:Int):x∈aaf (aa1 bs ord) 0 k↔∃a∈aaf bs 0 b.toNat,0<=aa8 ord a.toNat∧x=aa8 ord a.toNat:=by
 have hb:=Aae hk;have dA:=ho.inn b hb;rw [ab5];constructor
 . rintro⟨i,y,h1,h2,h3⟩
   have hi:i<ord.length:=by rw [<-abg bs ord];exact (Aad.1 h1).1
   obtain⟨a,ha⟩:∃a,ord[i]?=some a:=⟨_,Aaa hi⟩
   have ham:=Aae ha;have dG:=ho.inn a ham;rw [af9 ha] at h1;cases h1;obtain⟨t,ht,e⟩:=Aal.1 (show (k:Int)∈List.map _ _ from h2);obtain⟨j,g1,g2,g3⟩:=afw ho ham ht;have gI:j=k:=by omega
   subst gI;have aD:t=b:=Option.some.inj (g1.symm.trans hk);subst aD;have hp:aa8 ord a.toNat=(i:Int):=adK ho.nd (by rw [ha,Abf dG.1]);refine⟨a,?_,by omega,by omega⟩;refine ab5.2 ⟨a.toNat,blkOf bs a.toNat,aan bs (by omega),by rw [Abf dA.1];exact ht,by omega⟩
 . rintro⟨a,ha,h1,h2⟩
   obtain⟨i,y,g1,g2,g3⟩:=ab5.1 ha;have dG:a.toNat=i:=by omega
   rw [dG] at h1 h2;obtain⟨j,hj,e⟩:=Aav (arz.1 h1);have ej:ord[j]?=some (i:Int):=by rw [Aaa hj,e]
   have hp:=adK ho.nd ej;refine⟨j,_,af9 ej,?_,by omega⟩;show (k:Int)∈List.map _ _;rw [Aan,aaZ g1];refine Aal.2 ⟨b,?_,?_⟩
   . rw [Abf dA.1] at g2;exact g2
   . exact adK ho.nd (by rw [hk,Abf dA.1])
theorem arA(ad:acC bs)(ho:ak8 bs ord){k:Nat}{b:Int}(hk:ord[k]?=some b){src:List aaA}(hs:src.length=(aaf bs 0 b.toNat).length) :
 ((ac1 (aa8 ord) (aaf bs 0 b.toNat) src).mergeSort leF).map Prod.fst=aaf (aa1 bs ord) 0 k:=by
 have hA:=acK (t:=b.toNat) bs 0 ad.toNd;have gq:(aaf bs 0 b.toNat).Nodup:=hA.1.imp fun h e=>by omega
 have e6:∀a∈aaf bs 0 b.toNat,0<=a:=fun a ha=>by have:=abu ha;omega
 have eS := afm (at_ := aa8 ord) (src := src) gq (fun a ha c hc h e => by
  have := ajo h e
  have := e6 a ha
  have := e6 c hc
  omega)
 have bC:=List.mergeSort_perm (ac1 (aa8 ord) (aaf bs 0 b.toNat) src) leF;have de:((ac1 (aa8 ord) (aaf bs 0 b.toNat) src).mergeSort leF).Pairwise fun x y=>x.1<=y.1:=by
  have h:=List.pairwise_mergeSort (le:=leF) (fun a b c h1 h2=>by simp [leF] at *;omega) (fun a b=>by simp [leF];omega) (ac1 (aa8 ord) (aaf bs 0 b.toNat) src);exact h.imp fun h=>by simpa [leF] using h
 have ea:(((ac1 (aa8 ord) (aaf bs 0 b.toNat) src).mergeSort leF).map Prod.fst).Nodup:=(bC.map Prod.fst).nodup_iff.2 eS;refine aih ?_ (acK (t:=k) (aa1 bs ord) 0 (ak9 ad ho)).1 fun x=>?_
 . have h1:=List.pairwise_map.1 ea
   exact List.pairwise_map.2 ((h1.and de).imp fun⟨h,h'⟩=>by omega)
 . rw [(bC.map Prod.fst).mem_iff,aiw ho hk]
   constructor
   . intro hx
     obtain⟨z,hz,rfl⟩:=Aal.1 hx;obtain⟨a,v,h1,h2,rfl⟩:=afJ hz;exact⟨a,(List.of_mem_zip h1).1,h2,rfl⟩
   . rintro⟨a,ha,h1,rfl⟩
     obtain⟨i,hi,e⟩:=Aav ha;refine Aal.2 ⟨(aa8 ord a.toNat,src[i]'(by omega)),?_,rfl⟩;unfold ac1;refine List.mem_flatMap.2 ⟨(a,src[i]'(by omega)),?_,?_⟩
     . refine Aae (i:=i) (List.getElem?_zip_eq_some.2 ⟨by rw [Aaa hi,e],Aaa (by omega)⟩)
     . unfold acB
       rw [if_pos h1];exact Aax.2 rfl
theorem ala {at_:Nat->Int}{A:List Int}{p:acr}{v:aaA}(h:v∈(ae3 at_ A p).src):v∈p.src:=by
 obtain⟨z,hz,rfl⟩:=Aal.1 (show v∈List.map _ _ from h);obtain⟨a,u,h1,h2,rfl⟩:=afJ ((List.mergeSort_perm _ _).mem_iff.1 hz);exact (List.of_mem_zip h1).2
theorem apV(at_:Nat->Int)(A:List Int)(p:acr):(ae3 at_ A p).src.length<=p.src.length:=by
 show (List.map _ _).length<=_;rw [Aah,List.length_mergeSort];exact ahG _ _ _
theorem ahb {p:acr}{at_:Nat->Int}{A:List Int}{x:DBlock}(h:p∈(afl at_ A x).phis):∃p0∈x.phis,p=ae3 at_ A p0:=by
 obtain⟨p0,h0,rfl⟩:=Aal.1 (show p∈List.map _ _ from h);exact⟨p0,h0,rfl⟩
theorem al6(ho:ak8 bs ord):ord.length<=bs.length:=by
 have h := ak2 (n := bs.length) (ord.map Int.toNat) (List.pairwise_map.2 (List.Pairwise.imp_of_mem (fun {a b} ha hb h e => h (by have := ho.inn a ha; have := ho.inn b hb; omega)) ho.nd)) (fun x hx => by
  obtain ⟨a, ha, rfl⟩ := Aal.1 hx
  have := ho.inn a ha
  omega)
 rw [Aah] at h;exact h
theorem asU(ad:acC bs)(ho:ak8 bs ord):acC (aa1 bs ord):=by
 have hlen:=al6 ho;have hl:=ad.len;have bL:∀b∈ord,b.toNat<bs.length:=fun b hb=>by have:=ho.inn b hb;omega
 refine⟨by rw [abg];omega,fun x hx=>?_,fun x hx=>?_,fun x hx=>?_,fun x hx t ht=>?_,ak9 ad ho,fun k hk p hp=>?_⟩
 . obtain⟨b,hb,rfl⟩:=ab1 hx
   have h:=ad.num _ (aar (bL b hb));refine⟨h.kind,h.on,fun t ht=>?_,fun p hp=>?_,h.ins⟩
   . obtain⟨t0,-,rfl⟩:=Aal.1 (show t∈List.map _ _ from ht)
     have:=aoB ord t0.toNat;unfold I64;omega
   . obtain⟨p0,h0,rfl⟩:=ahb hp
     exact⟨(h.phi p0 h0).1,fun v hv=>(h.phi p0 h0).2 v (ala hv)⟩
 . obtain⟨b,hb,rfl⟩:=ab1 hx
   have h:=ad.small _ (aar (bL b hb));refine⟨by show (List.map _ _).length<=_;rw [Aah];exact h.phis,h.list,by show (List.map _ _).length<=_;rw [Aah];exact h.to,fun p hp=>?_,h.args⟩;obtain⟨p0,h0,rfl⟩:=ahb hp;exact Aai (apV _ _ _) (h.src p0 h0)
 . obtain⟨b,hb,rfl⟩:=ab1 hx
   show (List.map _ _).length<=_;rw [Aah];exact ad.to2 _ (aar (bL b hb))
 . obtain⟨b,hb,rfl⟩:=ab1 hx
   obtain⟨t0,h0,rfl⟩:=Aal.1 (show t∈List.map _ _ from ht);obtain⟨i,-,h2,h3⟩:=afw ho hb h0;rw [abg];omega
 . rw [abg] at hk
   obtain⟨b,hb⟩:∃b,ord[k]?=some b:=⟨_,Aaa hk⟩
   rw [acY hb] at hp;obtain⟨p0,h0,rfl⟩:=ahb hp;have hs:=ad.src b.toNat (bL b (Aae hb)) p0 h0;rw [<-arA ad ho hb hs];show (List.map _ _).length=_;rw [Aah,Aah]
theorem amS(f:DBlock->Nat)(hf:∀at_ A x,f (afl at_ A x)=f x)(ho:ak8 bs ord):((aa1 bs ord).map f).sum<=(bs.map f).sum:=by
 have e1:(aa1 bs ord).map f=ord.map fun b=>f (blkOf bs b.toNat):=by
  unfold aa1;rw [Abb];exact Abx fun b _=>hf _ _ _
 have e2:bs.map f=((List.range bs.length).map fun (i:Nat)=>(i:Int)).map fun b=>f (blkOf bs b.toNat):=by
  rw [Abb];apply Aao;intro i;rw [Aak,Aak]
  by_cases hi:i<bs.length
  . rw [aan bs hi,Ab9 hi];rfl
  . rw [Aap (by omega),Aap (by simp;omega)];rfl
 rw [e1,e2];refine aeN _ ho.nd fun x hx=>?_;have:=ho.inn x hx;exact Aal.2 ⟨x.toNat,Abv.2 (by omega),by omega⟩
end
structure aen (n:Nat)(bs:List DBlock):Prop where
 ok:acC bs
 tok:aem bs
 jump:∀x∈bs,x.fin.kind=2->x.fin.to.length=1
 sum:(bs.map fun x=>x.list.length).sum<=1048576
 reg:∀x∈bs,aee n x
variable {n:Nat}{bs:List DBlock}
theorem aen.ch(h:aen n bs):ae4 bs:=⟨h.ok,h.jump,h.sum⟩
theorem aii(h:acC bs)(h0:0<bs.length):aem bs:=⟨h0,fun k x hx=>h.hto k x hx⟩
theorem aen.keep(h:aen n bs):aen n (aa1 bs (ordL bs)):=by
 have ho:=aef h.tok;have hk:=asU h.ok ho;have bL:∀b∈ordL bs,b.toNat<bs.length:=fun b hb=>by have:=ho.inn b hb;omega
 refine⟨hk,aii hk (by rw [abg];exact (Aad.1 ho.head).1),fun x hx hj=>?_,Aai (amS _ (fun _ _ _=>rfl) ho) h.sum,fun x hx=>?_⟩
 . obtain⟨b,hb,rfl⟩:=ab1 hx
   show (List.map _ _).length=_;rw [Aah];exact h.jump _ (aar (bL b hb)) hj
 . obtain⟨b,hb,rfl⟩:=ab1 hx
   have hr:=h.reg _ (aar (bL b hb));refine⟨fun p hp=>?_,hr.ins,hr.on⟩;obtain⟨p0,h0,rfl⟩:=ahb hp;exact⟨(hr.phi p0 h0).1,fun v hv=>(hr.phi p0 h0).2 v (ala hv)⟩
theorem apW{b:Nat}(ad:ae4 bs)(hb:b<bs.length)(h:acd bs b=true)(hr:∀x∈bs,aee n x):∀x∈aaJ bs b,aee n x:=by
 obtain⟨h1,h2,h3,h4,h5,h6⟩:=aba ad hb h;have cG:∀c,c<bs.length->∀p∈(blkOf (ac7 bs (toJ bs b) b) c).phis,(0<=p.dst∧p.dst<n)∧∀v∈p.src,InV n v:=fun c hc p hp=>by
  obtain⟨p0,h0,e1,-,e3⟩:=ahX ad.ok h5 hc hp;have hx:=(hr _ (aar hc)).phi p0 h0;exact⟨by rw [e1];exact hx.1,fun v hv=>hx.2 v (e3 v hv)⟩
 intro x hx;obtain⟨c,hc,rfl⟩:=abS hx;rw [aaQ] at hc;rcases abT hb h5 c with⟨-,e⟩ | ⟨-,rfl,e⟩ | ⟨-,-,e⟩
 . rw [e]
   exact⟨fun p hp=>absurd hp (Aaq),fun y hy=>absurd hy (Aaq),fun h=>by cases h⟩
 . rw [e]
   refine⟨cG c hc,fun y hy=>?_,(hr _ (aar h5)).on⟩;rcases Aa7.1 (show y∈_++_ from hy) with hy | hy
   . exact (hr _ (aar hc)).ins y hy
   . exact (hr _ (aar h5)).ins y hy
 . rw [e]
   refine⟨cG c hc,fun y hy=>?_,?_⟩
   . rw [(aaN ad.ok h5 c).2.1] at hy;exact (hr _ (aar hc)).ins y hy
   . rw [(aaN ad.ok h5 c).1];exact (hr _ (aar hc)).on
theorem aga {P : List DBlock -> Prop} (hP : ∀ bs b, ae4 bs -> b < bs.length -> acd bs b = true -> P bs -> P (aaJ bs b)) {b : Nat} : ∀ (f : Nat) (bs : List DBlock), ae4 bs -> b < bs.length -> P bs -> P (abL f bs b)
 | 0,bs,_,_,h=>h
 | f+1,bs,ad,hb,h=>by
   unfold abL
   by_cases hm:acd bs b=true
   . rw [if_pos hm]
     exact aga hP f _ (adg ad hb hm) (by rw [aaQ];exact hb) (hP bs b ad hb hm h)
   . rw [if_neg hm];exact h
theorem abI {P : List DBlock -> Prop} (hP : ∀ bs b, ae4 bs -> b < bs.length -> acd bs b = true -> P bs -> P (aaJ bs b)) {bs : List DBlock} (ad : ae4 bs) (h : P bs) : ∀ k, k <= bs.length -> P (abD bs k)
 | 0,_=>h
 | k+1,hk=>by
   obtain⟨h1,h2⟩:=acD ad k (by omega);rw [abr];exact aga hP _ _ h1 (by omega) (abI hP ad h k (by omega))
theorem aen.chains(h:aen n bs):aen n (acm bs):=by
 obtain⟨h1,h2⟩:=acD h.ch bs.length (Aac _);refine⟨h1.ok,aii h1.ok (by have:=h.tok.pos;unfold acm;omega),h1.jump,h1.sum,?_⟩;exact abI (P:=fun bs=>∀x∈bs,aee n x) (fun bs b ad hb hm hr=>apW ad hb hm hr) h.ch h.reg _ (Aac _)
def amT(bs:List DBlock):List DBlock:=acm (aa1 bs (ordL bs))
def ac3(bs:List DBlock):List DBlock:=aa1 (amT bs) (ordL (amT bs))
def doB(pn n:Nat)(bs:List DBlock):List DBlock:=adm pn n (ac3 bs)
def doN(pn n:Nat)(bs:List DBlock):Int:=afe pn n (ac3 bs)
theorem aen.pre(h:aen n bs):aen n (amT bs):=h.keep.chains
theorem aen.kept(h:aen n bs):aen n (ac3 bs):=h.pre.keep
end
end Go.Proofs.YtpeejlpcikefcaaGreatDoor
