import Derived.Test.YtpeejlpcikefcaaGreatDoorPSsa0
/- tidy.rename: the walk. tidy.ChainsOf: the walk. tidy's namer: plain, and in memory. tidy.NamesOf, plain. tidy, plain: what is asked of a function's blocks stays where some of them are kept. -/
set_option maxHeartbeats 8000000
set_option maxRecDepth 100000
namespace Go.Proofs.YtpeejlpcikefcaaGreatDoor
section
open Go.RowKit
theorem acH : ∀ (l l' : List DBlock) (s t : Nat), l.map (·.fin.to) = l'.map (·.fin.to) -> aaf l s t = aaf l' s t
 | [],[],_,_,_=>rfl
 | [],_ :: _,_,_,h=>by simp at h
 | _ :: _,[],_,_,h=>by simp at h
 | a :: l,b :: l',s,t,h=>by
   rw [Aa3,Aa3,List.cons.injEq] at h;rw [aaf,aaf,h.1,acH l l' (s+1) t h.2]
theorem asL {bs bs2:List DBlock}(hl:bs2.length=bs.length)(h:∀i,(blkOf bs2 i).fin.to=(blkOf bs i).fin.to):bs2.map (·.fin.to)=bs.map (·.fin.to):=by
 apply Aap;intro i;rw [Aak,Aak]
 by_cases hi:i<bs.length
 . rw [aap bs hi,aap bs2 (by omega),Aaw,Aaw,h]
 . rw [Aas (by omega),Aas (by omega)]
theorem anP {bs bs2:List DBlock}(hl:bs2.length=bs.length)(h:∀i,(blkOf bs2 i).fin.to=(blkOf bs i).fin.to):aheadF bs2=aheadF bs:=by
 unfold aheadF;rw [hl]
 congr 1
 funext t
 exact acH _ _ _ _ (asL hl h)
def atI(X:Nat->Prop)(lo hi:Nat)(x:Nat):Prop:=X x∨(lo<=x∧x<hi)
theorem atJ {bs:List DBlock}{k:Nat}{x:DBlock}(hx:bs[k]?=some x){bs2:List DBlock}(hl:bs2.length=bs.length)(h:∀i,(blkOf bs2 i).fin.to=(blkOf bs i).fin.to):∃y,bs2[k]?=some y∧y.fin.to=x.fin.to:=by
 have hk:=(Aad.1 hx).1;refine⟨blkOf bs2 k,aap bs2 (by omega),?_⟩;rw [h k,aa2 hx]
theorem anQ (nm : ByteArray) (p r : Int) (bs bs2 : List DBlock) (V : Pth -> Value) (C : Pth -> List (List Value)) (X : Nat -> Prop) (base FB R t b n bc : Nat) (w : World)
 (hF:w.heap[FB]?=some (.cells #[.string nm,.int .i64 p,.int .i64 r,.slice (some ⟨R,0,none⟩) n bc] 37 (0,0)))
 (aM:abB w w base X (okP bs) V (afU bs V C)) (ff:X FB) (hC:∀q,(∀i,q ≠ .list i)->C q=aae bs V q) (fr:V .blks = .slice (some ⟨R,0,none⟩) n bc)
 (bn:SlAt (fun x=>base<=x∧x<w.heap.size) w 6 aa0 (.slice (some ⟨R,0,none⟩) n bc) bs2) (dM:bs2.length=n) (ca:∀i,(blkOf bs2 i).fin.to=(blkOf bs i).fin.to)
 (hn:bs.length=n) (ad:acU bs) (ht:t<n) (_hb:b<n) :
 Calls Tryz.prog 88 #[.pointer (some ⟨FB,0,none⟩),.int .i64 (t:Int),.int .i64 (b:Int)] w fun e w'=>e = .returned (.tuple #[])∧abB w w' base X (okP bs) V (afU (agS bs t b (blkOf bs t).fin.to.length) V C):=by
 have gW:n<=1048576:=by rw [<-hn];exact ad.len
 have bz:bs2.length=bs.length:=by omega
 have ct := hid (adO nm p r (some ⟨R, 0, none⟩) bc bs2 w (by rw [dM]; exact bn) (by omega) (fun k x hx => by
  obtain ⟨y, hy, gK⟩ := atJ hx (bs2 := bs) bz.symm (fun i => (ca i).symm)
  have h := ad.hto k y hy
  rw [gK] at h
  rw [bz]; exact h))
 rw [dM,anP bz ca] at ct;obtain⟨c0,c1,c2,c3⟩:=(aad (cs:=[_,_,_,_]) hF).get4;rw [Aab] at c1 c2 c3;have HF:=hid hF;have aF:=hid aM;have cM:=hid ff;have HC:=hid hC;have cK:=hid fr;have Hn:=hid hn;have aO:=hid ad;clear hF aM ff hC fr bn dM ca hn ad bz;go_enter Tryz.func88,Tryz.ntmps88;go_upto_region 1 with (go_at_call 74;refine ct.out.mono ?_;rintro e W1 ⟨av,rfl,dP,eD⟩;obtain⟨aa,ac,eL,-⟩:=id dP.val;subst eL;have fw:=hid dP;have dg:=hid eD;have c3:=aab c3 eD;clear dP eD)
 rw [show (aheadF bs).length=n by simp [aheadF,Hn.out]];have aj:abB W1 W1 base (atI X w.heap.size W1.heap.size) (okP bs) V (afU bs V C):=by
  refine (aF.out.later dg.out).keep (fun x hx=>?_) (fun q hq k hk hx=>?_)
  . rcases hx with h | h
    . exact Aay (aF.out.old x h) dg.out.size
    . exact h.2
  . rcases hx with h | h
    . exact aF.out.off q hq k hk h
    . have:=(aF.out.rows.lt hq k hk).2;omega
 have aw:=hid aj;have dJ:Hid (SlAt (fun x=>w.heap.size<=x∧x<W1.heap.size) W1 1 rRow (.slice aa n ac) (aheadF bs)):=by
  have h:=fw.out;rw [show (aheadF bs).length=n by simp [aheadF,Hn.out]] at h;exact h.live (by decide) amo
 have e7:Hid (W1.heap[FB]?=some (.cells #[.string nm,.int .i64 p,.int .i64 r,.slice (some ⟨R,0,none⟩) n bc] 37 (0,0))):=(dg.out.block FB (aF.out.old FB cM.out)).trans HF.out;have az:t<bs.length:=by rw [Hn.out];exact ht
 obtain⟨ta,tc,aL⟩:=aah.shape (p := .to t) aj.rows az;obtain⟨tn,aU⟩:∃tn,tn=(blkOf bs t).fin.to.length:=⟨_,rfl⟩
 have ar:afU bs V C (.to t)=aae bs V (.to t):=HC.out (.to t) (by simp);rw [ar,show (aae bs V (.to t)).length=tn by simp [aae,aU]] at aL;have cW:afU bs V C .blks=aae bs V .blks:=HC.out .blks (by simp);have aI:(aae bs V .blks)[t]?=some (abd (blkOf bs t) (V (.phis t)) (V (.list t)) (V (.to t))):=by
  simp only [aae];rw [aai,aap bs az];rfl
 have cr:=(aj.rows.at (p := .blks) trivial (g:=R) (n:=n) (c:=bc) cK.out (i:=t) (cs:=abd (blkOf bs t) (V (.phis t)) (V (.list t)) (V (.to t))) (by rw [cW];exact aI)).1;have r5:W1.cell? ⟨R,t * 6+5,none⟩=some (.slice ta tn tc):=by
  have h:=cr 5 (V (.to t)) rfl;rw [aL] at h;exact h
 have en:=hid aL;have fE:=hid aU;have bB:=hid az;have gH:tn<=2:=by rw [aU];exact aO.out.to2 _ (Aae (aap bs az))
 have fX:Hid (w.heap.size<=W1.heap.size):=dg.out.size;clear aj aL aU ar cW aI cr az c0 c1 c2 ct fw;go_wp2_with fail;clear r5 c3;go_loopw [30] (fun s30 wr=>∃(k:Nat),k<=tn∧s30 = .int .i64 (k:Int)∧abB W1 wr base (atI X w.heap.size W1.heap.size) (okP bs) V (afU (agS bs t b k) V C)) (fun s30 _=>tn - (intOf s30).toNat)
 case atStart=>exact⟨0,Aaj _,rfl,aw.out⟩
 case round =>
  obtain⟨wo,eb⟩:∃wo:World,wo=wr:=⟨_,rfl⟩
  subst eb;obtain⟨k,hk,rfl,aM⟩:=hrel;have cp:=hid aM
  by_cases hkn:k<tn
  . obtain⟨u,hu⟩:∃u,(blkOf bs t).fin.to[k]?=some u:=⟨_,Aaa (by rw [<-fE.out];exact hkn)⟩
    have fB:=aO.out.toIn _ (Aae (aap bs bB.out)) u (Aae hu);obtain⟨q,rfl⟩:=Abb fB.1;have cN:q<bs.length:=by omega
    have iu:q<n:=by have:=Hn.out;omega
    have ar:(afU (agS bs t b k) V C (.to t))[k]?=some [.int .i64 (q:Int)]:=by
     rw [show afU (agS bs t b k) V C (.to t)=aae bs V (.to t) from HC.out (.to t) (by simp)];simp only [aae];rw [Aak,hu];rfl
    obtain⟨G,eF,b7,-,-,gP,gR⟩:=aM.rows.addr (p := .to t) bB.out (Ab9 (Aaj _) (Aad.1 ar).1);rw [en.out] at b7;have eg:ta=some ⟨G,0,none⟩:=by injection b7
    subst eg;have t0:=(aM.rows.at (p := .to t) bB.out en.out ar).1.get1;rw [show k * Pth.sz (.to t)=k by simp [Pth.sz]] at t0;obtain⟨ab,aC,cs,ee,fi,cS,-,bp⟩:=dJ.out.get (k:=q) (by simp [aheadF];exact cN);rw [show (aheadF bs)[q]'(by simp [aheadF];exact cN)=aaf bs 0 q from (Aad.1 (ajv cN)).2] at cS;obtain⟨rv,rfl,cu⟩:=cS;obtain⟨A,hA⟩:∃A,A=aaf bs 0 q:=⟨_,rfl⟩
    rw [<-hA] at cu;obtain⟨an,aN⟩:∃an,an=A.length:=⟨_,rfl⟩
    obtain⟨ra,rc,cY,-⟩:=id cu.val;rw [<-aN] at cY;subst cY;subst ee;have cv:=bp.get1;rw [Abd] at cv;have a0:wo.cell? ⟨ab,aC+q,none⟩=some (.slice ra an rc):=aM.cell (b:=ab) (.inr fi) cv;have bx:SlAt (fun x=>w.heap.size<=x∧x<W1.heap.size) wo 1 acx (.slice ra an rc) A:=cu.mono aaw (fun _ h=>h) (aM.stays fun x hx => .inr hx);have b6:(t:Int)∈A:=by
     rw [hA];exact ad9 (aap bs bB.out) (Aae hu)
    obtain⟨kk,bU,fo,gT⟩:=ahX b6;have bR:=aph (b:=b) b6;obtain⟨pb,aK,rfl,bD⟩:∃pb aK,ra=some ⟨pb,aK,none⟩∧∀(j:Nat) a,A[j]?=some a->wo.cell? ⟨pb,aK+j,none⟩=some (.int .i64 a):=by
     have h0:0<A.length:=by omega
     obtain⟨pb,aK,h1,-⟩:=adw bx h0;refine⟨pb,aK,h1,fun j a hj=>?_⟩;obtain⟨hE,hG⟩:=Aad.1 hj;obtain⟨ir,e0,h3,h4⟩:=adw bx hE;rw [h1] at h3;cases h3;rw [hG] at h4;exact h4
    have fL := hid (akI (some ⟨pb, aK, none⟩) an rc A (t : Int) wo bx aN.symm (by
     have := afn bs 0 q aO.out.toNd
     rw [<- hA] at this
     have := Hn.out
     omega))
    rw [bU] at fL;have cV:=hid bD;have ck:Hid (ae6 A (t:Int)=(kk:Int)∧kk<an):=⟨bU,by rw [aN];exact fo⟩
    have gD:Hid (cntJ A t b an+1<=an):=by show _<=_;rw [aN];exact bR
    have Hu:=hid hu;have HA:=hid hA;have eo:=hid aN;have aH:=hid cN;have cO:an<=1048576:=by
     have:=afn bs 0 q aO.out.toNd;rw [<-hA] at this;have:=Hn.out;omega
    clear hu fB cN ar b7 gP gR fi cu bp cv bx b6 bU fo gT bR bD hA aN aM;go_upto_region 5 with (go_at_call 109;refine fL.out.mono ?_;rintro e w' ⟨rfl,hw⟩;subst hw)
    go_wp2_with fail;go_loopw [45,10] (fun s45 s10 wr=>∃(j:Nat),j<=an∧s45 = .int .i64 (j:Int)∧s10 = .int .i64 ((cntJ A t b j:Nat):Int)∧wo=wr) (fun s45 _ _=>an - (intOf s45).toNat)
    case atStart=>exact⟨0,Aaj _,rfl,rfl,rfl⟩
    case round =>
     obtain⟨j,hj,rfl,rfl,hw⟩:=hrel;subst hw
     by_cases hjn:j<an
     . obtain⟨a,ha⟩:∃a,A[j]?=some a:=⟨_,Aaa (by rw [<-eo.out];exact hjn)⟩
       have q0:=cV.out j a ha;have aS:=apg (t:=t) (b:=b) ha;have eA:=asE A t b j;have ga:cntJ A t b j<=1048576:=by omega
       obtain⟨cj,eR⟩:∃cj,cj=cntJ A t b j:=⟨_,rfl⟩
       rw [<-eR] at aS ga ⊢;have aT:=hid aS;have ij:=hid eR;clear aS eA eR ha
       by_cases h1:a<(b:Int)
       . have d1:decide (a<(b:Int))=true:=decide_eq_true h1
         by_cases h2:a=(t:Int)
         . have d2:=aon h2
           have e1:cntJ A t b (j+1)=cj:=by have h:=aT.out;rw [if_neg (fun h=>h.2 h2)] at h;simpa using h
           have db:=hid e1;clear e1 h1 h2;go_wp2_with fail;go_roundw
           case rel=>exact⟨j+1,by omega,by go_num,by rw [db.out],trivial⟩
           case measure=>simp [intOf];omega
         . have d2:=aex h2
           have e1:cntJ A t b (j+1)=cj+1:=by have h:=aT.out;rw [if_pos ⟨h1,h2⟩] at h;exact h
           have db:=hid e1;clear e1 h1 h2;go_wp2_with fail;go_roundw
           case rel=>exact⟨j+1,by omega,by go_num,by rw [db.out];go_num,trivial⟩
           case measure=>simp [intOf];omega
       . have d1:decide (a<(b:Int))=false:=decide_eq_false h1
         have e1:cntJ A t b (j+1)=cj:=by have h:=aT.out;rw [if_neg (fun h=>h1 h.1)] at h;simpa using h
         have db:=hid e1;clear e1 h1;go_wp2_with fail;go_roundw
         case rel=>exact⟨j+1,by omega,by go_num,by rw [db.out],trivial⟩
         case measure=>simp [intOf];omega
     . have fS:an=j:=by omega
       subst fS;obtain⟨jv,bR⟩:∃jv,jv=cntJ A t b an:=⟨_,rfl⟩
       have gl:jv+1<=an:=by rw [bR];exact gD.out
       rw [<-bR];have eI:=hid bR;clear bR;have fF:wo.heap[FB]?=some (.cells #[.string nm,.int .i64 p,.int .i64 r,.slice (some ⟨R,0,none⟩) n bc] 37 (0,0)):=(cp.out.kept FB (.inl cM.out)).trans e7.out;have c3:=(aad (cs:=[_,_,_,_]) fF) 3 _ rfl;rw [Aab] at c3;obtain⟨pa,pc,br⟩:=aah.shape (p := .phis q) aF.out.rows aH.out;obtain⟨x,hx⟩:∃x,x=blkOf bs q:=⟨_,rfl⟩
       obtain⟨pn,bF⟩:∃pn,pn=x.phis.length:=⟨_,rfl⟩
       rw [show afU bs V C (.phis q)=aae bs V (.phis q) from HC.out (.phis q) (by simp),show (aae bs V (.phis q)).length=pn by simp [aae,bF,hx]] at br;have aI:(aae bs V .blks)[q]?=some (abd (blkOf bs q) (V (.phis q)) (V (.list q)) (V (.to q))):=by
        simp only [aae];rw [aai,aap bs aH.out];rfl
       have cr:=(cp.out.rows.at (p := .blks) trivial (g:=R) (n:=n) (c:=bc) cK.out (i:=q) (cs:=abd (blkOf bs q) (V (.phis q)) (V (.list q)) (V (.to q))) (by rw [show afU (agS bs t b k) V C .blks=aae bs V .blks from HC.out .blks (by simp)];exact aI)).1;have r0:wo.cell? ⟨R,q * 6,none⟩=some (.slice pa pn pc):=by
        have h:=cr 0 (V (.phis q)) rfl;rw [br] at h;exact h
       have fM:¬((q:Int)∈(blkOf bs t).fin.to.take k):=fun hm=>by
        obtain⟨i2,fq,ft⟩:=Aav hm;have cT:i2<(blkOf bs t).fin.to.length:=by rw [Aar] at fq;omega
        rw [List.getElem_take] at ft;have gi:=(Aad.1 Hu.out).1;have hJ:=(Aad.1 Hu.out).2;have hI:i2<k:=by rw [Aar] at fq;omega
        exact (Acn.1 (aO.out.toNd _ (Aae (aap bs bB.out)))) i2 k cT gi hI (ft.trans hJ.symm)
       have er:blkOf (agS bs t b k) q=x:=by rw [apl aO.out.toIn aO.out.toNd bB.out,if_neg fM,hx]
       have dI:q<(agS bs t b k).length:=by rw [amK];exact aH.out
       have cw:abB W1 wo base (atI X w.heap.size W1.heap.size) (okP bs) V (afU ((agS bs t b k).set q (afo A t b x 0)) V C):=by
        rw [anA,<-er,abV (aap _ dI)];exact cp.out
       have dL:=hid cw;have Hx:=hid hx;have eU:=hid bF;have bf:=hid br;have hL:=hid er;have eX:=hid dI;have gr:=hid cr;have gU:pn<=1048576:=by rw [bF,hx];exact (aO.out.small _ (Aae (aap bs aH.out))).phis
       clear fF br hx bF aI cr fM er dI cw hj hjn;go_wp2_with fail;clear c3 r0;go_loopw [69] (fun s69 wr=>∃(i:Nat),i<=pn∧s69 = .int .i64 (i:Int)∧abB W1 wr base (atI X w.heap.size W1.heap.size) (okP bs) V (afU ((agS bs t b k).set q (afo A t b x i)) V C)) (fun s69 _=>pn - (intOf s69).toNat)
       case atStart=>exact⟨0,Aaj _,rfl,dL.out⟩
       case round =>
        obtain⟨wl,fQ⟩:∃wl:World,wl=wr:=⟨_,rfl⟩
        subst fQ;obtain⟨i,hi,rfl,aE⟩:=hrel;have dE:=hid aE
        by_cases hip:i<pn
        . obtain⟨ph,de⟩:∃ph,x.phis[i]?=some ph:=⟨_,Aaa (by rw [<-eU.out];exact hip)⟩
          have eS:blkOf ((agS bs t b k).set q (afo A t b x i)) q=afo A t b x i:=by rw [aaT eX.out,if_pos rfl]
          have hyp:(afo A t b x i).phis[i]?=some ph:=by
           show (x.phis.mapIdx _)[i]?=_;rw [aai,de];simp
          have aB:okP bs (.src q i):=by show i<(blkOf bs q).phis.length;rw [<-Hx.out,<-eU.out];exact hip
          have aY:afU ((agS bs t b k).set q (afo A t b x i)) V C (.src q i)=ph.src.map aaA:=by
           simp only [afU,aae];rw [eS,Aaf,hyp];rfl
          have cn:ph.src.length=an:=by
           rw [eo.out,HA.out];exact aO.out.src q aH.out ph (by rw [<-Hx.out];exact Aae de)
          obtain⟨g,fc,bl,dN,cD,fD,dm⟩:=aE.rows.addr aB (by rw [aY,Aah,cn];have:=ck.out.2;omega);rw [aY,Aah,cn] at bl dN;have cg:=aE.rows.own _ aB;rw [aY,Aah,cn,bl] at cg;obtain⟨v2,bj⟩:∃v2,ph.src[kk]?=some v2:=⟨_,Aaa (by rw [cn];exact ck.out.2)⟩
          obtain⟨vr,ec⟩:∃vr,vr=v2.reg:=⟨_,rfl⟩
          obtain⟨vn,dW⟩:∃vn,vn=v2.n:=⟨_,rfl⟩
          have cz:aal wl g (kk * 2) [.bool vr,.int .i64 vn]:=(aE.rows.at aB bl (i:=kk) (by rw [aY,Aak,bj,ec,dW];rfl)).1;obtain⟨g0,g1⟩:=cz.get2;obtain⟨pd,fh⟩:∃pd,pd=ph.dst:=⟨_,rfl⟩
          have bo:(C (.phis q))[i]?=some [.int .i64 pd,V (.src q i)]:=by
           rw [HC.out (.phis q) (by simp)];simp only [aae];rw [<-Hx.out,aai,de,Aaw,fh]
          obtain⟨P,fV,dU,-,-,ia,e8⟩:=aE.rows.addr (p := .phis q) aH.out (Ab9 (Aaj _) (Aad.1 bo).1);rw [bf.out] at dU;have fO:pa=some ⟨P,0,none⟩:=by injection dU
          subst fO;obtain⟨bZ,da⟩:=aE.rows.at (p := .phis q) aH.out bf.out bo;rw [bl] at bZ;have cU:aal wl P (i * 2) [.int .i64 pd,.slice (some ⟨g,0,none⟩) an fc]:=bZ;obtain⟨p0,p1⟩:=cU.get2;have pz:=da (i * 2+1);have fG:wl.heap[FB]?=some (.cells #[.string nm,.int .i64 p,.int .i64 r,.slice (some ⟨R,0,none⟩) n bc] 37 (0,0)):=(aE.kept FB (.inl cM.out)).trans e7.out;have c3:=(aad (cs:=[_,_,_,_]) fG) 3 _ rfl;rw [Aab] at c3;have aI:(aae bs V .blks)[q]?=some (abd (blkOf bs q) (V (.phis q)) (V (.list q)) (V (.to q))):=by
           simp only [aae];rw [aai,aap bs aH.out];rfl
          have r0:wl.cell? ⟨R,q * 6,none⟩=some (.slice (some ⟨P,0,none⟩) pn pc):=by
           have h:=(aE.rows.at (p := .blks) trivial (g:=R) (n:=n) (c:=bc) cK.out (i:=q) (by rw [show afU ((agS bs t b k).set q (afo A t b x i)) V C .blks=aae bs V .blks from HC.out .blks (by simp)];exact aI)).1 0 (V (.phis q)) rfl;rw [bf.out] at h;exact h
          have c9:g≠FB∧g≠R∧g≠P∧P≠FB∧P≠R:=by
           refine⟨fun e=>aE.off _ aB g (by rw [bl];rfl) (by rw [e];exact .inl cM.out),fun e=>?_,fun e=>?_,fun e=>aE.off (.phis q) aH.out P (by rw [bf.out];rfl) (by rw [e];exact .inl cM.out),fun e=>?_⟩
           . exact aE.rows.apart (.src q i) .blks aB trivial (by simp) g (by rw [bl];rfl) (by rw [cK.out,e];rfl)
           . exact aE.rows.apart (.src q i) (.phis q) aB aH.out (by simp) g (by rw [bl];rfl) (by rw [bf.out,e];rfl)
           . exact aE.rows.apart (.phis q) .blks aH.out trivial (by simp) P (by rw [bf.out];rfl) (by rw [cK.out,e];rfl)
          have bg:=hid c9;have ep:=hid cg;have fJ:Hid (an<=fc∧fc<=9223372036854775807∧base<=g):=⟨dN,cD,fD⟩
          have fu:=hid bl;have gg:=hid de;have fv:=hid eS;have Hyp:=hid hyp;have ie:=hid cn;have aQ:=hid bj;have dy:Hid (vr=v2.reg∧vn=v2.n):=⟨ec,dW⟩
          have ey:=hid bo;have cI:=hid aB;have fP:=ck.out.2;clear de eS hyp aB aY cn bl dN cD fD dm cg bj ec dW cz fh bo dU bZ da cU fG aI c9 aE;go_upto_region 15 with (fail)
          obtain⟨PB,c5⟩:∃PB,PB=wl.heap.size:=⟨_,rfl⟩
          obtain⟨W7,cy⟩:∃W7,W7=wl.alloc (.cells #[.int .i64 pd,.slice (some ⟨g,0,none⟩) an fc] 115):=⟨_,rfl⟩
          have e5:W7.heap[PB]?=some (.cells #[.int .i64 pd,.slice (some ⟨g,0,none⟩) an fc] 115 (0,0)):=by rw [cy,c5];exact heap_alloc_new _ _
          rw [<-cy,<-c5];have bG:Below wl.heap.size wl W7:=by rw [cy];exact bE
          have fx:W7.heap.size=PB+1:=by rw [cy,c5];simp
          obtain⟨b0,b1⟩:=(aad (cs:=[_,_]) e5).get2;rw [Aab] at b1;have g0:=aab g0 bG;have g1:=aab g1 bG;have c3:=aab c3 bG;have r0:=aab r0 bG;have p1:=aab p1 bG;have pz:=(bG.frozen (p:=⟨P,i * 2+1,none⟩) (by have:=dE.out.rows.lt (p := .phis q) aH.out P (by rw [bf.out];rfl);exact this.2)).trans pz;have hK:g<W7.heap.size:=aac g0;have gd:Hid (PB=wl.heap.size∧W7.heap.size=PB+1):=⟨c5,fx⟩
          have fg:=hid bG;clear cy c5 e5 fx p0 b0 bG;go_upto_region 16 with (fail)
          obtain⟨VB,eG⟩:∃VB,VB=W7.heap.size:=⟨_,rfl⟩
          obtain⟨W8,dF⟩:∃W8,W8=W7.alloc (.cells #[.bool vr,.int .i64 vn] 41):=⟨_,rfl⟩
          have eW:W8.heap[VB]?=some (.cells #[.bool vr,.int .i64 vn] 41 (0,0)):=by rw [dF,eG];exact heap_alloc_new _ _
          rw [<-dF,<-eG];have bO:Below W7.heap.size W7 W8:=by rw [dF];exact bE
          obtain⟨v0,v1⟩:=(aad (cs:=[_,_]) eW).get2;rw [Aab] at v1;have b1:=aab b1 bO;have c3:=aab c3 bO;have r0:=aab r0 bO;have pz:=(bO.frozen (p:=⟨P,i * 2+1,none⟩) (aac p1)).trans pz;have p1:=aab p1 bO;have bt:Below wl.heap.size wl W8:=fg.out.trans (bO.mono fg.out.size);have dm:g<wl.heap.size:=(dE.out.rows.lt cI.out g (by rw [fu.out];rfl)).2;have e8:P<wl.heap.size:=(dE.out.rows.lt (p := .phis q) aH.out P (by rw [bf.out];rfl)).2;have ae:Hid (FB≠g∧R≠g∧PB≠g∧VB≠g∧P≠g∧FB≠P∧R≠P∧PB≠P∧VB≠P):=by
           obtain⟨n1,n2,n3,n4,n5⟩:=bg.out;have h1:=gd.out;refine⟨n1.symm,n2.symm,?_,?_,n3.symm,n4.symm,n5.symm,?_,?_⟩ <;> omega
          have ax:Hid (FB<W8.heap.size∧R<W8.heap.size∧PB<W8.heap.size∧VB<W8.heap.size∧P<W8.heap.size∧g<W8.heap.size):=⟨aac c3,aac r0,aac b1,aac v0,aac p1,Aay dm bt.size⟩
          have bu:Hid (∀w':World,W8.grownBy w' (some g)->(w'.cell? ⟨FB,3,none⟩=some (.slice (some ⟨R,0,none⟩) n bc)∧w'.cell? ⟨R,q * 6,none⟩=some (.slice (some ⟨P,0,none⟩) pn pc)∧w'.cell? ⟨PB,1,none⟩=some (.slice (some ⟨g,0,none⟩) an fc)∧w'.cell? ⟨VB,0,none⟩=some (.bool vr)∧w'.cell? ⟨VB,1,none⟩=some (.int .i64 vn))):=fun w' hg=>by
           have hk:∀x,x<W8.heap.size->x≠g->w'.heap[x]?=W8.heap[x]?:=fun x h1 h2=>hg.block x h1 (fun e=>h2 (by cases e;rfl));exact⟨(World.cell?_of_block (w:=W8) (a:=⟨FB,3,none⟩) (hk FB ax.out.1 ae.out.1)).trans c3,(World.cell?_of_block (w:=W8) (a:=⟨R,q * 6,none⟩) (hk R ax.out.2.1 ae.out.2.1)).trans r0,(World.cell?_of_block (w:=W8) (a:=⟨PB,1,none⟩) (hk PB ax.out.2.2.1 ae.out.2.2.1)).trans b1,(World.cell?_of_block (w:=W8) (a:=⟨VB,0,none⟩) (hk VB ax.out.2.2.2.1 ae.out.2.2.2.1)).trans v0,(World.cell?_of_block (w:=W8) (a:=⟨VB,1,none⟩) (hk VB ax.out.2.2.2.1 ae.out.2.2.2.1)).trans v1⟩
          have e9:Hid (∀w':World,W8.grownBy w' (some g)->w'.cell? ⟨P,i * 2+1,none⟩=some (.slice (some ⟨g,0,none⟩) an fc)∧w'.frozen? ⟨P,i * 2+1,none⟩=false):=fun w' hg=>by
           have hk:w'.heap[P]?=W8.heap[P]?:=hg.block P ax.out.2.2.2.2.1 (fun e=>ae.out.2.2.2.2.1 (by cases e;rfl));exact⟨(World.cell?_of_block (w:=W8) (a:=⟨P,i * 2+1,none⟩) hk).trans p1,(World.frozen?_of_block (w:=W8) (a:=⟨P,i * 2+1,none⟩) hk).trans pz⟩
          have aP:W8.ownsRow base 41 2 (.slice (some ⟨g,0,none⟩) an fc) an (ph.src.map aaA).flatten:=aan ep.out bt;have ez:Hid (W8.grownBy W8.drew (some g)):=acS _ _;have fA:Hid (W8.grownBy (W8.alloc (.cells #[.bool vr,.int .i64 vn] 41)).drew (some g)):=aa4 (World.grownBy_alloc _ _ _) (acS _ _);obtain⟨dl,dz⟩:∃dl,dl=aqm ph.src kk:=⟨_,rfl⟩
          have gV:Hid (Calls Tryz.prog 111 #[.slice (some ⟨g,0,none⟩) an fc,.int .i64 (kk:Int),.int .i64 ((kk:Int)+1)] W8.drew fun e w'=>e = .returned (.slice (some ⟨g,0,none⟩) (an - 1) fc)∧W8.grownBy w' (some g)∧w'.ownsRow base 41 2 (.slice (some ⟨g,0,none⟩) (an - 1) fc) (an - 1) (dl.map aaA).flatten):=by
           rw [dz];refine (aiQ (w:=W8.drew) (aan aP (Below.refl _ _).drew) ck.out.2 cO).mono ?_;rintro e w' ⟨rfl,h1,h2⟩;exact⟨rfl,aa4 ez.out h1,h2⟩
          have gE:Hid (Calls Tryz.prog 111 #[.slice (some ⟨g,0,none⟩) an fc,.int .i64 (kk:Int),.int .i64 ((kk:Int)+1)] (W8.alloc (.cells #[.bool vr,.int .i64 vn] 41)).drew fun e w'=>e = .returned (.slice (some ⟨g,0,none⟩) (an - 1) fc)∧W8.grownBy w' (some g)∧w'.ownsRow base 41 2 (.slice (some ⟨g,0,none⟩) (an - 1) fc) (an - 1) (dl.map aaA).flatten∧w'.heap[W8.heap.size]?=some (.cells #[.bool vr,.int .i64 vn] 41 (0,0))):=by
           rw [dz];refine (aiQ (w:=(W8.alloc (.cells #[.bool vr,.int .i64 vn] 41)).drew) (aan aP (((Below.refl W8.heap.size W8).alloc (Aac _) _).drew)) ck.out.2 cO).mono ?_;rintro e w' ⟨rfl,h1,h2⟩;exact⟨rfl,aa4 fA.out h1,h2,(h1.block W8.heap.size (by show _<(W8.alloc _).heap.size;simp) (fun e=>by cases e;exact absurd ax.out.2.2.2.2.2 (Abp _))).trans (heap_alloc_new W8 _)⟩
          obtain⟨il,cT⟩:∃il,il=arP A t b ph.src:=⟨_,rfl⟩
          have bX:il=arF dl jv v2:=by
           rw [cT,dz];unfold arP;rw [ck.out.1,Aan,<-eo.out,<-eI.out,Aaf,aQ.out];rfl
          have gI:Hid (∀aG:World,W8.grownBy aG (some g)->aG.ownsRow base 41 2 (.slice (some ⟨g,0,none⟩) (an - 1) fc) (an - 1) (dl.map aaA).flatten->Calls Tryz.prog 110 #[.slice (some ⟨g,0,none⟩) (an - 1) fc,.int .i64 (jv:Int),.slice (some ⟨aG.heap.size,0,none⟩) 1 1] (aG.alloc (.cells #[.bool vr,.int .i64 vn] 41)) fun e w'=>e = .returned (.slice (some ⟨g,0,none⟩) an fc)∧W8.grownBy w' (some g)∧w'.ownsRow base 41 2 (.slice (some ⟨g,0,none⟩) an fc) an (il.map aaA).flatten):=fun aG hg ho=>by
           rw [bX];refine (aiR v2 (aan ho bE) (j:=jv) (by omega) (by have:=fJ.out;omega) (by omega) (by rw [<-dy.out.1,<-dy.out.2];exact heap_alloc_new _ _) (by have:=hg.size;have:=ax.out;omega)).mono ?_;rintro e w' ⟨rfl,h1,h2⟩;rw [show an - 1+1=an by omega] at h2 ⊢;exact⟨rfl,aa4 (aa4 hg (World.grownBy_alloc _ _ _)) h1,h2⟩
          have gx:Hid (∀aG:World,W8.grownBy aG (some g)->aG.ownsRow base 41 2 (.slice (some ⟨g,0,none⟩) (an - 1) fc) (an - 1) (dl.map aaA).flatten->aG.heap[W8.heap.size]?=some (.cells #[.bool vr,.int .i64 vn] 41 (0,0))->Calls Tryz.prog 110 #[.slice (some ⟨g,0,none⟩) (an - 1) fc,.int .i64 (jv:Int),.slice (some ⟨W8.heap.size,0,none⟩) 1 1] aG fun e w'=>e = .returned (.slice (some ⟨g,0,none⟩) an fc)∧W8.grownBy w' (some g)∧w'.ownsRow base 41 2 (.slice (some ⟨g,0,none⟩) an fc) an (il.map aaA).flatten):=fun aG hg ho dq=>by
           rw [bX];refine (aiR v2 ho (j:=jv) (by omega) (by have:=fJ.out;omega) (by omega) (by rw [<-dy.out.1,<-dy.out.2];exact dq) (by have:=ax.out;omega)).mono ?_;rintro e w' ⟨rfl,h1,h2⟩;rw [show an - 1+1=an by omega] at h2 ⊢;exact⟨rfl,aa4 hg h1,h2⟩
          have ik:IntKind.i64.wrap ((kk:Int)+1)=(kk:Int)+1:=by rw [IntKind.wrap_i64];omega
          have gQ:W8.drew.cell? ⟨FB,3,none⟩=some (.slice (some ⟨R,0,none⟩) n bc)∧W8.drew.cell? ⟨R,q * 6,none⟩=some (.slice (some ⟨P,0,none⟩) pn pc)∧W8.drew.cell? ⟨PB,1,none⟩=some (.slice (some ⟨g,0,none⟩) an fc)∧W8.drew.cell? ⟨VB,0,none⟩=some (.bool vr)∧W8.drew.cell? ⟨VB,1,none⟩=some (.int .i64 vn):=bu.out _ ez.out;have et:=hid bt;have gL:=hid cT;clear dF eG eW bO bt dm e8 aP dz cT bX gQ g0 g1 hK
          go_region_held3 (fun w' => w'.cell? ⟨FB, 3, none⟩ = some (.slice (some ⟨R, 0, none⟩) n bc) ∧ w'.cell? ⟨R, q * 6, none⟩ = some (.slice (some ⟨P, 0, none⟩) pn pc) ∧ w'.cell? ⟨PB, 1, none⟩ = some (.slice (some ⟨g, 0, none⟩) an fc) ∧ w'.cell? ⟨VB, 0, none⟩ = some (.bool vr) ∧ w'.cell? ⟨VB, 1, none⟩ = some (.int .i64 vn))
           ((first
             | with_reducible exact cX.out
             | with_reducible exact bu.out _ bW.out
             | with_reducible exact bu.out _ (aa4 bN.out (World.grownBy_alloc _ _ _))
             | with_reducible exact bu.out _ bN.out
             | with_reducible exact bu.out _ fp.out
             | with_reducible exact bu.out _ fA.out
             | with_reducible exact bu.out _ ez.out))
           ((first
             | (go_at_call 111; (with_reducible refine gV.out.mono ?_); rintro e aG ⟨rfl, a7, aR⟩
                have bN := hid a7
                have ew := hid aR
                clear a7 aR)
             | (go_at_call 111; (with_reducible refine gE.out.mono ?_); rintro e aG ⟨rfl, a7, aR, dq⟩
                have fp := hid a7
                have fU := hid aR
                have gA := hid dq
                clear a7 aR dq)
             | (go_at_call 110; (with_reducible refine (gI.out aG bN.out ew.out).mono ?_); rintro e aq ⟨rfl, ay, a6⟩
                have bW := hid ay
                have hp := e9.out aq ay
                have hU := hp.1
                have gf := hp.2
                have ag := bu.out aq ay
                have cX : Hid ((aq.setCell ⟨P, i * 2 + 1, none⟩ (.slice (some ⟨g, 0, none⟩) an fc)).cell? ⟨FB, 3, none⟩ = some (.slice (some ⟨R, 0, none⟩) n bc) ∧ (aq.setCell ⟨P, i * 2 + 1, none⟩ (.slice (some ⟨g, 0, none⟩) an fc)).cell? ⟨R, q * 6, none⟩ = some (.slice (some ⟨P, 0, none⟩) pn pc) ∧ (aq.setCell ⟨P, i * 2 + 1, none⟩ (.slice (some ⟨g, 0, none⟩) an fc)).cell? ⟨PB, 1, none⟩ = some (.slice (some ⟨g, 0, none⟩) an fc) ∧ (aq.setCell ⟨P, i * 2 + 1, none⟩ (.slice (some ⟨g, 0, none⟩) an fc)).cell? ⟨VB, 0, none⟩ = some (.bool vr) ∧ (aq.setCell ⟨P, i * 2 + 1, none⟩ (.slice (some ⟨g, 0, none⟩) an fc)).cell? ⟨VB, 1, none⟩ = some (.int .i64 vn)) := ⟨(aam _ ae.out.2.2.2.2.2.1 _ _).trans ag.1, (aam _ ae.out.2.2.2.2.2.2.1 _ _).trans ag.2.1, (aam _ ae.out.2.2.2.2.2.2.2.1 _ _).trans ag.2.2.1, (aam _ ae.out.2.2.2.2.2.2.2.2 _ _).trans ag.2.2.2.1, (aam _ ae.out.2.2.2.2.2.2.2.2 _ _).trans ag.2.2.2.2⟩
                have cf := hid a6
                clear ay a6 hp ag)
             | (go_at_call 110; (with_reducible refine (gx.out aG fp.out fU.out gA.out).mono ?_); rintro e aq ⟨rfl, ay, a6⟩
                have bW := hid ay
                have hp := e9.out aq ay
                have hU := hp.1
                have gf := hp.2
                have ag := bu.out aq ay
                have cX : Hid ((aq.setCell ⟨P, i * 2 + 1, none⟩ (.slice (some ⟨g, 0, none⟩) an fc)).cell? ⟨FB, 3, none⟩ = some (.slice (some ⟨R, 0, none⟩) n bc) ∧ (aq.setCell ⟨P, i * 2 + 1, none⟩ (.slice (some ⟨g, 0, none⟩) an fc)).cell? ⟨R, q * 6, none⟩ = some (.slice (some ⟨P, 0, none⟩) pn pc) ∧ (aq.setCell ⟨P, i * 2 + 1, none⟩ (.slice (some ⟨g, 0, none⟩) an fc)).cell? ⟨PB, 1, none⟩ = some (.slice (some ⟨g, 0, none⟩) an fc) ∧ (aq.setCell ⟨P, i * 2 + 1, none⟩ (.slice (some ⟨g, 0, none⟩) an fc)).cell? ⟨VB, 0, none⟩ = some (.bool vr) ∧ (aq.setCell ⟨P, i * 2 + 1, none⟩ (.slice (some ⟨g, 0, none⟩) an fc)).cell? ⟨VB, 1, none⟩ = some (.int .i64 vn)) := ⟨(aam _ ae.out.2.2.2.2.2.1 _ _).trans ag.1, (aam _ ae.out.2.2.2.2.2.2.1 _ _).trans ag.2.1, (aam _ ae.out.2.2.2.2.2.2.2.1 _ _).trans ag.2.2.1, (aam _ ae.out.2.2.2.2.2.2.2.2 _ _).trans ag.2.2.2.1, (aam _ ae.out.2.2.2.2.2.2.2.2 _ _).trans ag.2.2.2.2⟩
                have cf := hid a6
                clear ay a6 hp ag)))
          all_goals
           go_wp2_with fail;go_roundw
           case rel =>
            have cR:=(dE.out.later et.out).srcSame (u:=q) (i:=i) (g:=g) (P:=P) (c:=fc) (pn:=pn) (pc:=pc) (m:=an) (d := .int .i64 pd) (by rw [Aat];exact eX.out) (by rw [fv.out];exact (Aad.1 Hyp.out).1) cI.out aH.out fu.out bf.out ey.out (l:=il) (by have h:=cf.out.1;rw [abl (il.map aaA) (fun i cs hi=>ab8 il cs (Aae hi)),Aah] at h;omega) cf.out bW.out;rw [Aaz,fv.out,gL.out,apj gg.out] at cR;exact⟨i+1,by omega,by go_num,cR⟩
           case measure=>simp [intOf];omega
        . have hV:pn=i:=by omega
          subst hV;have c6:afo A t b x pn=ap4 A t b x:=by rw [eU.out];exact api _ _ _ _
          have cR:abB W1 wl base (atI X w.heap.size W1.heap.size) (okP bs) V (afU (agS bs t b (k+1)) V C):=by
           rw [apk Hu.out];unfold ajF;rw [Aan,hL.out,<-HA.out,<-c6];exact aE
          have fY:=hid cR;clear c6 cR aE hi hip;go_wp2_with fail;go_roundw
          case rel=>exact⟨k+1,by omega,by go_num,fY.out⟩
          case measure=>simp [intOf];omega
  . have gh:tn=k:=by omega
    subst gh;clear hk hkn;go_wp2_with fail;go_end0;refine⟨rfl,?_⟩;have h:=(aF.out.later dg.out).trans cp.out (fun x hx => .inl hx);rw [fE.out] at h;exact h
end
section
open Go.RowKit
theorem anR {S : Nat -> Prop} (nm : ByteArray) (p r : Int) (bs : List DBlock) (V : Pth -> Value) (base : Nat) (w : World) (hf : abJ w base bs V) (bC : base <= w.heap.size) (ad : afA bs)
 (hS:∀b,S b->b<w.heap.size∧∀q,okP bs q->(V q).ownBlock≠some b) :
 Calls Tryz.prog 57 #[.agg #[.string nm,.int .i64 p,.int .i64 r,V .blks]] w fun e w' =>
  ∃V',e = .returned (.agg #[.string nm,.int .i64 p,.int .i64 r,V' .blks])∧abJ w' base (acC bs) V'∧Below base w w'∧asZ S w w' (acC bs) V':=by
 obtain⟨ba,bc,dx⟩:=aah.shape (p := .blks) hf trivial;obtain⟨n,hn⟩:∃n,n=bs.length:=⟨_,rfl⟩
 rw [show (aae bs V .blks).length=n by simp [aae,hn]] at dx;have gW:n<=1048576:=by rw [hn];exact ad.ok.len
 have Hf:=hid hf;have aO:=hid ad;have HS:=hid hS;have Hn:=hid hn;have gz:=hid dx;rw [dx];clear hf ad hn dx hS;go_enter Tryz.func57,Tryz.ntmps57;go_upto_region 1 with (fail)
 obtain⟨W,hW⟩:∃W,W=(w.alloc (.cells #[.string nm,.int .i64 p,.int .i64 r,.slice ba n bc] 37)).alloc (.cells #[.string ⟨#[]⟩,.int .i64 0,.int .i64 0,.slice none 0 0] 37):=⟨_,rfl⟩
 obtain⟨eK,h0,h1⟩:=abE w (.cells #[.string nm,.int .i64 p,.int .i64 r,.slice ba n bc] 37) (.cells #[.string ⟨#[]⟩,.int .i64 0,.int .i64 0,.slice none 0 0] 37);rw [<-hW] at eK h0 h1 ⊢;have eB:Below w.heap.size w W:=by rw [hW];exact bE
 obtain⟨UB,dV⟩:∃UB,UB=w.heap.size:=⟨_,rfl⟩
 obtain⟨UO,ei⟩:∃UO,UO=w.heap.size+1:=⟨_,rfl⟩
 rw [<-ei] at h1 ⊢;rw [<-dV] at h0 ⊢;have eV:Hid (UB=w.heap.size∧UO=w.heap.size+1∧W.heap.size=w.heap.size+2):=⟨dV,ei,eK⟩
 have HB:Hid (base<=w.heap.size):=bC;have H0:=hid h0;have H1:=hid h1;have eT:=hid eB;obtain⟨X,hX⟩:∃X:Nat->Prop,X=fun x=>x=UB∨x=UO∨S x:=⟨_,rfl⟩
 have aM:abB W W base X (okP bs) V (aae bs V):=by
  refine abB.start (Hf.out.later eB) (fun x hx=>?_) (fun q hq k hk hx=>?_) (by omega)
  . rw [hX] at hx
    rcases hx with h | h | h
    . omega
    . omega
    . have:=(HS.out x h).1
      omega
  . have:=(aah.lt Hf.out hq k hk).2
    rw [hX] at hx;rcases hx with h | h | h
    . omega
    . omega
    . exact (HS.out k h).2 q hq hk
 have cp:=hid aM;have HX:Hid (X UB∧X UO):=by rw [hX];exact⟨.inl rfl,.inr (.inl rfl)⟩
 have fy:Hid (∀b,S b->X b):=by rw [hX];exact fun b hb => .inr (.inr hb)
 clear hW h0 h1 eB dV ei eK bC aM hX;go_wp2_with fail;go_loopw [3] (fun s3 wr=>∃(b:Nat) (V1:Pth->Value),b<=n∧s3 = .int .i64 (b:Int)∧abB W wr base X (okP (abA bs b)) V1 (aae (abA bs b) V1)∧V1 .blks = .slice ba n bc) (fun s3 _=>n - (intOf s3).toNat)
 case atStart=>exact⟨0,V,Aaj _,rfl,cp.out,gz.out⟩
 case round =>
  obtain⟨wo,eb⟩:∃wo:World,wo=wr:=⟨_,rfl⟩
  subst eb;obtain⟨b,V1,hb,rfl,aj,dD⟩:=hrel;have aw:=hid aj;have eZ:=hid dD;obtain⟨dA,dh⟩:=acD aO.out b (by rw [<-Hn.out];exact hb);obtain⟨l0,dt⟩:∃l0,l0=abA bs b:=⟨_,rfl⟩
  rw [<-dt] at dA dh aj;rw [<-Hn.out] at dh;have bY:wo.heap[UB]?=some (.cells #[.string nm,.int .i64 p,.int .i64 r,.slice ba n bc] 37 (0,0)):=(aj.kept UB HX.out.1).trans H0.out;obtain⟨c0,c1,c2,c3⟩:=(aad (cs:=[_,_,_,_]) bY).get4;rw [Aab] at c1 c2 c3
  by_cases hbn:b<n
  . obtain⟨R,rc,dX,-,-,-,gv⟩:=aj.rows.addr (p := .blks) trivial (by simp [aae];omega)
    rw [dD] at dX;have hN:ba=some ⟨R,0,none⟩:=by injection dX
    subst hN;have gy:b<l0.length:=by omega
    have cL:=hid dt;have gZ:=hid dA;have gm:=hid dh;clear aj dD dA dh dt bY dX gv c0 c1 c2;go_upto_region 5 with (fail)
    clear c3;go_loopg [5] (jN l0) (fun g s5 wr=>∃(l:List DBlock) (V2:Pth->Value),g=jN l∧abL (jN l) l b=abL (jN l0) l0 b∧afA l∧l.length=n∧abB W wr base X (okP l) V2 (aae l V2)∧V2 .blks = .slice (some ⟨R,0,none⟩) n bc)
    case atStart=>exact⟨l0,V1,rfl,rfl,gZ.out,gm.out,by rw [cL.out];exact aw.out,eZ.out⟩
    case round =>
     obtain⟨wi,gN⟩:∃wi:World,wi=wr:=⟨_,rfl⟩
     subst gN;obtain⟨l,V2,hg,eH,aX,bz,ah,bj⟩:=hrel;have ak:b<l.length:=by omega
     obtain⟨x,hx⟩:∃x,x=blkOf l b:=⟨_,rfl⟩
     obtain⟨ta,tc,aL⟩:=aah.shape (p := .to b) ah.rows ak;obtain⟨tn,aU⟩:∃tn,tn=x.fin.to.length:=⟨_,rfl⟩
     rw [show (aae l V2 (.to b)).length=tn by simp [aae,aU,hx]] at aL;obtain⟨la,lc,c7⟩:=aah.shape (p := .list b) ah.rows ak;obtain⟨ln,ds⟩:∃ln,ln=x.list.length:=⟨_,rfl⟩
     rw [show (aae l V2 (.list b)).length=ln by simp [aae,ds,hx]] at c7;obtain⟨ek,cq⟩:∃ek,ek=x.fin.kind:=⟨_,rfl⟩
     have aI:∀c,c<l.length->(aae l V2 .blks)[c]?=some (abd (blkOf l c) (V2 (.phis c)) (V2 (.list c)) (V2 (.to c))):=fun c hc=>by
      simp only [aae];rw [aai,aap l hc];rfl
     have aJ:=ah.rows.at (p := .blks) trivial (g:=R) (n:=n) (c:=bc) bj (aI b ak);have r2:wi.cell? ⟨R,b * 6+2,none⟩=some (.int .i64 ek):=by rw [cq,hx];exact aJ.1 2 _ rfl
     have r5:wi.cell? ⟨R,b * 6+5,none⟩=some (.slice ta tn tc):=by rw [<-aL];exact aJ.1 5 _ rfl
     have r1:wi.cell? ⟨R,b * 6+1,none⟩=some (.slice la ln lc):=by rw [<-c7];exact aJ.1 1 _ rfl
     have bm:wi.heap[UB]?=some (.cells #[.string nm,.int .i64 p,.int .i64 r,.slice (some ⟨R,0,none⟩) n bc] 37 (0,0)):=(ah.kept UB HX.out.1).trans H0.out;have cx:=hid eH;have al:=hid aX;have bJ:=hid bz;have af:=hid ah;have aQ:=hid bj;have h7:=hid aI;have Hx:=hid hx;have en:=hid aL;have bM:=hid c7;have cF:=hid aJ;have eJ:=hid bm;have bV:Hid (tn=x.fin.to.length∧ln=x.list.length∧ek=x.fin.kind):=⟨aU,ds,cq⟩
     have Hg:=hid hg
     by_cases hk2:ek=2
     . have fZ:=amn hk2
       have bK:tn=1:=by rw [aU];exact aX.jump x (by rw [hx];exact aas ak) (by rw [<-cq];exact hk2)
       obtain⟨t,ht⟩:∃t,t=toJ l b:=⟨_,rfl⟩
       have aD:x.fin.to=[((t:Nat):Int)]∧t<l.length:=by
        match hh:x.fin.to,aU with
        | [u],_ =>
          have hu:=aX.ok.toIn x (by rw [hx];exact aas ak) u (by rw [hh];simp);have e:((t:Nat):Int)=u:=by rw [ht];unfold toJ;rw [<-hx,hh];simp;omega
          exact⟨by rw [e],by omega⟩
        | [],h=>rw [bK] at h;simp at h
        | _ :: _ :: _,h=>rw [bK] at h;simp at h
       have ar:(aae l V2 (.to b))[0]?=some [.int .i64 (t:Int)]:=by
        simp only [aae];rw [<-hx,aD.1];rfl
       obtain⟨G,eF,b7,-,-,-,-⟩:=ah.rows.addr (p := .to b) ak (Ab9 (Aaj _) (Aad.1 ar).1);rw [aL] at b7;have eg:ta=some ⟨G,0,none⟩:=by injection b7
       subst eg;have t0:=(ah.rows.at (p := .to b) ak aL ar).1.get1;rw [show 0 * Pth.sz (.to b)=0 by simp] at t0;obtain⟨y,hy⟩:∃y,y=blkOf l t:=⟨_,rfl⟩
       obtain⟨pa,pc,br⟩:=aah.shape (p := .phis t) ah.rows aD.2;obtain⟨ya,yc,bk⟩:=aah.shape (p := .list t) ah.rows aD.2;obtain⟨za,zc,bw⟩:=aah.shape (p := .to t) ah.rows aD.2;obtain⟨pn,bF⟩:∃pn,pn=y.phis.length:=⟨_,rfl⟩
       obtain⟨yn,dG⟩:∃yn,yn=y.list.length:=⟨_,rfl⟩
       obtain⟨zn,ef⟩:∃zn,zn=y.fin.to.length:=⟨_,rfl⟩
       rw [show (aae l V2 (.phis t)).length=pn by simp [aae,bF,hy]] at br;rw [show (aae l V2 (.list t)).length=yn by simp [aae,dG,hy]] at bk;rw [show (aae l V2 (.to t)).length=zn by simp [aae,ef,hy]] at bw;obtain⟨yk,eh⟩:∃yk,yk=y.fin.kind:=⟨_,rfl⟩
       obtain⟨yr,eE⟩:∃yr,yr=y.fin.on.reg:=⟨_,rfl⟩
       obtain⟨ym,eQ⟩:∃ym,ym=y.fin.on.n:=⟨_,rfl⟩
       have cc:=ah.rows.at (p := .blks) trivial (g:=R) (n:=n) (c:=bc) bj (aI t aD.2);have bI:aal wi R (t * 6) [.slice pa pn pc,.slice ya yn yc,.int .i64 yk,.bool yr,.int .i64 ym,.slice za zn zc]:=by
        have h:=cc.1;rw [br,bk,bw,<-hy] at h;rw [eh,eE,eQ];exact h
       obtain⟨y0,y1,y2,y3,y4,y5⟩:=bI.get6;have c3:=(aad (cs:=[_,_,_,_]) bm) 3 _ rfl;rw [Aab] at c3;have gn:t<n:=by omega
       have Ht:Hid (t=toJ l b∧x.fin.to=[((t:Nat):Int)]∧t<l.length):=⟨ht,aD.1,aD.2⟩
       have Hy:=hid hy;have bT:Hid (pn=y.phis.length∧yn=y.list.length∧zn=y.fin.to.length∧yk=y.fin.kind∧yr=y.fin.on.reg∧ym=y.fin.on.n):=⟨bF,dG,ef,eh,eE,eQ⟩
       have eO:Hid (V2 (.phis t) = .slice pa pn pc∧V2 (.list t) = .slice ya yn yc∧V2 (.to t) = .slice za zn zc):=⟨br,bk,bw⟩
       have hQ:=hid cc;subst bK;clear hg eH aX bz ah bj aI hx aL aU c7 ds cq aJ bm ht aD ar b7 hy br bk bw bF dG ef eh eE eQ cc bI;go_upto_region 8 with (fail)
       obtain⟨YB,cZ⟩:∃YB,YB=wi.heap.size:=⟨_,rfl⟩
       obtain⟨W4,cG⟩:∃W4,W4=wi.alloc (.cells #[.slice pa pn pc,.slice ya yn yc,.int .i64 yk,.bool yr,.int .i64 ym,.slice za zn zc] 46):=⟨_,rfl⟩
       have eM:W4.heap[YB]?=some (.cells #[.slice pa pn pc,.slice ya yn yc,.int .i64 yk,.bool yr,.int .i64 ym,.slice za zn zc] 46 (0,0)):=by rw [cG,cZ];exact heap_alloc_new _ _
       rw [<-cG,<-cZ];have dY:Below wi.heap.size wi W4:=by rw [cG];exact bE
       have fk:W4.heap.size=YB+1:=by rw [cG,cZ];simp
       have du:Hid (YB=wi.heap.size∧W4.heap.size=YB+1):=⟨cZ,fk⟩
       obtain⟨w0,w1,w2,w3,w4,w5⟩:=(aad (cs:=[_,_,_,_,_,_]) eM).get6;rw [Aab] at w1 w2 w3 w4 w5;have gF:=hid eM;have cb:=hid dY;have b8:W4.heap[UB]?=some (.cells #[.string nm,.int .i64 p,.int .i64 r,.slice (some ⟨R,0,none⟩) n bc] 37 (0,0)):=(dY.block UB (af.out.x_lt HX.out.1)).trans eJ.out;obtain⟨c0,c1,c2,c3⟩:=(aad (cs:=[_,_,_,_]) b8).get4;rw [Aab] at c1 c2 c3;have hT:=hid b8;clear cZ cG eM dY fk b8 y0 y1 y2 y3 y4 y5 r1 r2 r5 t0
       by_cases az:t=b
       . have hD:=asj az
         have ao:Hid (aca l b=false):=by
          show _=_;unfold aca;rw [<-Ht.out.1,decide_eq_false (fun h:t≠b=>h az)];simp
         clear az;go_wp2_with fail;go_roundw
         case rel=>exact⟨b+1,V2,by omega,by go_num,by rw [abn,<-cL.out,<-cx.out,acW ao.out];exact af.out.later cb.out,aQ.out⟩
         case measure=>simp [intOf];omega
       . have hD:=atm az
         by_cases hp0:pn=0
         . subst hp0
           obtain⟨an,aN⟩:∃an,an=(aaf l 0 t).length:=⟨_,rfl⟩
           have ct:Hid (Calls Tryz.prog 74 #[.agg #[.string nm,.int .i64 p,.int .i64 r,.slice (some ⟨R,0,none⟩) n bc]] W4 fun e w'=>∃ab aC ac ra rc,e = .returned (.slice (some ⟨ab,aC,none⟩) n ac)∧w'.cell? ⟨ab,aC+t,none⟩=some (.slice ra an rc)∧Below W4.heap.size W4 w'):=by
            have bn:=(show abJ W4 base l V2 from (af.out.later cb.out).rows).read al.out.ok.num;rw [aQ.out] at bn;have fj:=adO nm p r (some ⟨R,0,none⟩) bc l W4 (by rw [bJ.out];exact bn) al.out.ok.len al.out.ok.hto;rw [bJ.out] at fj;refine fj.mono ?_;rintro e w' ⟨v,rfl,hv,hb⟩;obtain⟨aa,ac,rfl,-⟩:=id hv.val;rw [show (aheadF l).length=n by simp [aheadF,bJ.out]] at hv ⊢;have gM:t<(aheadF l).length:=by simp [aheadF,bJ.out];omega
            obtain⟨ab,aC,cs,ee,-,cS,-,bp⟩:=hv.get gM;rw [show (aheadF l)[t]=aaf l 0 t from (Aad.1 (ajv Ht.out.2.2)).2] at cS;obtain⟨rv,rfl,cu⟩:=cS;obtain⟨ra,rc,rfl,-⟩:=id cu.val;subst ee;have cv:=bp.get1;rw [Abd,<-aN] at cv;exact⟨ab,aC,ac,ra,rc,rfl,cv,hb⟩
           by_cases han1:1<an
           . have hB:decide ((1:Int)<(an:Int))=true:=decide_eq_true (by omega)
             have ao:Hid (aca l b=false):=by
              show _=_;unfold aca;rw [<-Ht.out.1,<-aN,decide_eq_false (show ¬an<=1 by omega)];simp
             clear az han1 aN;go_wp2_with (go_at_call 74;refine ct.out.mono ?_;rintro e w5 ⟨ab,aC,ac,ra,rc,rfl,fa,c8⟩;have dj:=hid c8;clear c8);go_roundw
             case rel=>exact⟨b+1,V2,by omega,by go_num,by rw [abn,<-cL.out,<-cx.out,acW ao.out];exact af.out.later (cb.out.trans (dj.out.mono cb.out.size)),aQ.out⟩
             case measure=>simp [intOf];omega
           . have hB:decide ((1:Int)<(an:Int))=false:=decide_eq_false (by omega)
             have be:Hid (aca l b=true):=by
              show _=_;unfold aca;rw [<-Ht.out.1,<-aN,<-Hx.out,<-bV.out.2.2,<-Hy.out,<-bT.out.1,decide_eq_true hk2,decide_eq_true (show t≠b from az),decide_eq_true (show an<=1 by omega)];rfl
             have bB:Hid (t≠b):=az;clear az han1 aN;go_upto_region 9 with (go_at_call 74;refine ct.out.mono ?_;rintro e w5 ⟨ab,aC,ac,ra,rc,rfl,fa,c8⟩;have dj:=hid c8;clear c8)
             have aV:Below wi.heap.size wi w5:=cb.out.trans (dj.out.mono cb.out.size);have h5:abB W w5 base X (okP l) V2 (aae l V2):=af.out.later aV;have dv:=aab w1 dj.out;have dR:w5.cell? ⟨R,b * 6+1,none⟩=some (.slice la ln lc):=by
              have h:=cF.out.1 1 (V2 (.list b)) rfl;rw [bM.out] at h;exact aab h aV
             have fI:R<wi.heap.size:=(af.out.rows.lt (p := .blks) trivial R (by rw [aQ.out];rfl)).2;have fm:w5.frozen? ⟨R,b * 6+1,none⟩=false:=(aV.frozen (p:=⟨R,b * 6+1,none⟩) fI).trans (cF.out.2 _);have cB:∀u∈(aae l V2 (.list t)).flatten,u.oneCell'=true:=by
              refine akj fun cs gG u hu=>?_;obtain⟨m,hm⟩:=List.mem_iff_getElem?.1 gG;simp only [aae] at hm;rw [aai] at hm;cases hz:(blkOf l t).list[m]? with
              | none=>rw [hz] at hm;cases hm
              | some z =>
                rw [hz] at hm;cases hm;obtain⟨xa,xc,gw⟩:=aah.shape (p := .args t m) af.out.rows (show m<_ from (Aad.1 hz).1);simp only [abN,Aam,Aao,or_false] at hu;rcases hu with rfl | rfl | rfl | rfl | rfl | rfl | rfl | rfl <;> first | rfl | (rw [gw];rfl)
             have aW:(aae l V2 (.list b)).length=ln:=by simp [aae,<-Hx.out,<-bV.out.2.1]
             have aA:(aae l V2 (.list t)).length=yn:=by simp [aae,<-Hy.out,<-bT.out.2.1]
             have fl:∀cs∈aae l V2 (.list t),cs.length=8:=h5.rows.wid (.list t) Ht.out.2.2;obtain⟨i0,e6,e4,eY,da⟩:=info_parts ahr;have a8:=h5.rows.own (.list b) ak;have aZ:=h5.rows.own (.list t) Ht.out.2.2;rw [aW,bM.out] at a8;rw [aA,eO.out.2.1] at aZ;have eu:=(al.out.ok.small _ (aas ak)).list;have dS:=(al.out.ok.small _ (aas Ht.out.2.2)).list;rw [<-Hx.out,<-bV.out.2.1] at eu;rw [<-Hy.out,<-bT.out.2.1] at dS;have dO:Hid (∀ty,∃v' w',(Builtin.append_ #[39,39] ty #[.slice la ln lc,.slice ya yn yc]).run Tryz.prog w5.drew = .ok v' w'∧w'.ownsRow base 49 8 v' (ln+yn) ((aae l V2 (.list b)).flatten++(aae l V2 (.list t)).flatten)∧w5.grownBy w' (Value.slice la ln lc).ownBlock∧(v'.ownBlock=(Value.slice la ln lc).ownBlock∨v'.ownBlock=some w5.heap.size)):=fun ty=>by
              obtain ⟨v', w', g1, g2, g3, g4⟩ := ah2 (P := Tryz.prog) (w := w5.drew) base 39 ty 49 i0 _ 8 _ Tryz.underlying39 e6 e4 eY da rfl (by decide) (.slice la ln lc) ln (aae l V2 (.list b)).flatten (aan a8 (Below.refl _ _).drew) ya yn yc (aae l V2 (.list t)).flatten (by rw [abl _ (fun i cs hi => fl cs (Aae hi)), aA]) (fun hm => by
               obtain ⟨g, c, e, -, -, -, -⟩ := h5.rows.addr (p := .list t) Ht.out.2.2 (by rw [aA]; exact hm)
               rw [eO.out.2.1] at e
               have hM : ya = some ⟨g, 0, none⟩ := by injection e
               subst hM
               exact ⟨⟨g, 0, none⟩, rfl, fun j u hj => aZ.cells (g := g) rfl j u hj⟩) cB (by unfold maxLen; omega) (by omega) (Aai (h5.base_le) (Aac _))
              exact⟨v',w',g1,g2,aa4 (acS w5 _) g3,g4⟩
             have bg:Hid (R≠YB∧∀k,(Value.slice la ln lc).ownBlock=some k->k≠R∧k≠YB∧k≠UB):=by
              refine⟨by have:=du.out;omega,fun k hk=>⟨fun e=>?_,fun e=>?_,fun e=>?_⟩⟩
              . exact af.out.rows.apart (.list b) .blks ak trivial (by simp) k (by rw [bM.out];exact hk) (by rw [aQ.out,e];rfl)
              . have:=(af.out.rows.lt (p := .list b) ak k (by rw [bM.out];exact hk)).2
                have:=du.out;omega
              . exact af.out.off (.list b) ak k (by rw [bM.out];exact hk) (by rw [e];exact HX.out.1)
             have ib:Hid (w5.drew.cell? ⟨YB,1,none⟩=some (.slice ya yn yc)):=dv;have zY:YB<w5.heap.size:=aac dv;have zR:R<w5.heap.size:=aac dR;have H5:=hid h5;have fW:=hid aV;have dk:Hid ((aae l V2 (.list b)).length=ln∧(aae l V2 (.list t)).length=yn):=⟨aW,aA⟩
             clear aV h5 cB aW aA fl a8 aZ fI w0 w1 w2 w3 w4 c0 c1 c2 c3 fa e6 e4 eY da
             go_region_law
              ((refine aix rfl _ _ 39 39 rfl (.slice la ln lc) (.slice ya yn yc) rfl rfl dO.out ?_
                intro v9 w9 ⟨eN, ed, cQ⟩
                obtain ⟨va, vc, rfl⟩ := aao eN
                have hk : ∀ x, x < w5.heap.size -> (∀ k, (Value.slice la ln lc).ownBlock = some k -> k ≠ x) -> w9.heap[x]? = w5.heap[x]? := fun x h1 h2 => ed.block x h1 (fun e => h2 x e.symm rfl)
                have n1 := (World.cell?_of_block (w := w5) (a := ⟨R, b * 6 + 1, none⟩) (hk R zR (fun k hk => (bg.out.2 k hk).1))).trans dR
                have nz := (World.frozen?_of_block (w := w5) (a := ⟨R, b * 6 + 1, none⟩) (hk R zR (fun k hk => (bg.out.2 k hk).1))).trans fm
                have n2 := (World.cell?_of_block (w := w5) (a := ⟨YB, 1, none⟩) (hk YB zY (fun k hk => (bg.out.2 k hk).2.1))).trans dv
                have h8 := hid n2
                have fN : Hid ((w9.setCell ⟨R, b * 6 + 1, none⟩ (.slice va (ln + yn) vc)).cell? ⟨YB, 1, none⟩ = some (.slice ya yn yc)) := (aam _ (fun e => bg.out.1 e.symm) _ _).trans n2
                have gC := hid hk
                have gS := hid eN
                have hR := hid ed
                have cE := hid cQ
                clear hk eN ed cQ n2))
             all_goals
              obtain⟨bA,bh⟩:∃bA,bA=w9.setCell ⟨R,b * 6+1,none⟩ (.slice va (ln+yn) vc):=⟨_,rfl⟩
              have bq := H5.out.addList (t := t) (R := R) (n := n) (bc := bc) (v' := .slice va (ln + yn) vc) ak aQ.out gS.out (by rw [dk.out.1, dk.out.2]) (by rw [bM.out]; exact hR.out) (fun k hk => by
               rw [bM.out]
               rcases cE.out with h | h
               . exact .inl (by rw [<- h]; exact hk)
               . rw [h] at hk; cases hk; exact .inr (Aac _))
              rw [<-bh] at bq;obtain⟨V3,cm⟩:∃V3,V3=aaU V2 (.list b) (.slice va (ln+yn) vc):=⟨_,rfl⟩
              rw [<-cm] at bq;have dw:V3 .blks = .slice (some ⟨R,0,none⟩) n bc:=by rw [cm,aag _ _ (by simp)];exact aQ.out
              have bL:bA.heap[YB]?=some (.cells #[.slice pa 0 pc,.slice ya yn yc,.int .i64 yk,.bool yr,.int .i64 ym,.slice za zn zc] 46 (0,0)):=by
               rw [bh,Below.heap_setCell _ _ _ _ (fun e=>bg.out.1 (by rw [<-show YB=R from e])),gC.out YB zY (fun k hk=>(bg.out.2 k hk).2.1)];exact (dj.out.block YB (by have:=du.out;omega)).trans gF.out
              have c4:bA.heap[UB]?=some (.cells #[.string nm,.int .i64 p,.int .i64 r,.slice (some ⟨R,0,none⟩) n bc] 37 (0,0)):=(bq.kept UB HX.out.1).trans H0.out;have dc:abB bA bA base (fun z=>X z∨z=YB) (okP l) V3 (afU l V3 (ago l V3 b t)):=by
               refine (bq.keep (fun z hz=>?_) (fun q hq k hk hz=>?_)).congr (fun q _=>rfl) (fun q _=>?_)
               . rcases hz with h | h
                 . exact bq.x_lt h
                 . rw [h];exact (Aag.1 bL).1
               . rcases hz with h | h
                 . exact bq.off q hq k hk h
                 . by_cases e:q = .list b
                   . subst e
                     rw [cm,aaj] at hk;rcases cE.out with h2 | h2
                     . exact (bg.out.2 k (by rw [<-h2];exact hk)).2.1 h
                     . rw [h2] at hk;cases hk;omega
                   . rw [cm,aag _ _ e] at hk
                     have:=(af.out.rows.lt hq k hk).2;have:=du.out;omega
               . cases q with
                 | src c j=>exact (abq (.src c j) (by simp)).symm
                 | _=>rfl
              have bn:=anC bq.rows al.out.ok.num ak Ht.out.2.2;rw [dw] at bn;have ea:=hid (anQ nm p r l (l.set b (atB l b t)) V3 (ago l V3 b t) (fun z=>X z∨z=YB) base UB R t b n bc bA c4 dc (.inl HX.out.1) (fun q hq=>abq q hq) dw bn (by rw [Aat];exact bJ.out) (fun c=>by rw [amL l b t ak c]) bJ.out al.out.ok (by have:=bJ.out;omega) hbn);have ev:=hid bq;have dZ:=hid bL;have fT:=hid cm;have dd:=hid dw;have dK:=hid bh;clear bq bL c4 dc bn cm dw bh n1 nz dv dR fm zY zR;go_upto_region 11 with (rw [<-dK.out];go_at_call 88;refine ea.out.mono ?_;rintro e aq ⟨rfl,fC⟩;have dr:=hid fC;clear fC)
              have cP:aq.heap[YB]?=some (.cells #[.slice pa 0 pc,.slice ya yn yc,.int .i64 yk,.bool yr,.int .i64 ym,.slice za zn zc] 46 (0,0)):=(dr.out.kept YB (.inr rfl)).trans dZ.out;have di:aq.heap[UB]?=some (.cells #[.string nm,.int .i64 p,.int .i64 r,.slice (some ⟨R,0,none⟩) n bc] 37 (0,0)):=(dr.out.kept UB (.inl HX.out.1)).trans ((ev.out.kept UB HX.out.1).trans H0.out);obtain⟨-,-,y2,y3,y4,y5⟩:=(aad (cs:=[_,_,_,_,_,_]) cP).get6;rw [Aab] at y2 y3 y4 y5;have bP:∀c,c<l.length->(afU (agS l t b (blkOf l t).fin.to.length) V3 (ago l V3 b t) .blks)[c]?=some (abd (blkOf l c) (V3 (.phis c)) (V3 (.list c)) (V3 (.to c))):=fun c hc=>by
               show (ago l V3 b t .blks)[c]?=_;rw [abq _ (by simp)];simp only [aae];rw [aai,aap l hc];rfl
              have au:=dr.out.rows.at (p := .blks) trivial (g:=R) (n:=n) (c:=bc) dd.out (bP b ak);obtain⟨-,-,b2,b3,b4,b5⟩:=au.1.get6;have z2:=au.2 (b * 6+2);have z3:=au.2 (b * 6+3);have z4:=au.2 (b * 6+4);have z5:=au.2 (b * 6+5);have gX:aq.cell? ⟨R,b * 6+2,none⟩=some (.int .i64 (blkOf l b).fin.kind):=b2;have gO:aq.cell? ⟨R,b * 6+3,none⟩=some (.bool (blkOf l b).fin.on.reg):=b3;have gj:aq.cell? ⟨R,b * 6+4,none⟩=some (.int .i64 (blkOf l b).fin.on.n):=b4;have fR:aq.cell? ⟨R,b * 6+5,none⟩=some (V3 (.to b)):=b5;have cA:=hid bP;have gp:=hid di;clear cP di bP au b2 b3 b4 b5;go_upto_region 12 with (fail)
              obtain⟨bd,bQ⟩:∃bd,bd=(((aq.setCell ⟨R,b * 6+2,none⟩ (.int .i64 yk)).setCell ⟨R,b * 6+2+1,none⟩ (.bool yr)).setCell ⟨R,b * 6+2+2,none⟩ (.int .i64 ym)).setCell ⟨R,b * 6+2+3,none⟩ (.slice za zn zc):=⟨_,rfl⟩
              rw [<-bQ];have dB:abB bA bd base (fun z=>X z∨z=YB) (okP l) V3 (aaU (afU (agS l t b (blkOf l t).fin.to.length) V3 (ago l V3 b t)) .blks (((afU (agS l t b (blkOf l t).fin.to.length) V3 (ago l V3 b t)) .blks).set b [V3 (.phis b),V3 (.list b),.int .i64 yk,.bool yr,.int .i64 ym,.slice za zn zc])):=by
               rw [bQ];exact dr.out.set4 trivial dd.out (i:=b) (cA.out b ak) (.int .i64 yk) (.bool yr) (.int .i64 ym) (.slice za zn zc)
              have eP:(aaU (afU (agS l t b (blkOf l t).fin.to.length) V3 (ago l V3 b t)) .blks (((afU (agS l t b (blkOf l t).fin.to.length) V3 (ago l V3 b t)) .blks).set b [V3 (.phis b),V3 (.list b),.int .i64 yk,.bool yr,.int .i64 ym,.slice za zn zc]) .blks)[t]?=some (abd (blkOf l t) (V3 (.phis t)) (V3 (.list t)) (V3 (.to t))):=by
               rw [aaj,Ack (fun e=>bB.out e.symm)];exact cA.out t Ht.out.2.2
              have ai:=dB.rows.at (p := .blks) trivial (g:=R) (n:=n) (c:=bc) dd.out eP;obtain⟨t0,t1,t2,t3,t4,t5⟩:=ai.1.get6;have hZ:bd.cell? ⟨R,t * 6,none⟩=some (V3 (.phis t)):=t0;have ig:bd.cell? ⟨R,t * 6+1,none⟩=some (V3 (.list t)):=t1;have ic:bd.cell? ⟨R,t * 6+2,none⟩=some (.int .i64 (blkOf l t).fin.kind):=t2;have hY:bd.cell? ⟨R,t * 6+3,none⟩=some (.bool (blkOf l t).fin.on.reg):=t3;have iq:bd.cell? ⟨R,t * 6+4,none⟩=some (.int .i64 (blkOf l t).fin.on.n):=t4;have h9:bd.cell? ⟨R,t * 6+5,none⟩=some (V3 (.to t)):=t5;have x0:=ai.2 (t * 6);have x1:=ai.2 (t * 6+1);have x2:=ai.2 (t * 6+2);have x3:=ai.2 (t * 6+3);have x4:=ai.2 (t * 6+4);have x5:=ai.2 (t * 6+5);have cH:bd.heap[UB]?=some (.cells #[.string nm,.int .i64 p,.int .i64 r,.slice (some ⟨R,0,none⟩) n bc] 37 (0,0)):=(dB.kept UB (.inl HX.out.1)).trans ((ev.out.kept UB HX.out.1).trans H0.out);have c3:=(aad (cs:=[_,_,_,_]) cH) 3 _ rfl;rw [Aab] at c3;have fH:=dB.set6 trivial dd.out (i:=t) eP (.slice none 0 0) (.slice none 0 0) (.int .i64 1) (.bool false) (.int .i64 0) (.slice none 0 0)
              have fb := anD (b := b) al.out ak be.out fH (fun q hq => by
               rw [aag _ _ hq, aag _ _ hq, <- Ht.out.1]; rfl) (by
               rw [aaj, aaj, <- Ht.out.1]
               have e1 : afU (agS l t b (blkOf l t).fin.to.length) V3 (ago l V3 b t) .blks = aae l V3 .blks := abq .blks (by simp)
               have e2 : V3 (.to t) = .slice za zn zc := by rw [fT.out, aag _ _ (by simp)]; exact eO.out.2.2
               rw [e1, e2]
               unfold abd
               show _ = ((aae l V3 .blks).set b [V3 (.phis b), V3 (.list b), .int .i64 (blkOf l t).fin.kind, .bool (blkOf l t).fin.on.reg, .int .i64 (blkOf l t).fin.on.n, .slice za zn zc]).set t _
               rw [<- Hy.out, <- bT.out.2.2.2.1, <- bT.out.2.2.2.2.1, <- bT.out.2.2.2.2.2]; rfl)
              have gY:=hid (ev.out.trans fb (fun z hz => .inl hz));clear bQ dB eP ai t0 t1 t2 t3 t4 t5 cH fH fb y2 y3 y4 y5 z2 z3 z4 z5 gX gO gj fR;go_wp2_with fail;go_roundg (jN (aaL l b))
              case measure =>
               have h1:=ag7 al.out ak be.out;have h2:=Hg.out;omega
              case rel =>
               refine⟨aaL l b,ap5 l b (toJ l b) V3,rfl,by rw [<-akJ al.out ak be.out];exact cx.out,ac9 al.out ak be.out,by rw [aaV];exact bJ.out,gY.out,?_⟩;unfold ap5;rw [aag _ _ (by simp),aag _ _ (by simp),aag _ _ (by simp)];exact dd.out
         . have ih:decide (0<pn)=true:=decide_eq_true (by omega)
           have ao:Hid (aca l b=false):=by
            show _=_;unfold aca;rw [<-Ht.out.1,<-Hy.out,<-bT.out.1,decide_eq_false hp0];simp
           clear hp0 az;go_wp2_with fail;go_roundw
           case rel=>exact⟨b+1,V2,by omega,by go_num,by rw [abn,<-cL.out,<-cx.out,acW ao.out];exact af.out.later cb.out,aQ.out⟩
           case measure=>simp [intOf];omega
     . have fZ:=abI hk2
       have ao:Hid (aca l b=false):=by
        show _=_;unfold aca;rw [<-hx,<-cq,decide_eq_false hk2];rfl
       clear hg eH aX bz ah bj aI hx aL aU c7 ds cq aJ bm hk2;go_wp2_with fail;go_roundw
       case rel=>exact⟨b+1,V2,by omega,by go_num,by rw [abn,<-cL.out,<-cx.out,acW ao.out];exact af.out,aQ.out⟩
       case measure=>simp [intOf];omega
  . have eC:b=n:=by omega
    subst eC;have b9:wo.heap[UO]?=some (.cells #[.string ⟨#[]⟩,.int .i64 0,.int .i64 0,.slice none 0 0] 37 (0,0)):=(aj.kept UO HX.out.2).trans H1.out;obtain⟨o0,o1,o2,o3⟩:=(aad (cs:=[_,_,_,_]) b9).get4;rw [Aab] at o1 o2 o3;have z0:=aaq b9 0;have z1:=aaq b9 1;have z2:=aaq b9 2;have z3:=aaq b9 3;have gb:Hid (aal wo UO 0 [.string ⟨#[]⟩,.int .i64 0,.int .i64 0,.slice none 0 0]):=aad b9;clear bY b9 hbn hb aj dA dh dt dD;go_wp2_with fail;have gJ:=asW (u0 := .string nm) (u1 := .int .i64 p) (u2 := .int .i64 r) (u3 := .slice ba b bc) gb.out;refine bodyPost_ret (adP rfl rfl gJ) rfl ?_;have dC:∀q,okP (abA bs b) q->(V1 q).ownBlock≠some UO:=fun q hq e=>aw.out.off q hq UO e HX.out.2;have df:=((((aw.out.rows.setOff (o:=0) dC (.string nm)).setOff (o:=1) dC (.int .i64 p)).setOff (o:=2) dC (.int .i64 r)).setOff (o:=3) dC (.slice ba b bc))
    refine⟨V1,by rw [eZ.out],by unfold acC;rw [<-Hn.out];exact df,?_,?_⟩
    . have gu:=(eT.out.mono HB.out).trans aw.out.low
      have h2:base<=UO:=by have:=eV.out;have:=HB.out;omega
      exact (((gu.setCell (p:=⟨UO,0,none⟩) h2 _).setCell (p:=⟨UO,1,none⟩) h2 _).setCell (p:=⟨UO,2,none⟩) h2 _).setCell (p:=⟨UO,3,none⟩) h2 _
    . intro b2 el
      have ak:=(HS.out b2 el).1;have h2:b2≠UO:=by have:=eV.out;omega
      refine⟨?_,fun q hq e=>aw.out.off q (by unfold acC at hq;rw [<-Hn.out] at hq;exact hq) b2 e (fy.out b2 el)⟩;refine ((((Kp.refl (fun b=>b≠UO) wo).set (a:=⟨UO,0,none⟩) (fun h=>h rfl) _).set (a:=⟨UO,1,none⟩) (fun h=>h rfl) _).set (a:=⟨UO,2,none⟩) (fun h=>h rfl) _ |>.set (a:=⟨UO,3,none⟩) (fun h=>h rfl) _).block b2 ?_ h2 |>.trans ?_
      . exact Aay ak (Aai eT.out.size aw.out.low.size)
      . exact (aw.out.kept b2 (fy.out b2 el)).trans (eT.out.block b2 ak)
end
section
open Go.RowKit
structure Nm where
 now:List Int
 many:Int
def nmS(s:Nm)(r:Int):Nm:=if s.now.getD r.toNat 0<0 then ⟨s.now.set r.toNat s.many,s.many+1⟩ else s
def nmR(s:Nm)(r:Int):Int:=(nmS s r).now.getD r.toNat 0
def ael(s:Nm)(v:aay):Nm:=if v.reg then nmS s v.n else s
def aem(s:Nm)(v:aay):aay:=if v.reg then ⟨true,nmR s v.n⟩ else v
structure agL (n:Nat)(s:Nm):Prop where
 len:s.now.length=n
 lo:∀x∈s.now,-1<=x∧x<s.many
 cnt:s.many=(s.now.countP (fun x=>decide (0<=x)):Nat)
variable {n:Nat}{s:Nm}
theorem agL.many_le(h:agL n s):0<=s.many∧s.many<=n:=by
 have:=h.cnt;have h2:=List.countP_le_length (p:=fun x:Int=>decide (0<=x)) (l:=s.now);have:=h.len;omega
theorem adI {p : Int -> Bool} : ∀ {l : List Int} {i : Nat} {x y : Int}, l[i]? = some x -> p x = false -> p y = true -> (l.set i y).countP p = l.countP p + 1
 | [],_,_,_,h,_,_=>by simp at h
 | a :: l,0,x,y,h,h1,h2=>by
   have e:a=x:=by simpa using h
   subst e;rw [List.set_cons_zero,List.countP_cons,List.countP_cons,h1,h2];simp
 | a :: l,i+1,x,y,h,h1,h2=>by
   rw [List.set_cons_succ,List.countP_cons,List.countP_cons,adI (by simpa using h) h1 h2];omega
theorem agL.room(h:agL n s){r:Nat}(hr:r<n)(h0:s.now.getD r 0<0):s.many<n:=by
 have hg:s.now[r]?=some (s.now.getD r 0):=by rw [Aaf,Aaa (by rw [h.len];exact hr)];rfl
 have h1:=adI (p:=fun x:Int=>decide (0<=x)) (y:=0) hg (decide_eq_false (by omega)) (decide_eq_true (Int.le_refl _));have h2:=List.countP_le_length (p:=fun x:Int=>decide (0<=x)) (l:=s.now.set r 0);rw [Aat] at h2;have:=h.cnt;have:=h.len;omega
theorem agL.step(h:agL n s){r:Int}(hr:0<=r∧r<n):agL n (nmS s r):=by
 unfold nmS
 by_cases h0:s.now.getD r.toNat 0<0
 . rw [if_pos h0]
   have hg:s.now[r.toNat]?=some (s.now.getD r.toNat 0):=by rw [Aaf,Aaa (by rw [h.len];omega)];rfl
   have hm:=h.many_le;refine⟨by rw [Aat];exact h.len,fun x hx=>?_,?_⟩
   . rcases List.mem_or_eq_of_mem_set hx with h1 | h1
     . have:=h.lo x h1
       show -1<=x∧x<s.many+1;omega
     . subst h1
       show -1<=s.many∧s.many<s.many+1;omega
   . show s.many+1=((s.now.set r.toNat s.many).countP _:Nat)
     rw [adI hg (decide_eq_false (by omega)) (decide_eq_true (by omega))];have:=h.cnt;omega
 . rw [if_neg h0];exact h
theorem atK(h:agL n s){r:Int}(hr:0<=r∧r<n):0<=nmR s r∧nmR s r<(nmS s r).many∧(nmS s r).now[r.toNat]?=some (nmR s r):=by
 have h2:=h.step hr;have hg:(nmS s r).now[r.toNat]?=some (nmR s r):=by
  unfold nmR;rw [Aaf,Aaa (by rw [h2.len];omega)];rfl
 refine⟨?_,(h2.lo _ (Aae hg)).2,hg⟩;unfold nmR nmS
 by_cases h0:s.now.getD r.toNat 0<0
 . rw [if_pos h0]
   show 0<=(s.now.set r.toNat s.many).getD r.toNat 0;rw [Aaf,Aa6 (by rw [h.len];omega)];exact h.many_le.1
 . rw [if_neg h0];omega
def InV(n:Nat)(v:aay):Prop:=v.reg=true->0<=v.n∧v.n<n
structure afB (W:World)(T NB n:Nat)(s:Nm):Prop where
 row:W.heap[T]?=some (.cells (s.now.map (Value.int .i64)).toArray 3 (0,0))
 box:W.heap[NB]?=some (.cells #[.slice (some ⟨T,0,none⟩) n n,.int .i64 s.many] 136 (0,0))
 ok:agL n s
def NmF(T NB:Nat)(b:Nat):Prop:=b≠T∧b≠NB
variable {W:World}{T NB:Nat}
theorem afB.later{W':World}(h:afB W T NB n s){F:Nat->Prop}(hk:Kp F W W')(h1:F T)(h2:F NB):afB W' T NB n s :=
 ⟨(hk.block T (Aag.1 h.row).1 h1).trans h.row,(hk.block NB (Aag.1 h.box).1 h2).trans h.box,h.ok⟩
theorem afB.live(h:afB W T NB n s):T<W.heap.size∧NB<W.heap.size:=⟨(Aag.1 h.row).1,(Aag.1 h.box).1⟩
theorem afB.below{W':World}(h:afB W T NB n s)(hb:Below W.heap.size W W'):afB W' T NB n s:=h.later (F:=fun _=>True) (Kp.of hb) trivial trivial
theorem afB.ne(h:afB W T NB n s):T≠NB:=fun e=>by
 have h1:=h.row;rw [e,h.box] at h1;have h2:=congrArg (fun o:Option Obj=>match o with | some (.cells _ t _)=>t | _=>0) h1;exact absurd (show (136:Nat)=3 from h2) (by decide)
theorem afB.put(h:afB W T NB n s){r:Nat}(hr:r<n)(h0:s.now.getD r 0<0):afB ((W.setCell ⟨T,r,none⟩ (.int .i64 s.many)).setCell ⟨NB,1,none⟩ (.int .i64 (s.many+1))) T NB n (nmS s (r:Int)):=by
 have dp:=h.ne;have h2:nmS s (r:Int)=⟨s.now.set r s.many,s.many+1⟩:=by unfold nmS;rw [Aan,if_pos h0]
 refine⟨?_,?_,h.ok.step (by omega)⟩
 . rw [Below.heap_setCell _ _ _ _ dp,aak h.row,h2]
   simp
 . have hb:(W.setCell ⟨T,r,none⟩ (.int .i64 s.many)).heap[NB]?=_:=(Below.heap_setCell W ⟨T,r,none⟩ _ _ (fun e=>dp e.symm)).trans h.box
   rw [aak hb,h2];rfl
end
section
open Go.RowKit
def aba(s:Nm)(l:List aay):Nm:=l.foldl ael s
def aie(s:Nm)(d:Int):Nm:=if 0<=d then nmS s d else s
def acr(s:Nm)(y:aaJ):Nm:=aie (aba (ael (ael s y.a) y.b) y.args) y.dst
def al2(s:Nm)(p:acn):Nm:=nmS s p.dst
def anZ(s:Nm)(x:DBlock):Nm:=ael (x.list.foldl acr (x.phis.foldl al2 s)) x.fin.on
def agU(s:Nm)(p:Nat):Nm:=(List.range p).foldl (fun (s:Nm) (r:Nat)=>nmS s (r:Int)) s
def abF(s:Nm)(l:List aay)(k:Nat):List aay:=l.mapIdx fun m v=>if m<k then aem (aba s (l.take m)) v else v
def aiz(s:Nm)(p:acn):Nm:=aba (nmS s p.dst) p.src
def atL(s:Nm)(p:acn)(k:Nat):acn:=⟨nmR s p.dst,abF (nmS s p.dst) p.src k⟩
def as3(s:Nm)(p:acn):acn:=atL s p p.src.length
def acj(s:Nm)(l:List acn)(k:Nat):List acn:=l.mapIdx fun i p=>if i<k then as3 ((l.take i).foldl aiz s) p else p
def ae9(s:Nm)(y:aaJ):Nm:=ael (ael s y.a) y.b
def atW(s:Nm)(d:Int):Int:=if 0<=d then nmR s d else d
def arl(s:Nm)(y:aaJ):aaJ:=⟨y.op,atW (aba (ae9 s y) y.args) y.dst,aem s y.a,aem (ael s y.a) y.b,y.fn,abF (ae9 s y) y.args y.args.length⟩
def adX(s:Nm)(l:List aaJ)(k:Nat):List aaJ:=l.mapIdx fun i y=>if i<k then arl ((l.take i).foldl acr s) y else y
def arn(s:Nm)(x:DBlock):Nm:=x.list.foldl acr (x.phis.foldl aiz s)
def aiA(s:Nm)(x:DBlock):Nm:=ael (arn s x) x.fin.on
def arT(s:Nm)(x:DBlock):DBlock:=⟨acj s x.phis x.phis.length,adX (x.phis.foldl aiz s) x.list x.list.length,⟨x.fin.kind,aem (arn s x) x.fin.on,x.fin.to⟩⟩
def afa(s:Nm)(l:List DBlock)(k:Nat):List DBlock:=l.mapIdx fun i x=>if i<k then arT ((l.take i).foldl aiA s) x else x
def nm0(n:Nat):Nm:=⟨List.replicate n (-1),0⟩
def al3(p n:Nat)(bs:List DBlock):Nm:=bs.foldl anZ (agU (nm0 n) p)
def adh(p n:Nat)(bs:List DBlock):List DBlock:=afa (al3 p n bs) bs bs.length
def afb(p n:Nat)(bs:List DBlock):Int:=(bs.foldl aiA (al3 p n bs)).many
structure ac6 (n:Nat)(x:DBlock):Prop where
 phi:∀p∈x.phis,(0<=p.dst∧p.dst<n)∧∀v∈p.src,InV n v
 ins:∀y∈x.list,InV n y.a∧InV n y.b∧(∀v∈y.args,InV n v)∧y.dst<n
 on:InV n x.fin.on
variable {α:Type}{k:Nat}
theorem abk{β:Type}(f:β->α->β)(s:β){l:List α}{x:α}(h:l[k]?=some x):(l.take (k+1)).foldl f s=f ((l.take k).foldl f s) x:=by
 rw [Acb,h,List.foldl_append];rfl
theorem ajf{β:Type}(f:β->α->β)(s:β){l:List α}(h:k=l.length):(l.take k).foldl f s=l.foldl f s:=by rw [h,Aa1]
theorem ajg(s:Nm)(k:Nat):agU s (k+1)=nmS (agU s k) (k:Int):=by
 unfold agU;rw [List.range_succ,List.foldl_append];rfl
theorem aif(f:Nat->α->α)(l:List α):(l.mapIdx fun i x=>if i<0 then f i x else x)=l:=by
 apply Aap;intro i;rw [Abr];cases l[i]? <;> rfl
theorem ak6(f:Nat->α->α){l:List α}{x:α}(h:l[k]?=some x):(l.mapIdx fun i x=>if i<k then f i x else x).set k (f k x)=l.mapIdx fun i x=>if i<k+1 then f i x else x:=by
 have hk:=(Aad.1 h).1;apply Aap;intro i;rw [Aa5,Abf,Abr,Abr]
 by_cases e:k=i
 . subst e;rw [if_pos rfl,if_pos hk,h];simp
 . rw [if_neg e]
   congr 1
   funext y
   by_cases h2:i<k
   . rw [if_pos h2,if_pos (by omega)]
   . rw [if_neg h2,if_neg (by omega)]
theorem apO(f:Nat->α->α){l:List α}{x:α}(h:l[k]?=some x):(l.mapIdx fun i x=>if i<k then f i x else x)[k]?=some x:=by
 rw [Abr,h];simp
theorem aih(s:Nm)(l:List aay):abF s l 0=l:=aif _ _
variable {l:List aay}{v:aay}
theorem ajh(s:Nm)(h:l[k]?=some v):(abF s l k).set k (aem (aba s (l.take k)) v)=abF s l (k+1):=ak6 (fun m v=>aem (aba s (l.take m)) v) h
theorem ak7(s:Nm)(h:l[k]?=some v):(abF s l k)[k]?=some v:=apO (fun m v=>aem (aba s (l.take m)) v) h
theorem al4(s:Nm)(l:List acn):acj s l 0=l:=aif _ _
theorem anS(s:Nm){l:List acn}{p:acn}(h:l[k]?=some p):(acj s l k).set k (as3 ((l.take k).foldl aiz s) p)=acj s l (k+1):=ak6 (fun m p=>as3 ((l.take m).foldl aiz s) p) h
theorem aii(s:Nm){l:List acn}{p:acn}(h:l[k]?=some p):(acj s l k)[k]?=some p:=apO (fun m p=>as3 ((l.take m).foldl aiz s) p) h
theorem al5(s:Nm)(l:List aaJ):adX s l 0=l:=aif _ _
theorem anT(s:Nm){l:List aaJ}{y:aaJ}(h:l[k]?=some y):(adX s l k).set k (arl ((l.take k).foldl acr s) y)=adX s l (k+1):=ak6 (fun m y=>arl ((l.take m).foldl acr s) y) h
theorem aij(s:Nm){l:List aaJ}{y:aaJ}(h:l[k]?=some y):(adX s l k)[k]?=some y:=apO (fun m y=>arl ((l.take m).foldl acr s) y) h
theorem al6(s:Nm)(l:List DBlock):afa s l 0=l:=aif _ _
theorem anU(s:Nm){l:List DBlock}{x:DBlock}(h:l[k]?=some x):(afa s l k).set k (arT ((l.take k).foldl aiA s) x)=afa s l (k+1):=ak6 (fun m x=>arT ((l.take m).foldl aiA s) x) h
theorem apP(s:Nm){l:List DBlock}{x:DBlock}(h:l[k]?=some x):(afa s l k)[k]?=some x:=apO (fun m x=>arT ((l.take m).foldl aiA s) x) h
theorem aji(s:Nm)(l:List DBlock)(k:Nat):(afa s l k).length=l.length:=by simp [afa]
theorem afu(s:Nm)(h:l[k]?=some v):aba s (l.take (k+1))=ael (aba s (l.take k)) v:=abk _ _ h
theorem amU(n:Nat):agL n (nm0 n):=by
 refine⟨by simp [nm0],fun x hx=>?_,?_⟩
 . rw [List.eq_of_mem_replicate hx]
   show (-1:Int) <= -1∧(-1:Int)<0;omega
 . show (0:Int)=((List.replicate n (-1:Int)).countP _:Nat)
   rw [List.countP_eq_zero.2 (fun a ha=>by rw [List.eq_of_mem_replicate ha];decide)];rfl
theorem atM {w:World}{b:Nat}{a0 a1 a2 a3 u0 u1 u2 u3:Value}{ty:TypeId}(h:w.heap[b]?=some (.cells #[a0,a1,a2,a3] ty (0,0))) :
 ((((w.setCell ⟨b,0,none⟩ u0).setCell ⟨b,1,none⟩ u1).setCell ⟨b,2,none⟩ u2).setCell ⟨b,3,none⟩ u3).heap[b]?=some (.cells #[u0,u1,u2,u3] ty (0,0)) :=
 aak (aak (aak (aak h u0) u1) u2) u3
end
section
theorem aik : ∀ {l m : List Int}, l.Pairwise (· < ·) -> m.Pairwise (· < ·) -> (∀ x, x ∈ l ↔ x ∈ m) -> l = m
 | [],[],_,_,_=>rfl
 | [],b :: m,_,_,h=>by have:=(h b).2 (Aa2 ..);cases this
 | a :: l,[],_,_,h=>by have:=(h a).1 (Aa2 ..);cases this
 | a :: l,b :: m,h1,h2,h=>by
   obtain⟨p1,q1⟩:=List.pairwise_cons.1 h1;obtain⟨p2,q2⟩:=List.pairwise_cons.1 h2;have e:a=b:=by
    rcases Aam.1 ((h a).1 (Aa2 ..)) with h3 | h3
    . exact h3
    . rcases Aam.1 ((h b).2 (Aa2 ..)) with h4 | h4
      . exact h4.symm
      . have:=p2 a h3
        have:=p1 b h4;omega
   subst e;rw [aik q1 q2 fun x=>?_];constructor
   . intro hx
     rcases Aam.1 ((h x).1 (Aa0 _ hx)) with h3 | h3
     . have:=p1 x hx;omega
     . exact h3
   . intro hx
     rcases Aam.1 ((h x).2 (Aa0 _ hx)) with h3 | h3
     . have:=p2 x hx;omega
     . exact h3
theorem aeM {α : Type} [BEq α] [LawfulBEq α] (f : α -> Nat) : ∀ {l m : List α}, l.Nodup -> (∀ x ∈ l, x ∈ m) -> (l.map f).sum <= (m.map f).sum
 | [],_,_,_=>Aaj _
 | a :: l,m,h,hm=>by
   obtain⟨h1,h2⟩:=List.nodup_cons.1 h;have hp:=List.perm_cons_erase (hm a (Aa2 ..));have e:(m.map f).sum=((a :: m.erase a).map f).sum:=(hp.map f).sum_nat;rw [e,Aa3,List.sum_cons,Aa3,List.sum_cons];have:=aeM f h2 (m:=m.erase a) fun x hx=>(List.mem_erase_of_ne (fun e=>h1 (by rw [<-e];exact hx))).2 (hm x (Aa0 _ hx));omega
structure ak8 (bs:List DBlock)(ord:List Int):Prop where
 inn:∀x∈ord,0<=x∧x<(bs.length:Int)
 nd:ord.Nodup
 clo:∀x∈ord,∀t∈(blkOf bs x.toNat).fin.to,t∈ord
 head:ord[0]?=some 0
variable {bs:List DBlock}
theorem ack{b:Nat}(h:b<bs.length):aci bs b=(blkOf bs b).fin.to:=by
 unfold aci;rw [aap bs h]
theorem agv(h:aeX bs):ak8 bs (ordL bs):=by
 obtain⟨p1,p2,-,A,hA⟩:=aa9 h;refine⟨fun x hx=>p1 x (Abw.1 hx),List.pairwise_reverse.2 (p2.imp fun h e=>h e.symm),fun x hx t ht=>?_,?_⟩
 . have fK:=Abw.1 hx
   have hb:=p1 x fK;rw [<-ack (by omega)] at ht;exact Abw.2 (aee h x fK t ht)
 . unfold ordL
   rw [hA];simp
variable {x:Nat}
theorem ajR{l : List Int}  : ∀ {k i : Nat}, i < k -> l.getD i 0 = (x : Int) -> 0 <= ako l k x
 | 0,i,h,_=>by omega
 | k+1,i,h,e=>by
   unfold ako
   by_cases c:l.getD k 0=(x:Int)
   . rw [if_pos c];omega
   . rw [if_neg c]
     refine ajR (i:=i) ?_ e;rcases Abk.1 h with h | h
     . exact h
     . subst h;exact absurd e c
variable {ord:List Int}{k:Nat}
theorem aef(hn:ord.Nodup)(h:ord[k]?=some (x:Int)):aa8 ord x=(k:Int):=by
 have hk:=(Aad.1 h).1;have h0:0<=aa8 ord x:=ajR hk (by rw [Aaf,h];rfl);obtain⟨i,h1,h2,h3⟩:=afJ ord x _ h0;have e:ord[i]?=some (x:Int):=by
  rw [Aaf,Aaa h1] at h3;rw [Aaa h1];exact congrArg some h3
 have hi := af1 hn h1 hk (by
  have a1 := Aaa h1
  have a2 := Aaa hk
  rw [e] at a1
  rw [h] at a2
  exact Option.some.inj (a1.symm.trans a2))
 unfold aa8;rw [h2,hi]
theorem aro:0<=aa8 ord x↔(x:Int)∈ord:=by
 constructor
 . intro h
   obtain⟨i,h1,h2,h3⟩:=afJ ord x _ h;rw [Aaf,Aaa h1] at h3;rw [<-h3];exact Aaq h1
 . intro h
   obtain⟨i,hi,e⟩:=Aav h;exact ajR hi (by rw [Aaf,Aaa hi,e];rfl)
theorem abp(bs:List DBlock)(ord:List Int):(aa7 bs ord).length=ord.length:=by simp [aa7]
theorem af5{b:Int}(h:ord[k]?=some b):(aa7 bs ord)[k]?=some (afi (aa8 ord) (aaf bs 0 b.toNat) (blkOf bs b.toNat)):=by
 unfold aa7;rw [Aak,h];rfl
theorem adi{b:Int}(h:ord[k]?=some b):blkOf (aa7 bs ord) k=afi (aa8 ord) (aaf bs 0 b.toNat) (blkOf bs b.toNat):=aa2 (af5 h)
theorem ab0{x:DBlock}(h:x∈aa7 bs ord):∃b∈ord,x=afi (aa8 ord) (aaf bs 0 b.toNat) (blkOf bs b.toNat):=by
 obtain⟨b,hb,rfl⟩:=Aal.1 h;exact⟨b,hb,rfl⟩
section
variable {bs : List DBlock} {ord : List Int}
theorem afv(ho:ak8 bs ord){b t:Int}(hb:b∈ord)(ht:t∈(blkOf bs b.toNat).fin.to):∃i:Nat,ord[i]?=some t∧aa8 ord t.toNat=(i:Int)∧i<ord.length:=by
 have hm:=ho.clo b hb t ht;obtain⟨i,hi,e⟩:=Aav hm;have hr:=ho.inn t hm;have e2:ord[i]?=some ((t.toNat:Nat):Int):=by rw [Aaa hi,e,Abi hr.1]
 exact⟨i,by rw [Aaa hi,e],aef ho.nd e2,hi⟩
theorem ak9(ad:acU bs)(ho:ak8 bs ord):∀x∈aa7 bs ord,x.fin.to.Nodup:=fun x hx=>by
 obtain⟨b,hb,rfl⟩:=ab0 hx;have dn:=ho.inn b hb;have dT:=ad.toNd _ (aas (bs:=bs) (c:=b.toNat) (by omega));show (List.map _ _).Nodup;refine List.pairwise_map.2 (List.Pairwise.imp_of_mem (fun {s t} hs ht dp e=>dp ?_) dT);obtain⟨i,h1,h2,-⟩:=afv ho hb hs;obtain⟨j,h3,h4,-⟩:=afv ho hb ht;have:i=j:=by omega
 subst this;exact Option.some.inj (h1.symm.trans h3)
theorem aiB(ho:ak8 bs ord){k:Nat}{b:Int}(hk:ord[k]?=some b)(x:Int):x∈aaf (aa7 bs ord) 0 k↔∃a∈aaf bs 0 b.toNat,0<=aa8 ord a.toNat∧x=aa8 ord a.toNat:=by
 have hb:=Aae hk;have dn:=ho.inn b hb;rw [acB];constructor
 . rintro⟨i,y,h1,h2,h3⟩
   have hi:i<ord.length:=by rw [<-abp bs ord];exact (Aad.1 h1).1
   obtain⟨a,ha⟩:∃a,ord[i]?=some a:=⟨_,Aaa hi⟩
   have ham:=Aae ha;have dQ:=ho.inn a ham;rw [af5 ha] at h1;cases h1;obtain⟨t,ht,e⟩:=Aal.1 (show (k:Int)∈List.map _ _ from h2);obtain⟨j,g1,g2,g3⟩:=afv ho ham ht;have gq:j=k:=by omega
   subst gq;have az:t=b:=Option.some.inj (g1.symm.trans hk);subst az;have hp:aa8 ord a.toNat=(i:Int):=aef ho.nd (by rw [ha,Abi dQ.1]);refine⟨a,?_,by omega,by omega⟩;refine acB.2 ⟨a.toNat,blkOf bs a.toNat,aap bs (by omega),by rw [Abi dn.1];exact ht,by omega⟩
 . rintro⟨a,ha,h1,h2⟩
   obtain⟨i,y,g1,g2,g3⟩:=acB.1 ha;have dQ:a.toNat=i:=by omega
   rw [dQ] at h1 h2;obtain⟨j,hj,e⟩:=Aav (aro.1 h1);have ej:ord[j]?=some (i:Int):=by rw [Aaa hj,e]
   have hp:=aef ho.nd ej;refine⟨j,_,af5 ej,?_,by omega⟩;show (k:Int)∈List.map _ _;rw [Aan,aa2 g1];refine Aal.2 ⟨b,?_,?_⟩
   . rw [Abi dn.1] at g2;exact g2
   . exact aef ho.nd (by rw [hk,Abi dn.1])
theorem arp(ad:acU bs)(ho:ak8 bs ord){k:Nat}{b:Int}(hk:ord[k]?=some b){src:List aay}(hs:src.length=(aaf bs 0 b.toNat).length) :
 ((ac0 (aa8 ord) (aaf bs 0 b.toNat) src).mergeSort leF).map Prod.fst=aaf (aa7 bs ord) 0 k:=by
 have hA:=acK (t:=b.toNat) bs 0 ad.toNd;have gB:(aaf bs 0 b.toNat).Nodup:=hA.1.imp fun h e=>by omega
 have fe:∀a∈aaf bs 0 b.toNat,0<=a:=fun a ha=>by have:=abr ha;omega
 have dT := afj (at_ := aa8 ord) (src := src) gB (fun a ha c hc h e => by
  have := aju h e
  have := fe a ha
  have := fe c hc
  omega)
 have bH:=List.mergeSort_perm (ac0 (aa8 ord) (aaf bs 0 b.toNat) src) leF;have cC:((ac0 (aa8 ord) (aaf bs 0 b.toNat) src).mergeSort leF).Pairwise fun x y=>x.1<=y.1:=by
  have h:=List.pairwise_mergeSort (le:=leF) (fun a b c h1 h2=>by simp [leF] at *;omega) (fun a b=>by simp [leF];omega) (ac0 (aa8 ord) (aaf bs 0 b.toNat) src);exact h.imp fun h=>by simpa [leF] using h
 have dH:(((ac0 (aa8 ord) (aaf bs 0 b.toNat) src).mergeSort leF).map Prod.fst).Nodup:=(bH.map Prod.fst).nodup_iff.2 dT;refine aik ?_ (acK (t:=k) (aa7 bs ord) 0 (ak9 ad ho)).1 fun x=>?_
 . have h1:=List.pairwise_map.1 dH
   exact List.pairwise_map.2 ((h1.and cC).imp fun⟨h,h'⟩=>by omega)
 . rw [(bH.map Prod.fst).mem_iff,aiB ho hk]
   constructor
   . intro hx
     obtain⟨z,hz,rfl⟩:=Aal.1 hx;obtain⟨a,v,h1,h2,rfl⟩:=afI hz;exact⟨a,(List.of_mem_zip h1).1,h2,rfl⟩
   . rintro⟨a,ha,h1,rfl⟩
     obtain⟨i,hi,e⟩:=Aav ha;refine Aal.2 ⟨(aa8 ord a.toNat,src[i]'(by omega)),?_,rfl⟩;unfold ac0;refine List.mem_flatMap.2 ⟨(a,src[i]'(by omega)),?_,?_⟩
     . refine Aae (i:=i) (List.getElem?_zip_eq_some.2 ⟨by rw [Aaa hi,e],Aaa (by omega)⟩)
     . unfold acz
       rw [if_pos h1];exact Aax.2 rfl
theorem ala {at_:Nat->Int}{A:List Int}{p:acn}{v:aay}(h:v∈(ae2 at_ A p).src):v∈p.src:=by
 obtain⟨z,hz,rfl⟩:=Aal.1 (show v∈List.map _ _ from h);obtain⟨a,u,h1,h2,rfl⟩:=afI ((List.mergeSort_perm _ _).mem_iff.1 hz);exact (List.of_mem_zip h1).2
theorem apQ(at_:Nat->Int)(A:List Int)(p:acn):(ae2 at_ A p).src.length<=p.src.length:=by
 show (List.map _ _).length<=_;rw [Aah,List.length_mergeSort];exact ahI _ _ _
theorem ahe {p:acn}{at_:Nat->Int}{A:List Int}{x:DBlock}(h:p∈(afi at_ A x).phis):∃p0∈x.phis,p=ae2 at_ A p0:=by
 obtain⟨p0,h0,rfl⟩:=Aal.1 (show p∈List.map _ _ from h);exact⟨p0,h0,rfl⟩
theorem al7(ho:ak8 bs ord):ord.length<=bs.length:=by
 have h := ak2 (n := bs.length) (ord.map Int.toNat) (List.pairwise_map.2 (List.Pairwise.imp_of_mem (fun {a b} ha hb h e => h (by have := ho.inn a ha; have := ho.inn b hb; omega)) ho.nd)) (fun x hx => by
  obtain ⟨a, ha, rfl⟩ := Aal.1 hx
  have := ho.inn a ha
  omega)
 rw [Aah] at h;exact h
theorem asM(ad:acU bs)(ho:ak8 bs ord):acU (aa7 bs ord):=by
 have hlen:=al7 ho;have hl:=ad.len;have bS:∀b∈ord,b.toNat<bs.length:=fun b hb=>by have:=ho.inn b hb;omega
 refine⟨by rw [abp];omega,fun x hx=>?_,fun x hx=>?_,fun x hx=>?_,fun x hx t ht=>?_,ak9 ad ho,fun k hk p hp=>?_⟩
 . obtain⟨b,hb,rfl⟩:=ab0 hx
   have h:=ad.num _ (aas (bS b hb));refine⟨h.kind,h.on,fun t ht=>?_,fun p hp=>?_,h.ins⟩
   . obtain⟨t0,-,rfl⟩:=Aal.1 (show t∈List.map _ _ from ht)
     have:=aoD ord t0.toNat;unfold I64;omega
   . obtain⟨p0,h0,rfl⟩:=ahe hp
     exact⟨(h.phi p0 h0).1,fun v hv=>(h.phi p0 h0).2 v (ala hv)⟩
 . obtain⟨b,hb,rfl⟩:=ab0 hx
   have h:=ad.small _ (aas (bS b hb));refine⟨by show (List.map _ _).length<=_;rw [Aah];exact h.phis,h.list,by show (List.map _ _).length<=_;rw [Aah];exact h.to,fun p hp=>?_,h.args⟩;obtain⟨p0,h0,rfl⟩:=ahe hp;exact Aai (apQ _ _ _) (h.src p0 h0)
 . obtain⟨b,hb,rfl⟩:=ab0 hx
   show (List.map _ _).length<=_;rw [Aah];exact ad.to2 _ (aas (bS b hb))
 . obtain⟨b,hb,rfl⟩:=ab0 hx
   obtain⟨t0,h0,rfl⟩:=Aal.1 (show t∈List.map _ _ from ht);obtain⟨i,-,h2,h3⟩:=afv ho hb h0;rw [abp];omega
 . rw [abp] at hk
   obtain⟨b,hb⟩:∃b,ord[k]?=some b:=⟨_,Aaa hk⟩
   rw [adi hb] at hp;obtain⟨p0,h0,rfl⟩:=ahe hp;have hs:=ad.src b.toNat (bS b (Aae hb)) p0 h0;rw [<-arp ad ho hb hs];show (List.map _ _).length=_;rw [Aah,Aah]
theorem amV(f:DBlock->Nat)(hf:∀at_ A x,f (afi at_ A x)=f x)(ho:ak8 bs ord):((aa7 bs ord).map f).sum<=(bs.map f).sum:=by
 have e1:(aa7 bs ord).map f=ord.map fun b=>f (blkOf bs b.toNat):=by
  unfold aa7;rw [Abl];exact Acj fun b _=>hf _ _ _
 have e2:bs.map f=((List.range bs.length).map fun (i:Nat)=>(i:Int)).map fun b=>f (blkOf bs b.toNat):=by
  rw [Abl];apply Aap;intro i;rw [Aak,Aak]
  by_cases hi:i<bs.length
  . rw [aap bs hi,Ab8 hi];rfl
  . rw [Aas (by omega),Aas (by simp;omega)];rfl
 rw [e1,e2];refine aeM _ ho.nd fun x hx=>?_;have:=ho.inn x hx;exact Aal.2 ⟨x.toNat,Abx.2 (by omega),by omega⟩
end
structure aen (n:Nat)(bs:List DBlock):Prop where
 ok:acU bs
 tok:aeX bs
 jump:∀x∈bs,x.fin.kind=2->x.fin.to.length=1
 sum:(bs.map fun x=>x.list.length).sum<=1048576
 reg:∀x∈bs,ac6 n x
variable {n:Nat}{bs:List DBlock}
theorem aen.ch(h:aen n bs):afA bs:=⟨h.ok,h.jump,h.sum⟩
theorem ail(h:acU bs)(h0:0<bs.length):aeX bs:=⟨h0,fun k x hx=>h.hto k x hx⟩
theorem aen.keep(h:aen n bs):aen n (aa7 bs (ordL bs)):=by
 have ho:=agv h.tok;have hk:=asM h.ok ho;have bS:∀b∈ordL bs,b.toNat<bs.length:=fun b hb=>by have:=ho.inn b hb;omega
 refine⟨hk,ail hk (by rw [abp];exact (Aad.1 ho.head).1),fun x hx hj=>?_,Aai (amV _ (fun _ _ _=>rfl) ho) h.sum,fun x hx=>?_⟩
 . obtain⟨b,hb,rfl⟩:=ab0 hx
   show (List.map _ _).length=_;rw [Aah];exact h.jump _ (aas (bS b hb)) hj
 . obtain⟨b,hb,rfl⟩:=ab0 hx
   have hr:=h.reg _ (aas (bS b hb));refine⟨fun p hp=>?_,hr.ins,hr.on⟩;obtain⟨p0,h0,rfl⟩:=ahe hp;exact⟨(hr.phi p0 h0).1,fun v hv=>(hr.phi p0 h0).2 v (ala hv)⟩
theorem apR{b:Nat}(ad:afA bs)(hb:b<bs.length)(h:aca bs b=true)(hr:∀x∈bs,ac6 n x):∀x∈aaL bs b,ac6 n x:=by
 obtain⟨h1,h2,h3,h4,h5,h6⟩:=abh ad hb h;have cJ:∀c,c<bs.length->∀p∈(blkOf (adF bs (toJ bs b) b) c).phis,(0<=p.dst∧p.dst<n)∧∀v∈p.src,InV n v:=fun c hc p hp=>by
  obtain⟨p0,h0,e1,-,e3⟩:=ah0 ad.ok h5 hc hp;have hx:=(hr _ (aas hc)).phi p0 h0;exact⟨by rw [e1];exact hx.1,fun v hv=>hx.2 v (e3 v hv)⟩
 intro x hx;obtain⟨c,hc,rfl⟩:=abR hx;rw [aaV] at hc;rcases abS hb h5 c with⟨-,e⟩ | ⟨-,rfl,e⟩ | ⟨-,-,e⟩
 . rw [e]
   exact⟨fun p hp=>absurd hp (Aao),fun y hy=>absurd hy (Aao),fun h=>by cases h⟩
 . rw [e]
   refine⟨cJ c hc,fun y hy=>?_,(hr _ (aas h5)).on⟩;rcases Aa7.1 (show y∈_++_ from hy) with hy | hy
   . exact (hr _ (aas hc)).ins y hy
   . exact (hr _ (aas h5)).ins y hy
 . rw [e]
   refine⟨cJ c hc,fun y hy=>?_,?_⟩
   . rw [(aaR ad.ok h5 c).2.1] at hy;exact (hr _ (aas hc)).ins y hy
   . rw [(aaR ad.ok h5 c).1];exact (hr _ (aas hc)).on
theorem af6 {P : List DBlock -> Prop} (hP : ∀ bs b, afA bs -> b < bs.length -> aca bs b = true -> P bs -> P (aaL bs b)) {b : Nat} : ∀ (f : Nat) (bs : List DBlock), afA bs -> b < bs.length -> P bs -> P (abL f bs b)
 | 0,bs,_,_,h=>h
 | f+1,bs,ad,hb,h=>by
   unfold abL
   by_cases hm:aca bs b=true
   . rw [if_pos hm]
     exact af6 hP f _ (ac9 ad hb hm) (by rw [aaV];exact hb) (hP bs b ad hb hm h)
   . rw [if_neg hm];exact h
theorem acM {P : List DBlock -> Prop} (hP : ∀ bs b, afA bs -> b < bs.length -> aca bs b = true -> P bs -> P (aaL bs b)) {bs : List DBlock} (ad : afA bs) (h : P bs) : ∀ k, k <= bs.length -> P (abA bs k)
 | 0,_=>h
 | k+1,hk=>by
   obtain⟨h1,h2⟩:=acD ad k (by omega);rw [abn];exact af6 hP _ _ h1 (by omega) (acM hP ad h k (by omega))
theorem aen.chains(h:aen n bs):aen n (acC bs):=by
 obtain⟨h1,h2⟩:=acD h.ch bs.length (Aac _);refine⟨h1.ok,ail h1.ok (by have:=h.tok.pos;unfold acC;omega),h1.jump,h1.sum,?_⟩;exact acM (P:=fun bs=>∀x∈bs,ac6 n x) (fun bs b ad hb hm hr=>apR ad hb hm hr) h.ch h.reg _ (Aac _)
def apS(bs:List DBlock):List DBlock:=acC (aa7 bs (ordL bs))
def adn(bs:List DBlock):List DBlock:=aa7 (apS bs) (ordL (apS bs))
def doB(pn n:Nat)(bs:List DBlock):List DBlock:=adh pn n (adn bs)
def doN(pn n:Nat)(bs:List DBlock):Int:=afb pn n (adn bs)
theorem aen.pre(h:aen n bs):aen n (apS bs):=h.keep.chains
theorem aen.kept(h:aen n bs):aen n (adn bs):=h.pre.keep
end
end Go.Proofs.YtpeejlpcikefcaaGreatDoor
