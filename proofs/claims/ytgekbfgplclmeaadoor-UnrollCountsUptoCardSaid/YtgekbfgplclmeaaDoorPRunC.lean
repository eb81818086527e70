import Derived.Test.YtgekbfgplclmeaaDoorPRunK
/- run.Counts. -/
namespace Go.Proofs.YtgekbfgplclmeaaDoor
open Go.RowKit Go.Sort
set_option maxRecDepth 100000 in
set_option maxHeartbeats 8000000 in
theorem ah2 {S : Nat -> Prop} (ga : Option Addr) (gc : Nat) (fa : Option Addr) (fc : Nat) (gs : List aat) (fs : List aal) (ia : Option Addr) (ic : Nat) (inp : List Int) (fuel : Int) (w : World)
 (hg:SlAt S w 3 abd (.slice ga gs.length gc) gs) (hf:SlAt S w 4 abT (.slice fa fs.length fc) fs) (hi:SlAt S w 1 abe (.slice ia inp.length ic) inp) (hw:ab5 w) (hS:∀b,S b->b<w.heap.size)
 (fe:gs.length<=1048576) (e9:fs.length<=1048576) (fl:∀(k:Nat) (f:aal),fs[k]?=some f->aa1 f.blocks<=1048576∧f.blocks.length<=1048576) (fU:I64 fuel) :
 Calls Tryd.prog 8 #[.agg #[.slice ga gs.length gc,.slice fa fs.length fc],.slice ia inp.length ic,.int .i64 fuel] w fun e w'=>ae7 ⟨gs,fs⟩ inp fuel w e w':=by
 obtain⟨fV,fW⟩:=fU;have Hg:=hid hg;have Hf:=hid hf;have Hi:=hid hi;have Hw:=hid hw;have HS:=hid hS;have eJ:=hid fl;have fX:(inp.length:Int)<=9223372036854775807:=by
  obtain⟨ao,c,e,h1,h2,-⟩:=hi;omega
 clear hg hf hi hw hS fl;obtain⟨W,hW⟩:∃W,W=((w.alloc (.cells #[.slice ga gs.length gc,.slice fa fs.length fc] 25)).alloc (.cells #[.int .i64 0,.int .i64 0,.slice none 0 0,.int .i64 0] 35)).alloc (.cells #[.int .i64 0,.int .i64 0] 28):=⟨_,rfl⟩
 have cv:Below w.heap.size w W:=by rw [hW];exact bE
 have ar:=hid cv;obtain⟨zW,c7,ck,bS⟩:W.heap.size=w.heap.size+3∧W.heap[w.heap.size]?=_∧W.heap[w.heap.size+1]?=_∧W.heap[w.heap.size+1+1]?=_:=by rw [hW];exact ag1 _ _ _ _
 obtain⟨UB,c8⟩:∃b,b=w.heap.size:=⟨_,rfl⟩
 obtain⟨OB,dQ⟩:∃b,b=UB+1:=⟨_,rfl⟩
 obtain⟨FB,dL⟩:∃b,b=OB+1:=⟨_,rfl⟩
 rw [<-c8] at c7 ck bS;rw [<-dQ] at ck bS;rw [<-dL] at bS
 have HC : Hid (∀ V1, Below W.heap.size W V1 -> (V1.cell? ⟨UB, 0, none⟩ = some (.slice ga gs.length gc) ∧ V1.cell? ⟨UB, 1, none⟩ = some (.slice fa fs.length fc)) ∧
  (V1.heap[OB]? = some (.cells #[.int .i64 0, .int .i64 0, .slice none 0 0, .int .i64 0] 35 (0, 0)) ∧ V1.heap[FB]? = some (.cells #[.int .i64 0, .int .i64 0] 28 (0, 0)))) := fun V1 hb => by
  have zu:=(Aan.1 c7).1;have zo:=(Aan.1 ck).1;have zr:=(Aan.1 bS).1;refine⟨?_,by rw [hb.block OB zo];exact ck,by rw [hb.block FB zr];exact bS⟩;obtain⟨a0,a1⟩:=(aar (cs:=[_,_]) c7).get2;rw [Aac] at a1;exact⟨aab a0 hb,aab a1 hb⟩
 have HB:Hid (UB=w.heap.size∧OB=w.heap.size+1∧FB=w.heap.size+2∧W.heap.size=w.heap.size+3):=⟨c8,by omega,by omega,zW⟩
 have HW:=hid hW;obtain⟨il,bP⟩:∃n,n=inp.length:=⟨_,rfl⟩
 rw [<-bP] at Hi fX ⊢;have dv:=hid bP;clear bP;go_enter Tryd.func8,Tryd.ntmps8;go_upto_region 1 with (fail)
 rw [<-HW.out,<-c8,<-dQ,<-dL];obtain⟨⟨u0,u1⟩,-,-⟩:=HC.out W (Below.refl _ _);have zU:=aac u0;clear c7 ck bS c8 dQ dL hW zW;have fm:ab5 W:=ab5.below Hw.out cv;have dr:=hid (aeu (S:=S) ga gc fa fc gs fs W (Hg.out.later aaC cv) (Hf.out.later aan cv) fm fe e9 eJ.out);clear fm cv;obtain⟨c,hc⟩:∃c,c=(aak ⟨gs,fs⟩).1:=⟨_,rfl⟩
 obtain⟨d,hd⟩:∃d,d=(aak ⟨gs,fs⟩).2:=⟨_,rfl⟩
 have au:Hid (aak ⟨gs,fs⟩=(c,d)):=by show _=_;rw [hc,hd]
 rw [<-hc,<-hd] at dr;clear hc hd;go_upto_region 2 with (go_at_call 19;refine dr.out.mono ?_;rintro e w1 ⟨rfl,aI⟩;have dq:=hid aI;clear aI)
 obtain⟨W2,c9⟩:∃W2,W2=w1.alloc (.cells #[.int .i64 c,.int .i64 d] 28):=⟨_,rfl⟩
 have bk:Below w1.heap.size w1 W2:=by rw [c9];exact bE
 have dG:W2.heap[w1.heap.size]?=some (.cells #[.int .i64 c,.int .i64 d] 28 (0,0)):=by rw [c9];exact heap_alloc_new _ _
 have bC:Hid (Below W.heap.size W W2):=dq.out.trans (bk.mono dq.out.size);rw [<-c9];obtain⟨CB,dK⟩:∃b,b=w1.heap.size:=⟨_,rfl⟩
 rw [<-dK] at dG ⊢;obtain⟨f0,f1⟩:=(aar (cs:=[_,_]) dG).get2;rw [Aac] at f1;have zF:=aac f0;have fT:W.heap.size<=CB:=by rw [dK];exact dq.out.size
 have gi:OB≠FB∧OB≠CB∧FB≠CB∧UB≠CB∧UB≠OB∧UB≠FB:=by have:=HB.out;omega
 obtain⟨cn,gG,gF,gH,gJ,gI⟩:=gi;clear c9 bk dG dK dr u0 u1 zU;obtain⟨⟨u0,u1⟩,dO,dR⟩:=HC.out W2 bC.out;have zU:=aac u0;have HO:=hid dO;have HR:=hid dR;obtain⟨o0,o1,o2,o3⟩:=(aar (cs:=[_,_,_,_]) dO).get4;obtain⟨r0,r1⟩:=(aar (cs:=[_,_]) dR).get2;rw [Aac] at o1 o2 o3 r1;have zO:=aac o0;have zR:=aac r0;clear dO dR
 by_cases hok:c=0∧d=0
 . obtain⟨rfl,rfl⟩:=hok
   by_cases h30:30<il
   . have dH:(30:Int)<(il:Int):=by omega
     have HE:Hid (abV ⟨gs,fs⟩ inp.length fuel=(2,-1)):=by
      show _=_;unfold abV;rw [au.out,if_neg (by simp),<-dv.out,if_pos h30]
     clear o0 o1 o2 o3 r0 r1 zO zR;go_wp2_with (first | (go_at_call 21;(with_reducible refine (aaQ _ _ _).mono ?_);rintro e w5 ⟨rfl,bl⟩;have bg:Hid (Below W.heap.size W w5):=bC.out.trans (bl.mono bC.out.size);obtain⟨-,ad,af⟩:=HC.out w5 bg.out;have bw:=hid ad;have bx:=hid af;obtain⟨o0,o1,o2,o3⟩:=(aar (cs:=[_,_,_,_]) ad).get4;obtain⟨r0,r1⟩:=(aar (cs:=[_,_]) af).get2;rw [Aac] at o1 o2 o3 r1;have zO:=aac o0;have zR:=aac r0;have q0:=aaP ad 0;have q1:=aaP ad 1;have q2:=aaP ad 2;have q3:=aaP ad 3;have s0:=aaP af 0;have s1:=aaP af 1;clear bl ad af));obtain⟨e1,e2⟩:=aeQ (aar (cs:=[_,_,_,_]) bw.out) (aar (cs:=[_,_]) bx.out) cn (.int .i64 0) (.int .i64 0) (.slice none 0 0) (.int .i64 0) (.int .i64 2) (.int .i64 (-1));refine bodyPost_ret (aeM rfl rfl rfl rfl (e1 0 _ rfl) (e1 1 _ rfl) (e1 2 _ rfl) (e1 3 _ rfl) (e2 0 _ rfl) (e2 1 _ rfl)) rfl ⟨?_,.inr ⟨2,(-1),(.inl (by decide)),HE.out,rfl⟩⟩;have h1:=ar.out.trans (bg.out.mono ar.out.size);have h2:=abi (w:=w5) (base:=w.heap.size) (OB:=OB) (FB:=FB) (by have:=HB.out;omega) (by have:=HB.out;omega) (.int .i64 0) (.int .i64 0) (.slice none 0 0) (.int .i64 0) (.int .i64 2) (.int .i64 (-1));exact h1.trans h2
   . have dH:(il:Int)<=30:=by omega
     by_cases hrg:0<=fuel∧fuel<=100000
     . obtain⟨bQ,cS⟩:=hrg
       have eu:decide (0<=fuel∧fuel<=100000)=true:=decide_eq_true ⟨bQ,cS⟩;have HE:Hid (abV ⟨gs,fs⟩ inp.length fuel=(0,0)):=by
        show _=_;unfold abV;rw [au.out,if_neg (by simp),<-dv.out,if_neg h30,if_neg (fun e=>e ⟨bQ,cS⟩)]
       clear o0 o1 o2 o3 r0 r1 zO zR HO HR;have gK:fs.length<=10:=(acK (u:=⟨gs,fs⟩) (by rw [au.out])).2.1;obtain⟨ff,aC,-⟩:=ad5 (u:=⟨gs,fs⟩) (by rw [au.out]);have ff:gs.length<=10:=ff;have bh:Hid (∀g∈gs,0<=g.size∧g.size<=200∧(g.init.length:Int)<=g.size):=aC;clear aC;go_upto_region 9 with (go_at_call 20;((with_reducible refine (aah _ _ _ _).mono ?_);rintro e w' ⟨rfl,rfl⟩;rw [eu]))
       obtain⟨V0,ai,e1,e2,e3⟩:=acH.start (W0:=W) (W:=W2) (base:=W.heap.size) (Aad _) bC.out (.slice ga gs.length gc) (.slice fa fs.length fc) (.slice ia il ic);obtain⟨W3,eY⟩:∃W3,W3=W2.alloc (.cells #[.slice ga gs.length gc,.slice fa fs.length fc,.slice none 0 0,.slice none 0 0,.slice ia il ic,.int .i64 0,.int .i64 0,.slice none 0 0,.int .i64 0,.slice none 0 0,.slice none 0 0] 80):=⟨_,rfl⟩
       rw [<-eY] at ai ⊢;obtain⟨WB,eZ⟩:∃b,b=W2.heap.size:=⟨_,rfl⟩
       rw [<-eZ] at ai ⊢;have aG:=hid ai;have gD:Hid (V0 none = .slice none 0 0∧V0 (some .mem) = .slice none 0 0∧V0 (some .cnts) = .slice none 0 0):=⟨e1,e2,e3⟩
       clear eY eZ ai e1 e2 e3 u0 u1 zU f0 f1 zF;obtain⟨⟨u0,u1⟩,-,-⟩:=HC.out W3 aG.out.low;have zU:=aac u0;go_wp2_with fail;go_loopw [41] (fun s41 wr=>∃(k:Nat) (V:BPth->Value),k<=gs.length∧s41 = .int .i64 (k:Int)∧acH (.slice ga gs.length gc) (.slice fa fs.length fc) (.slice ia il ic) W W.heap.size WB wr V (abn gs k) [] []∧∀v∈abn gs k,I64 v) (fun s41 _=>gs.length - (intOf s41).toNat)
       case atStart=>exact⟨0,V0,Aaf _,rfl,aG.out,fun v hv=>by cases hv⟩
       case round =>
        obtain⟨k,V,hk,rfl,ai,hI⟩:=hrel;have aR:=hid ai;have HI:=hid hI;clear ai hI
        by_cases hkl:k<gs.length
        . obtain⟨b,off,xa,xc,rfl,aq,ee,-⟩:=aiR (Hg.out.later aaC (ar.out.trans (aR.out.low.mono ar.out.size))) hkl
          obtain⟨c0,c1,c2⟩:=aq.get3;have zb:=aac c0;obtain⟨dh,gn,gp⟩:=bh.out _ (Aai hkl);have fp:(abn gs k).length<=2000:=by
           have gP:=afw (gs:=gs) (fun g hg=>(bh.out g hg).2.2) k hk;have gQ:=aiu (gs:=gs) (fun g hg=>⟨(bh.out g hg).1,(bh.out g hg).2.1⟩) k hk;omega
          obtain⟨nm,cM⟩:∃s,s=gs[k].name:=⟨_,rfl⟩
          obtain⟨m,hm⟩:∃m,m=gs[k].init.length:=⟨_,rfl⟩
          obtain⟨q,hq⟩:∃q:Nat,gs[k].size=(m:Int)+(q:Int):=by
           obtain⟨q,hq⟩:=Aao (a:=gs[k].size - (gs[k].init.length:Int)) (by omega);exact⟨q,by omega⟩
          rw [<-hm] at c2 ee;rw [hq] at c1;rw [<-cM] at c0;have gM:m<=200:=by omega
          have gO:q<=200:=by omega
          have cb:Hid (abn gs (k+1)=abn gs k++gs[k].init++List.replicate q 0):=by
           show _=_;rw [aeY hkl,afv,Aa9,<-hm,show (gs[k].size - (m:Int)).toNat=q by omega]
          have fL:=hid ee;have Hm:Hid (gs[k].init.length=m):=hm.symm;have eK:=hid fp;clear aq ee dh gn gp fp cM hm hq;go_upto_region 12 with (fail)
          obtain⟨W4,aY⟩:∃W4,W4=wr.alloc (.cells #[.string nm,.int .i64 ((m:Int)+(q:Int)),.slice xa m xc] 82):=⟨_,rfl⟩
          have aK:Below wr.heap.size wr W4:=by rw [aY];exact bE
          have bG:W4.heap[wr.heap.size]?=some (.cells #[.string nm,.int .i64 ((m:Int)+(q:Int)),.slice xa m xc] 82 (0,0)):=by rw [aY];exact heap_alloc_new _ _
          rw [<-aY];obtain⟨GB,bH⟩:∃GB,GB=wr.heap.size:=⟨_,rfl⟩
          rw [<-bH] at bG ⊢;obtain⟨y0,y1,y2⟩:=(aar (cs:=[_,_,_]) bG).get3;rw [Aac] at y1 y2;have zy:=aac y0;have H4:=aR.out.later aK;have bW:=hid aK;have cj:GB≠WB:=by have:=aR.out.boxAt.2.1;omega
          have cX:=hid bH;clear aY aK bG bH c0 c1 c2 zb;obtain⟨e7,zW,ae,db⟩:=H4.boxAt;have b3:=ae 3 _ rfl;rw [Aac] at b3;have f3:=db 3 (by omega);have an:aav W.heap.size W4.drew (V (some .mem)) (abn gs k):=by
           refine aav.later ⟨?_,HI.out⟩ (Below.refl _ _).drew;have h:W4.ownsRow W.heap.size 3 1 (V (some .mem)) (aay (abn gs k)).length (aay (abn gs k)).flatten:=H4.rows.own (some .mem) trivial;rw [aa5,aa0] at h;exact h
          obtain⟨v2,w2,aF,cN,dd,ct⟩:=aku (w:=W4.drew) 26 W.heap.size (V (some .mem)) (abn gs k) an xa m xc gs[k].init ((fL.out.later aaf bW.out).later aaf (Below.refl _ _).drew) Hm.out (by have:=eK.out;omega) (Aaj H4.hb H4.low.size);obtain⟨L2,dM⟩:∃L,L=abn gs k++gs[k].init:=⟨_,rfl⟩
          rw [<-dM] at cN;have eA:=hid dM;clear dM;obtain⟨ma,mc,gh⟩:=an.shape;obtain⟨a2,c2,rfl⟩:=cN.shape;rw [gh] at b3 aF;obtain⟨cD,cx⟩:=(H4.later (Below.refl _ _).drew).boxGrown (p:=some .mem) trivial (by intro e;cases e) dd;have k3:=cD 3 _ rfl;rw [Aac] at k3;have gx:=cx 3 (by omega);have gC:=aac k3;have aW:=hid aF;have H5:=hid ((H4.later (Below.refl _ _).drew).turnMem (v':=_) (m':=L2) cN.1 dd ct);have du:=hid cN;have fK:=hid dd;clear an cN dd ct ae db cD cx H4;go_region_law (refine abQ rfl _ _ 26 26 rfl _ _ (by simp [Act.eval]) (by simp [Act.eval]) aW.out ?_)
          all_goals
           obtain⟨V5,dS⟩:∃V5,V5=abx V (some .mem) (.slice a2 L2.length c2):=⟨_,rfl⟩
           obtain⟨W5,cp⟩:∃W5,W5=w2.setCell ⟨WB,3,none⟩ (.slice a2 L2.length c2):=⟨_,rfl⟩
           have cL:V5 (some .mem) = .slice a2 L2.length c2:=by rw [dS,aai]
           have bf:=H5.out;rw [<-dS,<-cp] at bf;have ed:W4.drew.grownBy w2 (V (some .mem)).ownBlock:=fK.out;have er:some GB≠(V (some .mem)).ownBlock:=fun e=>by
            have:=(aR.out.rows.lt (p:=some .mem) trivial GB e.symm).2;have:=cX.out;omega
           have g1:W5.cell? ⟨GB,1,none⟩=some (.int .i64 ((m:Int)+(q:Int))):=by
            rw [cp,aas _ cj];exact ed.cell (a:=⟨GB,1,none⟩) y1 er
           have g2:W5.cell? ⟨GB,2,none⟩=some (.slice xa m xc):=by
            rw [cp,aas _ cj];exact ed.cell (a:=⟨GB,2,none⟩) y2 er
           have zg:=aac g1;obtain⟨cE,cy⟩:=bf.boxAt.2.2;have eO:=cE 3 _ rfl;rw [Aac,cL] at eO;have f35:=cy 3 (by omega);have gT:=aac eO;have bp:aav W.heap.size W5.drew (.slice a2 L2.length c2) L2:=by
            refine aav.later ⟨?_,du.out.2⟩ (Below.refl _ _).drew;have h:W5.ownsRow W.heap.size 3 1 (V5 (some .mem)) (aay L2).length (aay L2).flatten:=bf.rows.own (some .mem) trivial;rw [aa5,aa0,cL] at h;exact h
           obtain⟨v6,w6,bq,cO,de,bL⟩:=ams (w:=W5.drew) 26 W.heap.size (.slice a2 L2.length c2) L2 bp q (by rw [eA.out,Aak,Hm.out];have:=eK.out;omega) (Aaj bf.hb bf.low.size);obtain⟨L3,dN⟩:∃L,L=L2++List.replicate q 0:=⟨_,rfl⟩
           rw [<-dN] at cO;have eB:Hid (L3=abn gs (k+1)):=by show _=_;rw [dN,eA.out,cb.out]
           clear dN;obtain⟨a6,c6,rfl⟩:=cO.shape;rw [<-cL] at de bL;obtain⟨cF,cz⟩:=(bf.later (Below.refl _ _).drew).boxGrown (p:=some .mem) trivial (by intro e;cases e) de;have fu:=cF 3 _ rfl;rw [Aac,cL] at fu;have gy:=cz 3 (by omega);have fx:=aac fu;have b4:=hid bq;have H7:=hid ((bf.later (Below.refl _ _).drew).turnMem (v':=_) (m':=L3) cO.1 de bL);have fD:=hid cO.2;have gu:IntKind.i64.wrap ((m:Int)+(q:Int) - (m:Int))=(q:Int):=by rw [IntKind.wrap_i64];omega
           have eC:=hid cp;clear bp cO de bL cE cy cF cz bf dS cp ed er cL bq;rw [<-eC.out];clear eC k3 gx gC b3 f3;go_upto_region 13 with (fail)
           go_region_law (refine abQ rfl _ _ 26 3 rfl _ _ (by simp [Act.eval,Act.put]) (by simp [Act.eval,Act.put]) b4.out ?_)
           all_goals
            go_wp2_with fail;go_roundw
            case rel=>exact⟨k+1,_,by omega,by go_num,by rw [<-eB.out];exact H7.out,by rw [<-eB.out];exact fD.out⟩
            case measure=>simp [intOf];omega
        . have ei:k=gs.length:=by omega
          subst ei;have ev:abn gs gs.length=acF gs:=rfl;rw [ev] at aR;obtain⟨⟨u0,u1⟩,-,-⟩:=HC.out wr aR.out.low;have zU:=aac u0;have gE:Hid ((acF gs).length<=1048576):=by
           have h:=(ad5 (u:=⟨gs,fs⟩) (by rw [au.out])).2.2.2;have h:(acF gs).length<=200:=h;show _<=_;omega
          obtain⟨j0,fY,gd,gf,gg⟩:=info_parts ak6;obtain⟨j1,fZ,ef,eg,eh⟩:=info_parts ak5;have eE:Hid (∀b,S b->b<wr.heap.size∧∀p,okB 0 p->(V p).ownBlock≠some b):=fun b hb=>by
           have h1:=HS.out b hb;have h2:=ar.out.size;have h3:=aR.out.low.size;refine⟨by omega,fun p hp e=>?_⟩;have:=(aR.out.rows.lt (p:=p) hp b e).1;omega
          go_wp2_with fail;obtain⟨wq,ew⟩:∃wq:World,wq=wr:=⟨_,rfl⟩
          obtain⟨Vq,eX⟩:∃Vq:BPth->Value,Vq=V:=⟨_,rfl⟩
          rw [<-ew,<-eX] at aR eE;rw [<-ew];clear ew eX u0 u1 zU
          go_loopw [73] (fun s73 wr => ∃ (k : Nat) (V : BPth -> Value) (ak : List Value) (X : Nat -> Prop), k <= fs.length ∧ s73 = .int .i64 (k : Int) ∧ acH (.slice ga gs.length gc) (.slice fa fs.length fc) (.slice ia il ic) W W.heap.size WB wr V (acF gs) ak ((fs.take k).map fun f => List.replicate f.blocks.length 0) ∧ ak.length = k ∧ ajV wr k V X ∧ (∀ b, S b -> X b) ∧ (∀ v ∈ ak, v.oneCell' = true) ∧
           ∀ (j : Nat) v x, ak[j]? = some v -> (fs.map fun f => aheadF f.blocks)[j]? = some x -> SlAt X wr 1 rRow v x) (fun s73 _ => fs.length - (intOf s73).toNat)
          case atStart=>exact⟨0,Vq,[],S,Aaf _,rfl,aR.out,rfl,eE.out,fun _ h=>h,(fun v hv=>by cases hv),(fun j v x hj=>by cases hj)⟩
          case round =>
           obtain⟨k,V,ak,X,hk,rfl,ai,e5,hX,eV,cP,e6⟩:=hrel;have aG:=hid ai;have bB:=hid e5;have HX:=hid hX;have cY:=hid eV;have bZ:=hid cP;have dm:=hid e6;have aS:((fs.take k).map fun f=>List.replicate f.blocks.length (0:Int)).length=k:=by rw [Aal,Aa4];omega
           have bF:=hid aS;clear ai e5 hX eV cP e6 aS;have bD:Hid (Below w.heap.size w wr):=ar.out.trans (aG.out.low.mono ar.out.size);obtain⟨⟨u0,u1⟩,-,-⟩:=HC.out wr aG.out.low;have zU:=aac u0
           by_cases hkl:k<fs.length
           . obtain⟨b,off,xa,xc,rfl,aq,-,-,-⟩:=acM (Hf.out.later aan bD.out) hkl
             obtain⟨c0,c1,c2,c3⟩:=aq.get4;have zb:=aac c0;obtain⟨nm,cM⟩:∃s,s=fs[k].name:=⟨_,rfl⟩
             obtain⟨pn,fi⟩:∃s,s=fs[k].params:=⟨_,rfl⟩
             obtain⟨rn,fj⟩:∃s,s=fs[k].regs:=⟨_,rfl⟩
             obtain⟨bn,dc⟩:∃s,s=fs[k].blocks.length:=⟨_,rfl⟩
             rw [<-cM] at c0;rw [<-fi] at c1;rw [<-fj] at c2;rw [<-dc] at c3;have e8:bn<=40:=by rw [dc];exact (afF au.out (Aaa hkl)).len.2
             have eG:=hid dc;clear aq cM fi fj dc;go_upto_region 18 with (fail)
             obtain⟨W4,aY⟩:∃W4,W4=wr.alloc (.cells #[.string nm,.int .i64 pn,.int .i64 rn,.slice xa bn xc] 40):=⟨_,rfl⟩
             have aK:Below wr.heap.size wr W4:=by rw [aY];exact bE
             have bG:W4.heap[wr.heap.size]?=some (.cells #[.string nm,.int .i64 pn,.int .i64 rn,.slice xa bn xc] 40 (0,0)):=by rw [aY];exact heap_alloc_new _ _
             rw [<-aY];obtain⟨GB,bH⟩:∃GB,GB=wr.heap.size:=⟨_,rfl⟩
             rw [<-bH] at bG ⊢;have y3:=(aar (cs:=[_,_,_,_]) bG).get4.2.2.2;rw [Aac] at y3;have cX:=hid bH;have bW:=hid aK;have eL:=hid y3;have zG:=aac y3;have cV:ab5 W4:=ab5.below (ab5.below Hw.out bD.out) aK;have HA:=hid (afA (S:=S) ga gc _ fc gs fs k W4 ((Hg.out.later aaC bD.out).later aaC aK) ((Hf.out.later aan bD.out).later aan aK) cV fe e9 eJ.out au.out hkl);rw [<-eG.out] at HA;have u0:=aab u0 aK;have u1:=aab u1 aK;have zU:=aac u0;clear aY aK bG bH y3 c0 c1 c2 c3 zb cV;go_upto_region 19 with (go_at_call 7;refine HA.out.mono ?_;rintro e w5 ⟨aa,ac,rfl,cT,bl⟩;have bg:=hid bl;have dA:=hid cT;clear bl cT)
             obtain⟨W6,dT⟩:∃W6,W6=w5.alloc (.cells #[.int .i64 0,.int .i64 0] 28):=⟨_,rfl⟩
             have da:Below w5.heap.size w5 W6:=by rw [dT];exact bE
             have bX:Hid (Below W4.heap.size W4 W6):=bg.out.trans (da.mono bg.out.size);have aZ:Below wr.heap.size wr W6:=bW.out.trans (bX.out.mono bW.out.size);rw [<-dT];have u0:=aab u0 bX.out;have u1:=aab u1 bX.out;have zU:=aac u0;have dB:Hid (SlAt (fun b=>W4.heap.size<=b∧b<w5.heap.size) W6 1 rRow (.slice aa bn ac) (aheadF fs[k].blocks)) :=
              (SlAt.live Nat.one_pos (fun cs x h=>ake _ _ h) dA.out).later aau da
             have gw:w5.heap.size<=W6.heap.size:=da.size;clear dT da
             -- the row of the blocks ahead
             obtain⟨W7,cq⟩:∃W7,W7=W6.alloc (.cells #[.slice aa bn ac] 31):=⟨_,rfl⟩
             have bm:Below W6.heap.size W6 W7:=by rw [cq];exact bE
             have eQ:W7.heap.size=W6.heap.size+1:=by rw [cq];simp
             have eP:W7.cell? ⟨W6.heap.size,0,none⟩=some (.slice aa bn ac):=by rw [cq];simp
             have aL:Below wr.heap.size wr W7:=aZ.trans (bm.mono aZ.size);have H7:=aG.out.later aL;have e0:ajV W7 k V X:=fun b hb=>⟨Aba (HX.out b hb).1 aL.size,(HX.out b hb).2⟩
             have cu:∀(j:Nat) v x,ak[j]?=some v->(fs.map fun f=>aheadF f.blocks)[j]?=some x->SlAt X W7 1 rRow v x:=fun j v x h1 h2=>(dm.out j v x h1 h2).later aau aL;have cU:=dB.out.later aau bm;obtain⟨e7,zW,ae,db⟩:=H7.boxAt;have b2:=ae 2 _ rfl;rw [Aac] at b2;have an:W7.ownsRow W.heap.size 31 1 (V none) ak.length ak:=by
              have h:W7.ownsRow W.heap.size 31 1 (V none) (ak.map fun v=>[v]).length (ak.map fun v=>[v]).flatten:=H7.rows.own none trivial;rw [ach,Aal] at h;exact h
             rw [bB.out] at an;obtain⟨na,nc,en⟩:=abu an;have eN:W6.cell? ⟨WB,2,none⟩=some (.slice na k nc):=by
              have h:=(aG.out.later aZ).boxAt.2.2.1 2 _ rfl;rw [Aac] at h;rw [h];exact congrArg some en
             have fx:=aac eN;have cZ:=hid cq;have bR:=hid H7;have dz:=hid an;have dx:=hid en;have fG:=hid e0;have dn:=hid cu;have dC:=hid cU;have fB:=hid eQ;have fy:=hid eP;have fI:=hid aL;have eF:=hid bm;have y3:=aab eL.out bX.out;clear cq bm eQ eP aL H7 e0 cu cU ae db b2 an en aZ zW e7
             go_upto_region 20 with (
              refine wpList_append_own_at _ rfl (.tmp 88) (.tmp 90) 77 rfl W.heap.size 31 j0 _ 1 24 Tryd.underlying77 fY gd gf gg rfl (by decide) (.slice na k nc) k ak rfl (by rw [<- cZ.out, <- dx.out]; exact dz.out) ⟨W6.heap.size, 0, none⟩ 1 1 [.slice aa bn ac] rfl rfl ?_ ?_ ?_ ?_ ?_ ?_
              . intro j v hj
                match j, hj with
                | 0, hj => cases hj; rw [Addr.add_lit, <- cZ.out]; exact fy.out
              . intro v hv
                rw [Aau.1 hv]; rfl
              . unfold maxLen; omega
              . omega
              . rw [<- cZ.out]; exact Aaj bR.out.hb bR.out.low.size
              intro v' w' aN aA el dY
              rw [<- cZ.out, <- dx.out] at aA dY
              obtain ⟨va, vc, rfl⟩ := abu aN
              obtain ⟨cC, cw⟩ := bR.out.boxGrown (p := none) trivial (by intro e; cases e) aA
              have dE := cC 2 _ rfl
              rw [Aac, dx.out] at dE
              have fS := cw 2 (by omega)
              have gB := aac dE
              have b1 := hid aN
              have az := hid aA
              have eD := hid dY
              clear aN aA el dY cC cw eN fx u0 u1 zU y3)
             obtain⟨X8,bK⟩:∃X8:Nat->Prop,X8=fun b=>X b∨(W4.heap.size<=b∧b<w5.heap.size):=⟨_,rfl⟩
             have ey:wr.heap.size<=W4.heap.size:=bW.out.size;have et:w5.heap.size<=W7.heap.size:=by have:=fB.out;omega
             have dP:ajV W7 k V X8:=fun b hb=>by
              rw [bK] at hb;rcases hb with hb | ⟨h1,h2⟩
              . exact fG.out b hb
              . refine⟨by omega,fun p hp e=>?_⟩
                rw [<-bF.out] at hp;have:=(aG.out.rows.lt hp b e).2;omega
             have bJ:ajV W7 ((fs.take k).map fun f=>List.replicate f.blocks.length (0:Int)).length V X8:=by rw [bF.out];exact dP
             have aP:aaD X8 W7 (w'.setCell ⟨WB,2,none⟩ (.slice va (k+1) vc)):=bR.out.staysBox bJ _ (bR.out.staysRow bJ (p:=none) trivial az.out);have aB:(ak++[Value.slice aa bn ac]).length=k+1:=by rw [Aak,bB.out];rfl
             have bN:∀(j:Nat) v x,(ak++[Value.slice aa bn ac])[j]?=some v->(fs.map fun f=>aheadF f.blocks)[j]?=some x->SlAt X8 (w'.setCell ⟨WB,2,none⟩ (.slice va (k+1) vc)) 1 rRow v x:=fun j v x h1 h2=>by
              by_cases hj:j<ak.length
              . rw [Abh hj] at h1
                exact (dn.out j v x h1 h2).mono aau (fun b hb=>by rw [bK];exact .inl hb) (fun b o v hb hc=>aP b o v (by rw [bK];exact .inl hb) hc)
              . have gb:j=ak.length:=by
                 have:=(Aae.1 h1).1;rw [aB] at this;have:=bB.out;omega
                subst gb;rw [List.getElem?_append_right (Aad _),Nat.sub_self] at h1;cases h1;rw [bB.out,Aap,Aaa hkl] at h2;cases h2;exact dC.out.mono aau (fun b hb=>by rw [bK];exact .inr hb) (fun b o v hb hc=>aP b o v (by rw [bK];exact .inr hb) hc)
             have H8 := bR.out.turnAhd (v' := .slice va (k + 1) vc) (avs' := ak ++ [.slice aa bn ac]) (by rw [aB]; exact b1.out) az.out (fun q hq => by
              rcases eD.out with e | e
              . rw [e] at hq; exact .inl hq
              . rw [e] at hq; cases hq; exact .inr (Aad _))
             have c5:ajV (w'.setCell ⟨WB,2,none⟩ (.slice va (k+1) vc)) k (abx V none (.slice va (k+1) vc)) X8:=fun b hb=>by
              obtain⟨h1,h2⟩:=dP b hb;have aC:=az.out.size;refine⟨by simp [World.setCell];omega,fun p hp=>?_⟩
              by_cases e:p=none
              . subst e
                rw [aai];rcases eD.out with e | e
                . rw [e];exact h2 none trivial
                . rw [e];intro e2;cases e2;omega
              . rw [aae _ _ e];exact h2 p hp
             obtain⟨W8,dU⟩:∃W8,W8=w'.setCell ⟨WB,2,none⟩ (.slice va (k+1) vc):=⟨_,rfl⟩
             obtain⟨V8,eW⟩:∃V8,V8=abx V none (.slice va (k+1) vc):=⟨_,rfl⟩
             rw [<-dU] at aP bN H8 c5 ⊢;rw [<-eW] at H8 c5;have cj:GB≠WB:=by have:=aG.out.boxAt.2.1;have:=cX.out;omega
             have eT:some GB≠(V none).ownBlock:=fun e=>by
              have:=(aG.out.rows.lt (p:=none) trivial GB e.symm).2;have:=cX.out;omega
             have gz:W8.cell? ⟨GB,3,none⟩=some (.slice xa bn xc):=by
              rw [dU,aas _ cj];exact az.out.cell (a:=⟨GB,3,none⟩) (aab (aab eL.out bX.out) eF.out) eT
             have gS:=aac gz;obtain⟨-,-,cG,cA⟩:=H8.boxAt;have aX:=cG 10 _ rfl;rw [Aac] at aX;have f10:=cA 10 (by omega);have H8:=hid H8;have fQ:=hid aP;have dp:=hid bN;have dj:=hid c5;have fH:=hid bK;have bY:=hid aB;clear aP bN c5 bK dU eW dP bJ cj eT cG cA dE fS gB ey et aB
             -- the row of the counts
             have gN:=run_make_row' (P:=Tryd.prog) 26 3 (.int .i64 0) 8 Tryd.underlying26 acr rfl .i64 .i64 bn (by omega) (by omega);obtain⟨W9,cr⟩:∃W9,W9=W8.drew.alloc (.cells (madeCells #[.int .i64 0] bn) 3):=⟨_,rfl⟩
             have eR:W9.heap.size=W8.heap.size+1:=by rw [cr];simp
             have dI:W9.heap[W8.heap.size]?=some (.cells (List.replicate bn (Value.int .i64 0)).toArray 3 (0,0)):=by
              have h:=heap_alloc_new W8.drew (.cells (madeCells #[.int .i64 0] bn) 3);rw [<-cr,abk] at h;exact h
             have dZ:Below W8.heap.size W8 W9:=by rw [cr];exact bE
             obtain⟨aH,aD⟩:∃aH,aH=W9.alloc (.cells #[.slice (some ⟨W8.heap.size,0,none⟩) bn bn] 26):=⟨_,rfl⟩
             have bO:Below W9.heap.size W9 aH:=by rw [aD];exact bE
             have ch:aH.cell? ⟨W8.heap.size+1,0,none⟩=some (.slice (some ⟨W8.heap.size,0,none⟩) bn bn):=by rw [aD,<-eR];simp
             have dF:aH.heap.size=W9.heap.size+1:=by rw [aD];simp
             have ag:Below W8.heap.size W8 aH:=dZ.trans (bO.mono dZ.size);have fh:aH.ownsRow W8.heap.size 3 1 (.slice (some ⟨W8.heap.size,0,none⟩) bn bn) (List.replicate bn (0:Int)).length ((List.replicate bn (0:Int)).map (Value.int .i64)):=by
              refine⟨by simp,.inr ⟨W8.heap.size,bn,(List.replicate bn (Value.int .i64 0)).toArray,by simp,Aad _,?_,by simp,by unfold maxLen;omega,by simp,by simp⟩⟩;rw [bO.block _ (Aan.1 dI).1];exact dI
             have bu:=H8.out.later ag;have aO:aH.ownsRow W.heap.size 26 1 (V8 (some .cnts)) k ((List.range k).map fun j=>V8 (some (.cnt j))):=by
              have h:aH.ownsRow W.heap.size 26 1 (V8 (some .cnts)) ((List.range ((fs.take k).map fun f=>List.replicate f.blocks.length (0:Int)).length).map fun j=>[V8 (some (.cnt j))]).length ((List.range ((fs.take k).map fun f=>List.replicate f.blocks.length (0:Int)).length).map fun j=>[V8 (some (.cnt j))]).flatten:=bu.rows.own (some .cnts) trivial;have e:(List.range k).map (fun j=>[V8 (some (.cnt j))])=((List.range k).map fun j=>V8 (some (.cnt j))).map fun v=>[v]:=by rw [List.map_map];rfl
              rw [bF.out,Aal,List.length_range,e,ach] at h;exact h
             obtain ⟨fv, wc, aF, eo, cK, -, bM⟩ := run_append_own_at (P := Tryd.prog) (w := aH) W.heap.size 31 31 26 j1 _ 1 24 Tryd.underlying31 fZ ef eg eh rfl (by decide) (V8 (some .cnts)) k _ aO ⟨W8.heap.size + 1, 0, none⟩ 1 1 [.slice (some ⟨W8.heap.size, 0, none⟩) bn bn] rfl (fun j v hj => by
              match j, hj with
              | 0, hj => cases hj; rw [Addr.add_lit]; exact ch) (fun v hv => by rw [Aau.1 hv]; rfl) (by unfold maxLen; omega) (by omega) (Aaj bu.hb bu.low.size)
             obtain⟨pa,pc,ep⟩:=abu aO;obtain⟨qa,qc,rfl⟩:=abu eo;have bI:ajV aH ((fs.take k).map fun f=>List.replicate f.blocks.length (0:Int)).length V8 X8:=fun b hb=>by
              rw [bF.out];exact⟨Aba (dj.out b hb).1 ag.size,(dj.out b hb).2⟩
             have bt:aaD X8 W8 (wc.setCell ⟨WB,10,none⟩ (.slice qa (k+1) qc)):=(aaD.below' ag).trans (bu.staysBox bI _ (bu.staysRow bI (p:=some .cnts) trivial cK))
             have cW := H8.out.pushCnt (W1 := aH) (W2 := wc) (rv := .slice (some ⟨W8.heap.size, 0, none⟩) bn bn) (fv := .slice qa (k + 1) qc) (l := List.replicate bn 0) ag (by simpa using fh) (by rw [bF.out]; exact eo) cK (fun q hq => by
              rcases bM with e | e
              . rw [e] at hq; exact .inl hq
              . rw [e] at hq; cases hq; exact .inr (Aad _))
             have bo:((fs.take k).map fun f=>List.replicate f.blocks.length (0:Int))++[List.replicate bn 0]=(fs.take (k+1)).map fun f=>List.replicate f.blocks.length (0:Int):=by
              rw [Aaz hkl,Aat,eG.out];rfl
             rw [bo,bF.out] at cW;have cm:ajV (wc.setCell ⟨WB,10,none⟩ (.slice qa (k+1) qc)) (k+1) (abx (abx V8 (some (.cnt k)) (.slice (some ⟨W8.heap.size,0,none⟩) bn bn)) (some .cnts) (.slice qa (k+1) qc)) X8:=fun b hb=>by
              obtain⟨h1,h2⟩:=dj.out b hb;have aC:=cK.size;have gv:=ag.size;refine⟨by simp [World.setCell];omega,fun p hp=>?_⟩
              by_cases e:p=some .cnts
              . subst e
                rw [aai];rcases bM with e | e
                . rw [e];exact h2 (some .cnts) trivial
                . rw [e];intro e2;cases e2;omega
              . rw [aae _ _ e]
                by_cases e2:p=some (.cnt k)
                . subst e2
                  rw [aai];intro e3;have e4:W8.heap.size=b:=Option.some.inj e3;omega
                . rw [aae _ _ e2];exact h2 p ((ahy hp).resolve_right e2)
             have bj:∀(j:Nat) v x,(ak++[Value.slice aa bn ac])[j]?=some v->(fs.map fun f=>aheadF f.blocks)[j]?=some x->SlAt X8 (wc.setCell ⟨WB,10,none⟩ (.slice qa (k+1) qc)) 1 rRow v x:=fun j v x h1 h2 =>
              (dp.out j v x h1 h2).mono aau (fun _ h=>h) bt
             obtain⟨cH,cB⟩:=bu.boxGrown (p:=some .cnts) trivial (by intro e;cases e) cK;have cg:=cH 10 _ rfl;rw [Aac,ep] at cg;rw [ep] at aX aF;have fR:=cB 10 (by omega);have gA:=aac cg;have gR:=aac aX;have aW:=hid aF;have cW:=hid cW;have di:=hid cm;have bV:=hid bj;have dk:Hid (∀b,S b->X8 b):=fun b hb=>by rw [fH.out];exact .inl (cY.out b hb)
             have b0:Hid (∀v∈ak++[Value.slice aa bn ac],v.oneCell'=true):=fun v hv=>by
              rcases Aaw.1 hv with hv | hv
              . exact bZ.out v hv
              . rw [Aau.1 hv];rfl
             rw [cr] at aD;have fE:=hid aD;clear cr aD eR dI dZ bO ch dF ag fh bu aO aF eo cK bM ep bI bt bo cm bj cH cB;rw [fE.out] at aW;go_region_law (refine abQ rfl _ _ 31 31 rfl _ _ (by simp [Act.eval]) (by simp [Act.eval]) aW.out ?_)
             all_goals
              go_wp2_with fail;go_roundw
              case rel=>exact⟨k+1,_,_,X8,by omega,by go_num,cW.out,bY.out,di.out,dk.out,b0.out,bV.out⟩
              case measure=>simp [intOf];omega
           . have ei:k=fs.length:=by omega
             subst ei;have aq:((fs.take fs.length).map fun f=>List.replicate f.blocks.length (0:Int))=fs.map fun f=>List.replicate f.blocks.length (0:Int):=by rw [Aa0]
             have ai:=aG.out;rw [aq] at ai;have ej:(fs.map fun f=>List.replicate f.blocks.length (0:Int)).length=fs.length:=Aal _;have aU:∃V',aaG ⟨gs,fs⟩ (.slice ga gs.length gc) (.slice fa fs.length fc) (V none) (fun b=>X b∨(V none).ownBlock=some b) W W.heap.size WB wr V' (.slice ia il ic) ⟨acF gs,inp,[],0,0,0,[],fs.map fun f=>List.replicate f.blocks.length 0⟩:=by
              refine ai.wk (u:=⟨gs,fs⟩) (fun b hb=>?_) ?_ ?_ ?_
              . rw [ej]
                rcases hb with hb | hb
                . exact⟨(HX.out b hb).1,fun p hp _=>(HX.out b hb).2 p hp⟩
                . exact⟨(ai.rows.lt (p:=none) trivial b hb).2,fun p hp gj e=>ai.rows.apart p none (by rw [ej];exact hp) trivial gj b e hb⟩
              . exact (Hf.out.later aan bD.out).mono aan (fun b hb => .inl (cY.out b hb)) (aaD.refl _ _)
              . exact ai.slAhd (by rw [bB.out,Aal]) dm.out
              . exact (Hi.out.later aaf bD.out).mono aaf (fun b hb => .inl (cY.out b hb)) (aaD.refl _ _)
             obtain⟨V',aU⟩:=aU;obtain⟨AV,dJ⟩:∃AV,AV=V none:=⟨_,rfl⟩
             obtain⟨aa,ac,eS⟩:∃aa ac,AV = .slice aa fs.length ac:=by
              obtain⟨aa,ac,e⟩:=abu (ai.rows.own none trivial);rw [dJ];refine⟨aa,ac,?_⟩;rw [e];show Value.slice aa (ak.map fun v=>[v]).length ac=_;rw [Aal,bB.out]
             rw [<-dJ] at aU;obtain⟨Z,hZ⟩:∃Z:Nat->Prop,Z=fun b=>X b∨AV.ownBlock=some b:=⟨_,rfl⟩
             rw [<-hZ] at aU;obtain⟨g0,hm,fg,df⟩:=aet au.out;have hIx:=ah1 (S:=S) fa fc fs wr (Hf.out.later aan bD.out) (by omega);have df:aaF fs=(mainAt fs:Int):=df;rw [df] at hIx;have ez:=hid hIx;have cf:=hid aU;have Hm:=hid hm;have fN:=hid fg;obtain⟨mn,ek⟩:∃n,n=mainAt fs:=⟨_,rfl⟩
             rw [<-ek] at ez;have dw:=hid ek;have fC:=hid eS;have fb:=afF au.out hm;have c4:=hid fb;have fJ:=hid ai.low;obtain⟨-,-,ae,-⟩:=ai.boxAt;clear aq ai ej aU dJ hZ hm fg hIx df ek eS fb ae aG bB HX cY bZ dm bF
             go_upto_region 23 with (first
              | (go_at_call 24; refine ez.out.mono ?_; rintro e w7 ⟨rfl, bm⟩; have eF := hid bm
                 have hq : Calls Tryd.prog 23 #[.pointer (some ⟨WB, 0, none⟩), .int .i64 (mn : Int), .int .i64 (-1), .slice none 0 0] w7 fun e w' => e = .returned (.tuple #[]) ∧ ∃ V', aaG ⟨gs, fs⟩ (.slice ga gs.length gc) (.slice fa fs.length fc) AV Z W W.heap.size WB w' V' (.slice ia il ic) (RnS.enter ⟨gs, fs⟩ mn (-1) [] ⟨acF gs, inp, [], 0, 0, 0, [], fs.map fun f => List.replicate f.blocks.length 0⟩) :=
                  afu (cf.out.later bm) (f := g0) (by rw [dw.out]; exact Hm.out) rfl ⟨by have := c4.out.pr; omega, by have := c4.out.pr; omega⟩ (-1) (SA := fun _ => True) (aa := none) (ac := 0) (al := []) ⟨none, 0, rfl, Aad _, by decide, fun h => absurd rfl h⟩ (by have := c4.out.pr; show (0 : Int) <= _; omega) (cl := List.replicate g0.blocks.length 0) (by
                   show (fs.map fun f => List.replicate f.blocks.length (0 : Int))[mn]? = _
                   rw [Aap, dw.out, Hm.out]; rfl) ⟨by rw [Aar]; have := c4.out.len; omega, fun v hv => by rw [Abd hv]; omega⟩ (Aaf _)
                 have Hq := hid hq
                 clear hq bm)
              | (go_at_call 23; refine Hq.out.mono ?_; rintro e w8 ⟨rfl, V8, bU⟩; have dD := hid bU; clear bU))
             obtain⟨Fn,rfl⟩:∃n:Nat,fuel=(n:Int):=Aao bQ;have aV:Hid (aiw ⟨gs,fs⟩):=aiz Hg.out Hf.out;have dh:RnS.enter ⟨gs,fs⟩ mn (-1) [] ⟨acF gs,inp,[],0,0,0,[],fs.map fun f=>List.replicate f.blocks.length 0⟩=RnS.start ⟨gs,fs⟩ inp:=by
              unfold RnS.start;rw [ag6,dw.out]
             have bU:=dD.out;rw [dh] at bU;have aM:∀v∈inp,I64 v:=fun v hv=>by
              obtain⟨-,-,h⟩:=Hi.out.all v hv;exact h
             have fP:=hid (ahj au.out aV.out aM Hm.out fN.out);have dD:=hid bU;have gq:(RnS.start ⟨gs,fs⟩ inp).frs≠[]:=fun e=>by unfold RnS.start RnS.enter at e;cases e
             clear dh bU aM;go_loopw [] (fun wr=>∃(V:WPth->Value) (iv:Value) (s:RnS),aaG ⟨gs,fs⟩ (.slice ga gs.length gc) (.slice fa fs.length fc) AV Z W W.heap.size WB wr V iv s∧RnW ⟨gs,fs⟩ s∧s.frs≠[]∧s.steps<=Fn∧RnS.go ⟨gs,fs⟩ (Fn - s.steps) s=runR ⟨gs,fs⟩ inp Fn) (fun wr=>Fn - ahk WB wr)
             case atStart=>exact⟨V8,_,_,dD.out,fP.out,gq,Aaf _,rfl⟩
             case round =>
              obtain⟨Vr,ft,sr,aU,fk,ec,gr,aT⟩:=hrel;have cf:=hid aU;have b9:=hid fk;have eH:=hid aT;obtain⟨st,br⟩:∃n,n=sr.steps:=⟨_,rfl⟩
              have aj:=hid br;obtain⟨-,zW,ae,-⟩:=aU.boxAt;have b8:=ae 8 _ rfl;rw [Aac,<-br] at b8;rw [<-br] at gr;clear aU fk aT ae br
              by_cases hF:st=Fn
              . have HQ:=hid (abR cf.out 1)
                have eU:runR ⟨gs,fs⟩ inp Fn=sr.stop 1:=by rw [<-eH.out,<-aj.out,hF,Nat.sub_self];rfl
                have aJ:=hid eU;subst hF;clear eU;go_wp2_with (first | (go_at_call 26;refine HQ.out.mono ?_;rintro e wz ⟨rfl,hw⟩;have eM:=hid hw;clear hw));obtain⟨sz,aC⟩:∃z,z=sr.stop 1:=⟨_,rfl⟩
                have Hz:Hid (aaG ⟨gs,fs⟩ (.slice ga gs.length gc) (.slice fa fs.length fc) AV Z W W.heap.size WB wz Vr ft sz):=by rw [aC];exact eM.out
                have bA:Hid (RnW ⟨gs,fs⟩ sz):=by rw [aC];exact b9.out.stop 1
                have bh:Hid (sz.steps<=100001):=by rw [aC];show sr.steps<=100001;have:=aj.out;omega
                have bz:Hid (runR ⟨gs,fs⟩ inp st=sz):=by rw [aC];exact aJ.out
                clear aC eM aJ b8 zW;obtain⟨ca,cc,cI,aq⟩:=Hz.out.cntSl (bA.out.cnt64 bh.out);obtain⟨oa,oc,cR,cQ⟩:=Hz.out.intsSl (p := .out) trivial rfl rfl (l:=sz.out) rfl bA.out.out.2;have aS:sz.cnt.length=fs.length:=bA.out.cnt.1;obtain⟨-,zW,ae,-⟩:=Hz.out.boxAt;have b5:=ae 5 _ rfl;have b6:=ae 6 _ rfl;have b7:=ae 7 _ rfl;have b8:=ae 8 _ rfl;have aX:=ae 10 _ rfl;rw [Aac] at b5 b6 b7 b8 aX;rw [cR] at b7;rw [cI,aS] at aX;rw [aS] at aq;obtain⟨-,ad,af⟩:=HC.out wz Hz.out.low;obtain⟨o0,o1,o2,o3⟩:=(aar (cs:=[_,_,_,_]) ad).get4;obtain⟨r0,r1⟩:=(aar (cs:=[_,_]) af).get2;rw [Aac] at o1 o2 o3 r1;have zO:=aac o0;have zR:=aac r0;have q0:=aaP ad 0;have q1:=aaP ad 1;have q2:=aaP ad 2;have q3:=aaP ad 3;have s0:=aaP af 0;have s1:=aaP af 1;have bw:=hid ad;have bx:=hid af;have ds:=hid aq;have dy:=hid cQ;have dV:WB≠OB∧WB≠FB:=by have:=Hz.out.boxAt.1;have:=HB.out;omega
                obtain⟨dW,dX⟩:=dV;obtain⟨a8,aw⟩:∃x,x=sz.state:=⟨_,rfl⟩
                obtain⟨be,ay⟩:∃x,x=sz.value:=⟨_,rfl⟩
                obtain⟨bd,ax⟩:∃x,x=sz.steps:=⟨_,rfl⟩
                obtain⟨a7,av⟩:∃x,x=sz.out.length:=⟨_,rfl⟩
                rw [<-aw] at b5;rw [<-ay] at b6;rw [<-ax] at b8;rw [<-av] at b7;have HZ:Hid (a8=sz.state∧be=sz.value∧bd=sz.steps∧a7=sz.out.length):=⟨aw,ay,ax,av⟩
                clear cI aq cR cQ aS ae ad af aw ay ax av;go_upto_region 26 with (fail)
                go_big_region;go_wp2_with fail;obtain⟨e1,e2⟩:=aeQ (aar (cs:=[_,_,_,_]) bw.out) (aar (cs:=[_,_]) bx.out) cn (.int .i64 a8) (.int .i64 be) (.slice oa a7 oc) (.int .i64 (bd:Int)) (.int .i64 0) (.int .i64 0);have br:=abi (w:=wz) (base:=w.heap.size) (OB:=OB) (FB:=FB) (by have:=HB.out;omega) (by have:=HB.out;omega) (.int .i64 a8) (.int .i64 be) (.slice oa a7 oc) (.int .i64 (bd:Int)) (.int .i64 0) (.int .i64 0);have aQ:aaD (fun b=>W.heap.size<=b) wz ((((((wz.setCell ⟨OB,0,none⟩ (.int .i64 a8)).setCell ⟨OB,1,none⟩ (.int .i64 be)).setCell ⟨OB,2,none⟩ (.slice oa a7 oc)).setCell ⟨OB,3,none⟩ (.int .i64 (bd:Int))).setCell ⟨FB,0,none⟩ (.int .i64 0)).setCell ⟨FB,1,none⟩ (.int .i64 0)):=fun b o v hb hc=>by
                 have aI:b≠OB:=by have:=HB.out;have hb:W.heap.size<=b:=hb;omega
                 have bk:b≠FB:=by have:=HB.out;have hb:W.heap.size<=b:=hb;omega
                 rw [aas _ bk,aas _ bk,aas _ aI,aas _ aI,aas _ aI,aas _ aI];exact hc
                replace e1:=e1.later ((Below.refl _ _).drew)
                replace e2:=e2.later ((Below.refl _ _).drew)
                refine bodyPost_ret (aeM rfl rfl rfl rfl (e1 0 _ rfl) (e1 1 _ rfl) (e1 2 _ rfl) (e1 3 _ rfl) (e2 0 _ rfl) (e2 1 _ rfl)) rfl ⟨?_,.inl ⟨HE.out,ca,cc,oa,oc,?_,?_,?_⟩⟩
                . exact ((ar.out.trans (Hz.out.low.mono ar.out.size)).trans br).drew
                . rw [Aag,bz.out,<-HZ.out.1,<-HZ.out.2.1,<-HZ.out.2.2.1,<-HZ.out.2.2.2];rfl
                . rw [Aag,bz.out]
                  exact ((ds.out.mono aau (fun _ h=>h) aQ).later aau ((Below.refl _ _).drew)).mono aau (fun b hb=>by have hb:W.heap.size<=b:=hb;have:=HB.out;show w.heap.size<=b;omega) (aaD.refl _ _)
                . rw [Aag,bz.out]
                  exact ((dy.out.mono aaf (fun _ h=>h) aQ).later aaf ((Below.refl _ _).drew)).mono aaf (fun b hb=>by have hb:W.heap.size<=b:=hb;have:=HB.out;show w.heap.size<=b;omega) (aaD.refl _ _)
              . have gL:st<Fn:=by omega
                obtain⟨t,r,aE⟩:∃t r,sr.frs=t :: r:=by
                 cases e:sr.frs with
                 | nil=>exact absurd e ec
                 | cons t r=>exact⟨t,r,rfl⟩
                obtain⟨f,x,cJ⟩:=b9.out.frs t (by rw [aE];exact Aa6 ..);have eb:ac7 ⟨gs,fs⟩ (.slice ga gs.length gc) (.slice fa fs.length fc) AV Z W W.heap.size WB wr Vr ft sr t r f x:=⟨cf.out,aE,cJ,au.out,aV.out,b9.out,⟨_,_,_,rfl⟩,⟨_,_,_,fC.out⟩,by have:=aj.out;omega⟩
                have bT:=af1 au.out aV.out b9.out aE cJ (af0 au.out aV.out b9.out aE cJ);have hQ:=eb.step (by have:=aj.out;omega);obtain⟨m,dg⟩:∃m,Fn - st=m+1:=⟨Fn - st - 1,by omega⟩
                have aT:=eH.out;rw [<-aj.out,dg,RnS.go] at aT;have gl:decide ((st:Int)=(Fn:Int))=false:=decide_eq_false (by omega);have gm:¬(st:Int)=(Fn:Int):=by omega
                obtain⟨bb,ea⟩:∃b,b=(sr.step ⟨gs,fs⟩).2:=⟨_,rfl⟩
                obtain⟨sz,aC⟩:∃z,z=(sr.step ⟨gs,fs⟩).1:=⟨_,rfl⟩
                rw [<-ea,<-aC] at hQ aT bT;have HQ:=hid hQ;have eI:=hid bT;have fM:=hid dg;cases bb with
                | true =>
                  rw [if_pos rfl] at aT;have dt:=hid aT;clear aT ea aC hQ bT dg eb cJ aE ec;go_wp2_with (first | (go_at_call 27;refine HQ.out.mono ?_;rintro e wz ⟨rfl,V9,fq,hw⟩;have Hz:=hid hw;clear hw));go_roundw
                  case rel =>
                   obtain⟨k1,k2,k3⟩:=eI.out
                   exact ⟨V9, fq, sz, Hz.out, k1, k2 (by first | rfl | trivial), by rw [k3]; have := aj.out; omega, by
                    rw [k3, <- aj.out, show Fn - (st + 1) = m by have := fM.out; omega]; exact dt.out⟩
                  case measure =>
                   have h1:=Hz.out.stepsAt;have h2:=cf.out.stepsAt;have h3:=eI.out.2.2;have h4:=aj.out;omega
                | false =>
                  have aJ:=hid aT;have bA:Hid (RnW ⟨gs,fs⟩ sz):=bT.1;have bh:Hid (sz.steps<=100001):=by show _<=_;rw [bT.2.2];have:=aj.out;omega
                  have bz:Hid (runR ⟨gs,fs⟩ inp Fn=sz):=by show _=_;rw [<-aJ.out,if_neg (by decide)]
                  clear aT ea aC hQ bT dg eb cJ aE ec aJ;go_wp2_with (first | (go_at_call 27;refine HQ.out.mono ?_;rintro e wz ⟨rfl,V9,fq,hw⟩;have Hz:=hid hw;clear hw));clear b8 zW;obtain⟨ca,cc,cI,aq⟩:=Hz.out.cntSl (bA.out.cnt64 bh.out);obtain⟨oa,oc,cR,cQ⟩:=Hz.out.intsSl (p := .out) trivial rfl rfl (l:=sz.out) rfl bA.out.out.2;have aS:sz.cnt.length=fs.length:=bA.out.cnt.1;obtain⟨-,zW,ae,-⟩:=Hz.out.boxAt;have b5:=ae 5 _ rfl;have b6:=ae 6 _ rfl;have b7:=ae 7 _ rfl;have b8:=ae 8 _ rfl;have aX:=ae 10 _ rfl;rw [Aac] at b5 b6 b7 b8 aX;rw [cR] at b7;rw [cI,aS] at aX;rw [aS] at aq;obtain⟨-,ad,af⟩:=HC.out wz Hz.out.low;obtain⟨o0,o1,o2,o3⟩:=(aar (cs:=[_,_,_,_]) ad).get4;obtain⟨r0,r1⟩:=(aar (cs:=[_,_]) af).get2;rw [Aac] at o1 o2 o3 r1;have zO:=aac o0;have zR:=aac r0;have q0:=aaP ad 0;have q1:=aaP ad 1;have q2:=aaP ad 2;have q3:=aaP ad 3;have s0:=aaP af 0;have s1:=aaP af 1;have bw:=hid ad;have bx:=hid af;have ds:=hid aq;have dy:=hid cQ;have dV:WB≠OB∧WB≠FB:=by have:=Hz.out.boxAt.1;have:=HB.out;omega
                  obtain⟨dW,dX⟩:=dV;obtain⟨a8,aw⟩:∃x,x=sz.state:=⟨_,rfl⟩
                  obtain⟨be,ay⟩:∃x,x=sz.value:=⟨_,rfl⟩
                  obtain⟨bd,ax⟩:∃x,x=sz.steps:=⟨_,rfl⟩
                  obtain⟨a7,av⟩:∃x,x=sz.out.length:=⟨_,rfl⟩
                  rw [<-aw] at b5;rw [<-ay] at b6;rw [<-ax] at b8;rw [<-av] at b7;have HZ:Hid (a8=sz.state∧be=sz.value∧bd=sz.steps∧a7=sz.out.length):=⟨aw,ay,ax,av⟩
                  clear cI aq cR cQ aS ae ad af aw ay ax av;go_upto_region 26 with (fail)
                  go_big_region;go_wp2_with fail;obtain⟨e1,e2⟩:=aeQ (aar (cs:=[_,_,_,_]) bw.out) (aar (cs:=[_,_]) bx.out) cn (.int .i64 a8) (.int .i64 be) (.slice oa a7 oc) (.int .i64 (bd:Int)) (.int .i64 0) (.int .i64 0);have br:=abi (w:=wz) (base:=w.heap.size) (OB:=OB) (FB:=FB) (by have:=HB.out;omega) (by have:=HB.out;omega) (.int .i64 a8) (.int .i64 be) (.slice oa a7 oc) (.int .i64 (bd:Int)) (.int .i64 0) (.int .i64 0);have aQ:aaD (fun b=>W.heap.size<=b) wz ((((((wz.setCell ⟨OB,0,none⟩ (.int .i64 a8)).setCell ⟨OB,1,none⟩ (.int .i64 be)).setCell ⟨OB,2,none⟩ (.slice oa a7 oc)).setCell ⟨OB,3,none⟩ (.int .i64 (bd:Int))).setCell ⟨FB,0,none⟩ (.int .i64 0)).setCell ⟨FB,1,none⟩ (.int .i64 0)):=fun b o v hb hc=>by
                   have aI:b≠OB:=by have:=HB.out;have hb:W.heap.size<=b:=hb;omega
                   have bk:b≠FB:=by have:=HB.out;have hb:W.heap.size<=b:=hb;omega
                   rw [aas _ bk,aas _ bk,aas _ aI,aas _ aI,aas _ aI,aas _ aI];exact hc
                  replace e1:=e1.later ((Below.refl _ _).drew)
                  replace e2:=e2.later ((Below.refl _ _).drew)
                  refine bodyPost_ret (aeM rfl rfl rfl rfl (e1 0 _ rfl) (e1 1 _ rfl) (e1 2 _ rfl) (e1 3 _ rfl) (e2 0 _ rfl) (e2 1 _ rfl)) rfl ⟨?_,.inl ⟨HE.out,ca,cc,oa,oc,?_,?_,?_⟩⟩
                  . exact ((ar.out.trans (Hz.out.low.mono ar.out.size)).trans br).drew
                  . rw [Aag,bz.out,<-HZ.out.1,<-HZ.out.2.1,<-HZ.out.2.2.1,<-HZ.out.2.2.2];rfl
                  . rw [Aag,bz.out]
                    exact ((ds.out.mono aau (fun _ h=>h) aQ).later aau ((Below.refl _ _).drew)).mono aau (fun b hb=>by have hb:W.heap.size<=b:=hb;have:=HB.out;show w.heap.size<=b;omega) (aaD.refl _ _)
                  . rw [Aag,bz.out]
                    exact ((dy.out.mono aaf (fun _ h=>h) aQ).later aaf ((Below.refl _ _).drew)).mono aaf (fun b hb=>by have hb:W.heap.size<=b:=hb;have:=HB.out;show w.heap.size<=b;omega) (aaD.refl _ _)
     . have eu:decide (0<=fuel∧fuel<=100000)=false:=decide_eq_false hrg
       have HE:Hid (abV ⟨gs,fs⟩ inp.length fuel=(3,-1)):=by
        show _=_;unfold abV;rw [au.out,if_neg (by simp),<-dv.out,if_neg h30,if_pos hrg]
       clear o0 o1 o2 o3 r0 r1 zO zR;go_wp2_with (first | (go_at_call 20;((with_reducible refine (aah _ _ _ _).mono ?_);rintro e w' ⟨rfl,rfl⟩;rw [eu])) | (go_at_call 21;(with_reducible refine (aaQ _ _ _).mono ?_);rintro e w5 ⟨rfl,bl⟩;have bg:Hid (Below W.heap.size W w5):=bC.out.trans (bl.mono bC.out.size);obtain⟨-,ad,af⟩:=HC.out w5 bg.out;have bw:=hid ad;have bx:=hid af;obtain⟨o0,o1,o2,o3⟩:=(aar (cs:=[_,_,_,_]) ad).get4;obtain⟨r0,r1⟩:=(aar (cs:=[_,_]) af).get2;rw [Aac] at o1 o2 o3 r1;have zO:=aac o0;have zR:=aac r0;have q0:=aaP ad 0;have q1:=aaP ad 1;have q2:=aaP ad 2;have q3:=aaP ad 3;have s0:=aaP af 0;have s1:=aaP af 1;clear bl ad af));obtain⟨e1,e2⟩:=aeQ (aar (cs:=[_,_,_,_]) bw.out) (aar (cs:=[_,_]) bx.out) cn (.int .i64 0) (.int .i64 0) (.slice none 0 0) (.int .i64 0) (.int .i64 3) (.int .i64 (-1));refine bodyPost_ret (aeM rfl rfl rfl rfl (e1 0 _ rfl) (e1 1 _ rfl) (e1 2 _ rfl) (e1 3 _ rfl) (e2 0 _ rfl) (e2 1 _ rfl)) rfl ⟨?_,.inr ⟨3,(-1),(.inl (by decide)),HE.out,rfl⟩⟩;have h1:=ar.out.trans (bg.out.mono ar.out.size);have h2:=abi (w:=w5) (base:=w.heap.size) (OB:=OB) (FB:=FB) (by have:=HB.out;omega) (by have:=HB.out;omega) (.int .i64 0) (.int .i64 0) (.slice none 0 0) (.int .i64 0) (.int .i64 3) (.int .i64 (-1));exact h1.trans h2
 . have fO:Hid (c≠0∨d≠0):=by
    rcases Classical.em (c=0) with h | h
    . exact .inr fun e=>hok ⟨h,e⟩
    . exact .inl h
   have HE:Hid (abV ⟨gs,fs⟩ inp.length fuel=(c,d)):=by
    show _=_;unfold abV;rw [au.out,if_pos (fun e=>hok ⟨(Prod.mk.inj e).1,(Prod.mk.inj e).2⟩)]
   have q0:=aaP HO.out 0;have q1:=aaP HO.out 1;have q2:=aaP HO.out 2;have q3:=aaP HO.out 3;have s0:=aaP HR.out 0;have s1:=aaP HR.out 1;go_wp2_with fail;go_big_region;go_wp2_with fail;obtain⟨e1,e2⟩:=aeQ (aar (cs:=[_,_,_,_]) HO.out) (aar (cs:=[_,_]) HR.out) cn (.int .i64 0) (.int .i64 0) (.slice none 0 0) (.int .i64 0) (.int .i64 c) (.int .i64 d)
   replace e1:=e1.later ((Below.refl _ _).drew)
   replace e2:=e2.later ((Below.refl _ _).drew)
   refine bodyPost_ret (aeM rfl rfl rfl rfl (e1 0 _ rfl) (e1 1 _ rfl) (e1 2 _ rfl) (e1 3 _ rfl) (e2 0 _ rfl) (e2 1 _ rfl)) rfl ⟨?_,.inr ⟨c,d,fO.out,HE.out,rfl⟩⟩;have h1:=ar.out.trans (bC.out.mono ar.out.size);have h2:=abi (w:=W2) (base:=w.heap.size) (OB:=OB) (FB:=FB) (by have:=HB.out;omega) (by have:=HB.out;omega) (.int .i64 0) (.int .i64 0) (.slice none 0 0) (.int .i64 0) (.int .i64 c) (.int .i64 d);exact (h1.trans h2).drew
end Go.Proofs.YtgekbfgplclmeaaDoor
