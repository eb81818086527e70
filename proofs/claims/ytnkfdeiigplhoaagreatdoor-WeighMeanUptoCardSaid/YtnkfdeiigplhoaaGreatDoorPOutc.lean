import Derived.Test.YtnkfdeiigplhoaaGreatDoorPRunK
/- run.Counts. run.Do. turnerysame.Comes, Outcomes, of two that are alike; run.Do of a checked unit. -/
set_option maxHeartbeats 8000000
set_option maxRecDepth 100000
namespace Go.Proofs.YtnkfdeiigplhoaaGreatDoor
section
open Go.RowKit Go.Sort
theorem agO {S : Nat -> Prop} (ga : Option Addr) (gc : Nat) (fa : Option Addr) (fc : Nat) (gs : List aas) (fs : List aao) (ia : Option Addr) (ic : Nat) (inp : List Int) (fuel : Int) (w : World)
 (hg:SlAt S w 3 aaE (.slice ga gs.length gc) gs) (hf:SlAt S w 4 aaZ (.slice fa fs.length fc) fs) (hi:SlAt S w 1 aaO (.slice ia inp.length ic) inp) (hw:abX w) (hS:∀b,S b->b<w.heap.size)
 (cm:gs.length<=1048576) (ck:fs.length<=1048576) (dn:∀(k:Nat) (f:aao),fs[k]?=some f->aaT f.blocks<=1048576∧f.blocks.length<=1048576) (eD:I64 fuel) :
 Calls Tryz.prog 8 #[.agg #[.slice ga gs.length gc,.slice fa fs.length fc],.slice ia inp.length ic,.int .i64 fuel] w fun e w'=>agE ⟨gs,fs⟩ inp fuel w e w':=by
 obtain⟨gD,gE⟩:=eD;have Hg:=hid hg;have Hf:=hid hf;have Hi:=hid hi;have Hw:=hid hw;have HS:=hid hS;have fh:=hid dn;have cf:(inp.length:Int)<=9223372036854775807:=by
  obtain⟨ao,c,e,h1,h2,-⟩:=hi;omega
 clear hg hf hi hw hS dn;obtain⟨W,hW⟩:∃W,W=((w.alloc (.cells #[.slice ga gs.length gc,.slice fa fs.length fc] 25)).alloc (.cells #[.int .i64 0,.int .i64 0,.slice none 0 0,.int .i64 0] 29)).alloc (.cells #[.int .i64 0,.int .i64 0] 31):=⟨_,rfl⟩
 have ar:Below w.heap.size w W:=by rw [hW];exact bE
 have ag:=hid ar;obtain⟨zW,bx,aZ,aO⟩:W.heap.size=w.heap.size+3∧W.heap[w.heap.size]?=_∧W.heap[w.heap.size+1]?=_∧W.heap[w.heap.size+1+1]?=_:=by rw [hW];exact ac2 _ _ _ _
 obtain⟨UB,bh⟩:∃b,b=w.heap.size:=⟨_,rfl⟩
 obtain⟨OB,bV⟩:∃b,b=UB+1:=⟨_,rfl⟩
 obtain⟨FB,bR⟩:∃b,b=OB+1:=⟨_,rfl⟩
 rw [<-bh] at bx aZ aO;rw [<-bV] at aZ aO;rw [<-bR] at aO
 have HC : Hid (∀ V1, Below W.heap.size W V1 -> (V1.cell? ⟨UB, 0, none⟩ = some (.slice ga gs.length gc) ∧ V1.cell? ⟨UB, 1, none⟩ = some (.slice fa fs.length fc)) ∧
  (V1.heap[OB]? = some (.cells #[.int .i64 0, .int .i64 0, .slice none 0 0, .int .i64 0] 29 (0, 0)) ∧ V1.heap[FB]? = some (.cells #[.int .i64 0, .int .i64 0] 31 (0, 0)))) := fun V1 hb => by
  have zu:=(Aax.1 bx).1;have zo:=(Aax.1 aZ).1;have zr:=(Aax.1 aO).1;refine⟨?_,by rw [hb.block OB zo];exact aZ,by rw [hb.block FB zr];exact aO⟩;obtain⟨a0,a1⟩:=(aah (cs:=[_,_]) bx).get2;rw [Aab] at a1;exact⟨aab a0 hb,aab a1 hb⟩
 have HB:Hid (UB=w.heap.size∧OB=w.heap.size+1∧FB=w.heap.size+2∧W.heap.size=w.heap.size+3):=⟨bh,by omega,by omega,zW⟩
 have HW:=hid hW;obtain⟨il,cg⟩:∃n,n=inp.length:=⟨_,rfl⟩
 rw [<-cg] at Hi cf ⊢;have dv:=hid cg;clear cg;go_enter Tryz.func8,Tryz.ntmps8;go_upto_region 1 with (fail)
 rw [<-HW.out,<-bh,<-bV,<-bR];obtain⟨⟨u0,u1⟩,-,-⟩:=HC.out W (Below.refl _ _);have zU:=aac u0;clear bx aZ aO bh bV bR hW zW;have fU:abX W:=abX.below Hw.out ar;have dP:=hid (adr (S:=S) ga gc fa fc gs fs W (Hg.out.later aan ar) (Hf.out.later aak ar) fU cm ck fh.out);clear fU ar;obtain⟨c,hc⟩:∃c,c=(aal ⟨gs,fs⟩).1:=⟨_,rfl⟩
 obtain⟨d,hd⟩:∃d,d=(aal ⟨gs,fs⟩).2:=⟨_,rfl⟩
 have az:Hid (aal ⟨gs,fs⟩=(c,d)):=by show _=_;rw [hc,hd]
 rw [<-hc,<-hd] at dP;clear hc hd;go_upto_region 2 with (go_at_call 23;refine dP.out.mono ?_;rintro e w1 ⟨rfl,au⟩;have dN:=hid au;clear au)
 obtain⟨W2,dx⟩:∃W2,W2=w1.alloc (.cells #[.int .i64 c,.int .i64 d] 31):=⟨_,rfl⟩
 have ax:Below w1.heap.size w1 W2:=by rw [dx];exact bE
 have ed:W2.heap[w1.heap.size]?=some (.cells #[.int .i64 c,.int .i64 d] 31 (0,0)):=by rw [dx];exact heap_alloc_new _ _
 have bN:Hid (Below W.heap.size W W2):=dN.out.trans (ax.mono dN.out.size);rw [<-dx];obtain⟨CB,ei⟩:∃b,b=w1.heap.size:=⟨_,rfl⟩
 rw [<-ei] at ed ⊢;obtain⟨f0,f1⟩:=(aah (cs:=[_,_]) ed).get2;rw [Aab] at f1;have zF:=aac f0;have gB:W.heap.size<=CB:=by rw [ei];exact dN.out.size
 have gR:OB≠FB∧OB≠CB∧FB≠CB∧UB≠CB∧UB≠OB∧UB≠FB:=by have:=HB.out;omega
 obtain⟨cJ,hH,hG,hJ,hL,hK⟩:=gR;clear dx ax ed ei dP u0 u1 zU;obtain⟨⟨u0,u1⟩,el,eo⟩:=HC.out W2 bN.out;have zU:=aac u0;have HO:=hid el;have HR:=hid eo;obtain⟨o0,o1,o2,o3⟩:=(aah (cs:=[_,_,_,_]) el).get4;obtain⟨r0,r1⟩:=(aah (cs:=[_,_]) eo).get2;rw [Aab] at o1 o2 o3 r1;have zO:=aac o0;have zR:=aac r0;clear el eo
 by_cases hok:c=0∧d=0
 . obtain⟨rfl,rfl⟩:=hok
   by_cases h30:30<il
   . have ee:(30:Int)<(il:Int):=by omega
     have HE:Hid (abp ⟨gs,fs⟩ inp.length fuel=(2,-1)):=by
      show _=_;unfold abp;rw [az.out,if_neg (by simp),<-dv.out,if_pos h30]
     clear o0 o1 o2 o3 r0 r1 zO zR;go_wp2_with (first | (go_at_call 24;(with_reducible refine (aaY _ _ _).mono ?_);rintro e w5 ⟨rfl,bA⟩;have bt:Hid (Below W.heap.size W w5):=bN.out.trans (bA.mono bN.out.size);obtain⟨-,ad,af⟩:=HC.out w5 bt.out;have bI:=hid ad;have bJ:=hid af;obtain⟨o0,o1,o2,o3⟩:=(aah (cs:=[_,_,_,_]) ad).get4;obtain⟨r0,r1⟩:=(aah (cs:=[_,_]) af).get2;rw [Aab] at o1 o2 o3 r1;have zO:=aac o0;have zR:=aac r0;have q0:=aat ad 0;have q1:=aat ad 1;have q2:=aat ad 2;have q3:=aat ad 3;have s0:=aat af 0;have s1:=aat af 1;clear bA ad af));obtain⟨e1,e2⟩:=aeh (aah (cs:=[_,_,_,_]) bI.out) (aah (cs:=[_,_]) bJ.out) cJ (.int .i64 0) (.int .i64 0) (.slice none 0 0) (.int .i64 0) (.int .i64 2) (.int .i64 (-1));refine bodyPost_ret (agf rfl rfl rfl rfl (e1 0 _ rfl) (e1 1 _ rfl) (e1 2 _ rfl) (e1 3 _ rfl) (e2 0 _ rfl) (e2 1 _ rfl)) rfl ⟨?_,.inr ⟨2,(-1),(.inl (by decide)),HE.out,rfl⟩⟩;have h1:=ag.out.trans (bt.out.mono ag.out.size);have h2:=aa8 (w:=w5) (base:=w.heap.size) (OB:=OB) (FB:=FB) (by have:=HB.out;omega) (by have:=HB.out;omega) (.int .i64 0) (.int .i64 0) (.slice none 0 0) (.int .i64 0) (.int .i64 2) (.int .i64 (-1));exact h1.trans h2
   . have ee:(il:Int)<=30:=by omega
     by_cases hrg:0<=fuel∧fuel<=100000
     . obtain⟨ch,dj⟩:=hrg
       have eT:decide (0<=fuel∧fuel<=100000)=true:=decide_eq_true ⟨ch,dj⟩;have HE:Hid (abp ⟨gs,fs⟩ inp.length fuel=(0,0)):=by
        show _=_;unfold abp;rw [az.out,if_neg (by simp),<-dv.out,if_neg h30,if_neg (fun e=>e ⟨ch,dj⟩)]
       clear o0 o1 o2 o3 r0 r1 zO zR HO HR;have fM:fs.length<=10:=(abZ (u:=⟨gs,fs⟩) (by rw [az.out])).2.1;obtain⟨fO,aI,-⟩:=afb (u:=⟨gs,fs⟩) (by rw [az.out]);have fO:gs.length<=10:=fO;have bw:Hid (∀g∈gs,0<=g.size∧g.size<=200∧(g.init.length:Int)<=g.size):=aI;clear aI;go_upto_region 9 with (go_at_call 25;((with_reducible refine (aaq _ _ _ _).mono ?_);rintro e w' ⟨rfl,rfl⟩;rw [eT]))
       obtain⟨V0,ak,e1,e2,e3⟩:=adm.start (W0:=W) (W:=W2) (base:=W.heap.size) (Aad _) bN.out (.slice ga gs.length gc) (.slice fa fs.length fc) (.slice ia il ic);obtain⟨W3,fE⟩:∃W3,W3=W2.alloc (.cells #[.slice ga gs.length gc,.slice fa fs.length fc,.slice none 0 0,.slice none 0 0,.slice ia il ic,.int .i64 0,.int .i64 0,.slice none 0 0,.int .i64 0,.slice none 0 0,.slice none 0 0] 78):=⟨_,rfl⟩
       rw [<-fE] at ak ⊢;obtain⟨WB,fG⟩:∃b,b=W2.heap.size:=⟨_,rfl⟩
       rw [<-fG] at ak ⊢;have aM:=hid ak;have hC:Hid (V0 none = .slice none 0 0∧V0 (some .mem) = .slice none 0 0∧V0 (some .cnts) = .slice none 0 0):=⟨e1,e2,e3⟩
       clear fE fG ak e1 e2 e3 u0 u1 zU f0 f1 zF;obtain⟨⟨u0,u1⟩,-,-⟩:=HC.out W3 aM.out.low;have zU:=aac u0;go_wp2_with fail;go_loopw [41] (fun s41 wr=>∃(k:Nat) (V:BPth->Value),k<=gs.length∧s41 = .int .i64 (k:Int)∧adm (.slice ga gs.length gc) (.slice fa fs.length fc) (.slice ia il ic) W W.heap.size WB wr V (abK gs k) [] []∧∀v∈abK gs k,I64 v) (fun s41 _=>gs.length - (intOf s41).toNat)
       case atStart=>exact⟨0,V0,Aah _,rfl,aM.out,fun v hv=>by cases hv⟩
       case round =>
        obtain⟨k,V,hk,rfl,ak,hI⟩:=hrel;have aY:=hid ak;have HI:=hid hI;clear ak hI
        by_cases hkl:k<gs.length
        . obtain⟨b,off,xa,xc,rfl,ay,eF,-⟩:=aid (Hg.out.later aan (ag.out.trans (aY.out.low.mono ag.out.size))) hkl
          obtain⟨c0,c1,c2⟩:=ay.get3;have zb:=aac c0;obtain⟨dF,gU,gV⟩:=bw.out _ (Aaf hkl);have fV:(abK gs k).length<=2000:=by
           have hY:=aha (gs:=gs) (fun g hg=>(bw.out g hg).2.2) k hk;have h5:=ak9 (gs:=gs) (fun g hg=>⟨(bw.out g hg).1,(bw.out g hg).2.1⟩) k hk;omega
          obtain⟨nm,dc⟩:∃s,s=gs[k].name:=⟨_,rfl⟩
          obtain⟨m,hm⟩:∃m,m=gs[k].init.length:=⟨_,rfl⟩
          obtain⟨q,hq⟩:∃q:Nat,gs[k].size=(m:Int)+(q:Int):=by
           obtain⟨q,hq⟩:=Aas (a:=gs[k].size - (gs[k].init.length:Int)) (by omega);exact⟨q,by omega⟩
          rw [<-hm] at c2 eF;rw [hq] at c1;rw [<-dc] at c0;have hN:m<=200:=by omega
          have hU:q<=200:=by omega
          have cD:Hid (abK gs (k+1)=abK gs k++gs[k].init++List.replicate q 0):=by
           show _=_;rw [agw hkl,ag9,Abh,<-hm,show (gs[k].size - (m:Int)).toNat=q by omega]
          have gq:=hid eF;have Hm:Hid (gs[k].init.length=m):=hm.symm;have fi:=hid fV;clear ay eF dF gU gV fV dc hm hq;go_upto_region 12 with (fail)
          obtain⟨W4,bj⟩:∃W4,W4=wr.alloc (.cells #[.string nm,.int .i64 ((m:Int)+(q:Int)),.slice xa m xc] 68):=⟨_,rfl⟩
          have aR:Below wr.heap.size wr W4:=by rw [bj];exact bE
          have bQ:W4.heap[wr.heap.size]?=some (.cells #[.string nm,.int .i64 ((m:Int)+(q:Int)),.slice xa m xc] 68 (0,0)):=by rw [bj];exact heap_alloc_new _ _
          rw [<-bj];obtain⟨GB,bS⟩:∃GB,GB=wr.heap.size:=⟨_,rfl⟩
          rw [<-bS] at bQ ⊢;obtain⟨y0,y1,y2⟩:=(aah (cs:=[_,_,_]) bQ).get3;rw [Aab] at y1 y2;have zy:=aac y0;have H4:=aY.out.later aR;have cr:=hid aR;have cH:GB≠WB:=by have:=aY.out.boxAt.2.1;omega
          have dr:=hid bS;clear bj aR bQ bS c0 c1 c2 zb;obtain⟨fK,zW,ae,dz⟩:=H4.boxAt;have b3:=ae 3 _ rfl;rw [Aab] at b3;have f3:=dz 3 (by omega);have aw:aaz W.heap.size W4.drew (V (some .mem)) (abK gs k):=by
           refine aaz.later ⟨?_,HI.out⟩ (Below.refl _ _).drew;have h:W4.ownsRow W.heap.size 3 1 (V (some .mem)) (aaF (abK gs k)).length (aaF (abK gs k)).flatten:=H4.rows.own (some .mem) trivial;rw [abm,abi] at h;exact h
          obtain⟨v2,w2,aL,dd,dB,cN⟩:=anJ (w:=W4.drew) 26 W.heap.size (V (some .mem)) (abK gs k) aw xa m xc gs[k].init ((gq.out.later aae cr.out).later aae (Below.refl _ _).drew) Hm.out (by have:=fi.out;omega) (Aag H4.hb H4.low.size);obtain⟨L2,ej⟩:∃L,L=abK gs k++gs[k].init:=⟨_,rfl⟩
          rw [<-ej] at dd;have e0:=hid ej;clear ej;obtain⟨ma,mc,gM⟩:=aw.shape;obtain⟨a2,c2,rfl⟩:=dd.shape;rw [gM] at b3 aL;obtain⟨cW,cQ⟩:=(H4.later (Below.refl _ _).drew).boxGrown (p:=some .mem) trivial (by intro e;cases e) dB;have k3:=cW 3 _ rfl;rw [Aab] at k3;have hl:=cQ 3 (by omega);have hB:=aac k3;have bf:=hid aL;have H5:=hid ((H4.later (Below.refl _ _).drew).turnMem (v':=_) (m':=L2) dd.1 dB cN);have dS:=hid dd;have gp:=hid dB;clear aw dd dB cN ae dz cW cQ H4;go_region_law (refine acp rfl _ _ 26 26 rfl _ _ (by simp [Act.eval]) (by simp [Act.eval]) bf.out ?_)
          all_goals
           obtain⟨V5,ep⟩:∃V5,V5=abW V (some .mem) (.slice a2 L2.length c2):=⟨_,rfl⟩
           obtain⟨W5,cK⟩:∃W5,W5=w2.setCell ⟨WB,3,none⟩ (.slice a2 L2.length c2):=⟨_,rfl⟩
           have da:V5 (some .mem) = .slice a2 L2.length c2:=by rw [ep,aar]
           have br:=H5.out;rw [<-ep,<-cK] at br;have eE:W4.drew.grownBy w2 (V (some .mem)).ownBlock:=gp.out;have eR:some GB≠(V (some .mem)).ownBlock:=fun e=>by
            have:=(aY.out.rows.lt (p:=some .mem) trivial GB e.symm).2;have:=dr.out;omega
           have g1:W5.cell? ⟨GB,1,none⟩=some (.int .i64 ((m:Int)+(q:Int))):=by
            rw [cK,aaf _ cH];exact eE.cell (a:=⟨GB,1,none⟩) y1 eR
           have g2:W5.cell? ⟨GB,2,none⟩=some (.slice xa m xc):=by
            rw [cK,aaf _ cH];exact eE.cell (a:=⟨GB,2,none⟩) y2 eR
           have zg:=aac g1;obtain⟨cX,cR⟩:=br.boxAt.2.2;have fm:=cX 3 _ rfl;rw [Aab,da] at fm;have f35:=cR 3 (by omega);have ib:=aac fm;have bD:aaz W.heap.size W5.drew (.slice a2 L2.length c2) L2:=by
            refine aaz.later ⟨?_,dS.out.2⟩ (Below.refl _ _).drew;have h:W5.ownsRow W.heap.size 3 1 (V5 (some .mem)) (aaF L2).length (aaF L2).flatten:=br.rows.own (some .mem) trivial;rw [abm,abi,da] at h;exact h
           obtain⟨v6,w6,bF,de,dC,bY⟩:=apW (w:=W5.drew) 26 W.heap.size (.slice a2 L2.length c2) L2 bD q (by rw [e0.out,Aai,Hm.out];have:=fi.out;omega) (Aag br.hb br.low.size);obtain⟨L3,ek⟩:∃L,L=L2++List.replicate q 0:=⟨_,rfl⟩
           rw [<-ek] at de;have e5:Hid (L3=abK gs (k+1)):=by show _=_;rw [ek,e0.out,cD.out]
           clear ek;obtain⟨a6,c6,rfl⟩:=de.shape;rw [<-da] at dC bY;obtain⟨cY,cS⟩:=(br.later (Below.refl _ _).drew).boxGrown (p:=some .mem) trivial (by intro e;cases e) dC;have fY:=cY 3 _ rfl;rw [Aab,da] at fY;have ho:=cS 3 (by omega);have fZ:=aac fY;have cB:=hid bF;have H7:=hid ((br.later (Below.refl _ _).drew).turnMem (v':=_) (m':=L3) de.1 dC bY);have gh:=hid de.2;have gY:IntKind.i64.wrap ((m:Int)+(q:Int) - (m:Int))=(q:Int):=by rw [IntKind.wrap_i64];omega
           have e8:=hid cK;clear bD de dC bY cX cR cY cS br ep cK eE eR da bF;rw [<-e8.out];clear e8 k3 hl hB b3 f3;go_upto_region 13 with (fail)
           go_region_law (refine acp rfl _ _ 26 3 rfl _ _ (by simp [Act.eval,Act.put]) (by simp [Act.eval,Act.put]) cB.out ?_)
           all_goals
            go_wp2_with fail;go_roundw
            case rel=>exact⟨k+1,_,by omega,by go_num,by rw [<-e5.out];exact H7.out,by rw [<-e5.out];exact gh.out⟩
            case measure=>simp [intOf];omega
        . have eJ:k=gs.length:=by omega
          subst eJ;have eU:abK gs gs.length=adh gs:=rfl;rw [eU] at aY;obtain⟨⟨u0,u1⟩,-,-⟩:=HC.out wr aY.out.low;have zU:=aac u0;have hD:Hid ((adh gs).length<=1048576):=by
           have h:=(afb (u:=⟨gs,fs⟩) (by rw [az.out])).2.2.2;have h:(adh gs).length<=200:=h;show _<=_;omega
          obtain⟨j0,gF,gJ,gK,gL⟩:=info_parts aoE;obtain⟨j1,gG,eG,eH,eI⟩:=info_parts aoD;have fb:Hid (∀b,S b->b<wr.heap.size∧∀p,aiJ 0 p->(V p).ownBlock≠some b):=fun b hb=>by
           have h1:=HS.out b hb;have h2:=ag.out.size;have h3:=aY.out.low.size;refine⟨by omega,fun p hp e=>?_⟩;have:=(aY.out.rows.lt (p:=p) hp b e).1;omega
          go_wp2_with fail;obtain⟨wq,eV⟩:∃wq:World,wq=wr:=⟨_,rfl⟩
          obtain⟨Vq,fD⟩:∃Vq:BPth->Value,Vq=V:=⟨_,rfl⟩
          rw [<-eV,<-fD] at aY fb;rw [<-eV];clear eV fD u0 u1 zU
          go_loopw [73] (fun s73 wr => ∃ (k : Nat) (V : BPth -> Value) (aq : List Value) (X : Nat -> Prop), k <= fs.length ∧ s73 = .int .i64 (k : Int) ∧ adm (.slice ga gs.length gc) (.slice fa fs.length fc) (.slice ia il ic) W W.heap.size WB wr V (adh gs) aq ((fs.take k).map fun f => List.replicate f.blocks.length 0) ∧ aq.length = k ∧ amS wr k V X ∧ (∀ b, S b -> X b) ∧ (∀ v ∈ aq, v.oneCell' = true) ∧
           ∀ (j : Nat) v x, aq[j]? = some v -> (fs.map fun f => aheadF f.blocks)[j]? = some x -> SlAt X wr 1 rRow v x) (fun s73 _ => fs.length - (intOf s73).toNat)
          case atStart=>exact⟨0,Vq,[],S,Aah _,rfl,aY.out,rfl,fb.out,fun _ h=>h,(fun v hv=>by cases hv),(fun j v x hj=>by cases hj)⟩
          case round =>
           obtain⟨k,V,aq,X,hk,rfl,ak,fI,hX,fB,df,fJ⟩:=hrel;have aM:=hid ak;have bM:=hid fI;have HX:=hid hX;have ds:=hid fB;have cx:=hid df;have dK:=hid fJ;have a7:((fs.take k).map fun f=>List.replicate f.blocks.length (0:Int)).length=k:=by rw [Aal,Aar];omega
           have bP:=hid a7;clear ak fI hX fB df fJ a7;have bO:Hid (Below w.heap.size w wr):=ag.out.trans (aM.out.low.mono ag.out.size);obtain⟨⟨u0,u1⟩,-,-⟩:=HC.out wr aM.out.low;have zU:=aac u0
           by_cases hkl:k<fs.length
           . obtain⟨b,off,xa,xc,rfl,ay,-,-,-⟩:=acF (Hf.out.later aak bO.out) hkl
             obtain⟨c0,c1,c2,c3⟩:=ay.get4;have zb:=aac c0;obtain⟨nm,dc⟩:∃s,s=fs[k].name:=⟨_,rfl⟩
             obtain⟨pn,fR⟩:∃s,s=fs[k].params:=⟨_,rfl⟩
             obtain⟨rn,fS⟩:∃s,s=fs[k].regs:=⟨_,rfl⟩
             obtain⟨bn,dA⟩:∃s,s=fs[k].blocks.length:=⟨_,rfl⟩
             rw [<-dc] at c0;rw [<-fR] at c1;rw [<-fS] at c2;rw [<-dA] at c3;have fL:bn<=40:=by rw [dA];exact (aiI az.out (Aaa hkl)).len.2
             have fe:=hid dA;clear ay dc fR fS dA;go_upto_region 18 with (fail)
             obtain⟨W4,bj⟩:∃W4,W4=wr.alloc (.cells #[.string nm,.int .i64 pn,.int .i64 rn,.slice xa bn xc] 50):=⟨_,rfl⟩
             have aR:Below wr.heap.size wr W4:=by rw [bj];exact bE
             have bQ:W4.heap[wr.heap.size]?=some (.cells #[.string nm,.int .i64 pn,.int .i64 rn,.slice xa bn xc] 50 (0,0)):=by rw [bj];exact heap_alloc_new _ _
             rw [<-bj];obtain⟨GB,bS⟩:∃GB,GB=wr.heap.size:=⟨_,rfl⟩
             rw [<-bS] at bQ ⊢;have y3:=(aah (cs:=[_,_,_,_]) bQ).get4.2.2.2;rw [Aab] at y3;have dr:=hid bS;have cr:=hid aR;have fj:=hid y3;have zG:=aac y3;have dp:abX W4:=abX.below (abX.below Hw.out bO.out) aR;have HA:=hid (ajt (S:=S) ga gc _ fc gs fs k W4 ((Hg.out.later aan bO.out).later aan aR) ((Hf.out.later aak bO.out).later aak aR) dp cm ck fh.out az.out hkl);rw [<-fe.out] at HA;have u0:=aab u0 aR;have u1:=aab u1 aR;have zU:=aac u0;clear bj aR bQ bS y3 c0 c1 c2 c3 zb dp;go_upto_region 19 with (go_at_call 26;refine HA.out.mono ?_;rintro e w5 ⟨aa,ac,rfl,dk,bA⟩;have bt:=hid bA;have dX:=hid dk;clear bA dk)
             obtain⟨W6,er⟩:∃W6,W6=w5.alloc (.cells #[.int .i64 0,.int .i64 0] 31):=⟨_,rfl⟩
             have dy:Below w5.heap.size w5 W6:=by rw [er];exact bE
             have ct:Hid (Below W4.heap.size W4 W6):=bt.out.trans (dy.mono bt.out.size);have bl:Below wr.heap.size wr W6:=cr.out.trans (ct.out.mono cr.out.size);rw [<-er];have u0:=aab u0 ct.out;have u1:=aab u1 ct.out;have zU:=aac u0;have dY:Hid (SlAt (fun b=>W4.heap.size<=b∧b<w5.heap.size) W6 1 rRow (.slice aa bn ac) (aheadF fs[k].blocks)) :=
              (SlAt.live Nat.one_pos (fun cs x h=>afD _ _ h) dX.out).later aax dy
             have hh:w5.heap.size<=W6.heap.size:=dy.size;clear er dy
             -- the row of the blocks ahead
             obtain⟨W7,cL⟩:∃W7,W7=W6.alloc (.cells #[.slice aa bn ac] 27):=⟨_,rfl⟩
             have av:Below W6.heap.size W6 W7:=by rw [cL];exact bE
             have fq:W7.heap.size=W6.heap.size+1:=by rw [cL];simp
             have fp:W7.cell? ⟨W6.heap.size,0,none⟩=some (.slice aa bn ac):=by rw [cL];simp
             have aS:Below wr.heap.size wr W7:=bl.trans (av.mono bl.size);have H7:=aM.out.later aS;have fH:amS W7 k V X:=fun b hb=>⟨Aap (HX.out b hb).1 aS.size,(HX.out b hb).2⟩
             have cO:∀(j:Nat) v x,aq[j]?=some v->(fs.map fun f=>aheadF f.blocks)[j]?=some x->SlAt X W7 1 rRow v x:=fun j v x h1 h2=>(dK.out j v x h1 h2).later aax aS;have dm:=dY.out.later aax av;obtain⟨fK,zW,ae,dz⟩:=H7.boxAt;have b2:=ae 2 _ rfl;rw [Aab] at b2;have aw:W7.ownsRow W.heap.size 27 1 (V none) aq.length aq:=by
              have h:W7.ownsRow W.heap.size 27 1 (V none) (aq.map fun v=>[v]).length (aq.map fun v=>[v]).flatten:=H7.rows.own none trivial;rw [acS,Aal] at h;exact h
             rw [bM.out] at aw;obtain⟨na,nc,eO⟩:=abS aw;have fl:W6.cell? ⟨WB,2,none⟩=some (.slice na k nc):=by
              have h:=(aM.out.later bl).boxAt.2.2.1 2 _ rfl;rw [Aab] at h;rw [h];exact congrArg some eO
             have fZ:=aac fl;have dt:=hid cL;have cj:=hid H7;have dW:=hid aw;have dU:=hid eO;have gj:=hid fH;have dL:=hid cO;have dZ:=hid dm;have gd:=hid fq;have gb:=hid fp;have gm:=hid aS;have bu:=hid av;have y3:=aab fj.out ct.out;clear cL av fq fp aS H7 fH cO dm ae dz b2 aw eO bl zW fK
             go_upto_region 20 with (
              refine wpList_append_own_at _ rfl (.tmp 88) (.tmp 90) 75 rfl W.heap.size 27 j0 _ 1 24 Tryz.underlying75 gF gJ gK gL rfl (by decide) (.slice na k nc) k aq rfl (by rw [<- dt.out, <- dU.out]; exact dW.out) ⟨W6.heap.size, 0, none⟩ 1 1 [.slice aa bn ac] rfl rfl ?_ ?_ ?_ ?_ ?_ ?_
              . intro j v hj
                match j, hj with
                | 0, hj => cases hj; rw [Addr.add_lit, <- dt.out]; exact gb.out
              . intro v hv
                rw [Aaq.1 hv]; rfl
              . unfold maxLen; omega
              . omega
              . rw [<- dt.out]; exact Aag cj.out.hb cj.out.low.size
              intro v' w' aV aG eN ew
              rw [<- dt.out, <- dU.out] at aG ew
              obtain ⟨va, vc, rfl⟩ := abS aV
              obtain ⟨cV, cP⟩ := cj.out.boxGrown (p := none) trivial (by intro e; cases e) aG
              have eb := cV 2 _ rfl
              rw [Aab, dU.out] at eb
              have gA := cP 2 (by omega)
              have hA := aac eb
              have cA := hid aV
              have aF := hid aG
              have e9 := hid ew
              clear aV aG eN ew cV cP fl fZ u0 u1 zU y3)
             obtain⟨X8,bX⟩:∃X8:Nat->Prop,X8=fun b=>X b∨(W4.heap.size<=b∧b<w5.heap.size):=⟨_,rfl⟩
             have eW:wr.heap.size<=W4.heap.size:=cr.out.size;have eS:w5.heap.size<=W7.heap.size:=by have:=gd.out;omega
             have en:amS W7 k V X8:=fun b hb=>by
              rw [bX] at hb;rcases hb with hb | ⟨h1,h2⟩
              . exact gj.out b hb
              . refine⟨by omega,fun p hp e=>?_⟩
                rw [<-bP.out] at hp;have:=(aM.out.rows.lt hp b e).2;omega
             have bU:amS W7 ((fs.take k).map fun f=>List.replicate f.blocks.length (0:Int)).length V X8:=by rw [bP.out];exact en
             have aX:aav X8 W7 (w'.setCell ⟨WB,2,none⟩ (.slice va (k+1) vc)):=cj.out.staysBox bU _ (cj.out.staysRow bU (p:=none) trivial aF.out);have aH:(aq++[Value.slice aa bn ac]).length=k+1:=by rw [Aai,bM.out];rfl
             have b0:∀(j:Nat) v x,(aq++[Value.slice aa bn ac])[j]?=some v->(fs.map fun f=>aheadF f.blocks)[j]?=some x->SlAt X8 (w'.setCell ⟨WB,2,none⟩ (.slice va (k+1) vc)) 1 rRow v x:=fun j v x h1 h2=>by
              by_cases hj:j<aq.length
              . rw [Abi hj] at h1
                exact (dL.out j v x h1 h2).mono aax (fun b hb=>by rw [bX];exact .inl hb) (fun b o v hb hc=>aX b o v (by rw [bX];exact .inl hb) hc)
              . have gI:j=aq.length:=by
                 have:=(Aae.1 h1).1;rw [aH] at this;have:=bM.out;omega
                subst gI;rw [Ab1 (Aad _),Nat.sub_self] at h1;cases h1;rw [bM.out,Aak,Aaa hkl] at h2;cases h2;exact dZ.out.mono aax (fun b hb=>by rw [bX];exact .inr hb) (fun b o v hb hc=>aX b o v (by rw [bX];exact .inr hb) hc)
             have H8 := cj.out.turnAhd (v' := .slice va (k + 1) vc) (avs' := aq ++ [.slice aa bn ac]) (by rw [aH]; exact cA.out) aF.out (fun q hq => by
              rcases e9.out with e | e
              . rw [e] at hq; exact .inl hq
              . rw [e] at hq; cases hq; exact .inr (Aad _))
             have dw:amS (w'.setCell ⟨WB,2,none⟩ (.slice va (k+1) vc)) k (abW V none (.slice va (k+1) vc)) X8:=fun b hb=>by
              obtain⟨h1,h2⟩:=en b hb;have aI:=aF.out.size;refine⟨by simp [World.setCell];omega,fun p hp=>?_⟩
              by_cases e:p=none
              . subst e
                rw [aar];rcases e9.out with e | e
                . rw [e];exact h2 none trivial
                . rw [e];intro e2;cases e2;omega
              . rw [aai _ _ e];exact h2 p hp
             obtain⟨W8,bk⟩:∃W8,W8=w'.setCell ⟨WB,2,none⟩ (.slice va (k+1) vc):=⟨_,rfl⟩
             obtain⟨V8,fC⟩:∃V8,V8=abW V none (.slice va (k+1) vc):=⟨_,rfl⟩
             rw [<-bk] at aX b0 H8 dw ⊢;rw [<-fC] at H8 dw;have cH:GB≠WB:=by have:=aM.out.boxAt.2.1;have:=dr.out;omega
             have fx:some GB≠(V none).ownBlock:=fun e=>by
              have:=(aM.out.rows.lt (p:=none) trivial GB e.symm).2;have:=dr.out;omega
             have hr:W8.cell? ⟨GB,3,none⟩=some (.slice xa bn xc):=by
              rw [bk,aaf _ cH];exact aF.out.cell (a:=⟨GB,3,none⟩) (aab (aab fj.out ct.out) bu.out) fx
             have h9:=aac hr;obtain⟨-,-,cZ,cT⟩:=H8.boxAt;have bg:=cZ 10 _ rfl;rw [Aab] at bg;have f10:=cT 10 (by omega);have H8:=hid H8;have gy:=hid aX;have dM:=hid b0;have dI:=hid dw;have gl:=hid bX;have cw:=hid aH;clear aX b0 dw bX bk fC en bU cH fx cZ cT eb gA hA eW eS aH
             -- the row of the counts
             have hP:=run_make_row' (P:=Tryz.prog) 26 3 (.int .i64 0) 8 Tryz.underlying26 acA rfl .i64 .i64 bn (by omega) (by omega);obtain⟨W9,cM⟩:∃W9,W9=W8.drew.alloc (.cells (madeCells #[.int .i64 0] bn) 3):=⟨_,rfl⟩
             have ft:W9.heap.size=W8.heap.size+1:=by rw [cM];simp
             have ef:W9.heap[W8.heap.size]?=some (.cells (List.replicate bn (Value.int .i64 0)).toArray 3 (0,0)):=by
              have h:=heap_alloc_new W8.drew (.cells (madeCells #[.int .i64 0] bn) 3);rw [<-cM,abn] at h;exact h
             have ey:Below W8.heap.size W8 W9:=by rw [cM];exact bE
             obtain⟨aN,aJ⟩:∃aN,aN=W9.alloc (.cells #[.slice (some ⟨W8.heap.size,0,none⟩) bn bn] 26):=⟨_,rfl⟩
             have b1:Below W9.heap.size W9 aN:=by rw [aJ];exact bE
             have cG:aN.cell? ⟨W8.heap.size+1,0,none⟩=some (.slice (some ⟨W8.heap.size,0,none⟩) bn bn):=by rw [aJ,<-ft];simp
             have ec:aN.heap.size=W9.heap.size+1:=by rw [aJ];simp
             have aj:Below W8.heap.size W8 aN:=ey.trans (b1.mono ey.size);have fQ:aN.ownsRow W8.heap.size 3 1 (.slice (some ⟨W8.heap.size,0,none⟩) bn bn) (List.replicate bn (0:Int)).length ((List.replicate bn (0:Int)).map (Value.int .i64)):=by
              refine⟨by simp,.inr ⟨W8.heap.size,bn,(List.replicate bn (Value.int .i64 0)).toArray,by simp,Aad _,?_,by simp,by unfold maxLen;omega,by simp,by simp⟩⟩;rw [b1.block _ (Aax.1 ef).1];exact ef
             have bH:=H8.out.later aj;have aW:aN.ownsRow W.heap.size 26 1 (V8 (some .cnts)) k ((List.range k).map fun j=>V8 (some (.cnt j))):=by
              have h:aN.ownsRow W.heap.size 26 1 (V8 (some .cnts)) ((List.range ((fs.take k).map fun f=>List.replicate f.blocks.length (0:Int)).length).map fun j=>[V8 (some (.cnt j))]).length ((List.range ((fs.take k).map fun f=>List.replicate f.blocks.length (0:Int)).length).map fun j=>[V8 (some (.cnt j))]).flatten:=bH.rows.own (some .cnts) trivial;have e:(List.range k).map (fun j=>[V8 (some (.cnt j))])=((List.range k).map fun j=>V8 (some (.cnt j))).map fun v=>[v]:=by rw [List.map_map];rfl
              rw [bP.out,Aal,List.length_range,e,acS] at h;exact h
             obtain ⟨fv, wc, aL, eP, c8, -, bZ⟩ := run_append_own_at (P := Tryz.prog) (w := aN) W.heap.size 27 27 26 j1 _ 1 24 Tryz.underlying27 gG eG eH eI rfl (by decide) (V8 (some .cnts)) k _ aW ⟨W8.heap.size + 1, 0, none⟩ 1 1 [.slice (some ⟨W8.heap.size, 0, none⟩) bn bn] rfl (fun j v hj => by
              match j, hj with
              | 0, hj => cases hj; rw [Addr.add_lit]; exact cG) (fun v hv => by rw [Aaq.1 hv]; rfl) (by unfold maxLen; omega) (by omega) (Aag bH.hb bH.low.size)
             obtain⟨pa,pc,eQ⟩:=abS aW;obtain⟨qa,qc,rfl⟩:=abS eP;have bT:amS aN ((fs.take k).map fun f=>List.replicate f.blocks.length (0:Int)).length V8 X8:=fun b hb=>by
              rw [bP.out];exact⟨Aap (dI.out b hb).1 aj.size,(dI.out b hb).2⟩
             have bG:aav X8 W8 (wc.setCell ⟨WB,10,none⟩ (.slice qa (k+1) qc)):=(aav.below' aj).trans (bH.staysBox bT _ (bH.staysRow bT (p:=some .cnts) trivial c8))
             have dq := H8.out.pushCnt (W1 := aN) (W2 := wc) (rv := .slice (some ⟨W8.heap.size, 0, none⟩) bn bn) (fv := .slice qa (k + 1) qc) (l := List.replicate bn 0) aj (by simpa using fQ) (by rw [bP.out]; exact eP) c8 (fun q hq => by
              rcases bZ with e | e
              . rw [e] at hq; exact .inl hq
              . rw [e] at hq; cases hq; exact .inr (Aad _))
             have bC:((fs.take k).map fun f=>List.replicate f.blocks.length (0:Int))++[List.replicate bn 0]=(fs.take (k+1)).map fun f=>List.replicate f.blocks.length (0:Int):=by
              rw [Aat hkl,Aav,fe.out];rfl
             rw [bC,bP.out] at dq;have cI:amS (wc.setCell ⟨WB,10,none⟩ (.slice qa (k+1) qc)) (k+1) (abW (abW V8 (some (.cnt k)) (.slice (some ⟨W8.heap.size,0,none⟩) bn bn)) (some .cnts) (.slice qa (k+1) qc)) X8:=fun b hb=>by
              obtain⟨h1,h2⟩:=dI.out b hb;have aI:=c8.size;have gZ:=aj.size;refine⟨by simp [World.setCell];omega,fun p hp=>?_⟩
              by_cases e:p=some .cnts
              . subst e
                rw [aar];rcases bZ with e | e
                . rw [e];exact h2 (some .cnts) trivial
                . rw [e];intro e2;cases e2;omega
              . rw [aai _ _ e]
                by_cases e2:p=some (.cnt k)
                . subst e2
                  rw [aar];intro e3;have e4:W8.heap.size=b:=Option.some.inj e3;omega
                . rw [aai _ _ e2];exact h2 p ((ajP hp).resolve_right e2)
             have bz:∀(j:Nat) v x,(aq++[Value.slice aa bn ac])[j]?=some v->(fs.map fun f=>aheadF f.blocks)[j]?=some x->SlAt X8 (wc.setCell ⟨WB,10,none⟩ (.slice qa (k+1) qc)) 1 rRow v x:=fun j v x h1 h2 =>
              (dM.out j v x h1 h2).mono aax (fun _ h=>h) bG
             obtain⟨c4,cU⟩:=bH.boxGrown (p:=some .cnts) trivial (by intro e;cases e) c8;have cF:=c4 10 _ rfl;rw [Aab,eQ] at cF;rw [eQ] at bg aL;have gz:=cU 10 (by omega);have ht:=aac cF;have h6:=aac bg;have bf:=hid aL;have dq:=hid dq;have dH:=hid cI;have cq:=hid bz;have dJ:Hid (∀b,S b->X8 b):=fun b hb=>by rw [gl.out];exact .inl (ds.out b hb)
             have cy:Hid (∀v∈aq++[Value.slice aa bn ac],v.oneCell'=true):=fun v hv=>by
              rcases Aaz.1 hv with hv | hv
              . exact cx.out v hv
              . rw [Aaq.1 hv];rfl
             rw [cM] at aJ;have gi:=hid aJ;clear cM aJ ft ef ey b1 cG ec aj fQ bH aW aL eP c8 bZ eQ bT bG bC cI bz c4 cU;rw [gi.out] at bf;go_region_law (refine acp rfl _ _ 27 27 rfl _ _ (by simp [Act.eval]) (by simp [Act.eval]) bf.out ?_)
             all_goals
              go_wp2_with fail;go_roundw
              case rel=>exact⟨k+1,_,_,X8,by omega,by go_num,dq.out,cw.out,dH.out,dJ.out,cy.out,cq.out⟩
              case measure=>simp [intOf];omega
           . have eJ:k=fs.length:=by omega
             subst eJ;have ay:((fs.take fs.length).map fun f=>List.replicate f.blocks.length (0:Int))=fs.map fun f=>List.replicate f.blocks.length (0:Int):=by rw [Aay]
             have ak:=aM.out;rw [ay] at ak;have eK:(fs.map fun f=>List.replicate f.blocks.length (0:Int)).length=fs.length:=Aal _;have bd:∃V',aaQ ⟨gs,fs⟩ (.slice ga gs.length gc) (.slice fa fs.length fc) (V none) (fun b=>X b∨(V none).ownBlock=some b) W W.heap.size WB wr V' (.slice ia il ic) ⟨adh gs,inp,[],0,0,0,[],fs.map fun f=>List.replicate f.blocks.length 0⟩:=by
              refine ak.wk (u:=⟨gs,fs⟩) (fun b hb=>?_) ?_ ?_ ?_
              . rw [eK]
                rcases hb with hb | hb
                . exact⟨(HX.out b hb).1,fun p hp _=>(HX.out b hb).2 p hp⟩
                . exact⟨(ak.rows.lt (p:=none) trivial b hb).2,fun p hp db e=>ak.rows.apart p none (by rw [eK];exact hp) trivial db b e hb⟩
              . exact (Hf.out.later aak bO.out).mono aak (fun b hb => .inl (ds.out b hb)) (aav.refl _ _)
              . exact ak.slAhd (by rw [bM.out,Aal]) dK.out
              . exact (Hi.out.later aae bO.out).mono aae (fun b hb => .inl (ds.out b hb)) (aav.refl _ _)
             obtain⟨V',bd⟩:=bd;obtain⟨AV,eg⟩:∃AV,AV=V none:=⟨_,rfl⟩
             obtain⟨aa,ac,fu⟩:∃aa ac,AV = .slice aa fs.length ac:=by
              obtain⟨aa,ac,e⟩:=abS (ak.rows.own none trivial);rw [eg];refine⟨aa,ac,?_⟩;rw [e];show Value.slice aa (aq.map fun v=>[v]).length ac=_;rw [Aal,bM.out]
             rw [<-eg] at bd;obtain⟨Z,hZ⟩:∃Z:Nat->Prop,Z=fun b=>X b∨AV.ownBlock=some b:=⟨_,rfl⟩
             rw [<-hZ] at bd;obtain⟨g0,hm,fP,dD⟩:=aeb az.out;have hIx:=aks (S:=S) fa fc fs wr (Hf.out.later aak bO.out) (by omega);have dD:aaK fs=(mainAt fs:Int):=dD;rw [dD] at hIx;have eZ:=hid hIx;have cE:=hid bd;have Hm:=hid hm;have gu:=hid fP;obtain⟨mn,eL⟩:∃n,n=mainAt fs:=⟨_,rfl⟩
             rw [<-eL] at eZ;have dT:=hid eL;have gg:=hid fu;have fN:=aiI az.out hm;have du:=hid fN;have gn:=hid ak.low;obtain⟨-,-,ae,-⟩:=ak.boxAt;clear ay ak eK bd eg hZ hm fP hIx dD eL fu fN ae aM bM HX ds cx dK bP
             go_upto_region 23 with (first
              | (go_at_call 28; refine eZ.out.mono ?_; rintro e w7 ⟨rfl, av⟩; have bu := hid av
                 have hq : Calls Tryz.prog 27 #[.pointer (some ⟨WB, 0, none⟩), .int .i64 (mn : Int), .int .i64 (-1), .slice none 0 0] w7 fun e w' => e = .returned (.tuple #[]) ∧ ∃ V', aaQ ⟨gs, fs⟩ (.slice ga gs.length gc) (.slice fa fs.length fc) AV Z W W.heap.size WB w' V' (.slice ia il ic) (RnS.enter ⟨gs, fs⟩ mn (-1) [] ⟨adh gs, inp, [], 0, 0, 0, [], fs.map fun f => List.replicate f.blocks.length 0⟩) :=
                  ag8 (cE.out.later av) (f := g0) (by rw [dT.out]; exact Hm.out) rfl ⟨by have := du.out.pr; omega, by have := du.out.pr; omega⟩ (-1) (SA := fun _ => True) (aa := none) (ac := 0) (al := []) ⟨none, 0, rfl, Aad _, by decide, fun h => absurd rfl h⟩ (by have := du.out.pr; show (0 : Int) <= _; omega) (cl := List.replicate g0.blocks.length 0) (by
                   show (fs.map fun f => List.replicate f.blocks.length (0 : Int))[mn]? = _
                   rw [Aak, dT.out, Hm.out]; rfl) ⟨by rw [Aa6]; have := du.out.len; omega, fun v hv => by rw [Abz hv]; omega⟩ (Aah _)
                 have Hq := hid hq
                 clear hq av)
              | (go_at_call 27; refine Hq.out.mono ?_; rintro e w8 ⟨rfl, V8, cp⟩; have ea := hid cp; clear cp))
             obtain⟨Fn,rfl⟩:∃n:Nat,fuel=(n:Int):=Aas ch;have be:Hid (ajv ⟨gs,fs⟩):=ald Hg.out Hf.out;have dF:RnS.enter ⟨gs,fs⟩ mn (-1) [] ⟨adh gs,inp,[],0,0,0,[],fs.map fun f=>List.replicate f.blocks.length 0⟩=RnS.start ⟨gs,fs⟩ inp:=by
              unfold RnS.start;rw [ajc,dT.out]
             have cp:=ea.out;rw [dF] at cp;have aU:∀v∈inp,I64 v:=fun v hv=>by
              obtain⟨-,-,h⟩:=Hi.out.all v hv;exact h
             have gx:=hid (ajo az.out be.out aU Hm.out gu.out);have ea:=hid cp;have gW:(RnS.start ⟨gs,fs⟩ inp).frs≠[]:=fun e=>by unfold RnS.start RnS.enter at e;cases e
             clear dF cp aU;go_loopw [] (fun wr=>∃(V:WPth->Value) (iv:Value) (s:RnS),aaQ ⟨gs,fs⟩ (.slice ga gs.length gc) (.slice fa fs.length fc) AV Z W W.heap.size WB wr V iv s∧RnW ⟨gs,fs⟩ s∧s.frs≠[]∧s.steps<=Fn∧RnS.go ⟨gs,fs⟩ (Fn - s.steps) s=acD ⟨gs,fs⟩ inp Fn) (fun wr=>Fn - ajp WB wr)
             case atStart=>exact⟨V8,_,_,ea.out,gx.out,gW,Aah _,rfl⟩
             case round =>
              obtain⟨Vr,fX,sr,bd,fT,eC,gX,a8⟩:=hrel;have cE:=hid bd;have cC:=hid fT;have ff:=hid a8;obtain⟨st,aP⟩:∃n,n=sr.steps:=⟨_,rfl⟩
              have an:=hid aP;obtain⟨-,zW,ae,-⟩:=bd.boxAt;have b8:=ae 8 _ rfl;rw [Aab,<-aP] at b8;rw [<-aP] at gX;clear bd fT a8 ae aP
              by_cases hF:st=Fn
              . have HQ:=hid (acr cE.out 1)
                have fy:acD ⟨gs,fs⟩ inp Fn=sr.stop 1:=by rw [<-ff.out,<-an.out,hF,Nat.sub_self];rfl
                have aQ:=hid fy;subst hF;clear fy;go_wp2_with (first | (go_at_call 30;refine HQ.out.mono ?_;rintro e wz ⟨rfl,hw⟩;have fk:=hid hw;clear hw));obtain⟨sz,aI⟩:∃z,z=sr.stop 1:=⟨_,rfl⟩
                have Hz:Hid (aaQ ⟨gs,fs⟩ (.slice ga gs.length gc) (.slice fa fs.length fc) AV Z W W.heap.size WB wz Vr fX sz):=by rw [aI];exact fk.out
                have bL:Hid (RnW ⟨gs,fs⟩ sz):=by rw [aI];exact cC.out.stop 1
                have bw:Hid (sz.steps<=100001):=by rw [aI];show sr.steps<=100001;have:=an.out;omega
                have bK:Hid (acD ⟨gs,fs⟩ inp st=sz):=by rw [aI];exact aQ.out
                clear aI fk aQ b8 zW;obtain⟨ca,cc,c5,ay⟩:=Hz.out.cntSl (bL.out.cnt64 bw.out);obtain⟨oa,oc,di,dg⟩:=Hz.out.intsSl (p := .out) trivial rfl rfl (l:=sz.out) rfl bL.out.out.2;have a7:sz.cnt.length=fs.length:=bL.out.cnt.1;obtain⟨-,zW,ae,-⟩:=Hz.out.boxAt;have b5:=ae 5 _ rfl;have b6:=ae 6 _ rfl;have b7:=ae 7 _ rfl;have b8:=ae 8 _ rfl;have bg:=ae 10 _ rfl;rw [Aab] at b5 b6 b7 b8 bg;rw [di] at b7;rw [c5,a7] at bg;rw [a7] at ay;obtain⟨-,ad,af⟩:=HC.out wz Hz.out.low;obtain⟨o0,o1,o2,o3⟩:=(aah (cs:=[_,_,_,_]) ad).get4;obtain⟨r0,r1⟩:=(aah (cs:=[_,_]) af).get2;rw [Aab] at o1 o2 o3 r1;have zO:=aac o0;have zR:=aac r0;have q0:=aat ad 0;have q1:=aat ad 1;have q2:=aat ad 2;have q3:=aat ad 3;have s0:=aat af 0;have s1:=aat af 1;have bI:=hid ad;have bJ:=hid af;have dQ:=hid ay;have cz:=hid dg;have et:WB≠OB∧WB≠FB:=by have:=Hz.out.boxAt.1;have:=HB.out;omega
                obtain⟨eu,ev⟩:=et;obtain⟨bo,aC⟩:∃x,x=sz.state:=⟨_,rfl⟩
                obtain⟨bq,aE⟩:∃x,x=sz.value:=⟨_,rfl⟩
                obtain⟨bp,aD⟩:∃x,x=sz.steps:=⟨_,rfl⟩
                obtain⟨bm,aB⟩:∃x,x=sz.out.length:=⟨_,rfl⟩
                rw [<-aC] at b5;rw [<-aE] at b6;rw [<-aD] at b8;rw [<-aB] at b7;have HZ:Hid (bo=sz.state∧bq=sz.value∧bp=sz.steps∧bm=sz.out.length):=⟨aC,aE,aD,aB⟩
                clear c5 ay di dg a7 ae ad af aC aE aD aB;go_upto_region 26 with (fail)
                go_big_region;go_wp2_with fail;obtain⟨e1,e2⟩:=aeh (aah (cs:=[_,_,_,_]) bI.out) (aah (cs:=[_,_]) bJ.out) cJ (.int .i64 bo) (.int .i64 bq) (.slice oa bm oc) (.int .i64 (bp:Int)) (.int .i64 0) (.int .i64 0);have aP:=aa8 (w:=wz) (base:=w.heap.size) (OB:=OB) (FB:=FB) (by have:=HB.out;omega) (by have:=HB.out;omega) (.int .i64 bo) (.int .i64 bq) (.slice oa bm oc) (.int .i64 (bp:Int)) (.int .i64 0) (.int .i64 0);have aA:aav (fun b=>W.heap.size<=b) wz ((((((wz.setCell ⟨OB,0,none⟩ (.int .i64 bo)).setCell ⟨OB,1,none⟩ (.int .i64 bq)).setCell ⟨OB,2,none⟩ (.slice oa bm oc)).setCell ⟨OB,3,none⟩ (.int .i64 (bp:Int))).setCell ⟨FB,0,none⟩ (.int .i64 0)).setCell ⟨FB,1,none⟩ (.int .i64 0)):=fun b o v hb hc=>by
                 have au:b≠OB:=by have:=HB.out;have hb:W.heap.size<=b:=hb;omega
                 have ax:b≠FB:=by have:=HB.out;have hb:W.heap.size<=b:=hb;omega
                 rw [aaf _ ax,aaf _ ax,aaf _ au,aaf _ au,aaf _ au,aaf _ au];exact hc
                replace e1:=e1.later ((Below.refl _ _).drew)
                replace e2:=e2.later ((Below.refl _ _).drew)
                refine bodyPost_ret (agf rfl rfl rfl rfl (e1 0 _ rfl) (e1 1 _ rfl) (e1 2 _ rfl) (e1 3 _ rfl) (e2 0 _ rfl) (e2 1 _ rfl)) rfl ⟨?_,.inl ⟨HE.out,ca,cc,oa,oc,?_,?_,?_⟩⟩
                . exact ((ag.out.trans (Hz.out.low.mono ag.out.size)).trans aP).drew
                . rw [Aaj,bK.out,<-HZ.out.1,<-HZ.out.2.1,<-HZ.out.2.2.1,<-HZ.out.2.2.2];rfl
                . rw [Aaj,bK.out]
                  exact ((dQ.out.mono aax (fun _ h=>h) aA).later aax ((Below.refl _ _).drew)).mono aax (fun b hb=>by have hb:W.heap.size<=b:=hb;have:=HB.out;show w.heap.size<=b;omega) (aav.refl _ _)
                . rw [Aaj,bK.out]
                  exact ((cz.out.mono aae (fun _ h=>h) aA).later aae ((Below.refl _ _).drew)).mono aae (fun b hb=>by have hb:W.heap.size<=b:=hb;have:=HB.out;show w.heap.size<=b;omega) (aav.refl _ _)
              . have hM:st<Fn:=by omega
                obtain⟨t,r,aK⟩:∃t r,sr.frs=t :: r:=by
                 cases e:sr.frs with
                 | nil=>exact absurd e eC
                 | cons t r=>exact⟨t,r,rfl⟩
                obtain⟨f,x,c7⟩:=cC.out.frs t (by rw [aK];exact Aa7 ..);have eB:adW ⟨gs,fs⟩ (.slice ga gs.length gc) (.slice fa fs.length fc) AV Z W W.heap.size WB wr Vr fX sr t r f x:=⟨cE.out,aK,c7,az.out,be.out,cC.out,⟨_,_,_,rfl⟩,⟨_,_,_,gg.out⟩,by have:=an.out;omega⟩
                have cn:=ahD az.out be.out cC.out aK c7 (ahC az.out be.out cC.out aK c7);have hQ:=eB.step (by have:=an.out;omega);obtain⟨m,dE⟩:∃m,Fn - st=m+1:=⟨Fn - st - 1,by omega⟩
                have a8:=ff.out;rw [<-an.out,dE,RnS.go] at a8;have gS:decide ((st:Int)=(Fn:Int))=false:=decide_eq_false (by omega);have gT:¬(st:Int)=(Fn:Int):=by omega
                obtain⟨bb,ez⟩:∃b,b=(sr.step ⟨gs,fs⟩).2:=⟨_,rfl⟩
                obtain⟨sz,aI⟩:∃z,z=(sr.step ⟨gs,fs⟩).1:=⟨_,rfl⟩
                rw [<-ez,<-aI] at hQ a8 cn;have HQ:=hid hQ;have fg:=hid cn;have gr:=hid dE;cases bb with
                | true =>
                  rw [if_pos rfl] at a8;have dR:=hid a8;clear a8 ez aI hQ cn dE eB c7 aK eC;go_wp2_with (first | (go_at_call 31;refine HQ.out.mono ?_;rintro e wz ⟨rfl,V9,fW,hw⟩;have Hz:=hid hw;clear hw));go_roundw
                  case rel =>
                   obtain⟨k1,k2,k3⟩:=fg.out
                   exact ⟨V9, fW, sz, Hz.out, k1, k2 (by first | rfl | trivial), by rw [k3]; have := an.out; omega, by
                    rw [k3, <- an.out, show Fn - (st + 1) = m by have := gr.out; omega]; exact dR.out⟩
                  case measure =>
                   have h1:=Hz.out.stepsAt;have h2:=cE.out.stepsAt;have h3:=fg.out.2.2;have h4:=an.out;omega
                | false =>
                  have aQ:=hid a8;have bL:Hid (RnW ⟨gs,fs⟩ sz):=cn.1;have bw:Hid (sz.steps<=100001):=by show _<=_;rw [cn.2.2];have:=an.out;omega
                  have bK:Hid (acD ⟨gs,fs⟩ inp Fn=sz):=by show _=_;rw [<-aQ.out,if_neg (by decide)]
                  clear a8 ez aI hQ cn dE eB c7 aK eC aQ;go_wp2_with (first | (go_at_call 31;refine HQ.out.mono ?_;rintro e wz ⟨rfl,V9,fW,hw⟩;have Hz:=hid hw;clear hw));clear b8 zW;obtain⟨ca,cc,c5,ay⟩:=Hz.out.cntSl (bL.out.cnt64 bw.out);obtain⟨oa,oc,di,dg⟩:=Hz.out.intsSl (p := .out) trivial rfl rfl (l:=sz.out) rfl bL.out.out.2;have a7:sz.cnt.length=fs.length:=bL.out.cnt.1;obtain⟨-,zW,ae,-⟩:=Hz.out.boxAt;have b5:=ae 5 _ rfl;have b6:=ae 6 _ rfl;have b7:=ae 7 _ rfl;have b8:=ae 8 _ rfl;have bg:=ae 10 _ rfl;rw [Aab] at b5 b6 b7 b8 bg;rw [di] at b7;rw [c5,a7] at bg;rw [a7] at ay;obtain⟨-,ad,af⟩:=HC.out wz Hz.out.low;obtain⟨o0,o1,o2,o3⟩:=(aah (cs:=[_,_,_,_]) ad).get4;obtain⟨r0,r1⟩:=(aah (cs:=[_,_]) af).get2;rw [Aab] at o1 o2 o3 r1;have zO:=aac o0;have zR:=aac r0;have q0:=aat ad 0;have q1:=aat ad 1;have q2:=aat ad 2;have q3:=aat ad 3;have s0:=aat af 0;have s1:=aat af 1;have bI:=hid ad;have bJ:=hid af;have dQ:=hid ay;have cz:=hid dg;have et:WB≠OB∧WB≠FB:=by have:=Hz.out.boxAt.1;have:=HB.out;omega
                  obtain⟨eu,ev⟩:=et;obtain⟨bo,aC⟩:∃x,x=sz.state:=⟨_,rfl⟩
                  obtain⟨bq,aE⟩:∃x,x=sz.value:=⟨_,rfl⟩
                  obtain⟨bp,aD⟩:∃x,x=sz.steps:=⟨_,rfl⟩
                  obtain⟨bm,aB⟩:∃x,x=sz.out.length:=⟨_,rfl⟩
                  rw [<-aC] at b5;rw [<-aE] at b6;rw [<-aD] at b8;rw [<-aB] at b7;have HZ:Hid (bo=sz.state∧bq=sz.value∧bp=sz.steps∧bm=sz.out.length):=⟨aC,aE,aD,aB⟩
                  clear c5 ay di dg a7 ae ad af aC aE aD aB;go_upto_region 26 with (fail)
                  go_big_region;go_wp2_with fail;obtain⟨e1,e2⟩:=aeh (aah (cs:=[_,_,_,_]) bI.out) (aah (cs:=[_,_]) bJ.out) cJ (.int .i64 bo) (.int .i64 bq) (.slice oa bm oc) (.int .i64 (bp:Int)) (.int .i64 0) (.int .i64 0);have aP:=aa8 (w:=wz) (base:=w.heap.size) (OB:=OB) (FB:=FB) (by have:=HB.out;omega) (by have:=HB.out;omega) (.int .i64 bo) (.int .i64 bq) (.slice oa bm oc) (.int .i64 (bp:Int)) (.int .i64 0) (.int .i64 0);have aA:aav (fun b=>W.heap.size<=b) wz ((((((wz.setCell ⟨OB,0,none⟩ (.int .i64 bo)).setCell ⟨OB,1,none⟩ (.int .i64 bq)).setCell ⟨OB,2,none⟩ (.slice oa bm oc)).setCell ⟨OB,3,none⟩ (.int .i64 (bp:Int))).setCell ⟨FB,0,none⟩ (.int .i64 0)).setCell ⟨FB,1,none⟩ (.int .i64 0)):=fun b o v hb hc=>by
                   have au:b≠OB:=by have:=HB.out;have hb:W.heap.size<=b:=hb;omega
                   have ax:b≠FB:=by have:=HB.out;have hb:W.heap.size<=b:=hb;omega
                   rw [aaf _ ax,aaf _ ax,aaf _ au,aaf _ au,aaf _ au,aaf _ au];exact hc
                  replace e1:=e1.later ((Below.refl _ _).drew)
                  replace e2:=e2.later ((Below.refl _ _).drew)
                  refine bodyPost_ret (agf rfl rfl rfl rfl (e1 0 _ rfl) (e1 1 _ rfl) (e1 2 _ rfl) (e1 3 _ rfl) (e2 0 _ rfl) (e2 1 _ rfl)) rfl ⟨?_,.inl ⟨HE.out,ca,cc,oa,oc,?_,?_,?_⟩⟩
                  . exact ((ag.out.trans (Hz.out.low.mono ag.out.size)).trans aP).drew
                  . rw [Aaj,bK.out,<-HZ.out.1,<-HZ.out.2.1,<-HZ.out.2.2.1,<-HZ.out.2.2.2];rfl
                  . rw [Aaj,bK.out]
                    exact ((dQ.out.mono aax (fun _ h=>h) aA).later aax ((Below.refl _ _).drew)).mono aax (fun b hb=>by have hb:W.heap.size<=b:=hb;have:=HB.out;show w.heap.size<=b;omega) (aav.refl _ _)
                  . rw [Aaj,bK.out]
                    exact ((cz.out.mono aae (fun _ h=>h) aA).later aae ((Below.refl _ _).drew)).mono aae (fun b hb=>by have hb:W.heap.size<=b:=hb;have:=HB.out;show w.heap.size<=b;omega) (aav.refl _ _)
     . have eT:decide (0<=fuel∧fuel<=100000)=false:=decide_eq_false hrg
       have HE:Hid (abp ⟨gs,fs⟩ inp.length fuel=(3,-1)):=by
        show _=_;unfold abp;rw [az.out,if_neg (by simp),<-dv.out,if_neg h30,if_pos hrg]
       clear o0 o1 o2 o3 r0 r1 zO zR;go_wp2_with (first | (go_at_call 25;((with_reducible refine (aaq _ _ _ _).mono ?_);rintro e w' ⟨rfl,rfl⟩;rw [eT])) | (go_at_call 24;(with_reducible refine (aaY _ _ _).mono ?_);rintro e w5 ⟨rfl,bA⟩;have bt:Hid (Below W.heap.size W w5):=bN.out.trans (bA.mono bN.out.size);obtain⟨-,ad,af⟩:=HC.out w5 bt.out;have bI:=hid ad;have bJ:=hid af;obtain⟨o0,o1,o2,o3⟩:=(aah (cs:=[_,_,_,_]) ad).get4;obtain⟨r0,r1⟩:=(aah (cs:=[_,_]) af).get2;rw [Aab] at o1 o2 o3 r1;have zO:=aac o0;have zR:=aac r0;have q0:=aat ad 0;have q1:=aat ad 1;have q2:=aat ad 2;have q3:=aat ad 3;have s0:=aat af 0;have s1:=aat af 1;clear bA ad af));obtain⟨e1,e2⟩:=aeh (aah (cs:=[_,_,_,_]) bI.out) (aah (cs:=[_,_]) bJ.out) cJ (.int .i64 0) (.int .i64 0) (.slice none 0 0) (.int .i64 0) (.int .i64 3) (.int .i64 (-1));refine bodyPost_ret (agf rfl rfl rfl rfl (e1 0 _ rfl) (e1 1 _ rfl) (e1 2 _ rfl) (e1 3 _ rfl) (e2 0 _ rfl) (e2 1 _ rfl)) rfl ⟨?_,.inr ⟨3,(-1),(.inl (by decide)),HE.out,rfl⟩⟩;have h1:=ag.out.trans (bt.out.mono ag.out.size);have h2:=aa8 (w:=w5) (base:=w.heap.size) (OB:=OB) (FB:=FB) (by have:=HB.out;omega) (by have:=HB.out;omega) (.int .i64 0) (.int .i64 0) (.slice none 0 0) (.int .i64 0) (.int .i64 3) (.int .i64 (-1));exact h1.trans h2
 . have gv:Hid (c≠0∨d≠0):=by
    rcases Classical.em (c=0) with h | h
    . exact .inr fun e=>hok ⟨h,e⟩
    . exact .inl h
   have HE:Hid (abp ⟨gs,fs⟩ inp.length fuel=(c,d)):=by
    show _=_;unfold abp;rw [az.out,if_pos (fun e=>hok ⟨(Prod.mk.inj e).1,(Prod.mk.inj e).2⟩)]
   have q0:=aat HO.out 0;have q1:=aat HO.out 1;have q2:=aat HO.out 2;have q3:=aat HO.out 3;have s0:=aat HR.out 0;have s1:=aat HR.out 1;go_wp2_with fail;go_big_region;go_wp2_with fail;obtain⟨e1,e2⟩:=aeh (aah (cs:=[_,_,_,_]) HO.out) (aah (cs:=[_,_]) HR.out) cJ (.int .i64 0) (.int .i64 0) (.slice none 0 0) (.int .i64 0) (.int .i64 c) (.int .i64 d)
   replace e1:=e1.later ((Below.refl _ _).drew)
   replace e2:=e2.later ((Below.refl _ _).drew)
   refine bodyPost_ret (agf rfl rfl rfl rfl (e1 0 _ rfl) (e1 1 _ rfl) (e1 2 _ rfl) (e1 3 _ rfl) (e2 0 _ rfl) (e2 1 _ rfl)) rfl ⟨?_,.inr ⟨c,d,gv.out,HE.out,rfl⟩⟩;have h1:=ag.out.trans (bN.out.mono ag.out.size);have h2:=aa8 (w:=W2) (base:=w.heap.size) (OB:=OB) (FB:=FB) (by have:=HB.out;omega) (by have:=HB.out;omega) (.int .i64 0) (.int .i64 0) (.slice none 0 0) (.int .i64 0) (.int .i64 c) (.int .i64 d);exact (h1.trans h2).drew
end
section
open Go.RowKit Go.Sort
theorem aoh {fn : Func} (fM : fn.results = #[.cell 6 29, .cell 7 31]) {tmps : Array Value} {b7 b8 : Nat} (h7 : tmps.getD 6 undef = .pointer (some ⟨b7, 0, none⟩)) (h8 : tmps.getD 7 undef = .pointer (some ⟨b8, 0, none⟩))
 {st vl ai c a:Int} {ov:Value} {W:World} (h0:W.cell? ⟨b7,0,none⟩=some (.int .i64 st)) (h1:W.cell? ⟨b7,1,none⟩=some (.int .i64 vl)) (h2:W.cell? ⟨b7,2,none⟩=some ov) (h3:W.cell? ⟨b7,3,none⟩=some (.int .i64 ai))
 (hc:W.cell? ⟨b8,0,none⟩=some (.int .i64 c)) (ha:W.cell? ⟨b8,1,none⟩=some (.int .i64 a)):(results fn tmps).run Tryz.prog W = .ok (.tuple #[.agg #[.int .i64 st,.int .i64 vl,ov,.int .i64 ai],.agg #[.int .i64 c,.int .i64 a]]) W:=by
 simp only [Ab3] at h7 h8;simp [results,fM,h7,h8,go_sem,h0,h1,h2,h3,hc,ha]
def aon(u:aaC)(inp:List Int)(fuel:Int)(w:World)(e:Ending)(w':World):Prop :=
 Below w.heap.size w w' ∧ ((abp u inp.length fuel = (0, 0) ∧ ∃ oa oc, e = .returned (.tuple #[.agg #[.int .i64 (acD u inp fuel.toNat).state, .int .i64 (acD u inp fuel.toNat).value, .slice oa (acD u inp fuel.toNat).out.length oc, .int .i64 ((acD u inp fuel.toNat).steps : Int)], .agg #[.int .i64 0, .int .i64 0]]) ∧
  SlAt (fun b => w.heap.size <= b) w' 1 aaO (.slice oa (acD u inp fuel.toNat).out.length oc) (acD u inp fuel.toNat).out) ∨
  (∃ c a, (c ≠ 0 ∨ a ≠ 0) ∧ abp u inp.length fuel = (c, a) ∧ e = .returned (.tuple #[.agg #[.int .i64 0, .int .i64 0, .slice none 0 0, .int .i64 0], .agg #[.int .i64 c, .int .i64 a]])))
theorem amj {S : Nat -> Prop} (ga : Option Addr) (gc : Nat) (fa : Option Addr) (fc : Nat) (gs : List aas) (fs : List aao) (ia : Option Addr) (ic : Nat) (inp : List Int) (fuel : Int) (w : World)
 (hg:SlAt S w 3 aaE (.slice ga gs.length gc) gs) (hf:SlAt S w 4 aaZ (.slice fa fs.length fc) fs) (hi:SlAt S w 1 aaO (.slice ia inp.length ic) inp) (hw:abX w) (hS:∀b,S b->b<w.heap.size)
 (cm:gs.length<=1048576) (ck:fs.length<=1048576) (dn:∀(k:Nat) (f:aao),fs[k]?=some f->aaT f.blocks<=1048576∧f.blocks.length<=1048576) (eD:I64 fuel) :
 Calls Tryz.prog 11 #[.agg #[.slice ga gs.length gc,.slice fa fs.length fc],.slice ia inp.length ic,.int .i64 fuel] w fun e w'=>aon ⟨gs,fs⟩ inp fuel w e w':=by
 obtain⟨W,hW⟩:∃W,W=((w.alloc (.cells #[.slice ga gs.length gc,.slice fa fs.length fc] 25)).alloc (.cells #[.int .i64 0,.int .i64 0,.slice none 0 0,.int .i64 0] 29)).alloc (.cells #[.int .i64 0,.int .i64 0] 31):=⟨_,rfl⟩
 have ar:Below w.heap.size w W:=by rw [hW];exact bE
 have ag:=hid ar;obtain⟨zW,bx,aZ,aO⟩:W.heap.size=w.heap.size+3∧W.heap[w.heap.size]?=_∧W.heap[w.heap.size+1]?=_∧W.heap[w.heap.size+1+1]?=_:=by rw [hW];exact ac2 _ _ _ _
 obtain⟨UB,bh⟩:∃b,b=w.heap.size:=⟨_,rfl⟩
 obtain⟨OB,bV⟩:∃b,b=UB+1:=⟨_,rfl⟩
 obtain⟨FB,bR⟩:∃b,b=OB+1:=⟨_,rfl⟩
 rw [<-bh] at bx aZ aO;rw [<-bV] at aZ aO;rw [<-bR] at aO;have e6:=hid aZ;have e7:=hid aO;have HB:Hid (UB=w.heap.size∧OB=w.heap.size+1∧FB=w.heap.size+2∧W.heap.size=w.heap.size+3):=⟨bh,by omega,by omega,zW⟩
 obtain⟨u0,u1⟩:=(aah (cs:=[_,_]) bx).get2;rw [Aab] at u1;have zU:=aac u0;have HC:=hid (agO (S:=S) ga gc fa fc gs fs ia ic inp fuel W (hg.later aan ar) (hf.later aak ar) (hi.later aae ar) (abX.below hw ar) (fun b hb=>Aap (hS b hb) ar.size) cm ck dn eD);obtain⟨il,cf⟩:∃n,n=inp.length:=⟨_,rfl⟩
 rw [<-cf] at HC ⊢;have dv:=hid cf;have HW:=hid hW;clear hg hf hi hw hS dn bx aZ aO cf ar;go_enter Tryz.func11,Tryz.ntmps11;go_upto_region 1 with (fail)
 rw [<-HW.out,<-bh,<-bV,<-bR];clear HW bh bV bR hW zW;have c9:∀(st vl ai c a:Int) (oa:Option Addr) (ol oc:Nat) (w7:World),Below W.heap.size W w7->∃W8:World,W8=(w7.alloc (.cells #[.int .i64 st,.int .i64 vl,.slice oa ol oc,.int .i64 ai] 29)).alloc (.cells #[.int .i64 c,.int .i64 a] 31)∧Below W.heap.size W W8∧Below w7.heap.size w7 W8 ∧
  aaj W8 w7.heap.size 0 [.int .i64 st,.int .i64 vl,.slice oa ol oc,.int .i64 ai]∧aaj W8 (w7.heap.size+1) 0 [.int .i64 c,.int .i64 a]∧W8.heap[OB]?=some (.cells #[.int .i64 0,.int .i64 0,.slice none 0 0,.int .i64 0] 29 (0,0))∧W8.heap[FB]?=some (.cells #[.int .i64 0,.int .i64 0] 31 (0,0)):=fun st vl ai c a oa ol oc w7 av=>by
  have bB:Below w7.heap.size w7 ((w7.alloc (.cells #[.int .i64 st,.int .i64 vl,.slice oa ol oc,.int .i64 ai] 29)).alloc (.cells #[.int .i64 c,.int .i64 a] 31)):=by exact bE
  obtain⟨-,h1,h2⟩:=abk w7 (.cells #[.int .i64 st,.int .i64 vl,.slice oa ol oc,.int .i64 ai] 29) (.cells #[.int .i64 c,.int .i64 a] 31);have hb:=av.trans (bB.mono av.size);exact⟨_,rfl,hb,bB,aah (cs:=[_,_,_,_]) h1,aah (cs:=[_,_]) h2,by rw [hb.block OB (Aax.1 e6.out).1];exact e6.out,by rw [hb.block FB (Aax.1 e7.out).1];exact e7.out⟩
 have cv:=hid c9;clear c9
 by_cases hE:abp ⟨gs,fs⟩ inp.length fuel=(0,0)
 . obtain⟨R,hR⟩:∃R,R=acD ⟨gs,fs⟩ inp fuel.toNat:=⟨_,rfl⟩
   have dG : Hid (Calls Tryz.prog 8 #[.agg #[.slice ga gs.length gc, .slice fa fs.length fc], .slice ia il ic, .int .i64 fuel] W fun e w' => ∃ qa qc oa oc, e = .returned (.tuple #[.slice qa fs.length qc, .agg #[.int .i64 R.state, .int .i64 R.value, .slice oa R.out.length oc, .int .i64 (R.steps : Int)], .agg #[.int .i64 0, .int .i64 0]]) ∧
    SlAt (fun b => W.heap.size <= b) w' 1 aaO (.slice oa R.out.length oc) R.out ∧ Below W.heap.size W w') := by
    refine HC.out.mono ?_;rintro e w' ⟨h1,⟨-,qa,qc,oa,oc,h2,-,h3⟩ | ⟨c,a,cb,h2,-⟩⟩
    . rw [<-hR] at h2 h3
      exact⟨qa,qc,oa,oc,h2,h3,h1⟩
    . rw [hE] at h2
      obtain⟨rfl,rfl⟩:0=c∧0=a:=by simpa using h2
      simp at cb
   have HR:=hid hR;have HE:=hid hE;clear hE hR HC;go_upto_region 2 with (go_at_call 8;refine dG.out.mono ?_;rintro e w7 ⟨qa,qc,oa,oc,rfl,dh,av⟩;have dV:=hid dh;clear dh;have bu:=hid av;clear av)
   obtain⟨W8,bk,bB,aT,b4,b9,hO,hF⟩:=cv.out R.state R.value (R.steps:Int) 0 0 oa R.out.length oc w7 bu.out;rw [<-bk];obtain⟨QB,bW⟩:∃b,b=w7.heap.size:=⟨_,rfl⟩
   rw [<-bW] at b4 b9 ⊢;obtain⟨o0,o1,o2,o3⟩:=b4.get4;obtain⟨r0,r1⟩:=b9.get2;obtain⟨a0,a1,a2,a3⟩:=(aah (cs:=[_,_,_,_]) hO).get4;obtain⟨c0,c1⟩:=(aah (cs:=[_,_]) hF).get2;rw [Aab] at o1 o2 o3 r1 a1 a2 a3 c1;have q0:=aat hO 0;have q1:=aat hO 1;have q2:=aat hO 2;have q3:=aat hO 3;have s0:=aat hF 0;have s1:=aat hF 1;have z1:=aac o0;have z2:=aac r0;have z3:=aac a0;have z4:=aac c0;have db:OB≠FB∧OB≠QB∧FB≠QB∧OB≠QB+1∧FB≠QB+1:=by have:=HB.out;have:=bu.out.size;omega
   obtain⟨eM,gN,gO,gP,gQ⟩:=db;have HO:=hid hO;have HF:=hid hF;have dO:=hid bB;have cu:=hid aT;have HQ:=hid bW;clear bk bB aT b4 b9 hO hF bW u0 u1 zU;go_upto_region 2 with (fail)
   go_big_region;go_wp2_with fail;obtain⟨e1,e2⟩:=aeh (aah (cs:=[_,_,_,_]) HO.out) (aah (cs:=[_,_]) HF.out) eM (.int .i64 R.state) (.int .i64 R.value) (.slice oa R.out.length oc) (.int .i64 (R.steps:Int)) (.int .i64 0) (.int .i64 0);have aP:=aa8 (w:=W8) (base:=w.heap.size) (OB:=OB) (FB:=FB) (by have:=HB.out;omega) (by have:=HB.out;omega) (.int .i64 R.state) (.int .i64 R.value) (.slice oa R.out.length oc) (.int .i64 (R.steps:Int)) (.int .i64 0) (.int .i64 0);have aA:aav (fun b=>W.heap.size<=b) W8 ((((((W8.setCell ⟨OB,0,none⟩ (.int .i64 R.state)).setCell ⟨OB,1,none⟩ (.int .i64 R.value)).setCell ⟨OB,2,none⟩ (.slice oa R.out.length oc)).setCell ⟨OB,3,none⟩ (.int .i64 (R.steps:Int))).setCell ⟨FB,0,none⟩ (.int .i64 0)).setCell ⟨FB,1,none⟩ (.int .i64 0)):=fun b o v hb hc=>by
    have au:b≠OB:=by have:=HB.out;have hb:W.heap.size<=b:=hb;omega
    have ax:b≠FB:=by have:=HB.out;have hb:W.heap.size<=b:=hb;omega
    rw [aaf _ ax,aaf _ ax,aaf _ au,aaf _ au,aaf _ au,aaf _ au];exact hc
   have cz:=hid (dV.out.later aae cu.out)
   replace e1:=e1.later ((Below.refl _ _).drew)
   replace e2:=e2.later ((Below.refl _ _).drew)
   refine bodyPost_ret (aoh rfl rfl rfl (e1 0 _ rfl) (e1 1 _ rfl) (e1 2 _ rfl) (e1 3 _ rfl) (e2 0 _ rfl) (e2 1 _ rfl)) rfl ⟨((ag.out.trans (dO.out.mono ag.out.size)).trans aP).drew,.inl ⟨HE.out,oa,oc,by rw [<-HR.out],by rw [<-HR.out];exact ((cz.out.mono aae (fun _ h=>h) aA).later aae ((Below.refl _ _).drew)).mono aae (fun b hb=>by have hb:W.heap.size<=b:=hb;have:=HB.out;show w.heap.size<=b;omega) (aav.refl _ _)⟩⟩
 . have HE:=hid hE
   have dG:Hid (Calls Tryz.prog 8 #[.agg #[.slice ga gs.length gc,.slice fa fs.length fc],.slice ia il ic,.int .i64 fuel] W fun e w'=>∃c a:Int,(c≠0∨a≠0)∧abp ⟨gs,fs⟩ inp.length fuel=(c,a)∧e = .returned (.tuple #[.slice none 0 0,.agg #[.int .i64 0,.int .i64 0,.slice none 0 0,.int .i64 0],.agg #[.int .i64 c,.int .i64 a]])∧Below W.heap.size W w'):=by
    refine HC.out.mono ?_;rintro e w' ⟨h1,⟨h2,-⟩ | ⟨c,a,cb,h2,h3⟩⟩
    . exact absurd h2 hE
    . exact⟨c,a,cb,h2,h3,h1⟩
   clear hE HC;go_upto_region 2 with (go_at_call 8;refine dG.out.mono ?_;rintro e w7 ⟨c,a,cb,gC,rfl,av⟩;have bu:=hid av;clear av)
   obtain⟨W8,bk,bB,aT,b4,b9,hO,hF⟩:=cv.out 0 0 0 c a none 0 0 w7 bu.out;rw [<-bk];obtain⟨QB,bW⟩:∃b,b=w7.heap.size:=⟨_,rfl⟩
   rw [<-bW] at b4 b9 ⊢;obtain⟨o0,o1,o2,o3⟩:=b4.get4;obtain⟨r0,r1⟩:=b9.get2;obtain⟨a0,a1,a2,a3⟩:=(aah (cs:=[_,_,_,_]) hO).get4;obtain⟨c0,c1⟩:=(aah (cs:=[_,_]) hF).get2;rw [Aab] at o1 o2 o3 r1 a1 a2 a3 c1;have q0:=aat hO 0;have q1:=aat hO 1;have q2:=aat hO 2;have q3:=aat hO 3;have s0:=aat hF 0;have s1:=aat hF 1;have z1:=aac o0;have z2:=aac r0;have z3:=aac a0;have z4:=aac c0;have db:OB≠FB∧OB≠QB∧FB≠QB∧OB≠QB+1∧FB≠QB+1:=by have:=HB.out;have:=bu.out.size;omega
   obtain⟨eM,gN,gO,gP,gQ⟩:=db;have HO:=hid hO;have HF:=hid hF;have dO:=hid bB;have cu:=hid aT;have HQ:=hid bW;clear bk bB aT b4 b9 hO hF bW u0 u1 zU;go_upto_region 2 with (fail)
   go_big_region;go_wp2_with fail;obtain⟨e1,e2⟩:=aeh (aah (cs:=[_,_,_,_]) HO.out) (aah (cs:=[_,_]) HF.out) eM (.int .i64 0) (.int .i64 0) (.slice none 0 0) (.int .i64 0) (.int .i64 c) (.int .i64 a);have aP:=aa8 (w:=W8) (base:=w.heap.size) (OB:=OB) (FB:=FB) (by have:=HB.out;omega) (by have:=HB.out;omega) (.int .i64 0) (.int .i64 0) (.slice none 0 0) (.int .i64 0) (.int .i64 c) (.int .i64 a)
   replace e1:=e1.later ((Below.refl _ _).drew)
   replace e2:=e2.later ((Below.refl _ _).drew)
   refine bodyPost_ret (aoh rfl rfl rfl (e1 0 _ rfl) (e1 1 _ rfl) (e1 2 _ rfl) (e1 3 _ rfl) (e2 0 _ rfl) (e2 1 _ rfl)) rfl ⟨((ag.out.trans (dO.out.mono ag.out.size)).trans aP).drew,.inr ⟨c,a,cb,gC,rfl⟩⟩
end
section
open Go.RowKit
theorem akt {S S':Nat->Prop}(a a':Option Addr)(c c':Nat)(l:List Int)(st vl ai eX:Int)(w:World)(h:SlAt S w 1 aaO (.slice a l.length c) l)(h':SlAt S' w 1 aaO (.slice a' l.length c') l)(hn:l.length<=1048576) :
 Calls Tryz.prog 36 #[.agg #[.int .i64 st,.int .i64 vl,.slice a l.length c,.int .i64 ai],.agg #[.int .i64 st,.int .i64 vl,.slice a' l.length c',.int .i64 eX]] w fun e w'=>e = .returned (.bool true)∧Below w.heap.size w w':=by
 have H:=hid h;have H':=hid h';clear h h';go_enter Tryz.func36,Tryz.ntmps36;go_wp2_with fail;refine (ank (S:=S) (S':=S') a c l a' c' l _ (H.out.later aae ?_) (H'.out.later aae ?_) hn hn).mono ?_
 . exact bE
 . exact bE
 rintro e w2 ⟨rfl,ax⟩;rw [decide_eq_true (rfl:l=l)];go_wp2_with fail;go_ret;exact⟨rfl,bE1 ax⟩
theorem aeE {S S':Nat->Prop}(a a':Option Addr)(c c':Nat)(l:List Int)(st vl ai:Int)(w:World)(h:SlAt S w 1 aaO (.slice a l.length c) l)(h':SlAt S' w 1 aaO (.slice a' l.length c') l)(hn:l.length<=1048576) :
 Calls Tryz.prog 12 #[.agg #[.int .i64 st,.int .i64 vl,.slice a l.length c,.int .i64 ai],.agg #[.int .i64 st,.int .i64 vl,.slice a' l.length c',.int .i64 ai]] w fun e w'=>e = .returned (.bool true)∧Below w.heap.size w w':=by
 have H:=hid h;have H':=hid h';clear h h';go_enter Tryz.func12,Tryz.ntmps12;obtain⟨W,hW⟩:∃W,W=(w.alloc (.cells #[.int .i64 st,.int .i64 vl,.slice a l.length c,.int .i64 ai] 29)).alloc (.cells #[.int .i64 st,.int .i64 vl,.slice a' l.length c',.int .i64 ai] 29):=⟨_,rfl⟩
 obtain⟨hz,hx,hy⟩:=abk w (.cells #[.int .i64 st,.int .i64 vl,.slice a l.length c,.int .i64 ai] 29) (.cells #[.int .i64 st,.int .i64 vl,.slice a' l.length c',.int .i64 ai] 29);rw [<-hW] at hz hx hy;have ar:Below w.heap.size w W:=by rw [hW];exact bE
 have ag:=hid ar;obtain⟨x0,x1,x2,x3⟩:=(aah (cs:=[_,_,_,_]) hx).get4;obtain⟨y0,y1,y2,y3⟩:=(aah (cs:=[_,_,_,_]) hy).get4;rw [Aab] at x1 x2 x3 y1 y2 y3;have HW:=hid hW;obtain⟨B2,eh⟩:∃b,b=w.heap.size+1:=⟨_,rfl⟩
 rw [<-eh] at y0 y1 y2 y3;have eY:=hid eh;have Hs:=hid (akt (S:=S) (S':=S') a a' c c' l st vl ai ai W (H.out.later aae ar) (H'.out.later aae ar) hn);have Hk:Hid (∀V,Below W.heap.size W V->V.cell? ⟨w.heap.size,3,none⟩=some (.int .i64 ai)∧V.cell? ⟨B2,3,none⟩=some (.int .i64 ai)):=fun V hV=>⟨aab x3 hV,aab y3 hV⟩
 clear hW hz hx hy ar eh;go_upto_region 1 with (fail)
 rw [<-HW.out,<-eY.out];clear HW eY;have zx:=aac x0;have zy:=aac y0;go_wp2_with (go_at_call 36;refine Hs.out.mono ?_;rintro e w2 ⟨rfl,ax⟩;obtain⟨k0,k1⟩:=Hk.out w2 ax;have k2:=aac k0;have k3:=aac k1);go_ret;exact⟨rfl,by have h:=ag.out;exact bE2 ax h⟩
variable {u:aaC}{n:Nat}{fuel:Int}
theorem alm(hc:aal u=(0,0))(hn:n<=30)(h0:0<=fuel)(h1:fuel<=100000):abp u n fuel=(0,0):=by
 unfold abp;rw [hc,if_neg (by simp),if_neg (by omega),if_neg (by simp [h0,h1])]
theorem aiU(h:abp u n fuel=(0,0)):aal u=(0,0)∧n<=30∧0<=fuel∧fuel<=100000:=by
 unfold abp at h
 by_cases hc:aal u=(0,0)
 . rw [hc,if_neg (by simp)] at h
   by_cases e1:30<n
   . rw [if_pos e1] at h;simp at h
   . rw [if_neg e1] at h
     by_cases e2:¬(0<=fuel∧fuel<=100000)
     . rw [if_pos e2] at h;simp at h
     . have:=Classical.not_not.1 e2
       exact⟨hc,by omega,this.1,this.2⟩
 . rw [if_pos hc] at h
   exact absurd h hc
theorem aiT(h:(abp u n fuel).1=0):abp u n fuel=(0,0):=by
 unfold abp at h ⊢
 by_cases hc:aal u=(0,0)
 . rw [hc,if_neg (by simp)] at h ⊢
   by_cases e1:30<n
   . rw [if_pos e1] at h;simp at h
   . rw [if_neg e1] at h ⊢
     by_cases e2:¬(0<=fuel∧fuel<=100000)
     . rw [if_pos e2] at h;simp at h
     . rw [if_neg e2]
 . rw [if_pos hc] at h
   exact absurd (abR h) hc
def agF(R:RnS)(w:World)(e:Ending)(w':World):Prop :=
 ∃oa oc,e = .returned (.tuple #[.agg #[.int .i64 R.state,.int .i64 R.value,.slice oa R.out.length oc,.int .i64 (R.steps:Int)],.agg #[.int .i64 0,.int .i64 0]])∧SlAt (fun b=>w.heap.size<=b) w' 1 aaO (.slice oa R.out.length oc) R.out∧Below w.heap.size w w'
theorem aj2 {S T : Nat -> Prop} (ga : Option Addr) (gc : Nat) (fa : Option Addr) (n fc : Nat) (gs : List aas) (fs : List aao) (ia : Option Addr) (ic : Nat) (inp : List Int) (fuel : Int) (w : World)
 (hg:SlAt S w 3 aaE (.slice ga gs.length gc) gs) (hf:SlAt S w 4 aaZ (.slice fa n fc) fs) (hn:fs.length=n) (hi:SlAt T w 1 aaO (.slice ia inp.length ic) inp) (hw:abX w) (hS:∀b,S b->b<w.heap.size) (hT:∀b,T b->b<w.heap.size)
 (eA:aal ⟨gs,fs⟩=(0,0)) (cf:inp.length<=30) (h0:0<=fuel) (h1:fuel<=100000) :
 Calls Tryz.prog 11 #[.agg #[.slice ga gs.length gc,.slice fa n fc],.slice ia inp.length ic,.int .i64 fuel] w (agF (acD ⟨gs,fs⟩ inp fuel.toNat) w):=by
 subst hn;obtain⟨cm,ck,-⟩:=abZ (u:=⟨gs,fs⟩) (by rw [eA]);dsimp only at cm ck;refine (amj (S:=fun b=>b<w.heap.size) ga gc fa fc gs fs ia ic inp fuel w (hg.mono aan hS (aav.below' (Below.refl _ _))) (hf.mono aak hS (aav.below' (Below.refl _ _))) (hi.mono aae hT (aav.below' (Below.refl _ _))) hw (fun b hb=>hb) (by omega) (by omega) (ah1 eA) ⟨by omega,by omega⟩).mono fun e w' hp=>?_;obtain⟨hb,⟨-,oa,oc,h2,h3⟩ | ⟨c,a,cb,h2,-⟩⟩:=hp
 . exact⟨oa,oc,h2,h3,hb⟩
 . rw [alm eA cf h0 h1] at h2
   obtain⟨rfl,rfl⟩:0=c∧0=a:=by simpa using h2
   simp at cb
end
end Go.Proofs.YtnkfdeiigplhoaaGreatDoor
