import Derived.Test.YtpeejlpcikefcaaGreatDoorPSd
/- calls.Copy: the walk, with all rows. -/
namespace Go.Proofs.YtpeejlpcikefcaaGreatDoor
open Go.RowKit
set_option maxRecDepth 100000 in
set_option maxHeartbeats 4000000 in
theorem aki {S : Nat -> Prop} (ga fa : Option Addr) (gc fc : Nat) (gs : List aaG) (fs : List aav) (w : World) (hg : SlAt S w 3 aaO (.slice ga gs.length gc) gs) (hf : SlAt S w 4 abC (.slice fa fs.length fc) fs)
 (ng:gs.length<=1048576) (nf:fs.length<=1048576) (sg:∀g∈gs,g.init.length<=1048576) (sf:∀f∈fs,arO f) :
 Calls Tryz.prog 15 #[.agg #[.slice ga gs.length gc,.slice fa fs.length fc]] w fun e w' =>
  ∃go aC fo aB A V,e = .returned (.agg #[.slice go gs.length aC,.slice fo fs.length aB])∧w.heap.size+3<=A∧A<=w'.heap.size∧agO (w.heap.size+3) A w' 52 3 aaO (.slice go gs.length aC) gs∧adI w' A (.slice fo fs.length aB) fs V∧Below w.heap.size w w':=by
 have Hg:=hid hg;have Hf:=hid hf;have Sg:=hid sg;have Sf:=hid sf;clear hg hf sg sf;obtain⟨ig,bV,bD,bf,bp⟩:=info_parts aiJ;obtain⟨cm,bZ,bA,be,bB⟩:=info_parts amf;go_enter Tryz.func15,Tryz.ntmps15;go_wp2_with fail;obtain⟨W0,ao⟩:∃W0,W0=((w.alloc (.cells #[.slice ga gs.length gc,.slice fa fs.length fc] 25)).alloc (.cells #[.slice none 0 0,.slice none 0 0] 25)).alloc (.cells #[.slice none 0 0,.slice none 0 0] 25):=⟨_,rfl⟩
 have bJ:W0.heap.size=w.heap.size+3:=by rw [ao];simp
 have bN:agQ w W0 (.slice ga gs.length gc) (.slice fa fs.length fc) (.slice none 0 0) (.slice none 0 0):=by
  refine⟨by rw [ao];exact bE,?_,?_,by intro j;rw [ao,World.frozen?_alloc_old _ _ _ (by simp),World.frozen?_alloc_at _ _ _ _ (by simp)],?_,by intro j;rw [ao,World.frozen?_alloc_at _ _ _ _ (by simp)]⟩
  . intro j u hj;rw [ao,Aab,World.cell?_alloc_past _ _ _ (by simp;omega),World.cell?_alloc2_first];simpa using hj
  . intro j u hj;rw [ao,Aab,World.cell?_alloc_past _ _ _ (by simp),World.cell?_alloc2_new];simpa using hj
  . intro j u hj;rw [ao,Aab,World.cell?_alloc_at _ _ _ _ (by simp)];simpa using hj
 rw [<-ao];have b8:=hid bN;have ck:=hid bJ;clear ao bN bJ;go_loopw [12] (fun i wr=>∃(k:Nat) (v:Value),k<=gs.length∧i = .int .i64 k∧w.heap.size+3<=wr.heap.size∧agQ w wr (.slice ga gs.length gc) (.slice fa fs.length fc) v (.slice none 0 0)∧Own (w.heap.size+3) wr 52 3 aaO v (gs.take k)) (fun i _=>gs.length - (intOf i).toNat)
 case atStart=>exact⟨0,_,Aaj _,rfl,Nat.le_of_eq ck.out.symm,b8.out,Own.nil _ _ _ _ _⟩
 case round =>
  obtain⟨k,v,hk,rfl,bM,ag,af⟩:=hrel;have aO:=hid ag;have ah:=hid af
  by_cases hkl:k<gs.length
  . obtain⟨b,off,ia,ic,rfl,aS,ax,hd⟩:=akb (Hg.out.later aaw ag.below) hkl
    obtain⟨d0,d1,d2⟩:=aS.get3;have aN:b<wr.heap.size:=aac d0;obtain⟨y,hy⟩:∃y,y=gs[k]:=⟨_,rfl⟩
    rw [<-hy] at d0 d1 d2 ax hd;have Hy:=hid hy;have b9:y.init.length<=1048576:=by rw [hy];exact Sg.out _ (Aas hkl)
    have bg:=hid ax;have Hd:=hid hd;obtain⟨W1,aD⟩:∃W1,W1=wr.alloc (.cells #[.string y.name,.int .i64 y.size,.slice ia y.init.length ic] 52):=⟨_,rfl⟩
    have kc:aal W1 wr.heap.size 0 [.string y.name,.int .i64 y.size,.slice ia y.init.length ic]:=by
     intro j u hj;rw [aD,Aab,World.cell?_alloc_new];simpa using hj
    have kf:W1.frozen? ⟨wr.heap.size,2,none⟩=false:=by rw [aD];simp
    have cu:W1.heap.size=wr.heap.size+1:=by rw [aD];simp
    have al:Below wr.heap.size wr W1:=by rw [aD];exact bE
    have az:=hid al;have g3:W1.cell? ⟨w.heap.size+2,0,none⟩=some v:=aab ag.out.get2.1 al;have f3:W1.frozen? ⟨w.heap.size+2,0,none⟩=false:=(al.frozen (p:=⟨w.heap.size+2,0,none⟩) (by dsimp only;omega)).trans (ag.outFree 0);clear ag af aS hy ax hd;go_wp2_with fail;rw [<-aD];refine (afF (S:=S) ia ic y.init W1 (bg.out.later aax al) b9).mono ?_;rintro e w2 ⟨v',rfl,bo,aG⟩;obtain⟨a',c',rfl⟩:=bo.shape;have cf:=hid bo;have bx:=hid aG;obtain⟨m0,m1,m2⟩:=(kc.later aG).get3;simp only [Aab] at m1 m2;have mf:w2.frozen? ⟨wr.heap.size,2,none⟩=false:=(aG.frozen (p:=⟨wr.heap.size,2,none⟩) (by dsimp only;omega)).trans kf;have n3:=aab g3 aG;have ct:w2.frozen? ⟨w.heap.size+2,0,none⟩=false:=(aG.frozen (p:=⟨w.heap.size+2,0,none⟩) (by dsimp only;omega)).trans f3;have cp:wr.heap.size<w2.heap.size:=aac m0;have cw:w.heap.size+2<wr.heap.size:=by omega
    clear kc kf al bo aG aD d0 d1 d2 g3 f3;go_wp2_with (at_builtin;refine agc rfl _ _ 22 rfl (w.heap.size+3) 52 ig _ 3 48 Tryz.underlying22 bV bD bf bp rfl (by decide) aaw v (gs.take k) rfl ?_ ⟨w2.heap.size,0,none⟩ 1 [.string y.name,.int .i64 y.size,.slice a' y.init.length c'] y rfl rfl ?_ ?_ ?_ ?_ (by decide) ?_ ?_)
    . exact ah.out.later aaw (by have h:=az.out;have h2:=bx.out;exact bE2 h2 h)
    . exact aaB _ _ _ (by simp)
    . intro u hu;simp at hu;rcases hu with rfl | rfl | rfl <;> rfl
    . refine⟨_,rfl,cf.out.sub aax (by decide) (by omega) (fun g hg=>by have:=ah.out.lt g hg;omega) (fun b hb hl=>ae6 _ _ _ _ hl (by dsimp only;omega)) (by simp),Hd.out⟩
    . rw [Aat];omega
    . simp;omega
    . intro v2 w3 aw ad g2 b5 aY
      have aE:∀B,B<wr.heap.size->some B≠v.ownBlock->w3.heap[B]?=wr.heap[B]?:=fun B h1 h2=>by
       rw [ad.block B (by simp;omega) h2,ae6 _ _ _ _ (by omega) (by dsimp only;omega),bx.out.block B (by omega),az.out.block B h1]
      have aX:∀B,w.heap.size<=B->B<w.heap.size+3->w3.heap[B]?=wr.heap[B]?:=fun B h1 h2=>aE B (by omega) (fun e=>by have:=(ah.out.lt B e.symm).1;omega);have bI:Below w.heap.size w w3:=by
       refine Below.grown ?_ ad (by simp;omega) (fun g hg=>by have:=(ah.out.lt g hg).1;omega);have h:=aO.out.below;have h1:=az.out;have h2:=bx.out;exact bE3 h2 h1 h
      have ar:=aO.out.keep bI aX;have n4:w3.cell? ⟨w.heap.size+2,0,none⟩=some v:=ar.out.get2.1;have cn:w3.frozen? ⟨w.heap.size+2,0,none⟩=false:=ar.outFree 0;have bk:=hid (ar.set0 v2);have aL:Hid (Own (w.heap.size+3) (w3.setCell ⟨w.heap.size+2,0,none⟩ v2) 52 3 aaO v2 (gs.take (k+1))):=by
       have e:gs.take (k+1)=gs.take k++[y]:=by rw [Abp hkl,Hy.out]
       show Own _ _ _ _ _ _ _;rw [e];exact aw.setLow aaw (by dsimp only;omega) _
      have bL:w2.heap.size<=w3.heap.size:=Aai (by simp) ad.size;subst aY;clear aw ad aE aX bI ar;go_wp2_with fail;go_roundw
      case rel=>exact⟨k+1,_,by omega,by go_num,by simp [World.setCell];omega,by have h:=bk.out;(try simp only [Aat,Abw hk] at h);exact h,by have h:=aL.out;(try simp only [Aat,Abw hk] at h);exact h⟩
      case measure=>simp [intOf];omega
  . obtain rfl:k=gs.length:=by omega
    rw [Aa0] at ah;obtain⟨WA,bO⟩:∃WA,WA=wr:=⟨_,rfl⟩
    rw [<-bO] at aO ah bM ⊢;have q1:WA.cell? ⟨w.heap.size,1,none⟩=some (.slice fa fs.length fc):=aO.out.par.get2.2;clear bO ag af;go_wp2_with fail;clear q1
    go_loopw [30] (fun i wr => ∃ (k : Nat) (v2 : Value) (V : Nat -> Pth -> Value), k <= fs.length ∧ i = .int .i64 k ∧ WA.heap.size <= wr.heap.size ∧ agQ w wr (.slice ga gs.length gc) (.slice fa fs.length fc) v v2 ∧ adI wr WA.heap.size v2 (fs.take k) V ∧
     agO (w.heap.size + 3) WA.heap.size wr 52 3 aaO v gs) (fun i _ => fs.length - (intOf i).toNat)
    case atStart=>exact⟨0,_,fun _ _ => .slice none 0 0,Aaj _,rfl,Aac _,aO.out,adI.nil _ _ _,ah.out.inn⟩
    case round =>
     obtain⟨wo,cb⟩:∃wo:World,wo=wr:=⟨_,rfl⟩
     subst cb;obtain⟨k,v2,V,hk,rfl,bu,ag,af,aZ⟩:=hrel;have ai:=hid ag;have ae:=hid af;have aT:=hid aZ
     by_cases hkl:k<fs.length
     . obtain⟨b,off,xa,xc,rfl,aS,ax,b6,bX⟩:=alu (Hf.out.later aaE ag.below) hkl
       obtain⟨d0,d1,d2,d3⟩:=aS.get4;have aN:b<wo.heap.size:=aac d0;obtain⟨y,hy⟩:∃y,fs[k]?=some y:=⟨_,Aaa hkl⟩
       have e9:fs[k]=y:=by rw [Aaa hkl] at hy;exact Option.some.inj hy
       rw [e9] at d0 d1 d2 d3 ax;obtain⟨nm,bH⟩:∃nm,nm=y.name:=⟨_,rfl⟩
       obtain⟨pp,a7⟩:∃pp,pp=y.params:=⟨_,rfl⟩
       obtain⟨rr,bz⟩:∃rr,rr=y.regs:=⟨_,rfl⟩
       obtain⟨bl,bn⟩:∃bl,bl=y.blocks.length:=⟨_,rfl⟩
       rw [<-bH] at d0;rw [<-a7] at d1;rw [<-bz] at d2;rw [<-bn] at d3 ax;have Hy:=hid hy;have aF:Hid (nm=y.name∧pp=y.params∧rr=y.regs∧bl=y.blocks.length):=⟨bH,a7,bz,bn⟩
       have bK:=hid (Sf.out y (Aae hy));have bg:=hid ax;obtain⟨aV,aH,aY⟩:=af.shape;rw [Aat,Abw hk] at aY;subst aY;have g3:wo.cell? ⟨w.heap.size+2,1,none⟩=some (.slice aV k aH):=by have h:=ag.out.get2.2;rw [Aab] at h;exact h
       have f3:wo.frozen? ⟨w.heap.size+2,1,none⟩=false:=ag.outFree 1;have zO:=aac g3;clear ag af aZ aS hy ax b6 bX e9 bH a7 bz bn;go_upto_region 11 with (fail)
       obtain⟨BB,bj⟩:∃BB,BB=wo.heap.size:=⟨_,rfl⟩
       obtain⟨W4,a1⟩:∃W4,W4=wo.alloc (.cells #[.string nm,.int .i64 pp,.int .i64 rr,.slice xa bl xc] 37):=⟨_,rfl⟩
       have bP:W4.heap[BB]?=some (.cells #[.string nm,.int .i64 pp,.int .i64 rr,.slice xa bl xc] 37 (0,0)):=by rw [a1,bj];exact heap_alloc_new _ _
       have aW:Below wo.heap.size wo W4:=by rw [a1];exact bE
       rw [<-a1,<-bj];obtain⟨b0,b1,b2,b3⟩:=(aad (cs:=[_,_,_,_]) bP).get4;rw [Aab] at b1 b2 b3;have bU:=aab g3 aW;have bW:=(aW.frozen (p:=⟨w.heap.size+2,1,none⟩) zO).trans f3;have cg:=aac bU;have cr:=aac b0;have cj:=hid (akQ (S:=S) nm pp rr xa bl xc y.blocks W4.drew (bg.out.later aau aW.drew) aF.out.2.2.2.symm (by rw [aF.out.2.2.2];exact bK.out.blocks) bK.out.each);have ay:=hid aW;clear bj a1 bP aW d0 d1 d2 d3 g3 f3 zO aN
       go_region_law
        ((first
          | (go_simp; go_at_call 29; refine cj.out.mono ?_; rintro e w5 ⟨V2, rfl, bh, bR⟩
             have aq : Below W4.heap.size W4 w5 := (Below.refl W4.heap.size W4).drew.trans bR
             obtain ⟨a8, bm, a6⟩ := aah.shape (p := .blks) bh trivial
             rw [show (aae y.blocks V2 .blks).length = bl by simp [aae]; exact aF.out.2.2.2.symm] at a6
             rw [a6]
             have k5 := aab bU aq
             have g5 := (aq.frozen (p := ⟨w.heap.size + 2, 1, none⟩) cg).trans bW
             have bS := aac k5
             have b7 := hid bh
             have ak := hid aq
             have HX : Hid (V2 .blks = .slice a8 bl bm) := a6
             clear bh bR aq a6)
          | (refine adk rfl _ _ 23 rfl WA.heap.size 37 cm (.agg #[.string ⟨#[]⟩, .int .i64 0, .int .i64 0, .slice none 0 0]) 4 56 Tryz.underlying23 bZ bA be bB rfl (by decide) (.slice aV k aH) k ((fs.take k).mapIdx fun k f => abU f (V k .blks)).flatten rfl ?_ ⟨w5.heap.size, 0, none⟩ 1 1 [.string nm, .int .i64 pp, .int .i64 rr, .slice a8 bl bm] rfl rfl ?_ ?_ ?_ ?_ ?_ ?_
             . have h := ae.out.row.own
               rw [show ((fs.take k).mapIdx fun k f => abU f (V k .blks)).length = k by simp; omega] at h
               exact aao (aao h (ay.out.trans (ak.out.mono ay.out.size))) bE
             . intro m u hu; exact aaB w5 _ _ rfl m u hu
             . intro u hu; simp only [Aam, Aaq, or_false] at hu; rcases hu with rfl | rfl | rfl | rfl <;> rfl
             . unfold maxLen; omega
             . omega
             . have := ay.out.size; have := ak.out.size; simp; omega
             intro v9 w9 an ad aU
             obtain ⟨bF, bC, rfl⟩ := aap an
             have cx : w5.heap.size <= w9.heap.size := Aai (by simp) ad.size
             have br : ∀ c, (Value.slice aV k aH).ownBlock = some c -> WA.heap.size <= c := fun c hc => (ae.out.lt.1 c hc).1
             have aj : ∀ c, c < w5.heap.size -> (Value.slice aV k aH).ownBlock ≠ some c -> w9.heap[c]? = w5.heap[c]? := fun c h1 h2 => (ad.block c (by simp; omega) (fun e => h2 e.symm)).trans (Below.heap_alloc w5 _ _ h1)
             have bQ : (Value.slice aV k aH).ownBlock ≠ some (w.heap.size + 2) := fun e => by have := br _ e; omega
             have k9 := (World.cell?_of_block (w := w5) (a := ⟨w.heap.size + 2, 1, none⟩) (aj _ bS bQ)).trans k5
             have g9 := (World.frozen?_of_block (w := w5) (a := ⟨w.heap.size + 2, 1, none⟩) (aj _ bS bQ)).trans g5
             have cv := aac k9
             have aK := hid an
             have au := hid ad
             have bq := hid aU
             have aJ := hid aj
             have aM := hid br
             clear an ad aU aj br)))
       all_goals
        have bL:=ay.out.size;have cq:=ak.out.size
        have av := ae.out.next (v' := .slice bF (k + 1) bC) Hy.out (ay.out.trans (ak.out.mono ay.out.size)) b7.out bL bu (Below.alloc (Below.refl _ _) (Aac _) (.cells #[.string nm, .int .i64 pp, .int .i64 rr, .slice a8 bl bm] 37)) (by
         rw [HX.out]
         unfold abU
         rw [<- aF.out.1, <- aF.out.2.1, <- aF.out.2.2.1]
         exact aK.out) au.out (by rcases bq.out with h | h; exact .inl h; exact .inr (h.trans (by simp)))
        have aE:∀c,c<WA.heap.size->w9.heap[c]?=wo.heap[c]?:=fun c hc=>(aJ.out c (by omega) (fun e=>by have:=aM.out c e;omega)).trans ((ak.out.block c (by omega)).trans (ay.out.block c (by omega)));have aN:Below w.heap.size w w9:=by
         refine Below.grown ?_ au.out (by have:=ai.out.below.size;simp;omega) (fun c hc=>by have:=aM.out c hc;omega);have h:=(ai.out.below.trans (ay.out.mono ai.out.below.size)).trans (ak.out.mono (by have:=ai.out.below.size;omega));exact h.alloc h.size _
        have aQ:=ai.out.keep aN (fun b h1 h2=>aE b (by omega));have aI:=hid av;have bG:=hid (aQ.set1 (.slice bF (k+1) bC));have bd:Hid (agO (w.heap.size+3) WA.heap.size (w9.setCell ⟨w.heap.size+2,1,none⟩ (.slice bF (k+1) bC)) 52 3 aaO v gs):=aT.out.kept aaw (fun b h1 h2=>(Below.heap_setCell w9 ⟨w.heap.size+2,1,none⟩ _ b (by dsimp only;omega)).trans (aE b h2));clear av aE aN aQ k5 g5;go_wp2_with fail;go_roundw
        case rel=>exact⟨k+1,_,_,by omega,by go_num,by simp [World.setCell];omega,bG.out,aI.out.setLow (by dsimp only;omega) _,bd.out⟩
        case measure=>simp [intOf];omega
     . obtain rfl:k=fs.length:=by omega
       rw [Aa0] at ae;obtain⟨go,aC,b4⟩:=aZ.shape;obtain⟨fo,aB,ca⟩:=ae.out.shape;subst b4 ca;obtain⟨b0,b1⟩:=ag.out.get2;obtain⟨o0,o1⟩:=ag.res.get2;rw [Aab] at b1 o1;have y0:=ag.resFree 0;have y1:=ag.resFree 1;have bY:w.heap.size+2<wo.heap.size:=aac b0;clear ag af aZ;go_wp2_with fail;have aA:=as2 (u0 := .slice go gs.length aC) (u1 := .slice fo fs.length aB) ai.out.res;obtain⟨h0,h1⟩:=aA.get2;rw [Aab] at h1;obtain⟨W5,aR⟩:∃W5,W5=((wo.setCell ⟨w.heap.size+1,0,none⟩ (.slice go gs.length aC)).setCell ⟨w.heap.size+1,1,none⟩ (.slice fo fs.length aB)):=⟨_,rfl⟩
       rw [<-aR] at h0 h1 ⊢;have hle:w.heap.size<=w.heap.size+1:=Nat.le_succ _;have bT:w.heap.size+1<WA.heap.size:=by omega
       have bw:Below w.heap.size w W5:=by
        rw [aR];exact (ai.out.below.setCell (p:=⟨w.heap.size+1,0,none⟩) hle _).setCell (p:=⟨w.heap.size+1,1,none⟩) hle _
       have aP:adI W5 WA.heap.size (.slice fo fs.length aB) fs V:=by
        rw [aR];exact (ae.out.setLow (a:=⟨w.heap.size+1,0,none⟩) bT _).setLow (a:=⟨w.heap.size+1,1,none⟩) bT _
       have bt:agO (w.heap.size+3) WA.heap.size W5 52 3 aaO (.slice go gs.length aC) gs:=by
        refine aT.out.kept aaw (fun b h1 h2=>?_);rw [aR,Below.heap_setCell _ _ _ _ (by dsimp only;omega),Below.heap_setCell _ _ _ _ (by dsimp only;omega)]
       have cc:W5.heap.size=wo.heap.size:=by rw [aR];simp [World.setCell]
       refine bodyPost_ret (v := .agg #[.slice go gs.length aC,.slice fo fs.length aB]) ?_ rfl ⟨_,_,_,_,WA.heap.size,V,rfl,bM,by omega,bt,aP,bw⟩;simp [results,Tryz.results15,go_sem,h0,h1]
end Go.Proofs.YtpeejlpcikefcaaGreatDoor
