import Derived.Test.YtpeejlpcikefcaaGreatDoorPSd
/- calls.Copy: the walk, with all rows. -/
namespace Go.Proofs.YtpeejlpcikefcaaGreatDoor
open Go.RowKit
set_option maxRecDepth 100000 in
set_option maxHeartbeats 4000000 in
theorem aki {S : Nat -> Prop} (ga fa : Option Addr) (gc fc : Nat) (gs : List aaF) (fs : List aaz) (w : World) (hg : SlAt S w 3 aaO (.slice ga gs.length gc) gs) (hf : SlAt S w 4 abD (.slice fa fs.length fc) fs)
 (ng:gs.length<=1048576) (nf:fs.length<=1048576) (sg:∀g∈gs,g.init.length<=1048576) (sf:∀f∈fs,arE f) :
 Calls Tryz.prog 15 #[.agg #[.slice ga gs.length gc,.slice fa fs.length fc]] w fun e w' =>
  ∃go aC fo az A V,e = .returned (.agg #[.slice go gs.length aC,.slice fo fs.length az])∧w.heap.size+3<=A∧A<=w'.heap.size∧agO (w.heap.size+3) A w' 52 3 aaO (.slice go gs.length aC) gs∧adH w' A (.slice fo fs.length az) fs V∧Below w.heap.size w w':=by
 have Hg:=hid hg;have Hf:=hid hf;have Sg:=hid sg;have Sf:=hid sf;clear hg hf sg sf;obtain⟨ig,b7,a8,bp,bw⟩:=info_parts aiO;obtain⟨bX,b5,bf,bB,bn⟩:=info_parts amh;go_enter Tryz.func15,Tryz.ntmps15;go_wp2_with fail;obtain⟨W0,aq⟩:∃W0,W0=((w.alloc (.cells #[.slice ga gs.length gc,.slice fa fs.length fc] 25)).alloc (.cells #[.slice none 0 0,.slice none 0 0] 25)).alloc (.cells #[.slice none 0 0,.slice none 0 0] 25):=⟨_,rfl⟩
 have bT:W0.heap.size=w.heap.size+3:=by rw [aq];simp
 have bR:agQ w W0 (.slice ga gs.length gc) (.slice fa fs.length fc) (.slice none 0 0) (.slice none 0 0):=by
  refine⟨by rw [aq];exact bE,?_,?_,by intro j;rw [aq,World.frozen?_alloc_old _ _ _ (by simp),World.frozen?_alloc_at _ _ _ _ (by simp)],?_,by intro j;rw [aq,World.frozen?_alloc_at _ _ _ _ (by simp)]⟩
  . intro j u hj;rw [aq,Aab,World.cell?_alloc_past _ _ _ (by simp;omega),World.cell?_alloc2_first];simpa using hj
  . intro j u hj;rw [aq,Aab,World.cell?_alloc_past _ _ _ (by simp),World.cell?_alloc2_new];simpa using hj
  . intro j u hj;rw [aq,Aab,World.cell?_alloc_at _ _ _ _ (by simp)];simpa using hj
 rw [<-aq];have b6:=hid bR;have cf:=hid bT;clear aq bR bT;go_loopw [12] (fun i wr=>∃(k:Nat) (v:Value),k<=gs.length∧i = .int .i64 k∧w.heap.size+3<=wr.heap.size∧agQ w wr (.slice ga gs.length gc) (.slice fa fs.length fc) v (.slice none 0 0)∧Own (w.heap.size+3) wr 52 3 aaO v (gs.take k)) (fun i _=>gs.length - (intOf i).toNat)
 case atStart=>exact⟨0,_,Aaj _,rfl,Nat.le_of_eq cf.out.symm,b6.out,Own.nil _ _ _ _ _⟩
 case round =>
  obtain⟨k,v,hk,rfl,bL,ag,af⟩:=hrel;have aO:=hid ag;have ah:=hid af
  by_cases hkl:k<gs.length
  . obtain⟨b,off,ia,ic,rfl,aM,aw,hd⟩:=ahz (Hg.out.later aar ag.below) hkl
    obtain⟨d0,d1,d2⟩:=aM.get3;have aX:b<wr.heap.size:=aac d0;obtain⟨y,hy⟩:∃y,y=gs[k]:=⟨_,rfl⟩
    rw [<-hy] at d0 d1 d2 aw hd;have Hy:=hid hy;have ck:y.init.length<=1048576:=by rw [hy];exact Sg.out _ (Aaq hkl)
    have bh:=hid aw;have Hd:=hid hd;obtain⟨W1,aG⟩:∃W1,W1=wr.alloc (.cells #[.string y.name,.int .i64 y.size,.slice ia y.init.length ic] 52):=⟨_,rfl⟩
    have kc:aal W1 wr.heap.size 0 [.string y.name,.int .i64 y.size,.slice ia y.init.length ic]:=by
     intro j u hj;rw [aG,Aab,World.cell?_alloc_new];simpa using hj
    have kf:W1.frozen? ⟨wr.heap.size,2,none⟩=false:=by rw [aG];simp
    have cu:W1.heap.size=wr.heap.size+1:=by rw [aG];simp
    have an:Below wr.heap.size wr W1:=by rw [aG];exact bE
    have aA:=hid an;have g3:W1.cell? ⟨w.heap.size+2,0,none⟩=some v:=aab ag.out.get2.1 an;have f3:W1.frozen? ⟨w.heap.size+2,0,none⟩=false:=(an.frozen (p:=⟨w.heap.size+2,0,none⟩) (by dsimp only;omega)).trans (ag.outFree 0);clear ag af aM hy aw hd;go_wp2_with fail;rw [<-aG];refine (afE (S:=S) ia ic y.init W1 (bh.out.later aaw an) ck).mono ?_;rintro e w2 ⟨v',rfl,bx,aD⟩;obtain⟨a',c',rfl⟩:=bx.shape;have b4:=hid bx;have bu:=hid aD;obtain⟨m0,m1,m2⟩:=(kc.later aD).get3;simp only [Aab] at m1 m2;have mf:w2.frozen? ⟨wr.heap.size,2,none⟩=false:=(aD.frozen (p:=⟨wr.heap.size,2,none⟩) (by dsimp only;omega)).trans kf;have n3:=aab g3 aD;have cq:w2.frozen? ⟨w.heap.size+2,0,none⟩=false:=(aD.frozen (p:=⟨w.heap.size+2,0,none⟩) (by dsimp only;omega)).trans f3;have cx:wr.heap.size<w2.heap.size:=aac m0;have cv:w.heap.size+2<wr.heap.size:=by omega
    clear kc kf an bx aD aG d0 d1 d2 g3 f3;go_wp2_with (at_builtin;refine af8 rfl _ _ 22 rfl (w.heap.size+3) 52 ig _ 3 48 Tryz.underlying22 b7 a8 bp bw rfl (by decide) aar v (gs.take k) rfl ?_ ⟨w2.heap.size,0,none⟩ 1 [.string y.name,.int .i64 y.size,.slice a' y.init.length c'] y rfl rfl ?_ ?_ ?_ ?_ (by decide) ?_ ?_)
    . exact ah.out.later aar (by have h:=aA.out;have h2:=bu.out;exact bE2 h2 h)
    . exact aaB _ _ _ (by simp)
    . intro u hu;simp at hu;rcases hu with rfl | rfl | rfl <;> rfl
    . refine⟨_,rfl,b4.out.sub aaw (by decide) (by omega) (fun g hg=>by have:=ah.out.lt g hg;omega) (fun b hb hl=>ae4 _ _ _ _ hl (by dsimp only;omega)) (by simp),Hd.out⟩
    . rw [Aar];omega
    . simp;omega
    . intro v2 w3 au ad g2 bY a6
      have aE:∀B,B<wr.heap.size->some B≠v.ownBlock->w3.heap[B]?=wr.heap[B]?:=fun B h1 h2=>by
       rw [ad.block B (by simp;omega) h2,ae4 _ _ _ _ (by omega) (by dsimp only;omega),bu.out.block B (by omega),aA.out.block B h1]
      have aU:∀B,w.heap.size<=B->B<w.heap.size+3->w3.heap[B]?=wr.heap[B]?:=fun B h1 h2=>aE B (by omega) (fun e=>by have:=(ah.out.lt B e.symm).1;omega);have bK:Below w.heap.size w w3:=by
       refine Below.grown ?_ ad (by simp;omega) (fun g hg=>by have:=(ah.out.lt g hg).1;omega);have h:=aO.out.below;have h1:=aA.out;have h2:=bu.out;exact bE3 h2 h1 h
      have ar:=aO.out.keep bK aU;have n4:w3.cell? ⟨w.heap.size+2,0,none⟩=some v:=ar.out.get2.1;have cn:w3.frozen? ⟨w.heap.size+2,0,none⟩=false:=ar.outFree 0;have bG:=hid (ar.set0 v2);have aR:Hid (Own (w.heap.size+3) (w3.setCell ⟨w.heap.size+2,0,none⟩ v2) 52 3 aaO v2 (gs.take (k+1))):=by
       have e:gs.take (k+1)=gs.take k++[y]:=by rw [Aby hkl,Hy.out]
       show Own _ _ _ _ _ _ _;rw [e];exact au.setLow aar (by dsimp only;omega) _
      have bJ:w2.heap.size<=w3.heap.size:=Aai (by simp) ad.size;subst a6;clear au ad aE aU bK ar;go_wp2_with fail;go_roundw
      case rel=>exact⟨k+1,_,by omega,by go_num,by simp [World.setCell];omega,by have h:=bG.out;(try simp only [Aar,Abt hk] at h);exact h,by have h:=aR.out;(try simp only [Aar,Abt hk] at h);exact h⟩
      case measure=>simp [intOf];omega
  . obtain rfl:k=gs.length:=by omega
    rw [Aa1] at ah;obtain⟨WA,bO⟩:∃WA,WA=wr:=⟨_,rfl⟩
    rw [<-bO] at aO ah bL ⊢;have q1:WA.cell? ⟨w.heap.size,1,none⟩=some (.slice fa fs.length fc):=aO.out.par.get2.2;clear bO ag af;go_wp2_with fail;clear q1
    go_loopw [30] (fun i wr => ∃ (k : Nat) (v2 : Value) (V : Nat -> Pth -> Value), k <= fs.length ∧ i = .int .i64 k ∧ WA.heap.size <= wr.heap.size ∧ agQ w wr (.slice ga gs.length gc) (.slice fa fs.length fc) v v2 ∧ adH wr WA.heap.size v2 (fs.take k) V ∧
     agO (w.heap.size + 3) WA.heap.size wr 52 3 aaO v gs) (fun i _ => fs.length - (intOf i).toNat)
    case atStart=>exact⟨0,_,fun _ _ => .slice none 0 0,Aaj _,rfl,Aac _,aO.out,adH.nil _ _ _,ah.out.inn⟩
    case round =>
     obtain⟨wo,ca⟩:∃wo:World,wo=wr:=⟨_,rfl⟩
     subst ca;obtain⟨k,v2,V,hk,rfl,bD,ag,af,aZ⟩:=hrel;have ai:=hid ag;have ae:=hid af;have aT:=hid aZ
     by_cases hkl:k<fs.length
     . obtain⟨b,off,xa,xc,rfl,aM,aw,cm,bV⟩:=alr (Hf.out.later aaG ag.below) hkl
       obtain⟨d0,d1,d2,d3⟩:=aM.get4;have aX:b<wo.heap.size:=aac d0;obtain⟨y,hy⟩:∃y,fs[k]?=some y:=⟨_,Aaa hkl⟩
       have e9:fs[k]=y:=by rw [Aaa hkl] at hy;exact Option.some.inj hy
       rw [e9] at d0 d1 d2 d3 aw;obtain⟨nm,bm⟩:∃nm,nm=y.name:=⟨_,rfl⟩
       obtain⟨pp,bj⟩:∃pp,pp=y.params:=⟨_,rfl⟩
       obtain⟨rr,bd⟩:∃rr,rr=y.regs:=⟨_,rfl⟩
       obtain⟨bl,be⟩:∃bl,bl=y.blocks.length:=⟨_,rfl⟩
       rw [<-bm] at d0;rw [<-bj] at d1;rw [<-bd] at d2;rw [<-be] at d3 aw;have Hy:=hid hy;have aF:Hid (nm=y.name∧pp=y.params∧rr=y.regs∧bl=y.blocks.length):=⟨bm,bj,bd,be⟩
       have bN:=hid (Sf.out y (Aae hy));have bh:=hid aw;obtain⟨aH,aJ,a6⟩:=af.shape;rw [Aar,Abt hk] at a6;subst a6;have g3:wo.cell? ⟨w.heap.size+2,1,none⟩=some (.slice aH k aJ):=by have h:=ag.out.get2.2;rw [Aab] at h;exact h
       have f3:wo.frozen? ⟨w.heap.size+2,1,none⟩=false:=ag.outFree 1;have zO:=aac g3;clear ag af aZ aM hy aw cm bV e9 bm bj bd be;go_upto_region 11 with (fail)
       obtain⟨BB,bk⟩:∃BB,BB=wo.heap.size:=⟨_,rfl⟩
       obtain⟨W4,a1⟩:∃W4,W4=wo.alloc (.cells #[.string nm,.int .i64 pp,.int .i64 rr,.slice xa bl xc] 37):=⟨_,rfl⟩
       have bI:W4.heap[BB]?=some (.cells #[.string nm,.int .i64 pp,.int .i64 rr,.slice xa bl xc] 37 (0,0)):=by rw [a1,bk];exact heap_alloc_new _ _
       have aL:Below wo.heap.size wo W4:=by rw [a1];exact bE
       rw [<-a1,<-bk];obtain⟨b0,b1,b2,b3⟩:=(aad (cs:=[_,_,_,_]) bI).get4;rw [Aab] at b1 b2 b3;have bS:=aab g3 aL;have b8:=(aL.frozen (p:=⟨w.heap.size+2,1,none⟩) zO).trans f3;have cj:=aac bS;have ct:=aac b0;have bZ:=hid (akQ (S:=S) nm pp rr xa bl xc y.blocks W4.drew (bh.out.later aat aL.drew) aF.out.2.2.2.symm (by rw [aF.out.2.2.2];exact bN.out.blocks) bN.out.each);have ax:=hid aL;clear bk a1 bI aL d0 d1 d2 d3 g3 f3 zO aX
       go_region_law
        ((first
          | (go_simp; go_at_call 29; refine bZ.out.mono ?_; rintro e w5 ⟨V2, rfl, bt, bU⟩
             have ao : Below W4.heap.size W4 w5 := (Below.refl W4.heap.size W4).drew.trans bU
             obtain ⟨bo, a7, aY⟩ := aah.shape (p := .blks) bt trivial
             rw [show (aae y.blocks V2 .blks).length = bl by simp [aae]; exact aF.out.2.2.2.symm] at aY
             rw [aY]
             have k5 := aab bS ao
             have g5 := (ao.frozen (p := ⟨w.heap.size + 2, 1, none⟩) cj).trans b8
             have bP := aac k5
             have cc := hid bt
             have ak := hid ao
             have HX : Hid (V2 .blks = .slice bo bl a7) := aY
             clear bt bU ao aY)
          | (refine adf rfl _ _ 23 rfl WA.heap.size 37 bX (.agg #[.string ⟨#[]⟩, .int .i64 0, .int .i64 0, .slice none 0 0]) 4 56 Tryz.underlying23 b5 bf bB bn rfl (by decide) (.slice aH k aJ) k ((fs.take k).mapIdx fun k f => abT f (V k .blks)).flatten rfl ?_ ⟨w5.heap.size, 0, none⟩ 1 1 [.string nm, .int .i64 pp, .int .i64 rr, .slice bo bl a7] rfl rfl ?_ ?_ ?_ ?_ ?_ ?_
             . have h := ae.out.row.own
               rw [show ((fs.take k).mapIdx fun k f => abT f (V k .blks)).length = k by simp; omega] at h
               exact aan (aan h (ax.out.trans (ak.out.mono ax.out.size))) bE
             . intro m u hu; exact aaB w5 _ _ rfl m u hu
             . intro u hu; simp only [Aam, Aao, or_false] at hu; rcases hu with rfl | rfl | rfl | rfl <;> rfl
             . unfold maxLen; omega
             . omega
             . have := ax.out.size; have := ak.out.size; simp; omega
             intro v9 w9 al ad aW
             obtain ⟨bq, bH, rfl⟩ := aao al
             have cp : w5.heap.size <= w9.heap.size := Aai (by simp) ad.size
             have bF : ∀ c, (Value.slice aH k aJ).ownBlock = some c -> WA.heap.size <= c := fun c hc => (ae.out.lt.1 c hc).1
             have aj : ∀ c, c < w5.heap.size -> (Value.slice aH k aJ).ownBlock ≠ some c -> w9.heap[c]? = w5.heap[c]? := fun c h1 h2 => (ad.block c (by simp; omega) (fun e => h2 e.symm)).trans (Below.heap_alloc w5 _ _ h1)
             have bQ : (Value.slice aH k aJ).ownBlock ≠ some (w.heap.size + 2) := fun e => by have := bF _ e; omega
             have k9 := (World.cell?_of_block (w := w5) (a := ⟨w.heap.size + 2, 1, none⟩) (aj _ bP bQ)).trans k5
             have g9 := (World.frozen?_of_block (w := w5) (a := ⟨w.heap.size + 2, 1, none⟩) (aj _ bP bQ)).trans g5
             have cr := aac k9
             have aN := hid al
             have ay := hid ad
             have bz := hid aW
             have aI := hid aj
             have aP := hid bF
             clear al ad aW aj bF)))
       all_goals
        have bJ:=ax.out.size;have cw:=ak.out.size
        have av := ae.out.next (v' := .slice bq (k + 1) bH) Hy.out (ax.out.trans (ak.out.mono ax.out.size)) cc.out bJ bD (Below.alloc (Below.refl _ _) (Aac _) (.cells #[.string nm, .int .i64 pp, .int .i64 rr, .slice bo bl a7] 37)) (by
         rw [HX.out]
         unfold abT
         rw [<- aF.out.1, <- aF.out.2.1, <- aF.out.2.2.1]
         exact aN.out) ay.out (by rcases bz.out with h | h; exact .inl h; exact .inr (h.trans (by simp)))
        have aE:∀c,c<WA.heap.size->w9.heap[c]?=wo.heap[c]?:=fun c hc=>(aI.out c (by omega) (fun e=>by have:=aP.out c e;omega)).trans ((ak.out.block c (by omega)).trans (ax.out.block c (by omega)));have aX:Below w.heap.size w w9:=by
         refine Below.grown ?_ ay.out (by have:=ai.out.below.size;simp;omega) (fun c hc=>by have:=aP.out c hc;omega);have h:=(ai.out.below.trans (ax.out.mono ai.out.below.size)).trans (ak.out.mono (by have:=ai.out.below.size;omega));exact h.alloc h.size _
        have aK:=ai.out.keep aX (fun b h1 h2=>aE b (by omega));have aS:=hid av;have bC:=hid (aK.set1 (.slice bq (k+1) bH));have bg:Hid (agO (w.heap.size+3) WA.heap.size (w9.setCell ⟨w.heap.size+2,1,none⟩ (.slice bq (k+1) bH)) 52 3 aaO v gs):=aT.out.kept aar (fun b h1 h2=>(Below.heap_setCell w9 ⟨w.heap.size+2,1,none⟩ _ b (by dsimp only;omega)).trans (aE b h2));clear av aE aX aK k5 g5;go_wp2_with fail;go_roundw
        case rel=>exact⟨k+1,_,_,by omega,by go_num,by simp [World.setCell];omega,bC.out,aS.out.setLow (by dsimp only;omega) _,bg.out⟩
        case measure=>simp [intOf];omega
     . obtain rfl:k=fs.length:=by omega
       rw [Aa1] at ae;obtain⟨go,aC,b9⟩:=aZ.shape;obtain⟨fo,az,cb⟩:=ae.out.shape;subst b9 cb;obtain⟨b0,b1⟩:=ag.out.get2;obtain⟨o0,o1⟩:=ag.res.get2;rw [Aab] at b1 o1;have y0:=ag.resFree 0;have y1:=ag.resFree 1;have bW:w.heap.size+2<wo.heap.size:=aac b0;clear ag af aZ;go_wp2_with fail;have aB:=asV (u0 := .slice go gs.length aC) (u1 := .slice fo fs.length az) ai.out.res;obtain⟨h0,h1⟩:=aB.get2;rw [Aab] at h1;obtain⟨W5,aQ⟩:∃W5,W5=((wo.setCell ⟨w.heap.size+1,0,none⟩ (.slice go gs.length aC)).setCell ⟨w.heap.size+1,1,none⟩ (.slice fo fs.length az)):=⟨_,rfl⟩
       rw [<-aQ] at h0 h1 ⊢;have hle:w.heap.size<=w.heap.size+1:=Nat.le_succ _;have bM:w.heap.size+1<WA.heap.size:=by omega
       have bA:Below w.heap.size w W5:=by
        rw [aQ];exact (ai.out.below.setCell (p:=⟨w.heap.size+1,0,none⟩) hle _).setCell (p:=⟨w.heap.size+1,1,none⟩) hle _
       have aV:adH W5 WA.heap.size (.slice fo fs.length az) fs V:=by
        rw [aQ];exact (ae.out.setLow (a:=⟨w.heap.size+1,0,none⟩) bM _).setLow (a:=⟨w.heap.size+1,1,none⟩) bM _
       have br:agO (w.heap.size+3) WA.heap.size W5 52 3 aaO (.slice go gs.length aC) gs:=by
        refine aT.out.kept aar (fun b h1 h2=>?_);rw [aQ,Below.heap_setCell _ _ _ _ (by dsimp only;omega),Below.heap_setCell _ _ _ _ (by dsimp only;omega)]
       have cg:W5.heap.size=wo.heap.size:=by rw [aQ];simp [World.setCell]
       refine bodyPost_ret (v := .agg #[.slice go gs.length aC,.slice fo fs.length az]) ?_ rfl ⟨_,_,_,_,WA.heap.size,V,rfl,bL,by omega,br,aV,bA⟩;simp [results,Tryz.results15,go_sem,h0,h1]
end Go.Proofs.YtpeejlpcikefcaaGreatDoor
