import Derived.Test.YtpeejlpcikefcaaGreatDoorPMmFew
/- turneryref5.PureEnds: may an instruction end a run? MemOnce: the law's walk. -/
set_option maxHeartbeats 8000000
set_option maxRecDepth 100000
namespace Go.Proofs.YtpeejlpcikefcaaGreatDoor
section
open Go.RowKit Go.Sort
theorem akH {S:Nat->Prop}(ga fa:Option Addr)(gc fn fc:Nat)(gs:List aaF)(N:Int)(op dst an bn yf:Int)(ar br:Bool)(sa:Option Addr)(sl sc:Nat)(w:World)(hg:SlAt S w 3 aaO (.slice ga gs.length gc) gs)(bz:gs.length<=10)(aU:∀g∈gs,0<=g.size∧g.size<=200)(hN:wordsUp gs gs.length=N) :
 Calls Tryz.prog 14 #[.agg #[.slice ga gs.length gc,.slice fa fn fc],.agg #[.int .i64 op,.int .i64 dst,.bool ar,.int .i64 an,.bool br,.int .i64 bn,.int .i64 yf,.slice sa sl sc]] w fun e w'=>e = .returned (.bool (acY N op ar an br bn))∧Below w.heap.size w w':=by
 have cu:=hid aU;have HN:=hid hN;obtain⟨W,hW⟩:∃W,W=(w.alloc (.cells #[.slice ga gs.length gc,.slice fa fn fc] 25)).alloc (.cells #[.int .i64 op,.int .i64 dst,.bool ar,.int .i64 an,.bool br,.int .i64 bn,.int .i64 yf,.slice sa sl sc] 49):=⟨_,rfl⟩
 obtain⟨bk,a6,aA⟩:=abE w (.cells #[.slice ga gs.length gc,.slice fa fn fc] 25) (.cells #[.int .i64 op,.int .i64 dst,.bool ar,.int .i64 an,.bool br,.int .i64 bn,.int .i64 yf,.slice sa sl sc] 49);rw [<-hW] at bk a6 aA;have az:Below w.heap.size w W:=by rw [hW];exact bE
 have b6:Hid (∀m d os,CallsIn Fence.wide m Tryz.prog 27 #[.agg #[.slice ga gs.length gc,.slice fa fn fc]] (grow (redrawn W d) os) fun e cC=>e = .returned (.int .i64 N)∧∃p:Regrown,cC=grow (redrawn W p.d) p.os):=fun m d os=>by
  have hb:=below_regrown W d os;have h:=al0 (S:=S) ga fa gc fn fc gs (grow (redrawn W d) os) (hg.later aar (az.trans (hb.mono az.size))) bz cu.out;rw [HN.out] at h;exact CallsIn.regrown_of (callsIn_wide (n:=m).2 h)
 obtain⟨UB,aL⟩:∃UB,UB=w.heap.size:=⟨_,rfl⟩
 obtain⟨XB,aP⟩:∃XB,XB=w.heap.size+1:=⟨_,rfl⟩
 rw [<-aL] at a6;rw [<-aP] at aA;obtain⟨u0,u1⟩:=(aad (cs:=[_,_]) a6).get2;obtain⟨x0,x1,x2,x3,x4,x5,x6,x7⟩:=(aad (cs:=[_,_,_,_,_,_,_,_]) aA).get8;rw [Aab] at u1 x1 x2 x3 x4 x5 x6 x7;have zU:=aac u0;have zX:=aac x0;have k0:=cell_regrown u0;have k1:=cell_regrown u1;have k2:=cell_regrown x0;have k3:=cell_regrown x1;have k4:=cell_regrown x2;have k5:=cell_regrown x3;have k6:=cell_regrown x4;have k7:=cell_regrown x5;have k8:=cell_regrown x6;have k9:=cell_regrown x7;have af:=hid az;have HW:Hid (W=(w.alloc (.cells #[.slice ga gs.length gc,.slice fa fn fc] 25)).alloc (.cells #[.int .i64 op,.int .i64 dst,.bool ar,.int .i64 an,.bool br,.int .i64 bn,.int .i64 yf,.slice sa sl sc] 49)∧UB=w.heap.size∧XB=w.heap.size+1):=⟨hW,aL,aP⟩
 clear aU hN hg hW bk a6 aA az aL aP;go_enter Tryz.func14,Tryz.ntmps14;go_upto_region 1 with (fail)
 rw [<-HW.out.1,<-HW.out.2.2,<-HW.out.2.1];clear HW
 by_cases h5:op=5
 . subst h5
   by_cases hv:br=true
   . subst hv
     have Hr:Hid (acY N 5 ar an true bn=true):=by show _=_;unfold acY;simp
     go_wp2_with fail;go_ret;exact⟨aaP Hr.out.symm,af.out⟩
   . have aK:br=false:=by simpa using hv
     subst aK
     by_cases hb:bn=0
     . subst hb
       have Hr:Hid (acY N 5 ar an false 0=true):=by show _=_;unfold acY;simp
       clear hv;go_wp2_with fail;go_ret;exact⟨aaP Hr.out.symm,af.out⟩
     . have Hr:Hid (acY N 5 ar an false bn=false):=by show _=_;unfold acY;simp [hb]
       have q0:(decide (bn<=0)&&decide (0<=bn))=false:=abI hb;clear hb hv;go_wp2_with fail;go_ret;exact⟨aaP Hr.out.symm,af.out⟩
 . have q5:(decide (op<=5)&&decide (5<=op))=false:=abI h5
   by_cases h6:op=6
   . subst h6
     clear h5 q5
     by_cases hv:br=true
     . subst hv
       have Hr:Hid (acY N 6 ar an true bn=true):=by show _=_;unfold acY;simp
       go_wp2_with fail;go_ret;exact⟨aaP Hr.out.symm,af.out⟩
     . have aK:br=false:=by simpa using hv
       subst aK
       by_cases hb:bn=0
       . subst hb
         have Hr:Hid (acY N 6 ar an false 0=true):=by show _=_;unfold acY;simp
         clear hv;go_wp2_with fail;go_ret;exact⟨aaP Hr.out.symm,af.out⟩
       . have Hr:Hid (acY N 6 ar an false bn=false):=by show _=_;unfold acY;simp [hb]
         have q0:(decide (bn<=0)&&decide (0<=bn))=false:=abI hb;clear hb hv;go_wp2_with fail;go_ret;exact⟨aaP Hr.out.symm,af.out⟩
   . have q6:(decide (op<=6)&&decide (6<=op))=false:=abI h6
     by_cases ak:op=18
     . subst ak
       clear h5 h6 q5 q6
       by_cases hv:ar=true
       . subst hv
         have Hr:Hid (acY N 18 true an br bn=true):=by show _=_;unfold acY;simp
         go_wp2_with fail;refine aaM (by kernel_rfl) (by kernel_rfl) ?_
         repeat (gi_big_quiet_step (fail))
         refine wpQuietIn_step (fun _ _ _ _=>trivial) (fun K hK=>?_);go_simp;refine hK _ ?_;clear hK K
         repeat (gi_big_quiet_step (fail))
         refine wpQuietIn_nil ?_;intro W7 ag;obtain⟨rg,ad⟩:=ag;have ae:Below W.heap.size W W7:=by rw [ad];exact below_regrown _ _ _
         have aj:Below w.heap.size w W7:=af.out.trans (ae.mono af.out.size);have aw:=hid aj;clear ad ae aj k0 k1 k2 k3 k4 k5 k6 k7 k8 k9;go_wp2_with fail;go_ret;exact⟨aaP Hr.out.symm,aw.out⟩
       . have aK:ar=false:=by simpa using hv
         subst aK;clear hv
         by_cases ha:an<0
         . have Hr:Hid (acY N 18 false an br bn=true):=by show _=_;unfold acY;simp [ha]
           have qa:decide (an<0)=true:=decide_eq_true ha;clear ha;go_wp2_with fail;refine aaM (by kernel_rfl) (by kernel_rfl) ?_
           repeat (gi_big_quiet_step (fail))
           refine wpQuietIn_step (fun _ _ _ _=>trivial) (fun K hK=>?_);go_simp;refine hK _ ?_;clear hK K
           repeat (gi_big_quiet_step (fail))
           refine wpQuietIn_nil ?_;intro W7 ag;obtain⟨rg,ad⟩:=ag;have ae:Below W.heap.size W W7:=by rw [ad];exact below_regrown _ _ _
           have aj:Below w.heap.size w W7:=af.out.trans (ae.mono af.out.size);have aw:=hid aj;clear ad ae aj k0 k1 k2 k3 k4 k5 k6 k7 k8 k9;go_wp2_with fail;go_ret;exact⟨aaP Hr.out.symm,aw.out⟩
         . have qa:decide (an<0)=false:=decide_eq_false ha
           have Hr:Hid (acY N 18 false an br bn=decide (N<=an)):=by show _=_;unfold acY;simp [ha]
           clear ha;go_wp2_with fail;refine aaM (by kernel_rfl) (by kernel_rfl) ?_
           repeat (gi_big_quiet_step (fail))
           refine wpQuietIn_step (fun _ _ _ _=>trivial) (fun K hK=>?_);go_simp;refine⟨_,fun _=>b6.out _ _ _,hK _ ?_⟩;clear hK K
           repeat (gi_big_quiet_step (fail))
           refine wpQuietIn_nil ?_;intro W7 ag;obtain⟨rg,ad⟩:=ag;have ae:Below W.heap.size W W7:=by rw [ad];exact below_regrown _ _ _
           have aj:Below w.heap.size w W7:=af.out.trans (ae.mono af.out.size);have aw:=hid aj;clear ad ae aj k0 k1 k2 k3 k4 k5 k6 k7 k8 k9;go_wp2_with fail;go_ret;exact⟨aaP Hr.out.symm,aw.out⟩
     . have cz:(decide (op<=18)&&decide (18<=op))=false:=abI ak
       by_cases av:op=19
       . subst av
         clear h5 h6 ak q5 q6 cz
         by_cases hv:ar=true
         . subst hv
           have Hr:Hid (acY N 19 true an br bn=true):=by show _=_;unfold acY;simp
           go_wp2_with fail;refine aaM (by kernel_rfl) (by kernel_rfl) ?_
           repeat (gi_big_quiet_step (fail))
           refine wpQuietIn_step (fun _ _ _ _=>trivial) (fun K hK=>?_);go_simp;refine hK _ ?_;clear hK K
           repeat (gi_big_quiet_step (fail))
           refine wpQuietIn_nil ?_;intro W7 ag;obtain⟨rg,ad⟩:=ag;have ae:Below W.heap.size W W7:=by rw [ad];exact below_regrown _ _ _
           have aj:Below w.heap.size w W7:=af.out.trans (ae.mono af.out.size);have aw:=hid aj;clear ad ae aj k0 k1 k2 k3 k4 k5 k6 k7 k8 k9;go_wp2_with fail;go_ret;exact⟨aaP Hr.out.symm,aw.out⟩
         . have aK:ar=false:=by simpa using hv
           subst aK;clear hv
           by_cases ha:an<0
           . have Hr:Hid (acY N 19 false an br bn=true):=by show _=_;unfold acY;simp [ha]
             have qa:decide (an<0)=true:=decide_eq_true ha;clear ha;go_wp2_with fail;refine aaM (by kernel_rfl) (by kernel_rfl) ?_
             repeat (gi_big_quiet_step (fail))
             refine wpQuietIn_step (fun _ _ _ _=>trivial) (fun K hK=>?_);go_simp;refine hK _ ?_;clear hK K
             repeat (gi_big_quiet_step (fail))
             refine wpQuietIn_nil ?_;intro W7 ag;obtain⟨rg,ad⟩:=ag;have ae:Below W.heap.size W W7:=by rw [ad];exact below_regrown _ _ _
             have aj:Below w.heap.size w W7:=af.out.trans (ae.mono af.out.size);have aw:=hid aj;clear ad ae aj k0 k1 k2 k3 k4 k5 k6 k7 k8 k9;go_wp2_with fail;go_ret;exact⟨aaP Hr.out.symm,aw.out⟩
           . have qa:decide (an<0)=false:=decide_eq_false ha
             have Hr:Hid (acY N 19 false an br bn=decide (N<=an)):=by show _=_;unfold acY;simp [ha]
             clear ha;go_wp2_with fail;refine aaM (by kernel_rfl) (by kernel_rfl) ?_
             repeat (gi_big_quiet_step (fail))
             refine wpQuietIn_step (fun _ _ _ _=>trivial) (fun K hK=>?_);go_simp;refine⟨_,fun _=>b6.out _ _ _,hK _ ?_⟩;clear hK K
             repeat (gi_big_quiet_step (fail))
             refine wpQuietIn_nil ?_;intro W7 ag;obtain⟨rg,ad⟩:=ag;have ae:Below W.heap.size W W7:=by rw [ad];exact below_regrown _ _ _
             have aj:Below w.heap.size w W7:=af.out.trans (ae.mono af.out.size);have aw:=hid aj;clear ad ae aj k0 k1 k2 k3 k4 k5 k6 k7 k8 k9;go_wp2_with fail;go_ret;exact⟨aaP Hr.out.symm,aw.out⟩
       . have cM:(decide (op<=19)&&decide (19<=op))=false:=abI av
         have Hr:Hid (acY N op ar an br bn=false):=by show _=_;unfold acY;rw [if_neg (by omega),if_neg (by omega)]
         clear h5 h6 ak av;go_wp2_with fail;go_ret;exact⟨aaP Hr.out.symm,af.out⟩
end
section
open Go.RowKit Go.Sort
def arO(ys:List aaJ)(m:Nat)(lv:Int)(L:Option aaJ):Prop:=(lv = -1∧L=none)∨∃j,∃h:j<ys.length,j<m∧lv=(j:Int)∧L=some ys[j]
def aqZ(N:Int)(ys:List aaJ)(m:Nat)(s:Value):Prop:=∃lv L,s = .int .i64 lv∧arO ys m lv L∧adk N L (ys.drop m)=true
theorem aqZ.step {N:Int}{ys:List aaJ}{m:Nat}{s:Value}(h:aqZ N ys m s)(hm:m<ys.length) :
 ((ys[m].op=18∨ys[m].op=19)∧aqZ N ys (m+1) (.int .i64 m)∧(s = .int .i64 (-1)∨∃j,∃hj:j<ys.length,j<m∧s = .int .i64 j∧adu ys[j] ys[m]=false)) ∨
 (¬ys[m].op=18∧¬ys[m].op=19∧20<=ys[m].op∧aqZ N ys (m+1) (.int .i64 (-1))) ∨
 (¬ys[m].op=18∧¬ys[m].op=19∧ys[m].op<20∧ag2 N ys[m]=true∧aqZ N ys (m+1) (.int .i64 (-1))) ∨
 (¬ys[m].op=18∧¬ys[m].op=19∧ys[m].op<20∧ag2 N ys[m]=false∧aqZ N ys (m+1) s):=by
 obtain⟨lv,L,rfl,hL,ho⟩:=h;rw [List.drop_eq_getElem_cons hm,aeT] at ho
 by_cases ha:ys[m].op=18∨ys[m].op=19
 . rw [if_pos ha] at ho
   refine .inl ⟨ha,⟨m,some ys[m],rfl,.inr ⟨m,hm,Nat.lt_succ_self m,rfl,rfl⟩,?_⟩,?_⟩
   . cases L with
     | none=>exact ho
     | some z =>
       dsimp only at ho
       by_cases hc:adu z ys[m]=true
       . rw [if_pos hc] at ho;cases ho
       . rw [if_neg hc] at ho;exact ho
   . rcases hL with⟨rfl,-⟩ | ⟨j,hj,hjm,rfl,rfl⟩
     . exact .inl rfl
     . refine .inr ⟨j,hj,hjm,rfl,?_⟩
       dsimp only at ho
       by_cases hc:adu ys[j] ys[m]=true
       . rw [if_pos hc] at ho;cases ho
       . simpa using hc
 . rw [if_neg ha] at ho
   have ak:¬ys[m].op=18:=fun h=>ha (.inl h);have av:¬ys[m].op=19:=fun h=>ha (.inr h);have keep:arO ys (m+1) lv L:=by
    rcases hL with h | ⟨j,hj,hjm,h1,h2⟩
    . exact .inl h
    . exact .inr ⟨j,hj,by omega,h1,h2⟩
   by_cases h20:20<=ys[m].op
   . rw [if_pos (.inl h20)] at ho
     exact .inr (.inl ⟨ak,av,h20,-1,none,rfl,.inl ⟨rfl,rfl⟩,ho⟩)
   . by_cases hm2:ag2 N ys[m]=true
     . rw [if_pos (.inr hm2)] at ho
       exact .inr (.inr (.inl ⟨ak,av,by omega,hm2,-1,none,rfl,.inl ⟨rfl,rfl⟩,ho⟩))
     . rw [if_neg (fun h=>h.elim h20 hm2)] at ho
       exact .inr (.inr (.inr ⟨ak,av,by omega,by simpa using hm2,lv,L,rfl,keep,ho⟩))
theorem alN (w : World) (hw : ae1 w) (ga : Option Addr) (gc : Nat) (fa : Option Addr) (fc : Nat) (gs : List aaF) (fs : List aaz) (hg : SlAt (fun b => b < w.heap.size) w 3 aaO (.slice ga gs.length gc) gs) (hf : SlAt (fun b => b < w.heap.size) w 4 abD (.slice fa fs.length fc) fs)
 (be:ait gs fs) :
 Calls Tryz.prog 5 #[.agg #[.slice ga gs.length gc,.slice fa fs.length fc]] w fun e w'=>e = .returned (.bool true)∧Below w.heap.size w w':=by
 have aJ:=hid (aln (gs:=gs) hf);have bz:=be.globals;have cB:=be.funcs;have Hg:=hid hg;have Hf:=hid hf;have Hw:=hid hw;have cb:=hid be;clear hg hf hw be;go_enter Tryz.func5,Tryz.ntmps5;obtain⟨W,hW⟩:∃W,W=(w.alloc (.cells #[.slice ga gs.length gc,.slice fa fs.length fc] 25)):=⟨_,rfl⟩
 have az:Below w.heap.size w W:=by rw [hW];exact bE
 have h0:W.heap[w.heap.size]?=some (.cells #[.slice ga gs.length gc,.slice fa fs.length fc] 25 (0,0)):=by rw [hW];exact heap_alloc_new _ _
 have bk:W.heap.size=w.heap.size+1:=by rw [hW];simp
 go_upto_region 1 with (fail)
 rw [<-hW];obtain⟨UB,aL⟩:∃UB,UB=w.heap.size:=⟨_,rfl⟩
 rw [<-aL] at h0 ⊢;have cI:Hid (UB=w.heap.size∧W.heap.size=UB+1):=⟨aL,by omega⟩
 have af:=hid az;have H0:Hid (∀V,Below W.heap.size W V->V.cell? ⟨UB,0,none⟩=some (.slice ga gs.length gc)∧V.cell? ⟨UB,1,none⟩=some (.slice fa fs.length fc)):=fun V hV=>by
  have h1:=(hV.block UB (by omega)).trans h0;obtain⟨c0,c1⟩:=(aad (cs:=[_,_]) h1).get2;rw [Aab] at c1;exact⟨c0,c1⟩
 obtain⟨c0,c1⟩:=H0.out W (Below.refl _ _);have zB:UB<W.heap.size:=aac c0;have bY:=asD (S:=fun b=>b<w.heap.size) ga gc fa fc gs fs W (Hg.out.later aar az) (Hf.out.later aaG az) (ae1.below Hw.out az) (fun b hb=>by omega) cb.out;have b7:=hid bY;clear hW bk aL az h0 bY;go_upto_region 2 with (go_at_call 7;refine b7.out.mono ?_;rintro e w1 ⟨va,vn,vc,wa,wn,wc,c,d,rfl,b3,aF⟩;have bJ:=hid b3;have ao:=hid aF;clear b3 aF)
 obtain⟨W2,bG⟩:∃W2,W2=(w1.alloc (.cells #[.slice va vn vc,.slice wa wn wc] 25)).alloc (.cells #[.int .i64 c,.int .i64 d] 27):=⟨_,rfl⟩
 obtain⟨cj,bh,aA⟩:=abE w1 (.cells #[.slice va vn vc,.slice wa wn wc] 25) (.cells #[.int .i64 c,.int .i64 d] 27);rw [<-bG] at cj bh aA ⊢;have bu:Below w1.heap.size w1 W2:=by rw [bG];exact bE
 have cq:Hid (Below W.heap.size W W2):=bJ.out.trans (bu.mono bJ.out.size);have aC:=hid bu;have bM:Hid (Below w.heap.size w W2):=af.out.trans (cq.out.mono af.out.size);obtain⟨VB,b4⟩:∃VB,VB=w1.heap.size:=⟨_,rfl⟩
 obtain⟨FB,bZ⟩:∃FB,FB=w1.heap.size+1:=⟨_,rfl⟩
 rw [<-bZ] at aA ⊢;rw [<-b4] at bh ⊢;have bI:Hid (∀V,Below W2.heap.size W2 V->V.cell? ⟨VB,0,none⟩=some (.slice va vn vc)∧V.cell? ⟨VB,1,none⟩=some (.slice wa wn wc)∧V.cell? ⟨FB,0,none⟩=some (.int .i64 c)∧V.cell? ⟨FB,1,none⟩=some (.int .i64 d)):=fun V hV=>by
  obtain⟨v0,v1⟩:=(aad (cs:=[_,_]) ((hV.block VB (by omega)).trans bh)).get2;obtain⟨x0,x1⟩:=(aad (cs:=[_,_]) ((hV.block FB (by omega)).trans aA)).get2;rw [Aab] at v1 x1;exact⟨v0,v1,x0,x1⟩
 obtain⟨v0,v1,x0,x1⟩:=bI.out W2 (Below.refl _ _);have cG:VB<W2.heap.size:=aac v0;have cL:FB<W2.heap.size:=aac x0;clear bG cj bh aA bu b4 bZ c0 c1 zB
 by_cases hc0:c=0
 . obtain⟨rfl,rfl,rfl,bx,bW,b9⟩:d=0∧vn=gs.length∧wn=fs.length∧Hid (agT ⟨gs,fs⟩=(0,0))∧Hid (SlAt (iv W.heap.size w1.heap.size) w1 3 aaO (.slice va vn vc) gs)∧Hid (SlAt (iv W.heap.size w1.heap.size) w1 4 abD (.slice wa wn wc) (memFs gs fs)):=by
    rcases ao.out with h | h
    . exact absurd hc0 h.1
    . exact⟨h.2.1,h.2.2.1,h.2.2.2.1,h.2.2.2.2.1,h.2.2.2.2.2.1,h.2.2.2.2.2.2⟩
   subst hc0;have k1:=alM bx.out aJ.out;have bl:=(alK bx.out).1;obtain⟨aO,a1,-,-⟩:=agM (u:=⟨gs,memFs gs fs⟩) (by rw [k1]);dsimp only at aO a1;have aU:∀g∈gs,0<=g.size∧g.size<=200:=fun g hg=>⟨(a1 g hg).1,(a1 g hg).2.1⟩
   obtain⟨-,s2⟩:=ab9 (u:=⟨gs,memFs gs fs⟩) k1;dsimp only at s2;have aY:0<fs.length:=ai9 (u:=⟨gs,fs⟩) bl;have bF:∀f∈memFs gs fs,∀x∈f.blocks,adk (wordsUp gs gs.length) none x.list=true:=ao8 bl aJ.out (wordsUp gs gs.length);obtain⟨N,hN⟩:∃N,wordsUp gs gs.length=N:=⟨_,rfl⟩
   rw [hN] at bF;have hlen:=apf gs fs;obtain⟨FS,bO⟩:∃FS,memFs gs fs=FS:=⟨_,rfl⟩
   have aB:=b9.out;rw [bO] at aB hlen s2;have aS:∀f∈FS,∀x∈f.blocks,adk N none x.list=true:=by rw [<-bO];exact bF
   obtain⟨fn,bA⟩:∃fn,fs.length=fn:=⟨_,rfl⟩
   rw [bA] at aB hlen aY v1 ⊢;have aN:Hid (∀V,Below W2.heap.size W2 V->V.cell? ⟨VB,0,none⟩=some (.slice va gs.length vc)∧V.cell? ⟨VB,1,none⟩=some (.slice wa fn wc)):=fun V hV=>by
    obtain⟨a,b,-,-⟩:=bI.out V hV;rw [bA] at b;exact⟨a,b⟩
   have HV:Hid (∀V,Below W2.heap.size W2 V->SlAt (iv W.heap.size w1.heap.size) V 4 abD (.slice wa fn wc) FS):=fun V hV=>aB.later aaG (aC.out.trans (hV.mono aC.out.size));have HP:Hid (∀V,Below W2.heap.size W2 V->∀(op dst an bn yf:Int) (ar br:Bool) (sa:Option Addr) (sl sc:Nat),Calls Tryz.prog 14 #[.agg #[.slice va gs.length vc,.slice wa fn wc],.agg #[.int .i64 op,.int .i64 dst,.bool ar,.int .i64 an,.bool br,.int .i64 bn,.int .i64 yf,.slice sa sl sc]] V fun e w'=>e = .returned (.bool (acY N op ar an br bn))∧Below V.heap.size V w'):=fun V hV op dst an bn yf ar br sa sl sc =>
    akH (S:=iv W.heap.size w1.heap.size) va wa vc fn wc gs N op dst an bn yf ar br sa sl sc V (bW.out.later aar (aC.out.trans (hV.mono aC.out.size))) aO aU hN
   have HS:Hid (∀f∈FS,f.blocks.length<=1048576∧∀x∈f.blocks,x.list.length<=1048576):=fun f hf=>⟨(s2 f hf).blocks,fun x hx=>((s2 f hf).each x hx).list⟩
   have HO:Hid (∀f∈FS,∀x∈f.blocks,adk N none x.list=true):=aS;have b5:fn<=1048576:=by
    obtain⟨-,ct,-⟩:=acm (u:=⟨gs,fs⟩) (by rw [bl]);dsimp only at ct;omega
   have cg:¬((fn:Int)=0):=by omega
   have cr:decide (fn=0)=false:=decide_eq_false (by omega);have bP:=hid hlen;clear ao k1 bl aO a1 aU s2 bF hN bO aB aS bA hlen bI b9 bW bx b7 Hg Hf cb aJ H0 bJ bz cB;go_wp2_with fail;go_loopw [5] (fun s5 wr=>∃k:Nat,k<=fn∧s5 = .int .i64 k∧Below W2.heap.size W2 wr) (fun s5 _=>fn - (intOf s5).toNat)
   case atStart=>exact⟨0,Aaj _,rfl,Below.refl _ _⟩
   case round =>
    obtain⟨k,hk,rfl,hb⟩:=hrel;have Hb:=hid hb;obtain⟨v0,v1⟩:=aN.out wr hb;have zV:=aac v0
    by_cases hkl:k<fn
    . have a7:k<FS.length:=by rw [bP.out];exact hkl
      obtain⟨fb,bw,xa,xc,rfl,aE,bo,-,-⟩:=alr (HV.out wr hb) a7;obtain⟨-,-,-,c3⟩:=aE.get4;have zf:=aac c3;obtain⟨bs,aZ⟩:∃bs,bs=FS[k].blocks:=⟨_,rfl⟩
      have ck:bs.length<=1048576:=by rw [aZ];exact (HS.out _ (Aaq a7)).1
      have cv:Hid (∀x∈bs,x.list.length<=1048576):=by rw [aZ];exact (HS.out _ (Aaq a7)).2
      have cD:Hid (∀x∈bs,adk N none x.list=true):=by rw [aZ];exact HO.out _ (Aaq a7)
      rw [<-aZ] at c3 bo;obtain⟨aQ,bL⟩:∃m,bs.length=m:=⟨_,rfl⟩
      rw [bL] at c3 bo ck;have cx:=hid bL;have HX:Hid (∀V,Below wr.heap.size wr V->SlAt (iv W.heap.size w1.heap.size) V 6 aa0 (.slice xa aQ xc) bs):=fun V hV=>bo.later aat hV;have bS:Hid (∀V,Below wr.heap.size wr V->V.cell? ⟨fb,bw+k * 4+3,none⟩=some (.slice xa aQ xc)):=fun V hV=>aab c3 hV;obtain⟨wo,cc⟩:∃wo:World,wo=wr:=⟨_,rfl⟩
      rw [<-cc] at hb Hb v0 v1 c3 zV zf HX bS ⊢;clear aE bo aZ bL hb cc;go_wp2_with fail;go_loopw [6] (fun s6 wr=>∃b:Nat,b<=aQ∧s6 = .int .i64 b∧Below wo.heap.size wo wr) (fun s6 _=>aQ - (intOf s6).toNat)
      case atStart=>exact⟨0,Aaj _,rfl,Below.refl _ _⟩
      case round =>
       obtain⟨b,cN,rfl,hb⟩:=hrel;have aI:=hid hb;have c3:=bS.out wr hb;obtain⟨v0,v1⟩:=aN.out wr (Hb.out.trans (hb.mono Hb.out.size));have zV:=aac v0;have zf:=aac c3
       by_cases hbl2:b<aQ
       . have bQ:b<bs.length:=by rw [cx.out];exact hbl2
         obtain⟨xb,cw,pa,pc,la,lc,ta,tc,rfl,aE,-,hl,-,-,-⟩:=amg (HX.out wr hb) bQ;obtain⟨-,d1,-⟩:=aE.get6;have zx:=aac d1;obtain⟨ys,bd⟩:∃ys,ys=bs[b].list:=⟨_,rfl⟩
         have cy:ys.length<=1048576:=by rw [bd];exact cv.out _ (Aaq bQ)
         have cm:aqZ N ys 0 (.int .i64 (-1)):=⟨-1,none,rfl,.inl ⟨rfl,rfl⟩,by rw [bd];exact cD.out _ (Aaq bQ)⟩
         rw [<-bd] at d1 hl;obtain⟨yn,bt⟩:∃m,ys.length=m:=⟨_,rfl⟩
         rw [bt] at d1 hl cy;have cA:=hid bt;have HL:Hid (∀V,Below wr.heap.size wr V->SlAt (iv W.heap.size w1.heap.size) V 8 acb (.slice la yn lc) ys):=fun V hV=>hl.later aax hV;have aW:Hid (Below W2.heap.size W2 wr):=Hb.out.trans (hb.mono Hb.out.size);obtain⟨wp,b8⟩:∃wp:World,wp=wr:=⟨_,rfl⟩
         rw [<-b8] at hb aI c3 v0 v1 zV zf d1 zx HL aW ⊢;clear aE hl bd bt hb b8;go_wp2_with fail;go_loopw [8,9] (fun s8 s9 wr=>∃m:Nat,m<=yn∧s9 = .int .i64 m∧aqZ N ys m s8∧Below wp.heap.size wp wr) (fun _ s9 _=>yn - (intOf s9).toNat)
         case atStart=>exact⟨0,Aaj _,rfl,cm,Below.refl _ _⟩
         case round =>
          obtain⟨m,hm,rfl,bp,hb⟩:=hrel;obtain⟨v0,v1⟩:=aN.out wr (aW.out.trans (hb.mono aW.out.size));have zV:=aac v0
          by_cases hml:m<yn
          . have bV:m<ys.length:=by rw [cA.out];exact hml
            obtain⟨lb,aq,a8,bg,rfl,aE,-,-⟩:=ama (HL.out wr hb) bV;obtain⟨e0,e1,e2,e3,e4,e5,e6,e7⟩:=aE.get8;have ax:=aqZ.step bp bV;have aM:Hid (∀j (hj:j<ys.length),wr.cell? ⟨lb,aq+j * 8,none⟩=some (.int .i64 ys[j].op)∧wr.cell? ⟨lb,aq+j * 8+2,none⟩=some (.bool ys[j].a.reg)∧wr.cell? ⟨lb,aq+j * 8+3,none⟩=some (.int .i64 ys[j].a.n)):=fun j hj=>by
             obtain⟨cK,bX,cH,cF,he,bB,-,-⟩:=ama (HL.out wr hb) hj;injection he with he;injection he with he1 he2;subst he1 he2;obtain⟨e0,-,e2,e3,-⟩:=bB.get8;exact⟨e0,e2,e3⟩
            obtain⟨yo,ay⟩:∃x,ys[m].op=x:=⟨_,rfl⟩
            obtain⟨yd,b2⟩:∃x,ys[m].dst=x:=⟨_,rfl⟩
            obtain⟨yr,bf⟩:∃x,ys[m].a.reg=x:=⟨_,rfl⟩
            obtain⟨yi,bm⟩:∃x,ys[m].a.n=x:=⟨_,rfl⟩
            obtain⟨zr,bH⟩:∃x,ys[m].b.reg=x:=⟨_,rfl⟩
            obtain⟨zi,bD⟩:∃x,ys[m].b.n=x:=⟨_,rfl⟩
            obtain⟨yf,b1⟩:∃x,ys[m].fn=x:=⟨_,rfl⟩
            obtain⟨al,bT⟩:∃x,ys[m].args.length=x:=⟨_,rfl⟩
            have aT:ag2 N ys[m]=acY N yo yr yi zr zi:=by rw [aim,ay,bf,bm,bH,bD]
            have ca:∀z,adu z ys[m]=((z.a.reg == yr&&decide (z.a.n=yi))&&(decide (yo=18)||decide (z.op=19))):=fun z=>by unfold adu eqV;rw [ay,bf,bm]
            rw [ay,aT] at ax;rw [ay] at e0;rw [b2] at e1;rw [bf] at e2;rw [bm] at e3;rw [bH] at e4;rw [bD] at e5;rw [b1] at e6;rw [bT] at e7;have zl:=aac e0;have aG:=hid bp;have ah:=hid ax;have au:=hid ca;have bj:=hid hb;obtain⟨wq,cf⟩:∃wq:World,wq=wr:=⟨_,rfl⟩
            rw [<-cf] at aM bj e0 e1 e2 e3 e4 e5 e6 e7 v0 v1 zV zl ⊢;clear aE aT ca ax bp ay b2 bf bm bH bD b1 bT hb cf;go_upto_region 18 with (fail)
            obtain⟨W3,bq⟩:∃W3,W3=wq.alloc (.cells #[.int .i64 yo,.int .i64 yd,.bool yr,.int .i64 yi,.bool zr,.int .i64 zi,.int .i64 yf,.slice a8 al bg] 49):=⟨_,rfl⟩
            have aH:Below wq.heap.size wq W3:=by rw [bq];exact bE
            have b0:W3.heap[wq.heap.size]?=some (.cells #[.int .i64 yo,.int .i64 yd,.bool yr,.int .i64 yi,.bool zr,.int .i64 zi,.int .i64 yf,.slice a8 al bg] 49 (0,0)):=by rw [bq];exact heap_alloc_new _ _
            rw [<-bq];obtain⟨g0,g1,g2,g3,g4,g5,g6,g7⟩:=(aad (cs:=[_,_,_,_,_,_,_,_]) b0).get8;rw [Aab] at g1 g2 g3 g4 g5 g6 g7;obtain⟨XB,aP⟩:∃XB,XB=wq.heap.size:=⟨_,rfl⟩
            rw [<-aP] at g0 g1 g2 g3 g4 g5 g6 g7 ⊢;have zX:=aac g0;have v0:=aab v0 aH;have v1:=aab v1 aH;have zV:=aac v0;have ai:Hid (∀j (hj:j<ys.length),W3.cell? ⟨lb,aq+j * 8,none⟩=some (.int .i64 ys[j].op)∧W3.cell? ⟨lb,aq+j * 8+2,none⟩=some (.bool ys[j].a.reg)∧W3.cell? ⟨lb,aq+j * 8+3,none⟩=some (.int .i64 ys[j].a.n)):=fun j hj=>by
             obtain⟨a,b,c⟩:=aM.out j hj;exact⟨aab a aH,aab b aH,aab c aH⟩
            have aD:Hid (Below wp.heap.size wp W3):=bj.out.trans (aH.mono bj.out.size);have bU:Hid (Below W2.heap.size W2 W3):=aW.out.trans (aD.out.mono aW.out.size);clear b0 bq aP aM bj aH e0 e1 e2 e3 e4 e5 e6 e7;rcases ah.out with⟨hacc,hn,hl⟩ | ⟨ak,av,h20,hn⟩ | ⟨ak,av,h20,hmy,hn⟩ | ⟨ak,av,h20,hmy,hn⟩
            . have HN:=hid hn
              have k0:=cell_regrown g0;have k2:=cell_regrown g2;have k3:=cell_regrown g3;clear hn;rcases hl with rfl | ⟨j,hj,hjm,rfl,hcj⟩
              . clear ai au aG ah
                rcases hacc with rfl | rfl
                . go_upto_region 19 with (fail)
                  refine aaM (by kernel_rfl) (by kernel_rfl) ?_
                  repeat (gi_big_quiet_step (fail))
                  refine wpQuietIn_nil ?_;intro W7 ag;obtain⟨rg,ad⟩:=ag;have ae:Below W3.heap.size W3 W7:=by rw [ad];exact below_regrown _ _ _
                  clear ad;go_wp2_with fail;go_roundw
                  case rel=>exact⟨m+1,by omega,by go_num,HN.out,by have h:=aD.out;exact bE2 ae h⟩
                  case measure=>simp [intOf];omega
                . go_upto_region 19 with (fail)
                  refine aaM (by kernel_rfl) (by kernel_rfl) ?_
                  repeat (gi_big_quiet_step (fail))
                  refine wpQuietIn_nil ?_;intro W7 ag;obtain⟨rg,ad⟩:=ag;have ae:Below W3.heap.size W3 W7:=by rw [ad];exact below_regrown _ _ _
                  clear ad;go_wp2_with fail;go_roundw
                  case rel=>exact⟨m+1,by omega,by go_num,HN.out,by have h:=aD.out;exact bE2 ae h⟩
                  case measure=>simp [intOf];omega
              . obtain⟨j0,j2,j3⟩:=ai.out j hj
                rw [au.out] at hcj;obtain⟨ko,bC⟩:∃x,ys[j].op=x:=⟨_,rfl⟩
                obtain⟨kr,bN⟩:∃x,ys[j].a.reg=x:=⟨_,rfl⟩
                obtain⟨ki,bK⟩:∃x,ys[j].a.n=x:=⟨_,rfl⟩
                rw [bC,bN,bK] at hcj;rw [bC] at j0;rw [bN] at j2;rw [bK] at j3;have cJ:j<yn:=by omega
                have zj:=aac j0;have k4:=cell_regrown j0;have k5:=cell_regrown j2;have k6:=cell_regrown j3;clear ai au aG ah bC bN bK
                by_cases he:(kr == yr&&decide (ki=yi))=true
                . rw [he,Bool.true_and] at hcj
                  have q0:(kr == yr&&(decide (ki<=yi)&&decide (yi<=ki)))=true:=by
                   rw [Abg] at he ⊢;exact⟨he.1,amn (of_decide_eq_true he.2)⟩
                  have aV:¬ko=19:=fun h=>by rw [h] at hcj;simp at hcj
                  have q1:(decide (ko<=19)&&decide (19<=ko))=false:=abI aV;obtain rfl:yo=19:=by
                   rcases hacc with rfl | h
                   . simp at hcj
                   . exact h
                  clear he hcj aV hacc;go_upto_region 19 with (fail)
                  refine aaM (by kernel_rfl) (by kernel_rfl) ?_
                  repeat (gi_big_quiet_step (fail))
                  refine wpQuietIn_nil ?_;intro W7 ag;obtain⟨rg,ad⟩:=ag;have ae:Below W3.heap.size W3 W7:=by rw [ad];exact below_regrown _ _ _
                  clear ad;go_wp2_with fail;go_roundw
                  case rel=>exact⟨m+1,by omega,by go_num,HN.out,by have h:=aD.out;exact bE2 ae h⟩
                  case measure=>simp [intOf];omega
                . have q0:(kr == yr&&(decide (ki<=yi)&&decide (yi<=ki)))=false:=by
                   rw [Bool.eq_false_iff];intro h;rw [Abg,Abg] at h;refine he ?_;rw [Abg];exact⟨h.1,decide_eq_true (Int.le_antisymm (of_decide_eq_true h.2.1) (of_decide_eq_true h.2.2))⟩
                  clear he hcj;rcases hacc with rfl | rfl
                  . go_upto_region 19 with (fail)
                    refine aaM (by kernel_rfl) (by kernel_rfl) ?_
                    repeat (gi_big_quiet_step (fail))
                    refine wpQuietIn_nil ?_;intro W7 ag;obtain⟨rg,ad⟩:=ag;have ae:Below W3.heap.size W3 W7:=by rw [ad];exact below_regrown _ _ _
                    clear ad;go_wp2_with fail;go_roundw
                    case rel=>exact⟨m+1,by omega,by go_num,HN.out,by have h:=aD.out;exact bE2 ae h⟩
                    case measure=>simp [intOf];omega
                  . go_upto_region 19 with (fail)
                    refine aaM (by kernel_rfl) (by kernel_rfl) ?_
                    repeat (gi_big_quiet_step (fail))
                    refine wpQuietIn_nil ?_;intro W7 ag;obtain⟨rg,ad⟩:=ag;have ae:Below W3.heap.size W3 W7:=by rw [ad];exact below_regrown _ _ _
                    clear ad;go_wp2_with fail;go_roundw
                    case rel=>exact⟨m+1,by omega,by go_num,HN.out,by have h:=aD.out;exact bE2 ae h⟩
                    case measure=>simp [intOf];omega
            . have HN:=hid hn
              have q1:(decide (yo<=18)&&decide (18<=yo))=false:=abI ak;have q2:(decide (yo<=19)&&decide (19<=yo))=false:=abI av;obtain⟨lv,L,rfl,-,-⟩:=aG.out;clear hn ai au aG ah;go_wp2_with fail;go_roundw
              case rel=>exact⟨m+1,by omega,by go_num,HN.out,by have h:=aD.out;exact bE1 h⟩
              case measure=>simp [intOf];omega
            . have HN:=hid hn
              have bR:=hid hmy;have q1:(decide (yo<=18)&&decide (18<=yo))=false:=abI ak;have q2:(decide (yo<=19)&&decide (19<=yo))=false:=abI av;have q3:decide (20<=yo)=false:=decide_eq_false (by omega);obtain⟨lv,L,rfl,-,-⟩:=aG.out;have Hc:=hid (HP.out W3 bU.out yo yd yi zi yf yr zr a8 al bg);rw [bR.out] at Hc;clear hn hmy ai au aG ah h20;go_upto_region 23 with (first | (go_at_call 14;refine Hc.out.mono ?_;rintro e w6 ⟨rfl,aR⟩))
              clear Hc g0 g1 g2 g3 g4 g5 g6 g7;go_wp2_with fail;go_roundw
              case rel=>exact⟨m+1,by omega,by go_num,HN.out,by have h:=aD.out;exact bE2 aR h⟩
              case measure=>simp [intOf];omega
            . have HN:=hid hn
              have bR:=hid hmy;have q1:(decide (yo<=18)&&decide (18<=yo))=false:=abI ak;have q2:(decide (yo<=19)&&decide (19<=yo))=false:=abI av;have q3:decide (20<=yo)=false:=decide_eq_false (by omega);obtain⟨lv,L,rfl,-,-⟩:=aG.out;have Hc:=hid (HP.out W3 bU.out yo yd yi zi yf yr zr a8 al bg);rw [bR.out] at Hc;clear hn hmy ai au aG ah h20;go_upto_region 16 with (first | (go_at_call 14;refine Hc.out.mono ?_;rintro e w6 ⟨rfl,aR⟩))
              clear Hc g0 g1 g2 g3 g4 g5 g6 g7;go_wp2_with fail;go_roundw
              case rel=>exact⟨m+1,by omega,by go_num,HN.out,by have h:=aD.out;exact bE2 aR h⟩
              case measure=>simp [intOf];omega
          . have cp:m=yn:=by omega
            subst cp;have aX:Hid (Below wo.heap.size wo wr):=aI.out.trans (hb.mono aI.out.size);clear bp;go_wp2_with fail;go_roundw
            case rel=>exact⟨b+1,by omega,by go_num,aX.out⟩
            case measure=>simp [intOf];omega
       . have cE:b=aQ:=by omega
         subst cE;have aX:Hid (Below W2.heap.size W2 wr):=Hb.out.trans (hb.mono Hb.out.size);go_wp2_with fail;go_roundw
         case rel=>exact⟨k+1,by omega,by go_num,aX.out⟩
         case measure=>simp [intOf];omega
    . have cn:k=fn:=by omega
      subst cn;have aX:Hid (Below w.heap.size w wr):=bM.out.trans (hb.mono bM.out.size);go_wp2_with fail;go_ret;exact⟨rfl,aX.out⟩
 . obtain⟨rfl,rfl⟩:vn=0∧wn=0:=by
    rcases ao.out with h | h
    . exact⟨h.2.1,h.2.2.1⟩
    . exact absurd h.1 hc0
   have hq:(decide (c<0)||decide (0<c))=true:=aex hc0;clear ao hc0
   go_wp2_with (first
    | (go_at_call 9; refine (aq7 _ _ _ _ 0 0 _).mono ?_; rintro e w6 ⟨rfl, aR⟩))
   go_ret;exact⟨rfl,by have h:=bM.out;exact bE2 aR h⟩
end
end Go.Proofs.YtpeejlpcikefcaaGreatDoor
