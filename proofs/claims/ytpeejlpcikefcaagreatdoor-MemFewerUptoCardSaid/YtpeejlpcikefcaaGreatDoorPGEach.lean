import Derived.Test.YtpeejlpcikefcaaGreatDoorPGPost
/- tidy's namer: the walks of name and val. tidy.NamesOf: the walk. tidy.DoOf: the walk. graph.Each, with tidy.DoOf. -/
set_option maxHeartbeats 8000000
set_option maxRecDepth 100000
namespace Go.Proofs.YtpeejlpcikefcaaGreatDoor
section
open Go.RowKit
variable {T NB n:Nat}{s:Nm}
theorem adf(hn:n<=1048576)(w:World)(h:afC w T NB n s)(r:Int)(hr:0<=r∧r<n) :
 Calls Tryz.prog 86 #[.pointer (some ⟨NB,0,none⟩),.int .i64 r] w fun e w'=>e = .returned (.int .i64 (nmR s r))∧afC w' T NB n (nmS s r)∧Kp (NmF T NB) w w':=by
 obtain⟨q,rfl⟩:=Abc hr.1;have hq:q<n:=by omega
 have hg:s.now[q]?=some (s.now.getD q 0):=by rw [Aaf,Aaa (by rw [h.ok.len];exact hq)];rfl
 obtain⟨x,hx⟩:∃x,x=s.now.getD q 0:=⟨_,rfl⟩
 obtain⟨m,hm⟩:∃m,m=s.many:=⟨_,rfl⟩
 have hc:w.cell? ⟨T,q,none⟩=some (.int .i64 x):=by
  rw [aaW h.row,Ab8,Aak,hg,hx];rfl
 have hz:w.frozen? ⟨T,q,none⟩=false:=aaq h.row q;have bd:=h.box;rw [<-hm] at bd;obtain⟨n0,n1⟩:=(aad (cs:=[_,_]) bd).get2;rw [Aab] at n1;have z1:=aaq bd 1;have zT:=h.live.1;have zN:=h.live.2;have cZ:¬T=NB:=h.ne;have nI:¬NB=T:=fun e=>cZ e.symm;have cN:=h.ok.many_le;rw [<-hm] at cN
 by_cases h0:x<0
 . have fy:=h.ok.room hq (by rw [<-hx];exact h0)
   rw [<-hm] at fy;have eR:=h.put hq (by rw [<-hx];exact h0);rw [<-hm] at eR;have hR:nmR s (q:Int)=m:=by
    unfold nmR nmS;rw [Aan,if_pos (by rw [<-hx];exact h0)];show (s.now.set q s.many).getD q 0=m;rw [Aaf,Aa5 (by rw [h.ok.len];exact hq),hm];rfl
   have jM:=hid eR;have HR:=hid hR;have Hh:=hid h;clear h hg hx hm eR hR bd;go_enter Tryz.func86,Tryz.ntmps86;go_wp2_with fail;go_big_region
   all_goals
    go_wp2_with fail;go_ret;have hk:Kp (NmF T NB) w ((w.setCell ⟨T,q,none⟩ (.int .i64 m)).setCell ⟨NB,1,none⟩ (.int .i64 (m+1))):=((Kp.refl _ _).set (fun h:NmF T NB T=>h.1 rfl) _).set (fun h:NmF T NB NB=>h.2 rfl) _;exact⟨show Ending.returned (Value.int .i64 m)=_ by rw [HR.out],jM.out.below (Below.refl _ _).drew,hk.trans (Kp.of (Below.refl _ _).drew)⟩
 . have hS:nmS s (q:Int)=s:=by unfold nmS;rw [Aan,if_neg (by rw [<-hx];exact h0)]
   have hR:nmR s (q:Int)=x:=by unfold nmR;rw [hS,Aan,hx]
   have HR:=hid hR;have HS:=hid hS;have Hh:=hid h;clear h hg hx hm hS hR bd;go_enter Tryz.func86,Tryz.ntmps86;go_wp2_with fail;go_ret;exact⟨show Ending.returned (Value.int .i64 x)=_ by rw [HR.out],by rw [HS.out];exact Hh.out,Kp.refl _ _⟩
theorem amq {fn : Func} (az : fn.results = #[.cell 4 41]) {tmps : Array Value} {b : Nat} (ht : tmps.getD 4 undef = .pointer (some ⟨b, 0, none⟩)) {x y : Value} {W : World}
 (h0:W.cell? ⟨b,0,none⟩=some x) (h1:W.cell? ⟨b,1,none⟩=some y):(results fn tmps).run Tryz.prog W = .ok (.agg #[x,y]) W:=by
 simp only [Acn] at ht;simp [results,az,ht,go_sem,h0,h1]
theorem afC.valLive{W:World}(h:afC W T NB n s):NmF T NB W.heap.size∧NmF T NB (W.heap.size+1):=by
 have:=h.live;exact⟨⟨by omega,by omega⟩,⟨by omega,by omega⟩⟩
theorem aci(hn:n<=1048576)(w:World)(h:afC w T NB n s)(v:aaA)(hv:InV n v) :
 Calls Tryz.prog 87 #[.pointer (some ⟨NB,0,none⟩),.agg #[.bool v.reg,.int .i64 v.n]] w fun e w'=>e = .returned (.agg #[.bool (aep s v).reg,.int .i64 (aep s v).n])∧afC w' T NB n (aeY s v)∧Kp (NmF T NB) w w':=by
 obtain⟨reg,nn⟩:=v;have Hh:=hid h;have Hv:=hid hv;clear h hv;go_enter Tryz.func87,Tryz.ntmps87;cases reg with
 | true =>
   have hr:=Hv.out rfl;have Hr:=hid hr;clear hr;go_upto_region 2 with (fail)
   obtain⟨W,hW⟩:∃W,W=(w.alloc (.cells #[.bool true,.int .i64 nn] 41)).alloc (.cells #[.bool false,.int .i64 0] 41):=⟨_,rfl⟩
   obtain⟨bS,h0,h1⟩:=abQ w (.cells #[.bool true,.int .i64 nn] 41) (.cells #[.bool false,.int .i64 0] 41);rw [<-hW] at bS h0 h1 ⊢;have cj:Below w.heap.size w W:=by rw [hW];exact bE
   obtain⟨VB,bR⟩:∃VB,VB=w.heap.size:=⟨_,rfl⟩
   obtain⟨RB,j7⟩:∃RB,RB=w.heap.size+1:=⟨_,rfl⟩
   rw [<-j7] at h1 ⊢;rw [<-bR] at h0 ⊢;obtain⟨v0,v1⟩:=(aad (cs:=[_,_]) h0).get2;rw [Aab] at v1;have zV:VB<W.heap.size:=aac v0;have aR:=hid (Hh.out.below cj);have HF:=hid Hh.out.valLive;rw [<-bR] at HF;have iM:Hid (NmF T NB RB):=by rw [j7];exact Hh.out.valLive.2
   have H0:=hid h0;have H1:=hid h1;have aK:=hid cj;have ir:Hid (VB≠RB):=by show _≠_;omega
   have fU:Hid (w.heap.size<=VB∧w.heap.size<=RB):=by show _∧_;omega
   have HN:=hid (adf hn W aR.out nn Hr.out);clear hW h0 h1 cj bR j7 bS;go_upto_region 3 with (go_at_call 86;refine HN.out.mono ?_;rintro e w2 ⟨rfl,hh,aS⟩;have ju:=hid hh;have cq:=hid aS;have v0:=aS.cell HF.out.1 v0;have v1:=aS.cell HF.out.1 v1;have f1:=aS.frozen (o:=1) HF.out.1 zV (aaq H0.out 1);have zV:=aac v0;clear hh aS)
   have fj:w2.heap[RB]?=some (.cells #[.bool false,.int .i64 0] 41 (0,0)):=(cq.out.block RB (Aag.1 H1.out).1 iM.out).trans H1.out;have zR:=(Aag.1 fj).1;have nB:¬RB=VB:=fun e=>ir.out e.symm;have f2:=aaq fj 0;have f3:=aaq fj 1;obtain⟨r0,r1⟩:=(aad (cs:=[_,_]) fj).get2;rw [Aab] at r1;have kQ:aal (w2.setCell ⟨VB,1,none⟩ (.int .i64 (nmR s nn))) RB 0 [.bool false,.int .i64 0]:=fun j v hj=>by
    rw [aam _ nB];exact aad fj j v hj
   have mE:=hid kQ;clear fj kQ;go_wp2_with fail;obtain⟨c0,c1⟩:=(as2 (u0 := .bool true) (u1 := .int .i64 (nmR s nn)) mE.out).get2;rw [Aab] at c1;refine bodyPost_ret (amq rfl rfl c0 c1) rfl ⟨rfl,?_,?_⟩
   . refine ju.out.later (F:=NmF VB RB) (((Kp.refl _ _).set (fun h:NmF VB RB VB=>h.1 rfl) _).set (fun h:NmF VB RB RB=>h.2 rfl) _ |>.set (fun h:NmF VB RB RB=>h.2 rfl) _) ?_ ?_
     . have h1:=HF.out.1
       have h2:=iM.out;exact⟨fun e=>h1.1 e.symm,fun e=>h2.1 e.symm⟩
     . have h1:=HF.out.1
       have h2:=iM.out;exact⟨fun e=>h1.2 e.symm,fun e=>h2.2 e.symm⟩
   . have h2:=(Kp.of (F:=NmF T NB) aK.out).trans cq.out
     exact ((h2.setNew (a:=⟨VB,1,none⟩) fU.out.1 _).setNew (a:=⟨RB,0,none⟩) fU.out.2 _).setNew (a:=⟨RB,1,none⟩) fU.out.2 _
 | false =>
   go_wp2_with fail;have hc:=abQ w (.cells #[.bool false,.int .i64 nn] 41) (.cells #[.bool false,.int .i64 nn] 41);obtain⟨c0,c1⟩:=(aad (cs:=[_,_]) hc.2.2).get2;rw [Aab] at c1;refine bodyPost_ret (amq rfl rfl c0 c1) rfl ⟨rfl,Hh.out.below ?_,Kp.of ?_⟩
   . exact bE
   . exact bE
end
section
open Go.RowKit
def atZ(T NB:Nat)(bs:List DBlock)(V:Pth->Value)(b:Nat):Prop:=b≠T∧b≠NB∧∀q,okP bs q->(V q).ownBlock≠some b
def aue {S:Nat->Prop}(w wc:World)(base UB UO:Nat)(nm:ByteArray)(pn n:Nat)(bk:List DBlock):Prop :=
 ∃V1 ra rc,abK wc base bk V1∧V1 .blks = .slice ra bk.length rc∧wc.heap[UB]?=some (.cells #[.string nm,.int .i64 (pn:Int),.int .i64 (n:Int),.slice ra bk.length rc] 37 (0,0)) ∧
   wc.heap[UO]?=some (.cells #[.string ⟨#[]⟩,.int .i64 0,.int .i64 0,.slice none 0 0] 37 (0,0))∧Below base w wc∧(∀b,S b->wc.heap[b]?=w.heap[b]?)∧∀b,S b∨b=UB∨b=UO->∀q,okP bk q->(V1 q).ownBlock≠some b
theorem aov {S : Nat -> Prop} (nm : ByteArray) (pn n : Nat) (bs : List DBlock) (V : Pth -> Value) (base : Nat) (w : World) (hf : abK w base bs V) (aM : base <= w.heap.size) (gS : acC bs) (hto : aem bs)
 (hn:n<=1048576) (e8:pn<=n) (bk:List DBlock) (ef:bk=aa1 bs (ordL bs)) (cz:acC bk) (gx:∀x∈bk,aee n x)
 (hS:∀b,S b->b<w.heap.size∧∀q,okP bs q->(V q).ownBlock≠some b) :
 Calls Tryz.prog 56 #[.agg #[.string nm,.int .i64 (pn:Int),.int .i64 (n:Int),V .blks]] w fun e w' =>
  ∃V',e = .returned (.agg #[.string nm,.int .i64 (pn:Int),.int .i64 (afe pn n bk),V' .blks])∧abK w' base (adm pn n bk) V'∧Below base w w'∧as6 S w w' (adm pn n bk) V':=by
 obtain⟨ba,bc,dt⟩:=aah.shape (p := .blks) hf trivial;obtain⟨m,hm⟩:∃m,m=bs.length:=⟨_,rfl⟩
 rw [show (aae bs V .blks).length=m by simp [aae,hm]] at dt;have Hf:=hid hf;have bT:=hid gS;have h9:=hid hto;have jD:=hid ef;have bW:=hid cz;have gd:=hid gx;have HS:=hid hS;have Hm:=hid hm;have fw:=hid dt;rw [dt];clear hf gS hto ef cz gx hS hm dt;go_enter Tryz.func56,Tryz.ntmps56;go_upto_region 1 with (fail)
 obtain⟨W,hW⟩:∃W,W=(w.alloc (.cells #[.string nm,.int .i64 (pn:Int),.int .i64 (n:Int),.slice ba m bc] 37)).alloc (.cells #[.string ⟨#[]⟩,.int .i64 0,.int .i64 0,.slice none 0 0] 37):=⟨_,rfl⟩
 obtain⟨bS,h0,h1⟩:=abQ w (.cells #[.string nm,.int .i64 (pn:Int),.int .i64 (n:Int),.slice ba m bc] 37) (.cells #[.string ⟨#[]⟩,.int .i64 0,.int .i64 0,.slice none 0 0] 37);rw [<-hW] at bS h0 h1 ⊢;have cj:Below w.heap.size w W:=by rw [hW];exact bE
 obtain⟨UB,cf⟩:∃UB,UB=w.heap.size:=⟨_,rfl⟩
 obtain⟨UO,ep⟩:∃UO,UO=w.heap.size+1:=⟨_,rfl⟩
 rw [<-ep] at h1 ⊢;rw [<-cf] at h0 ⊢;have ae:Hid (UB=w.heap.size∧UO=w.heap.size+1∧W.heap.size=w.heap.size+2):=⟨cf,ep,bS⟩
 have HB:Hid (base<=w.heap.size):=aM;have H0:=hid h0;have H1:=hid h1;have aK:=hid cj;obtain⟨c0,c1,c2,c3⟩:=(aad (cs:=[_,_,_,_]) h0).get4;rw [Aab] at c1 c2 c3;have di:SlAt (fun b=>base<=b∧b<w.heap.size) W.drew 6 aa2 (.slice ba m bc) bs:=by
  have h:=abK.read Hf.out bT.out.num;rw [fw.out] at h;exact h.later aau (aK.out.trans ((Below.refl W.heap.size W).drew.mono aK.out.size))
 have bB:=hid di;have fB:Hid (∀w',Below W.heap.size W w'->w'.cell? ⟨UB,0,none⟩=some (.string nm)∧w'.cell? ⟨UB,1,none⟩=some (.int .i64 (pn:Int))∧w'.cell? ⟨UB,2,none⟩=some (.int .i64 (n:Int))∧w'.cell? ⟨UB,3,none⟩=some (.slice ba m bc)) :=
  fun w' h=>⟨aab c0 h,aab c1 h,aab c2 h,aab c3 h⟩
 have zU:UB<W.heap.size:=aac c0;have jv:m<=1048576:=by rw [Hm.out];exact bT.out.len
 have HO:=hid (afj nm (pn:Int) (n:Int) ba m bc bs W.drew bB.out (fun b hb=>by have:=aK.out.size;simp;omega) Hm.out.symm jv h9.out)
 have iC : Hid (∀ w8 oa oc, Below W.heap.size W w8 -> abv W.drew.heap.size w8 (.slice oa (ordL bs).length oc) (ordL bs) ->
  Calls Tryz.prog 58 #[.agg #[.string nm, .int .i64 (pn : Int), .int .i64 (n : Int), .slice ba m bc], .slice oa (ordL bs).length oc] w8 fun e w' => ∃ V', e = .returned (.agg #[.string nm, .int .i64 (pn : Int), .int .i64 (n : Int), V' .blks]) ∧
   abK w' base bk V' ∧ Below base w8 w' ∧ as6 (fun b => S b ∨ (w.heap.size <= b ∧ b < w8.heap.size)) w8 w' bk V') := fun w8 oa oc aT hv => by
  have eO:=aK.out.size;have e5:=aT.size
  have hK := amu (S := fun b => S b ∨ (w.heap.size <= b ∧ b < w8.heap.size)) nm (pn : Int) (n : Int) bs V base w8 (Hf.out.later (aK.out.trans (aT.mono eO))) (by omega) bT.out oa (ordL bs).length oc (ordL bs)
   (hv.sl.mono aax (fun b hb => .inr ⟨Aai eO hb.1,hb.2⟩) (aaS.refl _ _)) rfl (Aai (by have h:=ah9 h9.out;rw [af7] at h;rw [show (ordL bs).length=(aaT bs).length from Ace ..];exact h) bT.out.len)
   (fun b hb => by
     rcases hb with h | h
     . exact ⟨Aay (HS.out b h).1 (Aai eO e5), (HS.out b h).2⟩
     . exact ⟨h.2, fun q hq e => by have := (aah.lt Hf.out hq b e).2; omega⟩)
   (fun x hx=>(abb h9.out).1 x (Abs.1 hx)) (List.pairwise_reverse.2 ((abb h9.out).2.1.imp fun h e=>h e.symm))
  rw [fw.out,<-jD.out] at hK;exact hK
 clear hW h0 h1 cj cf ep bS aM di;go_cut [26] (fun v26 wc=>v26=v26∧aue (S:=S) w wc base UB UO nm pn n bk)
 case first =>
  --DEV
  go_region_law
   ((first
     | (go_simp; go_at_call 59; refine HO.out.mono ?_; rintro e w8 ⟨v, rfl, hv, bg⟩
        obtain ⟨oa, oc, iZ⟩ := hv.shape
        subst iZ
        have aT : Below W.heap.size W w8 := (Below.refl W.heap.size W).drew.trans bg
        obtain ⟨d0, d1, d2, d3⟩ := fB.out w8 aT
        have iW := aac d0
        have HK := hid (iC.out w8 oa oc aT hv)
        have bw := hid aT
        clear hv bg aT)
     | (go_simp; go_at_call 58; refine HK.out.mono ?_; rintro e w9 ⟨V1, rfl, ez, ea, aH⟩
        obtain ⟨ra, rc, bj⟩ := aah.shape (p := .blks) ez trivial
        obtain ⟨l, hl⟩ : ∃ l, l = bk.length := ⟨_, rfl⟩
        rw [show (aae bk V1 .blks).length = l by simp [aae, hl]] at bj
        rw [bj]
        have ew : w9.heap[UB]? = some (.cells #[.string nm, .int .i64 (pn : Int), .int .i64 (n : Int), .slice ba m bc] 37 (0, 0)) := ((aH UB (.inr ⟨by have := ae.out; omega, iW⟩)).1.trans (bw.out.block UB zU)).trans H0.out
        obtain ⟨e0, e1, e2, e3⟩ := (aad (cs := [_, _, _, _]) ew).get4
        rw [Aab] at e1 e2 e3
        have k0 := aaq ew 0
        have k1 := aaq ew 1
        have k2 := aaq ew 2
        have k3 := aaq ew 3
        have Hl := hid hl
        have b7 := hid bj
        have nu := hid ew
        have kV := hid ez
        have eJ := hid ea
        have cJ := hid aH
        clear ez ea aH ew bj hl)))
  all_goals
   have cZ:UO≠UB:=by have:=ae.out;omega
   have ax:∀b,S b∨b=UB∨b=UO->∀q,okP bk q->(V1 q).ownBlock≠some b:=fun b hb=>by
    rcases hb with h | rfl | rfl
    . exact (cJ.out b (.inl h)).2
    . exact (cJ.out b (.inr ⟨by have:=ae.out;omega,iW⟩)).2
    . exact (cJ.out b (.inr ⟨by have:=ae.out;omega,by have:=ae.out;have:=bw.out.size;omega⟩)).2
   have fu:=ax UB (.inr (.inl rfl));have aA:=(((aah.setOff kV.out (o:=0) fu (.string nm)).setOff (o:=1) fu (.int .i64 (pn:Int))).setOff (o:=2) fu (.int .i64 (n:Int))).setOff (o:=3) fu (.slice ra l rc);have ai:Kp (fun b=>b≠UB) w9 ((((w9.setCell ⟨UB,0,none⟩ (.string nm)).setCell ⟨UB,1,none⟩ (.int .i64 (pn:Int))).setCell ⟨UB,2,none⟩ (.int .i64 (n:Int))).setCell ⟨UB,3,none⟩ (.slice ra l rc)):=aaD (aaD (aaD (aaP _ _ _ _) _ _) _ _) _ _;have dT:=eJ.out.size;have mY:=bw.out.size;have lM:=ae.out;have lK:∀b,S b->w9.heap[b]?=w.heap[b]?:=fun b hb=>(cJ.out b (.inl hb)).1.trans ((bw.out.block b (by have:=(HS.out b hb).1;omega)).trans (aK.out.block b (HS.out b hb).1));have hcut:aue (S:=S) w ((((w9.setCell ⟨UB,0,none⟩ (.string nm)).setCell ⟨UB,1,none⟩ (.int .i64 (pn:Int))).setCell ⟨UB,2,none⟩ (.int .i64 (n:Int))).setCell ⟨UB,3,none⟩ (.slice ra l rc)) base UB UO nm pn n bk:=by
    refine⟨V1,ra,rc,aA,by rw [b7.out,Hl.out],by rw [<-Hl.out];exact atS nu.out,?_,?_,fun b hb=>?_,ax⟩
    . refine (ai.block UO (by omega) cZ).trans (((cJ.out UO (.inr ⟨by omega,by omega⟩)).1.trans (bw.out.block UO (by omega))).trans H1.out)
    . refine ((((((aK.out.mono HB.out).trans (bw.out.mono (by have:=HB.out;omega))).trans eJ.out).setCell (p:=⟨UB,0,none⟩) ?_ _).setCell (p:=⟨UB,1,none⟩) ?_ _).setCell (p:=⟨UB,2,none⟩) ?_ _).setCell (p:=⟨UB,3,none⟩) ?_ _ <;> (have:=HB.out;show base<=UB;omega)
    . have ct:=(HS.out b hb).1
      exact (ai.block b (by omega) (show b≠UB by omega)).trans (lK b hb)
   have et:=hid hcut;clear hcut lK ai aA ax fu dT mY lM cZ e0 e1 e2 e3 k0 k1 k2 k3;go_wp2_with fail;go_meet;exact⟨trivial,et.out⟩
  --END
 case rest =>
  obtain⟨-,V1,ra,rc,aA,bj,h8,kK,lW,lO,ax⟩:=hcut;obtain⟨W9,mO⟩:∃W9:World,W9=wc:=⟨_,rfl⟩
  subst mO;obtain⟨l,hl⟩:∃l,l=bk.length:=⟨_,rfl⟩
  rw [<-hl] at bj h8;obtain⟨e0,e1,e2,e3⟩:=(aad (cs:=[_,_,_,_]) h8).get4;rw [Aab] at e1 e2 e3;have aw:=hid aA;have b7:=hid bj;have hJ:=hid h8;have jt:=hid kK;have lI:=hid lW;have mf:=hid lO;have gL:=hid ax;have Hl:=hid hl;have zB:UB<W9.heap.size:=aac e0;clear aA bj h8 kK lW lO ax hl c0 c1 c2 c3 HO iC bB e0 e1;go_upto_region 2 with (fail)
  go_upto_region 3 with (go_at_call 73;refine (adB _ _ (-1) n hn _ (aaB _ [.int .i64 (-1)] 3 rfl 0 _ rfl)).mono ?_;rintro e w2 ⟨T,rfl,hg,fq,cE⟩;have gZ:Below W9.heap.size W9 w2:=(bE1 cE);have hT:W9.heap.size<=T:=(by simp at hg;omega);have eF:=hid fq;have db:=hid gZ;have HT:=hid hT;clear hg fq cE gZ hT)
  obtain⟨NB,iD⟩:∃NB,NB=w2.heap.size:=⟨_,rfl⟩
  obtain⟨W3,ck⟩:∃W3,W3=w2.alloc (.cells #[.slice (some ⟨T,0,none⟩) n n,.int .i64 0] 136):=⟨_,rfl⟩
  have lG:W3.heap[NB]?=some (.cells #[.slice (some ⟨T,0,none⟩) n n,.int .i64 0] 136 (0,0)):=by rw [ck,iD];exact heap_alloc_new _ _
  rw [<-ck,<-iD];have dW:Below w2.heap.size w2 W3:=by rw [ck];exact bE
  have nz:W3.heap.size=NB+1:=by rw [ck,iD];simp
  have lA:T<w2.heap.size:=(Aag.1 eF.out).1;have ao:afC W3 T NB n (nm0 n):=⟨by rw [dW.block T lA,eF.out];simp [nm0],lG,apU n⟩
  have hY:Below W9.heap.size W9 W3:=db.out.trans (dW.mono db.out.size);have fb:Hid (W9.heap.size<=T∧T<W3.heap.size∧W9.heap.size<=NB∧NB<W3.heap.size∧w.heap.size<=W9.heap.size∧W9.heap.size<=W3.heap.size):=by
   show _∧_;have h1:=HT.out;have h2:=db.out.size;have h3:=lI.out.size;have h4:=hY.size;omega
  have aR:=hid ao;have dA:=hid hY;have e1:W3.cell? ⟨UB,1,none⟩=some (.int .i64 (pn:Int)):=by
   have h:=(aad (cs:=[_,_,_,_]) hJ.out) 1 _ rfl;rw [Aab] at h;exact aab h hY
  have bp:Hid (∀b,b<W9.heap.size->NmF T NB b):=fun b hb=>⟨by have:=fb.out;omega,by have:=fb.out;omega⟩
  clear iD ck lG dW nz lA ao hY e2 e3 zB eF db HT;go_wp2_with fail;go_loopw [35] (fun s35 wr=>∃k:Nat,k<=pn∧s35 = .int .i64 (k:Int)∧afC wr T NB n (aib (nm0 n) k)∧Kp (NmF T NB) W3 wr) (fun s35 _=>pn - (intOf s35).toNat)
  case atStart=>exact⟨0,Aaj _,rfl,aR.out,Kp.refl _ _⟩
  case round =>
   obtain⟨k,hk,rfl,cm,ai⟩:=hrel;have ib:=hid cm;have cg:=hid ai;clear cm ai
   by_cases hkn:k<pn
   . have mF:Hid (0<=(k:Int)∧(k:Int)<n):=by show _∧_;omega
     go_wp2_with (go_at_call 86;refine (adf hn wr ib.out (k:Int) mF.out).mono ?_;rintro e w2 ⟨rfl,bV,aS⟩;have dr:=hid bV;have cq:=hid aS;clear bV aS);go_roundw
     case rel=>exact⟨k+1,by omega,by go_num,by rw [aja];exact dr.out,cg.out.trans cq.out⟩
     case measure=>simp [intOf];omega
   . have ku:pn=k:=by omega
     subst ku;obtain⟨s0,iL⟩:∃s0,s0=aib (nm0 n) pn:=⟨_,rfl⟩
     obtain⟨W4,e9⟩:∃W4:World,W4=wr:=⟨_,rfl⟩
     subst e9;rw [<-iL] at ib;have ln:=hid iL;have u3:W4.cell? ⟨UB,3,none⟩=some (.slice ra l rc):=by
      have h:=(aad (cs:=[_,_,_,_]) hJ.out) 3 _ rfl;rw [Aab] at h;exact cg.out.cell (bp.out UB (aac h)) (aab h dA.out)
     have gw:SlAt (fun b=>base<=b∧b<W9.heap.size) W4 6 aa2 (.slice ra l rc) bk:=by
      have h:=abK.read aw.out bW.out.num;rw [b7.out] at h;exact (h.later aau dA.out).mono aau (fun _ h=>h) (cg.out.stays fun b hb=>bp.out b hb.2)
     have hL:=hid gw;have kR:Hid (W3.heap.size<=W4.heap.size):=cg.out.size;have nY:l<=1048576:=by rw [Hl.out];exact bW.out.len
     have cp:Hid (∀b,W3.heap.size<=b->NmF T NB b):=fun b hb=>⟨by have:=fb.out;omega,by have:=fb.out;omega⟩
     clear iL gw hk hkn e1;go_wp2_with fail;clear u3;go_loopw [45] (fun s45 wr=>∃k:Nat,k<=l∧s45 = .int .i64 (k:Int)∧afC wr T NB n ((bk.take k).foldl aqc s0)∧Kp (NmF T NB) W4 wr) (fun s45 _=>l - (intOf s45).toNat)
     case atStart=>exact⟨0,Aaj _,rfl,ib.out,Kp.refl _ _⟩
     case round =>
      obtain⟨wo,eX⟩:∃wo:World,wo=wr:=⟨_,rfl⟩
      subst eX;obtain⟨k,hk,rfl,cm,ai⟩:=hrel
      by_cases hkl:k<l
      . skip
        --DEV
        have eo:k<bk.length:=by rw [<-Hl.out];exact hkl
        obtain⟨x,hx⟩:∃x,bk[k]?=some x:=⟨_,Aaa eo⟩
        obtain⟨ob,off,cs,js,fX,cM,-,af⟩:=(hL.out.mono aau (fun _ h=>h) (ai.stays fun b hb=>bp.out b hb.2)).get eo;rw [(Aad.1 hx).2] at cM;subst js;obtain⟨pa,pc,la,lc,ta,tc,rfl,iP,kz,-,mD,mW,mT,-,-⟩:=cM.opens;obtain⟨p,hp⟩:∃p,p=x.phis.length:=⟨_,rfl⟩
        obtain⟨q,hq⟩:∃q,q=x.list.length:=⟨_,rfl⟩
        obtain⟨tn,fG⟩:∃tn,tn=x.fin.to.length:=⟨_,rfl⟩
        obtain⟨ek,aP⟩:∃ek,ek=x.fin.kind:=⟨_,rfl⟩
        obtain⟨er,eY⟩:∃er,er=x.fin.on.reg:=⟨_,rfl⟩
        obtain⟨en,eD⟩:∃en,en=x.fin.on.n:=⟨_,rfl⟩
        rw [<-hp] at iP mD af;rw [<-hq] at kz mW af;rw [<-fG] at mT af;rw [<-aP,<-eY,<-eD] at af;obtain⟨s1,eM⟩:∃s1,s1=(bk.take k).foldl aqc s0:=⟨_,rfl⟩
        rw [<-eM] at cm;have iu:=hid eM;have Hx:=hid hx;have aq:Hid (p=x.phis.length∧q=x.list.length∧er=x.fin.on.reg∧en=x.fin.on.n):=⟨hp,hq,eY,eD⟩
        have gH:=hid cm;have eg:=hid ai;have a6:=bW.out.small x (Aae hx);have nt:p<=1048576:=by rw [hp];exact a6.phis
        have l9:q<=1048576:=by rw [hq];exact a6.list
        have dK:=hid (gd.out x (Aae hx));have fp:=hid a6;have aD:aal wo ob (off+k * 6) [.slice pa p pc,.slice la q lc,.int .i64 ek,.bool er,.int .i64 en,.slice ta tn tc]:=af;obtain⟨c0,c1,c2,c3,c4,c5⟩:=aD.get6;have zo:ob<wo.heap.size:=aac c0;have ly:=hid iP;have lH:=hid kz;clear eM cm ai hx hp hq fG aP eY eD cM af aD a6 iP kz fX eo;go_upto_region 11 with (fail)
        obtain⟨LB,ec⟩:∃LB,LB=wo.heap.size:=⟨_,rfl⟩
        obtain⟨W5,bq⟩:∃W5,W5=wo.alloc (.cells #[.slice pa p pc,.slice la q lc,.int .i64 ek,.bool er,.int .i64 en,.slice ta tn tc] 46):=⟨_,rfl⟩
        have kj:W5.heap[LB]?=some (.cells #[.slice pa p pc,.slice la q lc,.int .i64 ek,.bool er,.int .i64 en,.slice ta tn tc] 46 (0,0)):=by rw [bq,ec];exact heap_alloc_new _ _
        rw [<-bq,<-ec];have fl:Below wo.heap.size wo W5:=by rw [bq];exact bE
        have bM:Hid (NmF T NB LB):=by
         refine cp.out LB ?_;have:=eg.out.size;have:=kR.out;omega
        have j3:=hid (gH.out.below fl);have iU:Hid (Kp (NmF T NB) W4 W5):=eg.out.trans (Kp.of fl);have hA:=hid (ly.out.later acg fl);have gJ:=hid (lH.out.later aay fl);have kH:=hid kj;have nX:=hid fl;obtain⟨l0,l1,l2,l3,l4,l5⟩:=(aad (cs:=[_,_,_,_,_,_]) kj).get6;rw [Aab] at l1 l2 l3 l4 l5;clear ec bq kj fl c0 c1 c2 c3 c4 c5 zo ly lH gH eg;go_wp2_with fail;clear l0 l1 l2 l3 l4 l5;go_loopw [52] (fun s52 wr=>∃i:Nat,i<=p∧s52 = .int .i64 (i:Int)∧afC wr T NB n ((x.phis.take i).foldl anO s1)∧Kp (NmF T NB) W5 wr) (fun s52 _=>p - (intOf s52).toNat)
        case atStart=>exact⟨0,Aaj _,rfl,j3.out,Kp.refl _ _⟩
        case round =>
         obtain⟨wp,eL⟩:∃wp:World,wp=wr:=⟨_,rfl⟩
         subst eL;obtain⟨i,hi,rfl,al,aB⟩:=hrel
         by_cases hip:i<p
         . have aW:i<x.phis.length:=by rw [<-aq.out.1];exact hip
           obtain⟨ph,cn⟩:∃ph,x.phis[i]?=some ph:=⟨_,Aaa aW⟩
           obtain⟨pb,dY,cs,hB,fX,cM,-,af⟩:=(hA.out.mono acg (fun _ h=>h) (aB.stays fun b hb=>bp.out b hb.2)).get aW;rw [(Aad.1 cn).2] at cM;subst hB;obtain⟨fa,fc,rfl,-,-,-⟩:=cM.opens;obtain⟨fn,az⟩:∃fn,fn=ph.src.length:=⟨_,rfl⟩
           obtain⟨d,hd⟩:∃d,d=ph.dst:=⟨_,rfl⟩
           rw [<-az,<-hd] at af;have aD:aal wp pb (dY+i * 2) [.int .i64 d,.slice fa fn fc]:=af;obtain⟨c0,c1⟩:=aD.get2;have zp:pb<wp.heap.size:=aac c0;have bB:Hid (0<=d∧d<n):=by rw [hd];exact (dK.out.phi ph (Aae cn)).1
           have ca:=hid al;have cr:=hid aB;have cU:=hid cn;have Hd:=hid hd;clear al aB cn hd az cM af aD aW fX;go_upto_region 14 with (fail)
           obtain⟨W6,bF⟩:∃W6,W6=wp.alloc (.cells #[.int .i64 d,.slice fa fn fc] 115):=⟨_,rfl⟩
           have aV:=heap_alloc_new wp (.cells #[.int .i64 d,.slice fa fn fc] 115);have bP:Below wp.heap.size wp W6:=by rw [bF];exact bE
           rw [<-bF] at aV ⊢;obtain⟨PB,e7⟩:∃PB,PB=wp.heap.size:=⟨_,rfl⟩
           rw [<-e7] at aV ⊢;obtain⟨l0,l1⟩:=(aad (cs:=[_,_]) aV).get2;have mM:=hid bP;have jR:=hid (ca.out.below bP);clear bF aV bP e7 c0 c1 zp;go_wp2_with (go_at_call 86;refine (adf hn W6 jR.out d bB.out).mono ?_;rintro e w2 ⟨rfl,bV,aS⟩;have dr:=hid bV;have cq:=hid aS;clear bV aS);go_roundw
           case rel =>
            refine⟨i+1,by omega,by go_num,?_,(cr.out.trans (Kp.of mM.out)).trans cq.out⟩;rw [abo anO s1 cU.out];unfold anO;rw [<-Hd.out];exact dr.out
           case measure=>simp [intOf];omega
         . have dV:p=i:=by omega
           subst dV;rw [aq.out.1,Aa0] at al;obtain⟨s2,cL⟩:∃s2,s2=x.phis.foldl anO s1:=⟨_,rfl⟩
           rw [<-cL] at al;obtain⟨W6,bF⟩:∃W6:World,W6=wp:=⟨_,rfl⟩
           subst bF;have fA:=gJ.out.mono aay (fun _ h=>h) (aB.stays fun b hb=>bp.out b hb.2);have aV:W6.heap[LB]?=some (.cells #[.slice pa p pc,.slice la q lc,.int .i64 ek,.bool er,.int .i64 en,.slice ta tn tc] 46 (0,0)):=(aB.block LB (Aag.1 kH.out).1 bM.out).trans kH.out;obtain⟨l0,l1,l2,l3,l4,l5⟩:=(aad (cs:=[_,_,_,_,_,_]) aV).get6;rw [Aab] at l1 l2 l3 l4 l5;have kD:=hid fA;have cT:=hid aV;have dH:=hid cL;have ca:=hid al;have fD:Hid (Kp (NmF T NB) W4 W6):=iU.out.trans aB;clear cL fA aV al aB hi hip hA gJ kH;go_wp2_with fail;clear l0 l1 l2 l3 l4 l5;go_loopw [64] (fun s64 wr=>∃i:Nat,i<=q∧s64 = .int .i64 (i:Int)∧afC wr T NB n ((x.list.take i).foldl acX s2)∧Kp (NmF T NB) W6 wr) (fun s64 _=>q - (intOf s64).toNat)
           case atStart=>exact⟨0,Aaj _,rfl,ca.out,Kp.refl _ _⟩
           case round =>
            obtain⟨wp,eL⟩:∃wp:World,wp=wr:=⟨_,rfl⟩
            subst eL;obtain⟨i,hi,rfl,al,aB⟩:=hrel
            by_cases hiq:i<q
            . have aW:i<x.list.length:=by rw [<-aq.out.2.1];exact hiq
              obtain⟨y,hy⟩:∃y,x.list[i]?=some y:=⟨_,Aaa aW⟩
              obtain⟨pb,dY,cs,hB,fX,cM,-,af⟩:=(kD.out.mono aay (fun _ h=>h) (aB.stays fun b hb=>bp.out b hb.2)).get aW;rw [(Aad.1 hy).2] at cM;subst hB;obtain⟨fa,fc,rfl,has,-,-⟩:=cM.opens;obtain⟨fn,az⟩:∃fn,fn=y.args.length:=⟨_,rfl⟩
              obtain⟨op,hop⟩:∃op,op=y.op:=⟨_,rfl⟩
              obtain⟨d,hd⟩:∃d,d=y.dst:=⟨_,rfl⟩
              obtain⟨ar,dq⟩:∃ar,ar=y.a.reg:=⟨_,rfl⟩
              obtain⟨an,dd⟩:∃an,an=y.a.n:=⟨_,rfl⟩
              obtain⟨br,du⟩:∃br,br=y.b.reg:=⟨_,rfl⟩
              obtain⟨bn,dm⟩:∃bn,bn=y.b.n:=⟨_,rfl⟩
              obtain⟨yf,fg⟩:∃yf,yf=y.fn:=⟨_,rfl⟩
              rw [<-az,<-hop,<-hd,<-dq,<-dd,<-du,<-dm,<-fg] at af;rw [<-az] at has;have aD:aal wp pb (dY+i * 8) [.int .i64 op,.int .i64 d,.bool ar,.int .i64 an,.bool br,.int .i64 bn,.int .i64 yf,.slice fa fn fc]:=af;obtain⟨c0,c1,c2,c3,c4,c5,c6,c7⟩:=aD.get8;have zp:pb<wp.heap.size:=aac c0;obtain⟨s3,bI⟩:∃s3,s3=(x.list.take i).foldl acX s2:=⟨_,rfl⟩
              rw [<-bI] at al;have cA:=dK.out.ins y (Aae hy);have jT:Hid (InV n ⟨ar,an⟩):=by rw [dq,dd];exact cA.1
              have jZ:Hid (InV n ⟨br,bn⟩):=by rw [du,dm];exact cA.2.1
              have fr:=hid cA.2.2.1;have ee:Hid (d<n):=by rw [hd];exact cA.2.2.2
              have gb:fn<=1048576:=by rw [az];exact fp.out.args y (Aae hy)
              have ca:=hid al;have cr:=hid aB;have bZ:=hid bI;have Hy:=hid hy;have bA:Hid (fn=y.args.length∧d=y.dst∧(⟨ar,an⟩:aaA)=y.a∧(⟨br,bn⟩:aaA)=y.b):=⟨az,hd,by rw [dq,dd],by rw [du,dm]⟩
              have Has:=hid has;clear al aB bI hy az hop hd dq dd du dm fg cM af aD aW fX cA has;go_upto_region 19 with (fail)
              obtain⟨W7,cV⟩:∃W7,W7=wp.alloc (.cells #[.int .i64 op,.int .i64 d,.bool ar,.int .i64 an,.bool br,.int .i64 bn,.int .i64 yf,.slice fa fn fc] 49):=⟨_,rfl⟩
              have bX:=heap_alloc_new wp (.cells #[.int .i64 op,.int .i64 d,.bool ar,.int .i64 an,.bool br,.int .i64 bn,.int .i64 yf,.slice fa fn fc] 49);have bQ:Below wp.heap.size wp W7:=by rw [cV];exact bE
              rw [<-cV] at bX ⊢;obtain⟨IB,el⟩:∃IB,IB=wp.heap.size:=⟨_,rfl⟩
              rw [<-el] at bX ⊢;have aO:Hid (NmF T NB IB):=by
               refine cp.out IB ?_;have:=cr.out.size;have:=fD.out.size;have:=kR.out;omega
              obtain⟨l0,l1,l2,l3,l4,l5,l6,l7⟩:=(aad (cs:=[_,_,_,_,_,_,_,_]) bX).get8;rw [Aab] at l1 l2 l3 l4 l5 l6 l7;have ji:=hid bQ;have dg:=hid bX;have j4:=hid (ca.out.below bQ);have fI:=hid (Has.out.later aaM bQ);have zI:IB<W7.heap.size:=aac l0;clear cV bX bQ el c0 c1 c2 c3 c4 c5 c6 c7 zp Has;go_upto_region 20 with (go_at_call 87;refine (aci hn W7 j4.out ⟨ar,an⟩ jT.out).mono ?_;rintro e w8 ⟨rfl,aQ,ah⟩;have b8:=hid aQ;have bx:=hid ah;have l1:=ah.cell aO.out l1;have l4:=ah.cell aO.out l4;have l5:=ah.cell aO.out l5;have l7:=ah.cell aO.out l7;have zI:=aac l1;clear aQ ah l0 l2 l3 l6)
              have lg:=hid (aci hn w8 b8.out ⟨br,bn⟩ jZ.out);go_upto_region 21 with (go_at_call 87;refine lg.out.mono ?_;rintro e w9 ⟨rfl,gY,aH⟩;have mb:=hid gY;have cJ:=hid aH;have l1:=aH.cell aO.out l1;have l7:=aH.cell aO.out l7;have zI:=aac l1;clear gY aH l4 l5 lg)
              have gR:Hid (Kp (NmF T NB) W7 w9):=bx.out.trans cJ.out;have iT:=hid (fI.out.mono aaM (fun _ h=>h) (gR.out.stays fun b hb=>bp.out b hb.2));have ng:=hid l1;clear fI bx cJ b8;go_wp2_with fail;clear l1 l7;go_loopw [79] (fun s79 wr=>∃m:Nat,m<=fn∧s79 = .int .i64 (m:Int)∧afC wr T NB n (abf (aeY (aeY s3 ⟨ar,an⟩) ⟨br,bn⟩) (y.args.take m))∧Kp (NmF T NB) w9 wr) (fun s79 _=>fn - (intOf s79).toNat)
              case atStart=>exact⟨0,Aaj _,rfl,mb.out,Kp.refl _ _⟩
              case round =>
               obtain⟨wq,fR⟩:∃wq:World,wq=wr:=⟨_,rfl⟩
               subst fR;obtain⟨m,hm,rfl,ao,bf⟩:=hrel
               by_cases hmf:m<fn
               . have cN:m<y.args.length:=by rw [<-bA.out.1];exact hmf
                 obtain⟨v,hv⟩:∃v,y.args[m]?=some v:=⟨_,Aaa cN⟩
                 obtain⟨vb,mr,kd,c0,c1⟩:=arZ (iT.out.mono aaM (fun _ h=>h) (bf.stays fun b hb=>bp.out b hb.2)) cN;rw [(Aad.1 hv).2] at c0 c1;subst kd;have kG:=hid (fr.out v (Aae hv));obtain⟨vr,vn⟩:=v;have zv:vb<wq.heap.size:=aac c0;have aR:=hid ao;have df:=hid bf;have Hv:=hid hv;clear ao bf hv cN;go_upto_region 24 with (fail)
                 obtain⟨av,ay⟩:∃av,av=wq.alloc (.cells #[.bool vr,.int .i64 vn] 41):=⟨_,rfl⟩
                 have aF:=heap_alloc_new wq (.cells #[.bool vr,.int .i64 vn] 41);have bo:Below wq.heap.size wq av:=by rw [ay];exact bE
                 rw [<-ay] at aF ⊢;obtain⟨VB,bR⟩:∃VB,VB=wq.heap.size:=⟨_,rfl⟩
                 rw [<-bR] at aF ⊢;obtain⟨v0,v1⟩:=(aad (cs:=[_,_]) aF).get2;rw [Aab] at v1;have dn:=hid bo;have jH:=hid (aci hn av (aR.out.below bo) ⟨vr,vn⟩ kG.out);clear ay aF bo bR c0 c1 zv;go_wp2_with (go_at_call 87;refine jH.out.mono ?_;rintro e w2 ⟨rfl,bV,aS⟩;have dr:=hid bV;have cq:=hid aS;clear bV aS);go_roundw
                 case rel =>
                  refine⟨m+1,by omega,by go_num,?_,(df.out.trans (Kp.of dn.out)).trans cq.out⟩;rw [afv _ Hv.out];exact dr.out
                 case measure=>simp [intOf];omega
               . have cO:fn=m:=by omega
                 subst cO;rw [bA.out.1,Aa0,bA.out.2.2.1,bA.out.2.2.2] at ao;have l1:=bf.cell aO.out ng.out;have zI:IB<wq.heap.size:=aac l1;have aR:=hid ao;have dw:Hid (Kp (NmF T NB) W6 wq):=((cr.out.trans (Kp.of ji.out)).trans gR.out).trans bf;have kT:Hid (∀w',afC w' T NB n (ajL (abf (aeY (aeY s3 y.a) y.b) y.args) d)->afC w' T NB n ((x.list.take (i+1)).foldl acX s2)):=fun w' h=>by
                  rw [abo acX s2 Hy.out,<-bZ.out];unfold acX;rw [<-bA.out.2.1];exact h
                 clear ao bf hmf hm
                 by_cases hd0:0<=d
                 . have bB:Hid (0<=d∧d<n):=⟨hd0,ee.out⟩
                   have cb:=hid (adf hn wq aR.out d bB.out);go_wp2_with (go_at_call 86;refine cb.out.mono ?_;rintro e w2 ⟨rfl,bV,aS⟩;have dr:=hid bV;have cq:=hid aS;clear bV aS);go_roundw
                   case rel=>exact⟨i+1,by omega,by go_num,kT.out _ (by unfold ajL;rw [if_pos hd0];exact dr.out),dw.out.trans cq.out⟩
                   case measure=>simp [intOf];omega
                 . go_wp2_with fail
                   go_roundw
                   case rel=>exact⟨i+1,by omega,by go_num,kT.out _ (by unfold ajL;rw [if_neg hd0];exact aR.out),dw.out⟩
                   case measure=>simp [intOf];omega
            . have eK:q=i:=by omega
              subst eK;rw [aq.out.2.1,Aa0] at al;have aV:=(aB.block LB (Aag.1 cT.out).1 bM.out).trans cT.out;obtain⟨-,-,-,l3,l4,-⟩:=(aad (cs:=[_,_,_,_,_,_]) aV).get6;rw [Aab] at l3 l4;have zL:LB<wp.heap.size:=aac l3;have kI:=hid al;have dw:Hid (Kp (NmF T NB) W4 wp):=fD.out.trans aB;have ks:Hid (InV n ⟨er,en⟩):=by rw [aq.out.2.2.1,aq.out.2.2.2];exact dK.out.on
              have cb:=hid (aci hn wp kI.out ⟨er,en⟩ ks.out);clear al aB aV hi hiq;go_wp2_with (go_at_call 87;refine cb.out.mono ?_;rintro e w2 ⟨rfl,bV,aS⟩;have dr:=hid bV;have cq:=hid aS;clear bV aS);go_roundw
              case rel =>
               refine⟨k+1,by omega,by go_num,?_,dw.out.trans cq.out⟩;rw [abo aqc s0 Hx.out,<-iu.out];unfold aqc;rw [<-dH.out];have h:=dr.out;rw [aq.out.2.2.1,aq.out.2.2.2] at h;exact h
              case measure=>simp [intOf];omega
        --END
      . have mG:l=k:=by omega
        subst mG;rw [show (bk.take l).foldl aqc s0=al2 pn n bk by rw [ai9 aqc s0 Hl.out,ln.out];rfl] at cm;obtain⟨sA,jr⟩:∃sA,sA=al2 pn n bk:=⟨_,rfl⟩
        rw [<-jr] at cm;obtain⟨W5,bq⟩:∃W5:World,W5=wo:=⟨_,rfl⟩
        subst bq;have aU:Kp (NmF T NB) W3 W5:=cg.out.trans ai;have gV:abK W5 base bk V1:=aah.kp (aw.out.later dA.out) aU fun q hq b hb=>bp.out b (aah.lt aw.out hq b hb).2;have bh:aei W5 base T NB n (atZ T NB bk V1) bk V1 sA:=⟨gV,cm,fun q hq b hb=>⟨fun h=>h.2.2 q hq hb,fun e=>(bp.out b (aah.lt aw.out hq b hb).2).1 e,fun e=>(bp.out b (aah.lt aw.out hq b hb).2).2 e⟩,fun h=>h.1 rfl,fun h=>h.2.1 rfl⟩
        have fm : Hid (∀ b, W3.heap.size <= b -> atZ T NB bk V1 b) := fun b hb => ⟨(cp.out b hb).1, (cp.out b hb).2, fun q hq e => by
         have := (aah.lt aw.out hq b e).2
         have := fb.out
         omega⟩
        have hU:Hid (∀b,b<W9.heap.size->(S b∨b=UB∨b=UO)->atZ T NB bk V1 b):=fun b hb h=>⟨(bp.out b hb).1,(bp.out b hb).2,gL.out b h⟩
        obtain⟨F,hF⟩:∃F,F=atZ T NB bk V1:=⟨_,rfl⟩
        rw [<-hF] at bh fm hU;have bG:W5.heap[UB]?=some (.cells #[.string nm,.int .i64 (pn:Int),.int .i64 (n:Int),.slice ra l rc] 37 (0,0)):=by
         have hz:=(Aag.1 hJ.out).1;exact (aU.block UB (Aay hz dA.out.size) (bp.out UB hz)).trans ((dA.out.block UB hz).trans hJ.out)
        have gp:W5.heap[UO]?=some (.cells #[.string ⟨#[]⟩,.int .i64 0,.int .i64 0,.slice none 0 0] 37 (0,0)):=by
         have hz:=(Aag.1 jt.out).1;exact (aU.block UO (Aay hz dA.out.size) (bp.out UO hz)).trans ((dA.out.block UO hz).trans jt.out)
        have fk:Hid (W3.heap.size<=W5.heap.size):=aU.size;have dD:=hid aU;have np:=hid bh;have HF:=hid hF;have ll:=hid jr;have bt:=hid bG;have gu:=hid gp;have u3:=(aad (cs:=[_,_,_,_]) bG) 3 _ rfl;rw [Aab] at u3;have nW:UB<W5.heap.size:=aac u3;have cY:Hid (F UB∧F UO):=⟨hU.out UB (Aag.1 hJ.out).1 (.inr (.inl rfl)),hU.out UO (Aag.1 jt.out).1 (.inr (.inr rfl))⟩
        clear jr cm ai aU gV bh hF bG gp hk hkl ib hL ln;go_wp2_with fail;clear u3;go_loopw [104] (fun s104 wr=>∃k:Nat,k<=l∧s104 = .int .i64 (k:Int)∧aei wr base T NB n F (afd sA bk k) V1 ((bk.take k).foldl ajM sA)∧Kp F W5 wr) (fun s104 _=>l - (intOf s104).toNat)
        case atStart=>exact⟨0,Aaj _,rfl,by rw [al5];exact np.out,Kp.refl _ _⟩
        case round =>
         obtain⟨wo,eX⟩:∃wo:World,wo=wr:=⟨_,rfl⟩
         subst eX;obtain⟨k,hk,rfl,bh,ai⟩:=hrel
         by_cases hkl:k<l
         . have eo:k<bk.length:=by rw [<-Hl.out];exact hkl
           obtain⟨x,hx⟩:∃x,bk[k]?=some x:=⟨_,Aaa eo⟩
           obtain⟨au,cF⟩:∃au,au=afd sA bk k:=⟨_,rfl⟩
           have ct:au.length=bk.length:=by rw [cF,ajc]
           have aX:k<au.length:=by rw [ct];exact eo
           have k7:au[k]?=some x:=by rw [cF];exact apT sA hx
           rw [<-cF,<-abW k7] at bh;obtain⟨s1,eM⟩:∃s1,s1=(bk.take k).foldl ajM sA:=⟨_,rfl⟩
           rw [<-eM] at bh;obtain⟨pa,pc,hQ⟩:=aah.shape (p := .phis k) bh.rows (by show k<_;rw [Aar];exact aX);obtain⟨la,lc,ih⟩:=aah.shape (p := .list k) bh.rows (by show k<_;rw [Aar];exact aX);obtain⟨ta,tc,jq⟩:=aah.shape (p := .to k) bh.rows (by show k<_;rw [Aar];exact aX);obtain⟨p,hp⟩:∃p,p=x.phis.length:=⟨_,rfl⟩
           obtain⟨q,hq⟩:∃q,q=x.list.length:=⟨_,rfl⟩
           obtain⟨tn,fG⟩:∃tn,tn=x.fin.to.length:=⟨_,rfl⟩
           obtain⟨ek,aP⟩:∃ek,ek=x.fin.kind:=⟨_,rfl⟩
           obtain⟨er,eY⟩:∃er,er=x.fin.on.reg:=⟨_,rfl⟩
           obtain⟨en,eD⟩:∃en,en=x.fin.on.n:=⟨_,rfl⟩
           rw [show (aae (au.set k x) V1 (.phis k)).length=p by simp only [aae];rw [aas aX];simp [hp]] at hQ;rw [show (aae (au.set k x) V1 (.list k)).length=q by simp only [aae];rw [aas aX];simp [hq]] at ih;rw [show (aae (au.set k x) V1 (.to k)).length=tn by simp only [aae];rw [aas aX];simp [fG]] at jq;have af:(aae (au.set k x) V1 .blks)[k]?=some [.slice pa p pc,.slice la q lc,.int .i64 ek,.bool er,.int .i64 en,.slice ta tn tc]:=by
            simp only [aae];rw [aai,Aa5 aX,aP,eY,eD,<-hQ,<-ih,<-jq];rfl
           obtain⟨R,eU,ka,-,-,-,-⟩:=bh.rows.addr (p := .blks) trivial (Aca (Aaj _) (Aad.1 af).1);rw [b7.out] at ka;have js:ra=some ⟨R,0,none⟩:=by injection ka
           subst js;obtain⟨aD,hz⟩:=bh.rows.at (p := .blks) trivial (g:=R) (n:=l) (c:=rc) b7.out af;have aN:aal wo R (k * 6) [.slice pa p pc,.slice la q lc,.int .i64 ek,.bool er,.int .i64 en,.slice ta tn tc]:=aD;obtain⟨c0,c1,c2,c3,c4,c5⟩:=aN.get6;have zR:R<wo.heap.size:=aac c0;have a6:=bW.out.small x (Aae hx);have nt:p<=1048576:=by rw [hp];exact a6.phis
           have l9:q<=1048576:=by rw [hq];exact a6.list
           have dK:=hid (gd.out x (Aae hx));have fp:=hid a6;have kt:=hid cF;have aj:=hid aX;have iu:=hid eM;have Hx:=hid hx;have aq:Hid (p=x.phis.length∧q=x.list.length∧er=x.fin.on.reg∧en=x.fin.on.n):=⟨hp,hq,eY,eD⟩
           have dc:Hid (V1 (.phis k) = .slice pa p pc∧V1 (.list k) = .slice la q lc):=⟨hQ,ih⟩
           have fE:=hid bh;have eB:=hid ai;clear eo hx cF ct aX k7 bh eM hQ ih jq hp hq fG aP eY eD af ka aD hz aN a6 ai;go_upto_region 34 with (fail)
           obtain⟨LB,ec⟩:∃LB,LB=wo.heap.size:=⟨_,rfl⟩
           obtain⟨W6,bF⟩:∃W6,W6=wo.alloc (.cells #[.slice pa p pc,.slice la q lc,.int .i64 ek,.bool er,.int .i64 en,.slice ta tn tc] 46):=⟨_,rfl⟩
           have aV:W6.heap[LB]?=some (.cells #[.slice pa p pc,.slice la q lc,.int .i64 ek,.bool er,.int .i64 en,.slice ta tn tc] 46 (0,0)):=by rw [bF,ec];exact heap_alloc_new _ _
           rw [<-bF,<-ec];have bP:Below wo.heap.size wo W6:=by rw [bF];exact bE
           have bM:Hid (F LB):=by
            refine fm.out LB ?_;have:=eB.out.size;have:=fk.out;omega
           have fP:=hid (fE.out.later bP);have eC:Hid (Kp F W5 W6):=eB.out.trans (Kp.of bP);have cT:=hid aV;have lu:Hid (W3.heap.size<=W6.heap.size):=by show _<=_;have:=eC.out.size;have:=fk.out;omega
           obtain⟨l0,l1,l2,l3,l4,l5⟩:=(aad (cs:=[_,_,_,_,_,_]) aV).get6;rw [Aab] at l1 l2 l3 l4 l5;clear ec bF aV bP c0 c1 c2 c3 c4 c5 zR fE eB;go_wp2_with fail;clear l0 l1 l2 l3 l4 l5;go_loopw [112] (fun s112 wr=>∃i:Nat,i<=p∧s112 = .int .i64 (i:Int)∧aei wr base T NB n F (au.set k (phA s1 x i)) V1 ((x.phis.take i).foldl ai8 s1)∧Kp F W6 wr) (fun s112 _=>p - (intOf s112).toNat)
           case atStart=>exact⟨0,Aaj _,rfl,by rw [aqG];exact fP.out,Kp.refl _ _⟩
           case round =>
            obtain⟨wp,eL⟩:∃wp:World,wp=wr:=⟨_,rfl⟩
            subst eL;obtain⟨i,hi,rfl,al,aB⟩:=hrel
            by_cases hip:i<p
            . skip
              --DEV
              have aW:i<x.phis.length:=by rw [<-aq.out.1];exact hip
              obtain⟨ph,cn⟩:∃ph,x.phis[i]?=some ph:=⟨_,Aaa aW⟩
              obtain⟨s2,cL⟩:∃s2,s2=(x.phis.take i).foldl ai8 s1:=⟨_,rfl⟩
              rw [<-cL] at al;have ds:okP (au.set k (phA s1 x i)) (.phis k):=by show k<_;rw [Aar];exact aj.out
              have aE:okP (au.set k (phA s1 x i)) (.src k i):=by show i<_;rw [aas aj.out];show i<(aco s1 x.phis i).length;rw [agn];exact aW
              obtain⟨fa,fc,dv⟩:=aah.shape (p := .src k i) al.rows aE;obtain⟨fn,az⟩:∃fn,fn=ph.src.length:=⟨_,rfl⟩
              obtain⟨d,hd⟩:∃d,d=ph.dst:=⟨_,rfl⟩
              rw [show (aae (au.set k (phA s1 x i)) V1 (.src k i)).length=fn by simp only [aae];rw [aas aj.out,show (phA s1 x i).phis=aco s1 x.phis i from rfl,adD (aie s1 cn),Aah,az]] at dv;have af:(aae (au.set k (phA s1 x i)) V1 (.phis k))[i]?=some [.int .i64 d,.slice fa fn fc]:=by
               simp only [aae];rw [aas aj.out,aai,show (phA s1 x i).phis=aco s1 x.phis i from rfl,aie s1 cn,<-dv,hd];rfl
              obtain⟨P,nO,jG,-,-,-,-⟩:=al.rows.addr (p := .phis k) ds (Aca (Aaj _) (Aad.1 af).1);rw [dc.out.1] at jG;have hB:pa=some ⟨P,0,none⟩:=by injection jG
              subst hB;obtain⟨aD,hz⟩:=al.rows.at (p := .phis k) ds (g:=P) (n:=p) (c:=pc) dc.out.1 af;have aN:aal wp P (i * 2) [.int .i64 d,.slice fa fn fc]:=aD;obtain⟨c0,c1⟩:=aN.get2;have dI:=hz (i * 2);have ik:=al.off (.phis k) ds P (by rw [dc.out.1];rfl);have iq:Hid (NmF T NB P∧¬F P):=⟨⟨ik.2.1,ik.2.2⟩,ik.1⟩
              have bB:Hid (0<=d∧d<n):=by rw [hd];exact (dK.out.phi ph (Aae cn)).1
              have j6:=hid (dK.out.phi ph (Aae cn)).2;have gb:fn<=1048576:=by rw [az];exact fp.out.src ph (Aae cn)
              have zP:P<wp.heap.size:=aac c0;have l0:wp.cell? ⟨LB,0,none⟩=some (.slice (some ⟨P,0,none⟩) p pc):=aB.cell bM.out ((aad (cs:=[_,_,_,_,_,_]) cT.out) 0 _ rfl);have zL:LB<wp.heap.size:=aac l0;have ca:=hid al;have cr:=hid aB;have cU:=hid cn;have dH:=hid cL;have kn:Hid (fn=ph.src.length∧d=ph.dst):=⟨az,hd⟩
              have cW:=hid dv;clear aW cn cL ds aE dv az hd af jG aD hz aN ik al aB;go_upto_region 37 with (fail)
              obtain⟨PB,e7⟩:∃PB,PB=wp.heap.size:=⟨_,rfl⟩
              obtain⟨W7,cV⟩:∃W7,W7=wp.alloc (.cells #[.int .i64 d,.slice fa fn fc] 115):=⟨_,rfl⟩
              have bX:W7.heap[PB]?=some (.cells #[.int .i64 d,.slice fa fn fc] 115 (0,0)):=by rw [cV,e7];exact heap_alloc_new _ _
              have bQ:Below wp.heap.size wp W7:=by rw [cV];exact bE
              rw [<-cV,<-e7];have dF:Hid (F PB):=by
               refine fm.out PB ?_;have:=cr.out.size;have:=lu.out;omega
              have k5:Hid (LB≠P∧PB≠P):=by show _∧_;exact⟨fun e=>iq.out.2 (e ▸ bM.out),fun e=>iq.out.2 (e ▸ dF.out)⟩
              have dy:=hid ((ca.out.later bQ).later (Below.refl W7.heap.size W7).drew);have jh:Hid (Kp F wp W7.drew):=(Kp.of bQ).trans (Kp.of (Below.refl W7.heap.size W7).drew);have aL:Hid (W7.drew.cell? ⟨LB,0,none⟩=some (.slice (some ⟨P,0,none⟩) p pc)∧W7.drew.cell? ⟨PB,0,none⟩=some (.int .i64 d)):=⟨jh.out.cell bM.out l0,(aad (cs:=[_,_]) bX).get2.1⟩
              have aG:Hid (W7.drew.cell? ⟨P,i * 2,none⟩=some (.int .i64 d)∧W7.drew.frozen? ⟨P,i * 2,none⟩=false):=⟨aab (w':=W7) c0 bQ,(bQ.frozen (p:=⟨P,i * 2,none⟩) zP).trans dI⟩
              have dg:Hid (W7.drew.heap[PB]?=some (.cells #[.int .i64 d,.slice fa fn fc] 115 (0,0))):=bX;have lF:P<W7.drew.heap.size:=aac aG.out.1;have kN:=hid (adf hn W7.drew dy.out.nm d bB.out);clear e7 cV bX bQ c0 c1 dI zP l0 zL
              go_region_held3 (fun w' => w'.cell? ⟨LB, 0, none⟩ = some (.slice (some ⟨P, 0, none⟩) p pc) ∧ w'.cell? ⟨PB, 0, none⟩ = some (.int .i64 d))
               ((first | with_reducible exact cX.out | with_reducible exact aI.out | with_reducible exact aL.out))
               ((go_at_call 86; (with_reducible refine kN.out.mono ?_); rintro e w8 ⟨rfl, aQ, ah⟩
                 have aC := dy.out.keepN ah
                 have aI : Hid (w8.cell? ⟨LB, 0, none⟩ = some (.slice (some ⟨P, 0, none⟩) p pc) ∧ w8.cell? ⟨PB, 0, none⟩ = some (.int .i64 d)) := ⟨aC.cell bM.out aL.out.1, aC.cell dF.out aL.out.2⟩
                 have r1 := ah.cell iq.out.1 aG.out.1
                 have rz := ah.frozen iq.out.1 lF aG.out.2
                 have cX : Hid ((w8.setCell ⟨P, i * 2, none⟩ (.int .i64 (nmR s2 d))).cell? ⟨LB, 0, none⟩ = some (.slice (some ⟨P, 0, none⟩) p pc) ∧ (w8.setCell ⟨P, i * 2, none⟩ (.int .i64 (nmR s2 d))).cell? ⟨PB, 0, none⟩ = some (.int .i64 d)) := ⟨(aam _ k5.out.1 _ _).trans aI.out.1, (aam _ k5.out.2 _ _).trans aI.out.2⟩
                 have b8 := hid aQ
                 have bx := hid ah
                 have bC := hid aC
                 clear aQ ah aC))
              have ag:=(dy.out.named b8.out bx.out).setDst aj.out (i:=i) (g:=P) (pn:=p) (pc:=pc) (by show i<(aco s1 x.phis i).length;rw [agn];exact (Aad.1 cU.out).1) dc.out.1 (nmR s2 d);rw [aoN cU.out (nmS s2 d)] at ag;obtain⟨av,ay⟩:∃av,av=w8.setCell ⟨P,i * 2,none⟩ (.int .i64 (nmR s2 d)):=⟨_,rfl⟩
              rw [<-ay] at ag ⊢;have aF:av.heap[PB]?=some (.cells #[.int .i64 d,.slice fa fn fc] 115 (0,0)):=(ag.2.block PB (aac aI.out.2) dF.out).trans ((bC.out.block PB (Aag.1 dg.out).1 dF.out).trans dg.out);have l1:=(aad (cs:=[_,_]) aF) 1 _ rfl;rw [Aab] at l1;have cQ:=hid ag.1;have cI:Hid (Kp F W6 av):=((cr.out.trans jh.out).trans bC.out).trans ag.2;have fW:=hid aF;have mg:PB<av.heap.size:=aac l1;have kg:Hid (W3.heap.size<=av.heap.size):=by show _<=_;have:=cI.out.size;have:=lu.out;omega
              clear ag ay aF r1 rz aI cX aL aG lF kN dg b8 bx bC dy jh;go_wp2_with fail;clear l1;go_loopw [129] (fun s129 wr=>∃m:Nat,m<=fn∧s129 = .int .i64 (m:Int)∧aei wr base T NB n F (au.set k (phB s1 (nmS s2 d) x i ph (nmR s2 d) m)) V1 (abf (nmS s2 d) (ph.src.take m))∧Kp F av wr) (fun s129 _=>fn - (intOf s129).toNat)
              case atStart=>exact⟨0,Aaj _,rfl,cQ.out,Kp.refl _ _⟩
              case round =>
               obtain⟨wq,fR⟩:∃wq:World,wq=wr:=⟨_,rfl⟩
               subst fR;obtain⟨m,hm,rfl,ao,bf⟩:=hrel
               by_cases hmf:m<fn
               . have cN:m<ph.src.length:=by rw [<-kn.out.1];exact hmf
                 obtain⟨v,hv⟩:∃v,ph.src[m]?=some v:=⟨_,Aaa cN⟩
                 obtain⟨s3,bI⟩:∃s3,s3=abf (nmS s2 d) (ph.src.take m):=⟨_,rfl⟩
                 rw [<-bI] at ao;have eN:i<(phB s1 (nmS s2 d) x i ph (nmR s2 d) m).phis.length:=(Aad.1 (amx cU.out)).1;have aE:okP (au.set k (phB s1 (nmS s2 d) x i ph (nmR s2 d) m)) (.src k i):=by show i<_;rw [aas aj.out];exact eN
                 have af:(aae (au.set k (phB s1 (nmS s2 d) x i ph (nmR s2 d) m)) V1 (.src k i))[m]?=some [.bool v.reg,.int .i64 v.n]:=by
                  simp only [aae];rw [aas aj.out,adD (amx cU.out),Aak,ak7 _ hv];rfl
                 obtain⟨G,gc,eH,-,-,-,-⟩:=ao.rows.addr (p := .src k i) aE (Aca (Aaj _) (Aad.1 af).1);rw [cW.out] at eH;have jU:fa=some ⟨G,0,none⟩:=by injection eH
                 subst jU;obtain⟨aD,hz⟩:=ao.rows.at (p := .src k i) aE (g:=G) (n:=fn) (c:=fc) cW.out af;obtain⟨vr,vn⟩:=v;have aN:aal wq G (m * 2) [.bool vr,.int .i64 vn]:=aD;obtain⟨c0,c1⟩:=aN.get2;have dI:=hz (m * 2);have fi:=hz (m * 2+1);have dx:=ao.off (.src k i) aE G (by rw [cW.out];rfl);have b9:Hid (NmF T NB G∧¬F G):=⟨⟨dx.2.1,dx.2.2⟩,dx.1⟩
                 have fr:=hid (j6.out _ (Aae hv));have zG:G<wq.heap.size:=aac c0;have p1:wq.cell? ⟨PB,1,none⟩=some (.slice (some ⟨G,0,none⟩) fn fc):=by
                  have h:=(aad (cs:=[_,_]) fW.out) 1 _ rfl;rw [Aab] at h;exact bf.cell dF.out h
                 have zP:PB<wq.heap.size:=aac p1;have aR:=hid ao;have df:=hid bf;have Hv:=hid hv;have bZ:=hid bI;have kF:=hid eN;clear cN hv bI eN aE af eH aD hz aN dx ao bf;go_upto_region 41 with (fail)
                 obtain⟨VB,bR⟩:∃VB,VB=wq.heap.size:=⟨_,rfl⟩
                 obtain⟨ak,aZ⟩:∃ak,ak=wq.alloc (.cells #[.bool vr,.int .i64 vn] 41):=⟨_,rfl⟩
                 have cG:ak.heap[VB]?=some (.cells #[.bool vr,.int .i64 vn] 41 (0,0)):=by rw [aZ,bR];exact heap_alloc_new _ _
                 have ad:Below wq.heap.size wq ak:=by rw [aZ];exact bE
                 rw [<-aZ,<-bR];have ey:Hid (F VB):=by
                  refine fm.out VB ?_;have:=df.out.size;have:=kg.out;omega
                 have bD:Hid (PB≠G∧VB≠G):=by show _∧_;exact⟨fun e=>b9.out.2 (e ▸ dF.out),fun e=>b9.out.2 (e ▸ ey.out)⟩
                 have aJ:=hid ((aR.out.later ad).later (Below.refl ak.heap.size ak).drew);have a7:Hid (Kp F wq ak.drew):=(Kp.of ad).trans (Kp.of (Below.refl ak.heap.size ak).drew);have dh:=(aad (cs:=[_,_]) cG).get2;rw [Aab] at dh;have aL:Hid (ak.drew.cell? ⟨PB,1,none⟩=some (.slice (some ⟨G,0,none⟩) fn fc)∧ak.drew.cell? ⟨VB,0,none⟩=some (.bool vr)∧ak.drew.cell? ⟨VB,1,none⟩=some (.int .i64 vn)):=⟨a7.out.cell dF.out p1,dh.1,dh.2⟩
                 have aG:Hid ((ak.drew.cell? ⟨G,m * 2,none⟩=some (.bool vr)∧ak.drew.frozen? ⟨G,m * 2,none⟩=false)∧ak.drew.cell? ⟨G,m * 2+1,none⟩=some (.int .i64 vn)∧ak.drew.frozen? ⟨G,m * 2+1,none⟩=false):=⟨⟨aab (w':=ak) c0 ad,(ad.frozen (p:=⟨G,m * 2,none⟩) zG).trans dI⟩,aab (w':=ak) c1 ad,(ad.frozen (p:=⟨G,m * 2+1,none⟩) zG).trans fi⟩
                 have cH:G<ak.drew.heap.size:=aac aG.out.1.1;have dG:=hid (aci hn ak.drew aJ.out.nm ⟨vr,vn⟩ fr.out);obtain⟨zr,cv⟩:∃zr,zr=(aep s3 ⟨vr,vn⟩).reg:=⟨_,rfl⟩
                 obtain⟨zn,cx⟩:∃zn,zn=(aep s3 ⟨vr,vn⟩).n:=⟨_,rfl⟩
                 rw [<-cv,<-cx] at dG;have e6:Hid ((⟨zr,zn⟩:aaA)=aep s3 ⟨vr,vn⟩):=by show (⟨zr,zn⟩:aaA)=aep s3 ⟨vr,vn⟩;rw [cv,cx]
                 clear bR aZ cG ad c0 c1 dI fi zG p1 zP dh cv cx
                 go_region_held3 (fun w' => w'.cell? ⟨PB, 1, none⟩ = some (.slice (some ⟨G, 0, none⟩) fn fc) ∧ w'.cell? ⟨VB, 0, none⟩ = some (.bool vr) ∧ w'.cell? ⟨VB, 1, none⟩ = some (.int .i64 vn))
                  ((first | with_reducible exact cX.out | with_reducible exact aI.out | with_reducible exact aL.out))
                  ((go_at_call 87; (with_reducible refine dG.out.mono ?_); rintro e w8 ⟨rfl, aQ, ah⟩
                    have aC := aJ.out.keepN ah
                    have aI : Hid (w8.cell? ⟨PB, 1, none⟩ = some (.slice (some ⟨G, 0, none⟩) fn fc) ∧ w8.cell? ⟨VB, 0, none⟩ = some (.bool vr) ∧ w8.cell? ⟨VB, 1, none⟩ = some (.int .i64 vn)) := ⟨aC.cell dF.out aL.out.1, aC.cell ey.out aL.out.2.1, aC.cell ey.out aL.out.2.2⟩
                    have r1 := ah.cell b9.out.1 aG.out.1.1
                    have rz := ah.frozen b9.out.1 cH aG.out.1.2
                    have r2 := ah.cell b9.out.1 aG.out.2.1
                    have lR := ah.frozen b9.out.1 cH aG.out.2.2
                    have cX : Hid (((w8.setCell ⟨G, m * 2, none⟩ (.bool zr)).setCell ⟨G, m * 2 + 1, none⟩ (.int .i64 zn)).cell? ⟨PB, 1, none⟩ = some (.slice (some ⟨G, 0, none⟩) fn fc) ∧ ((w8.setCell ⟨G, m * 2, none⟩ (.bool zr)).setCell ⟨G, m * 2 + 1, none⟩ (.int .i64 zn)).cell? ⟨VB, 0, none⟩ = some (.bool vr) ∧ ((w8.setCell ⟨G, m * 2, none⟩ (.bool zr)).setCell ⟨G, m * 2 + 1, none⟩ (.int .i64 zn)).cell? ⟨VB, 1, none⟩ = some (.int .i64 vn)) :=
                     ⟨(aam _ bD.out.1 _ _).trans ((aam _ bD.out.1 _ _).trans aI.out.1), (aam _ bD.out.2 _ _).trans ((aam _ bD.out.2 _ _).trans aI.out.2.1), (aam _ bD.out.2 _ _).trans ((aam _ bD.out.2 _ _).trans aI.out.2.2)⟩
                    have b8 := hid aQ
                    have bx := hid ah
                    have bC := hid aC
                    clear aQ ah aC))
                 have ag:=(aJ.out.named b8.out bx.out).setSrc aj.out (i:=i) (m:=m) (g:=G) (pn:=fn) (pc:=fc) kF.out (by rw [adD (amx cU.out)];show m<(abG _ _ _).length;rw [aiS];exact (Aad.1 Hv.out).1) cW.out ⟨zr,zn⟩;rw [e6.out,bZ.out,aqH cU.out Hv.out,<-bZ.out,<-e6.out] at ag;have bz:=hid ag;clear ag;go_wp2_with fail;go_roundw
                 case rel=>exact⟨m+1,by omega,by go_num,by rw [afv _ Hv.out,<-bZ.out];exact bz.out.1,((df.out.trans a7.out).trans bC.out).trans bz.out.2⟩
                 case measure=>simp [intOf];omega
               . have cO:fn=m:=by omega
                 subst cO;rw [kn.out.1,kn.out.2,dH.out,asx cU.out,<-dH.out,Aa0] at ao;have aR:=hid ao;have df:=hid bf;clear ao bf hm hmf;go_wp2_with fail;go_roundw
                 case rel=>exact⟨i+1,by omega,by go_num,by rw [abo ai8 s1 cU.out,<-dH.out];exact aR.out,cI.out.trans df.out⟩
                 case measure=>simp [intOf];omega
              --END
            . have dV:p=i:=by omega
              subst dV;obtain⟨s2,cL⟩:∃s2,s2=x.phis.foldl ai8 s1:=⟨_,rfl⟩
              obtain⟨Pl,jY⟩:∃Pl,Pl=aco s1 x.phis x.phis.length:=⟨_,rfl⟩
              rw [aq.out.1,Aa0,<-cL,aqI s1 s2,<-jY] at al;obtain⟨W7,cV⟩:∃W7:World,W7=wp:=⟨_,rfl⟩
              subst cV;have bX:W7.heap[LB]?=some (.cells #[.slice pa p pc,.slice la q lc,.int .i64 ek,.bool er,.int .i64 en,.slice ta tn tc] 46 (0,0)):=(aB.block LB (Aag.1 cT.out).1 bM.out).trans cT.out;obtain⟨l0,l1,l2,l3,l4,l5⟩:=(aad (cs:=[_,_,_,_,_,_]) bX).get6;rw [Aab] at l1 l2 l3 l4 l5;have dg:=hid bX;have dH:=hid cL;have nc:=hid jY;have ca:=hid al;have fF:Hid (Kp F W5 W7):=eC.out.trans aB;have lU:Hid (W3.heap.size<=W7.heap.size):=by show _<=_;have:=fF.out.size;have:=fk.out;omega
              clear cL jY bX al aB hi hip cT fP eC;go_wp2_with fail;clear l0 l1 l2 l3 l4 l5;go_loopw [146] (fun s146 wr=>∃i:Nat,i<=q∧s146 = .int .i64 (i:Int)∧aei wr base T NB n F (au.set k (lsA Pl s2 x i)) V1 ((x.list.take i).foldl acX s2)∧Kp F W7 wr) (fun s146 _=>q - (intOf s146).toNat)
              case atStart=>exact⟨0,Aaj _,rfl,ca.out,Kp.refl _ _⟩
              case round =>
               obtain⟨wp,eL⟩:∃wp:World,wp=wr:=⟨_,rfl⟩
               subst eL;obtain⟨i,hi,rfl,al,aB⟩:=hrel
               by_cases hiq:i<q
               . have aW:i<x.list.length:=by rw [<-aq.out.2.1];exact hiq
                 obtain⟨y,hy⟩:∃y,x.list[i]?=some y:=⟨_,Aaa aW⟩
                 obtain⟨s3,bI⟩:∃s3,s3=(x.list.take i).foldl acX s2:=⟨_,rfl⟩
                 rw [<-bI] at al;have e4:okP (au.set k (lsA Pl s2 x i)) (.list k):=by show k<_;rw [Aar];exact aj.out
                 have fO:okP (au.set k (lsA Pl s2 x i)) (.args k i):=by show i<_;rw [aas aj.out];show i<(adX s2 x.list i).length;rw [aiR];exact aW
                 obtain⟨fa,fc,dv⟩:=aah.shape (p := .args k i) al.rows fO;obtain⟨fn,az⟩:∃fn,fn=y.args.length:=⟨_,rfl⟩
                 obtain⟨op,hop⟩:∃op,op=y.op:=⟨_,rfl⟩
                 obtain⟨d,hd⟩:∃d,d=y.dst:=⟨_,rfl⟩
                 obtain⟨ar,dq⟩:∃ar,ar=y.a.reg:=⟨_,rfl⟩
                 obtain⟨an,dd⟩:∃an,an=y.a.n:=⟨_,rfl⟩
                 obtain⟨br,du⟩:∃br,br=y.b.reg:=⟨_,rfl⟩
                 obtain⟨bn,dm⟩:∃bn,bn=y.b.n:=⟨_,rfl⟩
                 obtain⟨yf,fg⟩:∃yf,yf=y.fn:=⟨_,rfl⟩
                 rw [show (aae (au.set k (lsA Pl s2 x i)) V1 (.args k i)).length=fn by simp only [aae];rw [aas aj.out,show (lsA Pl s2 x i).list=adX s2 x.list i from rfl,adD (aif s2 hy),Aah,az]] at dv;have af:(aae (au.set k (lsA Pl s2 x i)) V1 (.list k))[i]?=some [.int .i64 op,.int .i64 d,.bool ar,.int .i64 an,.bool br,.int .i64 bn,.int .i64 yf,.slice fa fn fc]:=by
                  simp only [aae];rw [aas aj.out,aai,show (lsA Pl s2 x i).list=adX s2 x.list i from rfl,aif s2 hy,<-dv,hop,hd,dq,dd,du,dm,fg];rfl
                 obtain⟨Q,nV,j8,-,-,-,-⟩:=al.rows.addr (p := .list k) e4 (Aca (Aaj _) (Aad.1 af).1);rw [dc.out.2] at j8;have nF:la=some ⟨Q,0,none⟩:=by injection j8
                 subst nF;have aD:aal wp Q (i * 8) [.int .i64 op,.int .i64 d,.bool ar,.int .i64 an,.bool br,.int .i64 bn,.int .i64 yf,.slice fa fn fc]:=(al.rows.at (p := .list k) e4 (g:=Q) (n:=q) (c:=lc) dc.out.2 af).1;obtain⟨c0,c1,c2,c3,c4,c5,c6,c7⟩:=aD.get8;have zQ:Q<wp.heap.size:=aac c0;have cA:=dK.out.ins y (Aae hy);have jT:Hid (InV n ⟨ar,an⟩):=by rw [dq,dd];exact cA.1
                 have jZ:Hid (InV n ⟨br,bn⟩):=by rw [du,dm];exact cA.2.1
                 have fr:=hid cA.2.2.1;have ee:Hid (d<n):=by rw [hd];exact cA.2.2.2
                 have gb:fn<=1048576:=by rw [az];exact fp.out.args y (Aae hy)
                 have ca:=hid al;have cr:=hid aB;have bZ:=hid bI;have Hy:=hid hy;have bA:Hid (fn=y.args.length∧d=y.dst∧(⟨ar,an⟩:aaA)=y.a∧(⟨br,bn⟩:aaA)=y.b∧op=y.op∧yf=y.fn):=⟨az,hd,by rw [dq,dd],by rw [du,dm],hop,fg⟩
                 have cW:=hid dv;clear aW hy bI e4 fO dv az hop hd dq dd du dm fg af j8 aD cA al aB;go_upto_region 47 with (fail)
                 obtain⟨IB,el⟩:∃IB,IB=wp.heap.size:=⟨_,rfl⟩
                 obtain⟨W8,aT⟩:∃W8,W8=wp.alloc (.cells #[.int .i64 op,.int .i64 d,.bool ar,.int .i64 an,.bool br,.int .i64 bn,.int .i64 yf,.slice fa fn fc] 49):=⟨_,rfl⟩
                 have cC:W8.heap[IB]?=some (.cells #[.int .i64 op,.int .i64 d,.bool ar,.int .i64 an,.bool br,.int .i64 bn,.int .i64 yf,.slice fa fn fc] 49 (0,0)):=by rw [aT,el];exact heap_alloc_new _ _
                 have bg:Below wp.heap.size wp W8:=by rw [aT];exact bE
                 rw [<-aT,<-el];have aO:Hid (F IB):=by
                  refine fm.out IB ?_;have:=cr.out.size;have:=lU.out;omega
                 have nP:Hid (NmF T NB IB):=⟨fun e=>ca.out.nf.1 (e ▸ aO.out),fun e=>ca.out.nf.2 (e ▸ aO.out)⟩
                 have dB:=hid ((ca.out.later bg).later (Below.refl W8.heap.size W8).drew);have bx:Hid (Kp F wp W8.drew):=(Kp.of bg).trans (Kp.of (Below.refl W8.heap.size W8).drew);have fH:Hid (W8.drew.heap[IB]?=some (.cells #[.int .i64 op,.int .i64 d,.bool ar,.int .i64 an,.bool br,.int .i64 bn,.int .i64 yf,.slice fa fn fc] 49 (0,0))):=cC;have gg:Hid (wp.heap.size<=IB):=by rw [el];exact Aac _
                 obtain⟨m0,m1,m2,m3,m4,m5,m6,m7⟩:=(aad (cs:=[_,_,_,_,_,_,_,_]) cC).get8;rw [Aab] at m1 m2 m3 m4 m5 m6 m7;have zI:IB<W8.heap.size:=aac m0;have kx:=hid (aci hn W8.drew dB.out.nm ⟨ar,an⟩ jT.out);obtain⟨xr,ev⟩:∃xr,xr=(aep s3 ⟨ar,an⟩).reg:=⟨_,rfl⟩
                 obtain⟨xn,jw⟩:∃xn,xn=(aep s3 ⟨ar,an⟩).n:=⟨_,rfl⟩
                 rw [<-ev,<-jw] at kx;have kA:Hid (∀w,afC w T NB n (aeY s3 ⟨ar,an⟩)->_):=fun w h=>aci hn w h ⟨br,bn⟩ jZ.out;obtain⟨zr,cv⟩:∃zr,zr=(aep (aeY s3 ⟨ar,an⟩) ⟨br,bn⟩).reg:=⟨_,rfl⟩
                 obtain⟨zn,cx⟩:∃zn,zn=(aep (aeY s3 ⟨ar,an⟩) ⟨br,bn⟩).n:=⟨_,rfl⟩
                 rw [<-cv,<-cx] at kA;have mq:Hid ((⟨xr,xn⟩:aaA)=aep s3 y.a):=by show (⟨xr,xn⟩:aaA)=_;rw [ev,jw,bA.out.2.2.1]
                 have e6:Hid ((⟨zr,zn⟩:aaA)=aep (aeY s3 y.a) y.b):=by show (⟨zr,zn⟩:aaA)=_;rw [cv,cx,bA.out.2.2.1,bA.out.2.2.2.1]
                 clear el aT cC bg c0 c1 c2 c3 c4 c5 c6 c7 zQ ev jw cv cx;go_cut [154] (fun v154 wc=>v154=v154∧aei wc base T NB n F (au.set k (lsA Pl s2 x i)) V1 (afc s3 y)∧Kp F wp wc∧wc.heap[IB]?=some (.cells #[.int .i64 op,.int .i64 d,.bool xr,.int .i64 xn,.bool zr,.int .i64 zn,.int .i64 yf,.slice fa fn fc] 49 (0,0)))
                 case first =>
                  --DEV
                  go_region_law
                   ((first
                     | (go_simp; go_at_call 87; (with_reducible refine kx.out.mono ?_); rintro e w8 ⟨rfl, aQ, ah⟩
                        have aC := dB.out.keepN ah
                        have iJ := (aC.block IB (Aag.1 fH.out).1 aO.out).trans fH.out
                        obtain ⟨-, -, a2, a3, a4, a5, -, -⟩ := (aad (cs := [_, _, _, _, _, _, _, _]) iJ).get8
                        rw [Aab] at a2 a3 a4 a5
                        have nK := aac a2
                        have mN := hid (kA.out w8 aQ)
                        have cK := hid (dB.out.named aQ ah)
                        have bC := hid aC
                        have lp := hid iJ
                        clear aQ ah aC iJ)
                     | (go_simp; go_at_call 87; (with_reducible refine mN.out.mono ?_); rintro e w9 ⟨rfl, gY, aH⟩
                        have jx := cK.out.keepN aH
                        have eh := (jx.block IB (Aag.1 lp.out).1 aO.out).trans lp.out
                        obtain ⟨-, -, b2, b3, b4, b5, -, -⟩ := (aad (cs := [_, _, _, _, _, _, _, _]) eh).get8
                        rw [Aab] at b2 b3 b4 b5
                        have y2 := aaq eh 2
                        have y3 := aaq eh 3
                        have y4 := aaq eh 4
                        have y5 := aaq eh 5
                        have nN := aac b2
                        have cQ := hid (cK.out.named gY aH)
                        have mJ := hid jx
                        have mA := hid eh
                        clear gY aH jx eh)))
                  all_goals
                   have dR:=aak (i:=5) (aak (i:=4) (aak (i:=3) (aak (i:=2) mA.out (.bool xr)) (.int .i64 xn)) (.bool zr)) (.int .i64 zn);have lf:Kp (fun b=>b≠IB) w9 ((((w9.setCell ⟨IB,2,none⟩ (.bool xr)).setCell ⟨IB,3,none⟩ (.int .i64 xn)).setCell ⟨IB,4,none⟩ (.bool zr)).setCell ⟨IB,5,none⟩ (.int .i64 zn)):=aaD (aaD (aaD (aaP _ _ _ _) _ _) _ _) _ _;have ed:=cQ.out.other lf aO.out;rw [bA.out.2.2.1,bA.out.2.2.2.1] at ed;have lz:Kp F wp ((((w9.setCell ⟨IB,2,none⟩ (.bool xr)).setCell ⟨IB,3,none⟩ (.int .i64 xn)).setCell ⟨IB,4,none⟩ (.bool zr)).setCell ⟨IB,5,none⟩ (.int .i64 zn)) :=
                    ((((bx.out.trans (bC.out.trans mJ.out)).setNew (a:=⟨IB,2,none⟩) gg.out _).setNew (a:=⟨IB,3,none⟩) gg.out _).setNew (a:=⟨IB,4,none⟩) gg.out _).setNew (a:=⟨IB,5,none⟩) gg.out _
                   have et:=hid (And.intro ed (And.intro lz dR));clear dR lf ed lz a2 a3 a4 a5 b2 b3 b4 b5 y2 y3 y4 y5;go_wp2_with fail;go_meet;exact⟨trivial,et.out⟩
                  --END
                 case rest =>
                  obtain⟨-,jb,j0,dM⟩:=hcut;obtain⟨gm,kk⟩:∃gm:World,gm=wc:=⟨_,rfl⟩
                  subst kk;obtain⟨s4,jX⟩:∃s4,s4=afc s3 y:=⟨_,rfl⟩
                  rw [<-jX,aqJ Pl s4 Hy.out] at jb;have mL:=hid jb;have mj:=hid j0;have jK:=hid dM;have gI:=hid jX;have l7:=(aad (cs:=[_,_,_,_,_,_,_,_]) dM) 7 _ rfl;rw [Aab] at l7;have nT:IB<gm.heap.size:=aac l7;have nw:Hid (W3.heap.size<=gm.heap.size):=by show _<=_;have:=cr.out.size;have:=j0.size;have:=lU.out;omega
                  clear jb j0 dM jX m0 m1 m2 m3 m4 m5 m6 m7 zI kx kA dB bx fH;go_wp2_with fail;clear l7;go_loopw [164] (fun s164 wr=>∃m:Nat,m<=fn∧s164 = .int .i64 (m:Int)∧aei wr base T NB n F (au.set k (lsB Pl s2 s4 x i y m)) V1 (abf s4 (y.args.take m))∧Kp F gm wr) (fun s164 _=>fn - (intOf s164).toNat)
                  case atStart=>exact⟨0,Aaj _,rfl,mL.out,Kp.refl _ _⟩
                  case round =>
                   obtain⟨wq,fR⟩:∃wq:World,wq=wr:=⟨_,rfl⟩
                   subst fR;obtain⟨m,hm,rfl,ao,bf⟩:=hrel
                   by_cases hmf:m<fn
                   . skip
                     --DEV
                     have cN:m<y.args.length:=by rw [<-bA.out.1];exact hmf
                     obtain⟨v,hv⟩:∃v,y.args[m]?=some v:=⟨_,Aaa cN⟩
                     obtain⟨s5,jQ⟩:∃s5,s5=abf s4 (y.args.take m):=⟨_,rfl⟩
                     rw [<-jQ] at ao;have eN:i<(lsB Pl s2 s4 x i y m).list.length:=(Aad.1 (ahI Hy.out)).1;have aE:okP (au.set k (lsB Pl s2 s4 x i y m)) (.args k i):=by show i<_;rw [aas aj.out];exact eN
                     have af:(aae (au.set k (lsB Pl s2 s4 x i y m)) V1 (.args k i))[m]?=some [.bool v.reg,.int .i64 v.n]:=by
                      simp only [aae];rw [aas aj.out,adD (ahI Hy.out),Aak,ak7 _ hv];rfl
                     obtain⟨G,gc,eH,-,-,-,-⟩:=ao.rows.addr (p := .args k i) aE (Aca (Aaj _) (Aad.1 af).1);rw [cW.out] at eH;have jU:fa=some ⟨G,0,none⟩:=by injection eH
                     subst jU;obtain⟨aD,hz⟩:=ao.rows.at (p := .args k i) aE (g:=G) (n:=fn) (c:=fc) cW.out af;obtain⟨vr,vn⟩:=v;have aN:aal wq G (m * 2) [.bool vr,.int .i64 vn]:=aD;obtain⟨c0,c1⟩:=aN.get2;have dI:=hz (m * 2);have fi:=hz (m * 2+1);have dx:=ao.off (.args k i) aE G (by rw [cW.out];rfl);have b9:Hid (NmF T NB G∧¬F G):=⟨⟨dx.2.1,dx.2.2⟩,dx.1⟩
                     have jA:=hid (fr.out _ (Aae hv));have zG:G<wq.heap.size:=aac c0;have p1:wq.cell? ⟨IB,7,none⟩=some (.slice (some ⟨G,0,none⟩) fn fc):=by
                      have h:=(aad (cs:=[_,_,_,_,_,_,_,_]) jK.out) 7 _ rfl;rw [Aab] at h;exact bf.cell aO.out h
                     have zP:IB<wq.heap.size:=aac p1;have aR:=hid ao;have df:=hid bf;have Hv:=hid hv;have jE:=hid jQ;have kF:=hid eN;clear cN hv jQ eN aE af eH aD hz aN dx ao bf;go_upto_region 51 with (fail)
                     obtain⟨VB,bR⟩:∃VB,VB=wq.heap.size:=⟨_,rfl⟩
                     obtain⟨ak,aZ⟩:∃ak,ak=wq.alloc (.cells #[.bool vr,.int .i64 vn] 41):=⟨_,rfl⟩
                     have cG:ak.heap[VB]?=some (.cells #[.bool vr,.int .i64 vn] 41 (0,0)):=by rw [aZ,bR];exact heap_alloc_new _ _
                     have ad:Below wq.heap.size wq ak:=by rw [aZ];exact bE
                     rw [<-aZ,<-bR];have ey:Hid (F VB):=by
                      refine fm.out VB ?_;have:=df.out.size;have:=nw.out;omega
                     have bD:Hid (IB≠G∧VB≠G):=by show _∧_;exact⟨fun e=>b9.out.2 (e ▸ aO.out),fun e=>b9.out.2 (e ▸ ey.out)⟩
                     have aJ:=hid ((aR.out.later ad).later (Below.refl ak.heap.size ak).drew);have a7:Hid (Kp F wq ak.drew):=(Kp.of ad).trans (Kp.of (Below.refl ak.heap.size ak).drew);have dh:=(aad (cs:=[_,_]) cG).get2;rw [Aab] at dh;have aL:Hid (ak.drew.cell? ⟨IB,7,none⟩=some (.slice (some ⟨G,0,none⟩) fn fc)∧ak.drew.cell? ⟨VB,0,none⟩=some (.bool vr)∧ak.drew.cell? ⟨VB,1,none⟩=some (.int .i64 vn)):=⟨a7.out.cell aO.out p1,dh.1,dh.2⟩
                     have aG:Hid ((ak.drew.cell? ⟨G,m * 2,none⟩=some (.bool vr)∧ak.drew.frozen? ⟨G,m * 2,none⟩=false)∧ak.drew.cell? ⟨G,m * 2+1,none⟩=some (.int .i64 vn)∧ak.drew.frozen? ⟨G,m * 2+1,none⟩=false):=⟨⟨aab (w':=ak) c0 ad,(ad.frozen (p:=⟨G,m * 2,none⟩) zG).trans dI⟩,aab (w':=ak) c1 ad,(ad.frozen (p:=⟨G,m * 2+1,none⟩) zG).trans fi⟩
                     have cH:G<ak.drew.heap.size:=aac aG.out.1.1;have dG:=hid (aci hn ak.drew aJ.out.nm ⟨vr,vn⟩ jA.out);obtain⟨dE,ei⟩:∃dE,dE=(aep s5 ⟨vr,vn⟩).reg:=⟨_,rfl⟩
                     obtain⟨dN,eI⟩:∃dN,dN=(aep s5 ⟨vr,vn⟩).n:=⟨_,rfl⟩
                     rw [<-ei,<-eI] at dG;have gz:Hid ((⟨dE,dN⟩:aaA)=aep s5 ⟨vr,vn⟩):=by show (⟨dE,dN⟩:aaA)=aep s5 ⟨vr,vn⟩;rw [ei,eI]
                     clear bR aZ cG ad c0 c1 dI fi zG p1 zP dh ei eI
                     go_region_held3 (fun w' => w'.cell? ⟨IB, 7, none⟩ = some (.slice (some ⟨G, 0, none⟩) fn fc) ∧ w'.cell? ⟨VB, 0, none⟩ = some (.bool vr) ∧ w'.cell? ⟨VB, 1, none⟩ = some (.int .i64 vn))
                      ((first | with_reducible exact cX.out | with_reducible exact aI.out | with_reducible exact aL.out))
                      ((go_at_call 87; (with_reducible refine dG.out.mono ?_); rintro e w8 ⟨rfl, aQ, ah⟩
                        have aC := aJ.out.keepN ah
                        have aI : Hid (w8.cell? ⟨IB, 7, none⟩ = some (.slice (some ⟨G, 0, none⟩) fn fc) ∧ w8.cell? ⟨VB, 0, none⟩ = some (.bool vr) ∧ w8.cell? ⟨VB, 1, none⟩ = some (.int .i64 vn)) := ⟨aC.cell aO.out aL.out.1, aC.cell ey.out aL.out.2.1, aC.cell ey.out aL.out.2.2⟩
                        have r1 := ah.cell b9.out.1 aG.out.1.1
                        have rz := ah.frozen b9.out.1 cH aG.out.1.2
                        have r2 := ah.cell b9.out.1 aG.out.2.1
                        have lR := ah.frozen b9.out.1 cH aG.out.2.2
                        have cX : Hid (((w8.setCell ⟨G, m * 2, none⟩ (.bool dE)).setCell ⟨G, m * 2 + 1, none⟩ (.int .i64 dN)).cell? ⟨IB, 7, none⟩ = some (.slice (some ⟨G, 0, none⟩) fn fc) ∧ ((w8.setCell ⟨G, m * 2, none⟩ (.bool dE)).setCell ⟨G, m * 2 + 1, none⟩ (.int .i64 dN)).cell? ⟨VB, 0, none⟩ = some (.bool vr) ∧ ((w8.setCell ⟨G, m * 2, none⟩ (.bool dE)).setCell ⟨G, m * 2 + 1, none⟩ (.int .i64 dN)).cell? ⟨VB, 1, none⟩ = some (.int .i64 vn)) :=
                         ⟨(aam _ bD.out.1 _ _).trans ((aam _ bD.out.1 _ _).trans aI.out.1), (aam _ bD.out.2 _ _).trans ((aam _ bD.out.2 _ _).trans aI.out.2.1), (aam _ bD.out.2 _ _).trans ((aam _ bD.out.2 _ _).trans aI.out.2.2)⟩
                        have b8 := hid aQ
                        have bx := hid ah
                        have bC := hid aC
                        clear aQ ah aC))
                     have ag:=(aJ.out.named b8.out bx.out).setArg aj.out (i:=i) (m:=m) (g:=G) (pn:=fn) (pc:=fc) kF.out (by rw [adD (ahI Hy.out)];show m<(abG _ _ _).length;rw [aiS];exact (Aad.1 Hv.out).1) cW.out ⟨dE,dN⟩;rw [gz.out,jE.out,aqK Hy.out Hv.out,<-jE.out,<-gz.out] at ag;have bz:=hid ag;clear ag;go_wp2_with fail;go_roundw
                     case rel=>exact⟨m+1,by omega,by go_num,by rw [afv _ Hv.out,<-jE.out];exact bz.out.1,((df.out.trans a7.out).trans bC.out).trans bz.out.2⟩
                     case measure=>simp [intOf];omega
                     --END
                   . have cO:fn=m:=by omega
                     subst cO;rw [bA.out.1,Aa0] at ao;have dM:=(bf.block IB (Aag.1 jK.out).1 aO.out).trans jK.out;have dw:Hid (Kp F wp wq):=mj.out.trans bf;have gr:=hid dM;have aR:=hid ao;obtain⟨m0,m1,m2,m3,m4,m5,m6,m7⟩:=(aad (cs:=[_,_,_,_,_,_,_,_]) dM).get8;rw [Aab] at m1 m2 m3 m4 m5 m6 m7;have zI:IB<wq.heap.size:=aac m0;have y1:=aaq dM 1
                     -- the instruction is stored
                     have cy : Hid (∀ W' d', aei W' base T NB n F (au.set k (lsB Pl s2 s4 x i y y.args.length)) V1 (ajL (abf s4 y.args) d) -> d' = at2 (abf s4 y.args) d ->
                      ∀ iI, iI = ((((((((W'.setCell ⟨Q, i * 8, none⟩ (.int .i64 op)).setCell ⟨Q, i * 8 + 1, none⟩ (.int .i64 d')).setCell ⟨Q, i * 8 + 2, none⟩ (.bool xr)).setCell ⟨Q, i * 8 + 3, none⟩ (.int .i64 xn)).setCell ⟨Q, i * 8 + 4, none⟩ (.bool zr)).setCell ⟨Q, i * 8 + 5, none⟩ (.int .i64 zn)).setCell ⟨Q, i * 8 + 6, none⟩ (.int .i64 yf)).setCell ⟨Q, i * 8 + 7, none⟩ (.slice fa fn fc)) ->
                      aei iI base T NB n F (au.set k (lsA Pl s2 x (i + 1))) V1 ((x.list.take (i + 1)).foldl acX s2) ∧ Kp F W' iI) := fun W' d' h gF iI jW => by
                      have ag:=h.setIns aj.out (i:=i) (g:=Q) (pn:=q) (pc:=lc) (Aad.1 (ahI Hy.out)).1 dc.out.2 ⟨op,d',⟨xr,xn⟩,⟨zr,zn⟩,yf,[]⟩ cW.out.symm;rw [jW,abo acX s2 Hy.out,<-bZ.out];unfold acX;rw [show aeY (aeY s3 y.a) y.b=s4 from gI.out.symm,<-bA.out.2.1]
                      rw [gI.out, bZ.out, asy Hy.out ⟨op, d', ⟨xr, xn⟩, ⟨zr, zn⟩, yf, []⟩ (by
                       rw [<- bZ.out, <- gI.out]
                       unfold arx
                       rw [show afc s3 y = s4 from gI.out.symm, gF, mq.out, e6.out, bA.out.2.2.2.2.1, bA.out.2.2.2.2.2, bA.out.2.1]), <- bZ.out, <- gI.out] at ag
                      exact ag
                     have fV:=aR.out.off (.list k) (by show k<_;rw [Aar];exact aj.out) Q (by rw [dc.out.2];rfl);have h5:Hid (NmF T NB Q∧¬F Q∧Q≠IB):=⟨⟨fV.2.1,fV.2.2⟩,fV.1,fun e=>fV.1 (e ▸ aO.out)⟩
                     have lB:(aae (au.set k (lsB Pl s2 s4 x i y y.args.length)) V1 (.list k))[i]?=some (abN { y with args:=abG s4 y.args y.args.length } (V1 (.args k i))):=by
                      simp only [aae];rw [aas aj.out,aai,ahI Hy.out];rfl
                     obtain⟨ky,kM⟩:=aR.out.rows.at (p := .list k) (by show k<_;rw [Aar];exact aj.out) (g:=Q) (n:=q) (c:=lc) dc.out.2 lB;have lv:Hid (aal wq Q (i * 8) (abN { y with args:=abG s4 y.args y.args.length } (V1 (.args k i)))∧∀o,wq.frozen? ⟨Q,o,none⟩=false):=⟨ky,kM⟩
                     have lk:Q<wq.heap.size:=aac (ky 0 _ rfl)
                     -- region 55,wherever the destination is settled
                     have jn:Hid (∀W',Kp (NmF T NB) wq W'->aal W' Q (i * 8) (abN { y with args:=abG s4 y.args y.args.length } (V1 (.args k i)))∧∀o,W'.frozen? ⟨Q,o,none⟩=false):=fun W' h =>
                      ⟨fun j u hj=>h.cell h5.out.1 (lv.out.1 j u hj),fun o=>h.frozen h5.out.1 lk (lv.out.2 o)⟩
                     clear ao bf hmf hm dM fV lB ky kM
                     by_cases hd0:0<=d
                     . have bB:Hid (0<=d∧d<n):=⟨hd0,ee.out⟩
                       have cb:=hid (adf hn wq aR.out.nm d bB.out);obtain⟨d',gF⟩:∃d',d'=nmR (abf s4 y.args) d:=⟨_,rfl⟩
                       rw [<-gF] at cb;have lY:=hid gF;clear gF m0 m2 m3 m4 m5 m6 m7;go_upto_region 55 with (go_at_call 86;refine cb.out.mono ?_;rintro e w8 ⟨rfl,aQ,ah⟩;have b8:=hid aQ;have bx:=hid ah;have bC:=hid (aR.out.keepN ah);have m1:=bC.out.cell aO.out m1;have y1:=bC.out.frozen aO.out zI y1;have zI:=aac m1;clear aQ ah)
                       obtain⟨bm,a8⟩:∃bm,bm=w8.setCell ⟨IB,1,none⟩ (.int .i64 d'):=⟨_,rfl⟩
                       have eW:=aak (i:=1) ((bC.out.block IB (Aag.1 gr.out).1 aO.out).trans gr.out) (.int .i64 d');rw [<-a8] at eW ⊢;have dC:bm.heap[IB]?=some (.cells #[.int .i64 op,.int .i64 d',.bool xr,.int .i64 xn,.bool zr,.int .i64 zn,.int .i64 yf,.slice fa fn fc] 49 (0,0)):=eW;obtain⟨n0,n1,n2,n3,n4,n5,n6,n7⟩:=(aad (cs:=[_,_,_,_,_,_,_,_]) dC).get8;rw [Aab] at n1 n2 n3 n4 n5 n6 n7;have bu:Kp (fun b=>b≠IB) w8 bm:=by rw [a8];exact aaP _ _ _ _
                       have fC:=hid ((aR.out.named b8.out bx.out).other bu aO.out);have h7:=jn.out w8 bx.out;have kS:aal bm Q (i * 8) (abN { y with args:=abG s4 y.args y.args.length } (V1 (.args k i))):=fun j u hj=>bu.cell h5.out.2.2 (h7.1 j u hj);have lr:Q<w8.heap.size:=aac (h7.1 0 _ rfl);have aY:∀o,bm.frozen? ⟨Q,o,none⟩=false:=fun o=>bu.frozen h5.out.2.2 lr (h7.2 o);obtain⟨g0,g1,g2,g3,g4,g5,g6,g7⟩:=kS.get8;have f0:=aY (i * 8);have f1:=aY (i * 8+1);have f2:=aY (i * 8+2);have f3:=aY (i * 8+3);have f4:=aY (i * 8+4);have f5:=aY (i * 8+5);have f6:=aY (i * 8+6);have f7:=aY (i * 8+7);have mV:IB<bm.heap.size:=aac n0;have jf:Q<bm.heap.size:=aac g0;have fx:Hid (Kp F W7 bm):=cr.out.trans (by rw [a8];exact (dw.out.trans bC.out).setNew (a:=⟨IB,1,none⟩) gg.out _);have l1:bm.cell? ⟨LB,1,none⟩=some (.slice (some ⟨Q,0,none⟩) q lc):=by
                        have h:=(aad (cs:=[_,_,_,_,_,_]) dg.out) 1 _ rfl;rw [Aab] at h;exact fx.out.cell bM.out h
                       have iO:LB<bm.heap.size:=aac l1;have gM:=hid (cy.out bm d' (by have h:=fC.out;rw [show nmS (abf s4 y.args) d=ajL (abf s4 y.args) d from (if_pos bB.out.1).symm] at h;exact h) (by rw [lY.out];exact (if_pos bB.out.1).symm) _ rfl);clear a8 eW dC bu h7 kS aY m1 y1 zI lr;go_wp2_with fail;go_roundw
                       case rel=>exact⟨i+1,by omega,by go_num,gM.out.1,fx.out.trans gM.out.2⟩
                       case measure=>simp [intOf];omega
                     . obtain⟨g0,g1,g2,g3,g4,g5,g6,g7⟩:=(jn.out wq (Kp.refl _ _)).1.get8
                       have aY:=(jn.out wq (Kp.refl _ _)).2;have f0:=aY (i * 8);have f1:=aY (i * 8+1);have f2:=aY (i * 8+2);have f3:=aY (i * 8+3);have f4:=aY (i * 8+4);have f5:=aY (i * 8+5);have f6:=aY (i * 8+6);have f7:=aY (i * 8+7);have jf:Q<wq.heap.size:=lk;have fx:Hid (Kp F W7 wq):=cr.out.trans dw.out;have l1:wq.cell? ⟨LB,1,none⟩=some (.slice (some ⟨Q,0,none⟩) q lc):=by
                        have h:=(aad (cs:=[_,_,_,_,_,_]) dg.out) 1 _ rfl;rw [Aab] at h;exact fx.out.cell bM.out h
                       have iO:LB<wq.heap.size:=aac l1;have gM:=hid (cy.out wq d (by have h:=aR.out;rw [show abf s4 y.args=ajL (abf s4 y.args) d from (if_neg hd0).symm] at h;exact h) (if_neg hd0).symm _ rfl);clear aY y1;go_wp2_with fail;go_roundw
                       case rel=>exact⟨i+1,by omega,by go_num,gM.out.1,fx.out.trans gM.out.2⟩
                       case measure=>simp [intOf];omega
               . have eK:q=i:=by omega
                 subst eK
                 --DEV
                 rw [aq.out.2.1,Aa0] at al;obtain⟨s3,bI⟩:∃s3,s3=x.list.foldl acX s2:=⟨_,rfl⟩
                 rw [<-bI] at al;have gU:s3=ary s1 x:=by rw [bI,dH.out];rfl
                 have eP:okP (au.set k (lsA Pl s2 x x.list.length)) .blks:=trivial;have af:(aae (au.set k (lsA Pl s2 x x.list.length)) V1 .blks)[k]?=some (abe (lsA Pl s2 x x.list.length) (V1 (.phis k)) (V1 (.list k)) (V1 (.to k))):=by
                  simp only [aae];rw [aai,Aa5 aj.out];rfl
                 obtain⟨aD,hz⟩:=al.rows.at (p := .blks) eP (g:=R) (n:=l) (c:=rc) b7.out af;obtain⟨c0,c1,c2,c3,c4,c5⟩:=aD.get6;have j5:=hz (k * 6+3);have kl:=hz (k * 6+4);have hP:=al.off .blks eP R (by rw [b7.out];rfl);have fe:Hid (NmF T NB R∧¬F R):=⟨⟨hP.2.1,hP.2.2⟩,hP.1⟩
                 have fo:Hid (UB≠R∧LB≠R):=⟨fun e=>fe.out.2 (e ▸ cY.out.1),fun e=>fe.out.2 (e ▸ bM.out)⟩
                 have ks:Hid (InV n ⟨er,en⟩):=by rw [show (⟨er,en⟩:aaA)=x.fin.on by rw [aq.out.2.2.1,aq.out.2.2.2]];exact dK.out.on
                 have fv:Hid ((⟨er,en⟩:aaA)=x.fin.on):=by show (⟨er,en⟩:aaA)=_;rw [aq.out.2.2.1,aq.out.2.2.2]
                 have kc:Hid (Kp F W7 wp.drew):=aB.trans (Kp.of (Below.refl wp.heap.size wp).drew);have gh:Hid (Kp F W5 wp.drew):=fF.out.trans kc.out;have dU:=hid (al.later (Below.refl wp.heap.size wp).drew);have aL:Hid (wp.drew.cell? ⟨UB,3,none⟩=some (.slice (some ⟨R,0,none⟩) l rc)∧wp.drew.cell? ⟨LB,3,none⟩=some (.bool er)∧wp.drew.cell? ⟨LB,4,none⟩=some (.int .i64 en)):=by
                  have h1:=(aad (cs:=[_,_,_,_]) bt.out) 3 _ rfl;have h2:=(aad (cs:=[_,_,_,_,_,_]) dg.out) 3 _ rfl;have h3:=(aad (cs:=[_,_,_,_,_,_]) dg.out) 4 _ rfl;rw [Aab] at h1 h2 h3;exact⟨gh.out.cell cY.out.1 h1,kc.out.cell bM.out h2,kc.out.cell bM.out h3⟩
                 have zR:R<wp.drew.heap.size:=aac (w:=wp) c3;have aG:Hid ((wp.drew.cell? ⟨R,k * 6+3,none⟩=some (.bool (lsA Pl s2 x x.list.length).fin.on.reg)∧wp.drew.frozen? ⟨R,k * 6+3,none⟩=false)∧wp.drew.cell? ⟨R,k * 6+4,none⟩=some (.int .i64 (lsA Pl s2 x x.list.length).fin.on.n)∧wp.drew.frozen? ⟨R,k * 6+4,none⟩=false):=⟨⟨c3,j5⟩,c4,kl⟩
                 have dG:=hid (aci hn wp.drew dU.out.nm ⟨er,en⟩ ks.out);obtain⟨zr,cv⟩:∃zr,zr=(aep s3 ⟨er,en⟩).reg:=⟨_,rfl⟩
                 obtain⟨zn,cx⟩:∃zn,zn=(aep s3 ⟨er,en⟩).n:=⟨_,rfl⟩
                 rw [<-cv,<-cx] at dG;have e6:Hid ((⟨zr,zn⟩:aaA)=aep s3 x.fin.on):=by show (⟨zr,zn⟩:aaA)=_;rw [cv,cx,fv.out]
                 have bZ:=hid gU;clear bI gU eP af aD hz c0 c1 c2 c3 c4 c5 j5 kl hP al aB hi hiq cv cx;go_upto_region 57 with (fail)
                 go_region_held3 (fun w' => w'.cell? ⟨UB, 3, none⟩ = some (.slice (some ⟨R, 0, none⟩) l rc) ∧ w'.cell? ⟨LB, 3, none⟩ = some (.bool er) ∧ w'.cell? ⟨LB, 4, none⟩ = some (.int .i64 en))
                  ((first | with_reducible exact cX.out | with_reducible exact aI.out | with_reducible exact aL.out))
                  ((go_at_call 87; (with_reducible refine dG.out.mono ?_); rintro e w8 ⟨rfl, aQ, ah⟩
                    have aC := dU.out.keepN ah
                    have aI : Hid (w8.cell? ⟨UB, 3, none⟩ = some (.slice (some ⟨R, 0, none⟩) l rc) ∧ w8.cell? ⟨LB, 3, none⟩ = some (.bool er) ∧ w8.cell? ⟨LB, 4, none⟩ = some (.int .i64 en)) := ⟨aC.cell cY.out.1 aL.out.1, aC.cell bM.out aL.out.2.1, aC.cell bM.out aL.out.2.2⟩
                    have r1 := ah.cell fe.out.1 aG.out.1.1
                    have rz := ah.frozen fe.out.1 zR aG.out.1.2
                    have r2 := ah.cell fe.out.1 aG.out.2.1
                    have lR := ah.frozen fe.out.1 zR aG.out.2.2
                    have cX : Hid (((w8.setCell ⟨R, k * 6 + 3, none⟩ (.bool zr)).setCell ⟨R, k * 6 + 4, none⟩ (.int .i64 zn)).cell? ⟨UB, 3, none⟩ = some (.slice (some ⟨R, 0, none⟩) l rc) ∧ ((w8.setCell ⟨R, k * 6 + 3, none⟩ (.bool zr)).setCell ⟨R, k * 6 + 4, none⟩ (.int .i64 zn)).cell? ⟨LB, 3, none⟩ = some (.bool er) ∧ ((w8.setCell ⟨R, k * 6 + 3, none⟩ (.bool zr)).setCell ⟨R, k * 6 + 4, none⟩ (.int .i64 zn)).cell? ⟨LB, 4, none⟩ = some (.int .i64 en)) :=
                     ⟨(aam _ fo.out.1 _ _).trans ((aam _ fo.out.1 _ _).trans aI.out.1), (aam _ fo.out.2 _ _).trans ((aam _ fo.out.2 _ _).trans aI.out.2.1), (aam _ fo.out.2 _ _).trans ((aam _ fo.out.2 _ _).trans aI.out.2.2)⟩
                    have b8 := hid aQ
                    have bx := hid ah
                    have bC := hid aC
                    clear aQ ah aC))
                 have ag:=(dU.out.named b8.out bx.out).setOn aj.out (g:=R) (pn:=l) (pc:=rc) b7.out ⟨zr,zn⟩;rw [e6.out,bZ.out,nc.out,dH.out,aqL,fv.out,show aeY (ary s1 x) x.fin.on=ajM s1 x from rfl,iu.out,kt.out,anR sA Hx.out,<-abo ajM sA Hx.out] at ag;rw [show aep (ary (List.foldl ajM sA (List.take k bk)) x) x.fin.on=⟨zr,zn⟩ by rw [<-iu.out,<-bZ.out];exact e6.out.symm] at ag;have bz:=hid ag;clear ag;go_wp2_with fail;go_roundw
                 case rel=>exact⟨k+1,by omega,by go_num,bz.out.1,(gh.out.trans bC.out).trans bz.out.2⟩
                 case measure=>simp [intOf];omega
                 --END
         . have jo:l=k:=by omega
           subst jo;obtain⟨sF,jS⟩:∃sF,sF=bk.foldl ajM sA:=⟨_,rfl⟩
           rw [ai9 ajM sA Hl.out,<-jS] at bh;obtain⟨mn,cc⟩:∃mn,mn=sF.many:=⟨_,rfl⟩
           have gB:mn=afe pn n bk:=by rw [cc,jS,ll.out];rfl
           have iF:afd sA bk l=adm pn n bk:=by rw [ll.out,Hl.out];rfl
           rw [iF] at bh;have bd:=bh.nm.box;rw [<-cc] at bd;have n1:=(aad (cs:=[_,_]) bd) 1 _ rfl;rw [Aab] at n1;have zN:NB<wo.heap.size:=aac n1;have bY:=(ai.block UB (Aag.1 bt.out).1 cY.out.1).trans bt.out;have bN:=(ai.block UO (Aag.1 gu.out).1 cY.out.2).trans gu.out;obtain⟨c0,c1,c2,c3⟩:=(aad (cs:=[_,_,_,_]) bY).get4;obtain⟨o0,o1,o2,o3⟩:=(aad (cs:=[_,_,_,_]) bN).get4;rw [Aab] at c1 c2 c3 o1 o2 o3;have f2:=aaq bY 2;have z0:=aaq bN 0;have z1:=aaq bN 1;have z2:=aaq bN 2;have z3:=aaq bN 3;have cZ:¬UO=UB:=by have:=ae.out;omega
           have gl:aal (wo.setCell ⟨UB,2,none⟩ (.int .i64 mn)) UO 0 [.string ⟨#[]⟩,.int .i64 0,.int .i64 0,.slice none 0 0]:=fun j v hj=>by
            rw [aam _ cZ];exact aad bN j v hj
           have j9:=hid gl;have cK:=hid bh;have eS:=hid ai;have iV:=hid gB;have nM:Hid (l=(adm pn n bk).length):=by show l=_;rw [Hl.out];unfold adm;rw [ajc]
           clear jS cc gB iF bd bY bN bh ai gl;go_wp2_with fail;have bq:=as3 (u0 := .string nm) (u1 := .int .i64 (pn:Int)) (u2 := .int .i64 mn) (u3 := .slice ra l rc) j9.out;refine bodyPost_ret (adR rfl rfl bq) rfl ?_;have lM:=ae.out;have dT:=fb.out;have nQ:=HB.out;have fh:∀b,F b->∀q,okP (adm pn n bk) q->(V1 q).ownBlock≠some b:=fun b hb q hq e=>(cK.out.off q hq b e).1 hb;refine⟨V1,?_,(((((cK.out.rows.setOff (o:=2) (fh UB cY.out.1) (.int .i64 mn)).setOff (o:=0) (fh UO cY.out.2) (.string nm)).setOff (o:=1) (fh UO cY.out.2) (.int .i64 (pn:Int))).setOff (o:=2) (fh UO cY.out.2) (.int .i64 mn)).setOff (o:=3) (fh UO cY.out.2) (.slice ra l rc)),?_,?_⟩
           . show _=Ending.returned (.agg #[.string nm,.int .i64 (pn:Int),.int .i64 (afe pn n bk),V1 .blks])
             rw [<-iV.out,b7.out]
           . have na:Below base W9 wo:=by
              refine ((dA.out.mono (by omega)).trans (dD.out.below fun b hb=>⟨by omega,bp.out b (by omega)⟩)).trans (eS.out.below fun b hb=>⟨by have:=fk.out;omega,?_⟩);rw [HF.out];exact⟨by omega,by omega,fun q hq e=>by have:=(aah.lt aw.out hq b e).1;omega⟩
             have hb:=lI.out.trans na;have h1:base<=UB:=by omega
             have h2:base<=UO:=by omega
             exact ((((hb.setCell (p:=⟨UB,2,none⟩) h1 _).setCell (p:=⟨UO,0,none⟩) h2 _).setCell (p:=⟨UO,1,none⟩) h2 _).setCell (p:=⟨UO,2,none⟩) h2 _).setCell (p:=⟨UO,3,none⟩) h2 _
           . intro b hb
             have ct:=(HS.out b hb).1;have h1:b≠UB:=by omega
             have h2:b≠UO:=by omega
             have kL:F b:=hU.out b (by omega) (.inl hb);refine⟨?_,fh b kL⟩;refine (((((Kp.refl (fun b=>b≠UB∧b≠UO) wo).set (a:=⟨UB,2,none⟩) (fun h=>h.1 rfl) _).set (a:=⟨UO,0,none⟩) (fun h=>h.2 rfl) _).set (a:=⟨UO,1,none⟩) (fun h=>h.2 rfl) _).set (a:=⟨UO,2,none⟩) (fun h=>h.2 rfl) _ |>.set (a:=⟨UO,3,none⟩) (fun h=>h.2 rfl) _).block b ?_ ⟨h1,h2⟩ |>.trans ?_
             . have:=eS.out.size;have:=fk.out;omega
             . exact (eS.out.block b (by have:=fk.out;omega) kL).trans ((dD.out.block b (by omega) (bp.out b (by omega))).trans ((dA.out.block b (by omega)).trans (mf.out b hb)))
end
section
open Go.RowKit
theorem aqx {S : Nat -> Prop} (nm : ByteArray) (pn n : Nat) (bs : List DBlock) (V : Pth -> Value) (base : Nat) (w : World) (hf : abK w base bs V) (aM : base <= w.heap.size) (gS : aen n bs)
 (hn:n<=1048576) (e8:pn<=n) (hS:∀b,S b->b<w.heap.size∧∀q,okP bs q->(V q).ownBlock≠some b) :
 Calls Tryz.prog 22 #[.agg #[.string nm,.int .i64 (pn:Int),.int .i64 (n:Int),V .blks]] w fun e w' =>
  ∃V',e = .returned (.agg #[.string nm,.int .i64 (pn:Int),.int .i64 (doN pn n bs),V' .blks])∧abK w' base (doB pn n bs) V'∧Below base w w'∧as6 S w w' (doB pn n bs) V':=by
 obtain⟨ba,bc,dt⟩:=aah.shape (p := .blks) hf trivial;obtain⟨m,hm⟩:∃m,m=bs.length:=⟨_,rfl⟩
 rw [show (aae bs V .blks).length=m by simp [aae,hm]] at dt;have Hf:=hid hf;have bT:=hid gS;have HS:=hid hS;have Hm:=hid hm;have fw:=hid dt;rw [dt];clear hf gS hS hm dt;go_enter Tryz.func22,Tryz.ntmps22;go_upto_region 1 with (fail)
 obtain⟨W,hW⟩:∃W,W=(w.alloc (.cells #[.string nm,.int .i64 (pn:Int),.int .i64 (n:Int),.slice ba m bc] 37)).alloc (.cells #[.string ⟨#[]⟩,.int .i64 0,.int .i64 0,.slice none 0 0] 37):=⟨_,rfl⟩
 obtain⟨bS,h0,h1⟩:=abQ w (.cells #[.string nm,.int .i64 (pn:Int),.int .i64 (n:Int),.slice ba m bc] 37) (.cells #[.string ⟨#[]⟩,.int .i64 0,.int .i64 0,.slice none 0 0] 37);rw [<-hW] at bS h0 h1 ⊢;have cj:Below w.heap.size w W:=by rw [hW];exact bE
 obtain⟨UB,cf⟩:∃UB,UB=w.heap.size:=⟨_,rfl⟩
 obtain⟨UO,ep⟩:∃UO,UO=w.heap.size+1:=⟨_,rfl⟩
 rw [<-ep] at h1 ⊢;rw [<-cf] at h0 ⊢;have ae:Hid (UB=w.heap.size∧UO=w.heap.size+1∧W.heap.size=w.heap.size+2):=⟨cf,ep,bS⟩
 have HB:Hid (base<=w.heap.size):=aM;have H0:=hid h0;have H1:=hid h1;have aK:=hid cj;obtain⟨c0,c1,c2,c3⟩:=(aad (cs:=[_,_,_,_]) h0).get4;rw [Aab] at c1 c2 c3;have di:SlAt (fun b=>base<=b∧b<w.heap.size) W.drew 6 aa2 (.slice ba m bc) bs:=by
  have h:=abK.read Hf.out bT.out.ok.num;rw [fw.out] at h;exact h.later aau (aK.out.trans ((Below.refl W.heap.size W).drew.mono aK.out.size))
 have bB:=hid di;have fB:Hid (∀w',Below W.heap.size W w'->w'.cell? ⟨UB,0,none⟩=some (.string nm)∧w'.cell? ⟨UB,1,none⟩=some (.int .i64 (pn:Int))∧w'.cell? ⟨UB,2,none⟩=some (.int .i64 (n:Int))∧w'.cell? ⟨UB,3,none⟩=some (.slice ba m bc)) :=
  fun w' h=>⟨aab c0 h,aab c1 h,aab c2 h,aab c3 h⟩
 have zU:UB<W.heap.size:=aac c0;have jv:m<=1048576:=by rw [Hm.out];exact bT.out.ok.len
 have HO:=hid (afj nm (pn:Int) (n:Int) ba m bc bs W.drew bB.out (fun b hb=>by have:=aK.out.size;simp;omega) Hm.out.symm jv bT.out.tok);obtain⟨bk,ef⟩:∃bk,bk=aa1 bs (ordL bs):=⟨_,rfl⟩
 have cz:aen n bk:=by rw [ef];exact bT.out.keep
 have bW:=hid cz;have eT:amT bs=acm bk:=by rw [ef];rfl
 have eA:=hid bT.out.pre;rw [eT] at eA;have gT:=hid bT.out.kept;have fS:ac3 bs=aa1 (acm bk) (ordL (acm bk)):=by unfold ac3;rw [eT]
 have dw:=hid fS;have jD:=hid ef
 -- what stays: S,and the two boxes
 have iC : Hid (∀ w8 oa oc, Below W.heap.size W w8 -> abv W.drew.heap.size w8 (.slice oa (ordL bs).length oc) (ordL bs) ->
  Calls Tryz.prog 58 #[.agg #[.string nm, .int .i64 (pn : Int), .int .i64 (n : Int), .slice ba m bc], .slice oa (ordL bs).length oc] w8 fun e w' => ∃ V', e = .returned (.agg #[.string nm, .int .i64 (pn : Int), .int .i64 (n : Int), V' .blks]) ∧
   abK w' base bk V' ∧ Below base w8 w' ∧ as6 (fun b => S b ∨ (w.heap.size <= b ∧ b < w8.heap.size)) w8 w' bk V') := fun w8 oa oc aT hv => by
  have eO:=aK.out.size;have e5:=aT.size;have ho:=aef bT.out.tok
  have hK := amu (S := fun b => S b ∨ (w.heap.size <= b ∧ b < w8.heap.size)) nm (pn : Int) (n : Int) bs V base w8 (Hf.out.later (aK.out.trans (aT.mono eO))) (by omega) bT.out.ok oa (ordL bs).length oc (ordL bs)
   (hv.sl.mono aax (fun b hb => .inr ⟨Aai eO hb.1,hb.2⟩) (aaS.refl _ _)) rfl (Aai (al6 ho) bT.out.ok.len)
   (fun b hb => by
     rcases hb with h | h
     . exact ⟨Aay (HS.out b h).1 (Aai eO e5), (HS.out b h).2⟩
     . exact ⟨h.2, fun q hq e => by have := (aah.lt Hf.out hq b e).2; omega⟩)
   ho.inn ho.nd
  rw [fw.out,<-jD.out] at hK;exact hK
 clear hW h0 h1 cj cf ep bS aM di cz eT fS ef
 go_region_law
  ((first
    | (go_simp; go_at_call 59; refine HO.out.mono ?_; rintro e w8 ⟨v, rfl, hv, bg⟩
       obtain ⟨oa, oc, iZ⟩ := hv.shape
       subst iZ
       have aT : Below W.heap.size W w8 := (Below.refl W.heap.size W).drew.trans bg
       obtain ⟨d0, d1, d2, d3⟩ := fB.out w8 aT
       have iW := aac d0
       have HK := hid (iC.out w8 oa oc aT hv)
       have bw := hid aT
       clear hv bg aT)
    | (go_simp; go_at_call 58; refine HK.out.mono ?_; rintro e w9 ⟨V1, rfl, ez, ea, aH⟩
       have eJ := hid ea
       have kV := hid ez
       have cJ := hid aH
       have HC := hid (anN (S := fun b => S b ∨ (w.heap.size <= b ∧ b < w8.heap.size)) nm (pn : Int) (n : Int) bk V1 base w9 ez (by have := ea.size; have := bw.out.size; have := ae.out; have := HB.out; omega) bW.out.ch (fun b hb => ⟨by
        have := ea.size
        rcases hb with h | h
        . have := (HS.out b h).1
          have := bw.out.size
          have := ae.out
          omega
        . omega, (aH b hb).2⟩))
       clear ez ea aH)
    | (go_simp; go_at_call 57; refine HC.out.mono ?_; rintro e mo ⟨V2, rfl, fN, bo, bJ⟩
       have dn := hid bo
       have cI := hid bJ
       have HN := hid (aov (S := fun b => S b ∨ (w.heap.size <= b ∧ b < w8.heap.size)) nm pn n (acm bk) V2 base mo fN (by have := bo.size; have := eJ.out.size; have := bw.out.size; have := ae.out; have := HB.out; omega) eA.out.ok eA.out.tok hn e8 (ac3 bs) dw.out gT.out.ok gT.out.reg (fun b hb => ⟨by
        have := bo.size
        have := eJ.out.size
        rcases hb with h | h
        . have := (HS.out b h).1
          have := bw.out.size
          have := ae.out
          omega
        . omega, (bJ b hb).2⟩))
       clear fN bo bJ)
    | (go_simp; go_at_call 56; refine HN.out.mono ?_; rintro e dL ⟨V3, rfl, eb, ad, eQ⟩
       obtain ⟨ra, rc, bj⟩ := aah.shape (p := .blks) eb trivial
       obtain ⟨l, hl⟩ : ∃ l, l = (adm pn n (ac3 bs)).length := ⟨_, rfl⟩
       rw [show (aae (adm pn n (ac3 bs)) V3 .blks).length = l by simp [aae, hl]] at bj
       rw [bj]
       have bH : dL.heap[UO]? = some (.cells #[.string ⟨#[]⟩, .int .i64 0, .int .i64 0, .slice none 0 0] 37 (0, 0)) := by
        have hz : w.heap.size <= UO ∧ UO < w8.heap.size := by have := ae.out; have := bw.out.size; omega
        exact (eQ UO (.inr hz)).1.trans ((cI.out UO (.inr hz)).1.trans ((cJ.out UO (.inr hz)).1.trans ((bw.out.block UO (by have := ae.out; omega)).trans H1.out)))
       obtain ⟨mn, cc⟩ : ∃ mn, mn = afe pn n (ac3 bs) := ⟨_, rfl⟩
       rw [<- cc]
       obtain ⟨e0, e1, e2, e3⟩ := (aad (cs := [_, _, _, _]) bH).get4
       rw [Aab] at e1 e2 e3
       have k0 := aaq bH 0
       have k1 := aaq bH 1
       have k2 := aaq bH 2
       have k3 := aaq bH 3
       have Hl := hid hl
       have iB := hid cc
       have b7 := hid bj
       have jI := hid bH
       have kf := hid eb
       have bK := hid ad
       have a7 := hid eQ
       clear eb ad eQ bH bj hl cc)))
 all_goals
  have ax:∀q,okP (adm pn n (ac3 bs)) q->(V3 q).ownBlock≠some UO:=(a7.out UO (.inr ⟨by have:=ae.out;omega,by have:=ae.out;have:=bw.out.size;omega⟩)).2;have aA:=(((aah.setOff kf.out (o:=0) ax (.string nm)).setOff (o:=1) ax (.int .i64 (pn:Int))).setOff (o:=2) ax (.int .i64 mn)).setOff (o:=3) ax (.slice ra l rc);have ai:Kp (fun b=>b≠UO) dL ((((dL.setCell ⟨UO,0,none⟩ (.string nm)).setCell ⟨UO,1,none⟩ (.int .i64 (pn:Int))).setCell ⟨UO,2,none⟩ (.int .i64 mn)).setCell ⟨UO,3,none⟩ (.slice ra l rc)):=aaD (aaD (aaD (aaP _ _ _ _) _ _) _ _) _ _;have aw:=hid aA;have cg:=hid ai;have gL:=hid ax;clear aA ai ax e0 e1 e2 e3 k0 k1 k2 k3;go_wp2_with fail;have bq:=as3 (u0 := .string nm) (u1 := .int .i64 (pn:Int)) (u2 := .int .i64 mn) (u3 := .slice ra l rc) (aad (cs:=[_,_,_,_]) jI.out);refine bodyPost_ret (adR rfl rfl bq) rfl ?_;have fi:=ae.out;have nJ:=bw.out.size;have j5:=eJ.out.size;have kl:=dn.out.size;have nL:=bK.out.size;have mB:=HB.out;refine⟨V3,?_,aw.out,?_,fun b hb=>⟨?_,(a7.out b (.inl hb)).2⟩⟩
  . show _=Ending.returned (.agg #[.string nm,.int .i64 (pn:Int),.int .i64 (afe pn n (ac3 bs)),V3 .blks])
    rw [b7.out,iB.out]
  . have hb:Below base w dL:=((((aK.out.mono mB).trans (bw.out.mono (by omega))).trans eJ.out).trans dn.out).trans bK.out
    have h2:base<=UO:=by omega
    exact (((hb.setCell (p:=⟨UO,0,none⟩) h2 _).setCell (p:=⟨UO,1,none⟩) h2 _).setCell (p:=⟨UO,2,none⟩) h2 _).setCell (p:=⟨UO,3,none⟩) h2 _
  . have ct:=(HS.out b hb).1
    refine (cg.out.block b (by omega) (show b≠UO by omega)).trans ?_;exact (a7.out b (.inl hb)).1.trans ((cI.out b (.inl hb)).1.trans ((cJ.out b (.inl hb)).1.trans ((bw.out.block b (by omega)).trans (aK.out.block b ct))))
end
section
open Go.RowKit
theorem aow {S:Nat->Prop}{w:World}{cs:List Value}{x:aav}(h:abC S w cs x):∀u∈cs,u.oneCell'=true:=by
 obtain⟨v,rfl,hb,-⟩:=h;obtain⟨a,c,rfl,-⟩:=hb;intro u hu;simp only [Aam,Aaq,or_false] at hu;rcases hu with rfl | rfl | rfl | rfl <;> rfl
theorem alv {S:Nat->Prop}{w:World}{cs:List Value}{x:aaG}(h:aaO S w cs x):∀u∈cs,u.oneCell'=true:=by
 obtain⟨v,rfl,hb,-⟩:=h;obtain⟨a,c,rfl,-⟩:=hb;intro u hu;simp only [Aam,Aaq,or_false] at hu;rcases hu with rfl | rfl | rfl <;> rfl
theorem agW.start {α : Type} {S : Nat -> Prop} {w W : World} {base : Nat} {e : TypeId} {sz n : Nat} {r : Rp α} (f : α -> α) {v : Value} {l : List α} {xss : List (List Value)} (hr : r.Mono) (je : W.ownsRow base e sz v n xss.flatten) (hn : xss.length = n) (hl : l.length = n)
 (hw:∀cs∈xss,cs.length=sz) (he:∀(i:Nat) x,l[i]?=some x->∃cs,xss[i]?=some cs∧r S w cs x) (hb:Below w.heap.size w W):agW S (fun _=>False) W base e sz r f v l 0 xss:=by
 subst hn;refine⟨⟨je,hw⟩,hl.symm,fun b h=>h.elim,fun i cs x h=>by omega,fun i cs x _ h1 h2=>?_⟩;obtain⟨k8,h3,h4⟩:=he i x h2;rw [h1] at h3;cases h3;exact hr.out _ _ _ _ _ _ (fun _ h=>h) (aaS.below' hb) h4
theorem aqy {fn : Func} {p q : Nat} (az : fn.results = #[.cell p 25, .cell q 27]) {tmps : Array Value} {b b' : Nat} (ht : tmps.getD p undef = .pointer (some ⟨b, 0, none⟩)) (kX : tmps.getD q undef = .pointer (some ⟨b', 0, none⟩)) {g f c a : Value} {W : World}
 (h1:aal W b 0 [g,f]) (h2:aal W b' 0 [c,a]):(results fn tmps).run Tryz.prog W = .ok (.tuple #[.agg #[g,f],.agg #[c,a]]) W:=by
 obtain⟨a0,a1⟩:=h1.get2;obtain⟨b0,b1⟩:=h2.get2;simp only [Acn] at ht kX;simp [results,az,ht,kX,go_sem,a0,a1,b0,b1]
theorem aah.low {W:World}{base base':Nat}{ok:Pth->Prop}{V:Pth->Value}{C:Pth->List (List Value)}(h:aah W base ok V C)(hb:base'<=base):aah W base' ok V C:=⟨fun p hp=>ab4 (h.own p hp) hb,h.wid,h.apart⟩
theorem aqz {S : Nat -> Prop} (ga : Option Addr) (gc : Nat) (fa : Option Addr) (fc : Nat) (gs : List aaG) (fs : List aav) (w : World)
 (hg:SlAt S w 3 aaO (.slice ga gs.length gc) gs) (hf:SlAt S w 4 abC (.slice fa fs.length fc) fs) (hS:∀b,S b->b<w.heap.size) (ie:aat ⟨gs,fs⟩=(0,0)) :
 Calls Tryz.prog 21 #[.agg #[.slice ga gs.length gc,.slice fa fs.length fc],.func (.func 22) #[] #[]] w fun e w' =>
  ∃ga2 gc2 fa2 fc2,e = .returned (.tuple #[.agg #[.slice ga2 gs.length gc2,.slice fa2 fs.length fc2],.agg #[.int .i64 0,.int .i64 0]]) ∧
    SlAt (iv w.heap.size w'.heap.size) w' 3 aaO (.slice ga2 gs.length gc2) gs∧SlAt (iv w.heap.size w'.heap.size) w' 4 abC (.slice fa2 fs.length fc2) (fs.map abi)∧Below w.heap.size w w':=by
 have fJ:ais ⟨gs,fs⟩:=alp hf;have jz:=ace ie;obtain⟨kP,lC,-⟩:=acq (u:=⟨gs,fs⟩) (by rw [ie]);dsimp only at kP lC jz;obtain⟨xg,-,ig,jL,jV,cu,kJ⟩:=aeB hg (by decide);obtain⟨xf,-,az,jl,kh,cS,lj⟩:=aeB hf (by decide);have kO:∀cs∈xg,∀u∈cs,u.oneCell'=true:=fun cs af=>by
  obtain⟨i,hi,rfl⟩:=Aav af;have iN:i<gs.length:=by omega
  obtain⟨k8,g1,g2⟩:=jL i gs[i] (Aaa iN);rw [Aaa hi] at g1;rw [Option.some.inj g1];exact alv g2
 have lN:∀cs∈xf,∀u∈cs,u.oneCell'=true:=fun cs af=>by
  obtain⟨i,hi,rfl⟩:=Aav af;have iN:i<fs.length:=by omega
  obtain⟨k8,g1,g2⟩:=jl i fs[i] (Aaa iN);rw [Aaa hi] at g1;rw [Option.some.inj g1];exact aow g2
 obtain⟨n,hn⟩:∃n,n=gs.length:=⟨_,rfl⟩
 obtain⟨q,hq⟩:∃q,q=fs.length:=⟨_,rfl⟩
 rw [<-hn] at ig hg kP cu ⊢;rw [<-hq] at az hf lC cS ⊢;have Hn:=hid hn;have Hq:=hid hq;have HS:=hid hS;have fU:=hid jL;have mH:=hid jV;have l8:=hid ig;have nb:=hid jl;have nG:=hid kh;have mU:=hid az;have fp:=hid jz;have nE:=hid ie;have jk:=hid fJ
 have kE := hid (fun (V : World) (hV : Below w.heap.size w V) => akh ga n gc xg.flatten V (by rw [abp xg (fun i cs hi => jV cs (Aae hi)), ig]) cu (fun b cE j u hj => by
  have h := kJ b cE j u hj
  rw [hV.cell (p := b.add j) (aby h)]; exact h) (adr kO) (by omega))
 have jj := hid (fun (V : World) (hV : Below w.heap.size w V) => akg fa q fc xf.flatten V (by rw [abp xf (fun i cs hi => kh cs (Aae hi)), az]) cS (fun b cE j u hj => by
  have h := lj b cE j u hj
  rw [hV.cell (p := b.add j) (aby h)]; exact h) (adr lN) (by omega))
 clear hg hf hS ie fJ jz ig jL jV cu kJ az jl kh cS lj kO lN hn hq;go_enter Tryz.func21,Tryz.ntmps21;go_upto_region 1 with (fail)
 obtain⟨W,hW⟩:∃W,W=((w.alloc (.cells #[.slice ga n gc,.slice fa q fc] 25)).alloc (.cells #[.slice none 0 0,.slice none 0 0] 25)).alloc (.cells #[.int .i64 0,.int .i64 0] 27):=⟨_,rfl⟩
 obtain⟨bS,h0,h1,h2⟩:=afi w (.cells #[.slice ga n gc,.slice fa q fc] 25) (.cells #[.slice none 0 0,.slice none 0 0] 25) (.cells #[.int .i64 0,.int .i64 0] 27);rw [<-hW] at bS h0 h1 h2 ⊢;have cj:Below w.heap.size w W:=by rw [hW];exact bE
 obtain⟨UB,cf⟩:∃UB,UB=w.heap.size:=⟨_,rfl⟩
 obtain⟨RU,iE⟩:∃RU,RU=w.heap.size+1:=⟨_,rfl⟩
 obtain⟨RF,hX⟩:∃RF,RF=w.heap.size+2:=⟨_,rfl⟩
 rw [show w.heap.size+1+1=w.heap.size+2 from rfl,<-hX] at h2;rw [show w.heap.size+1+1=w.heap.size+2 from rfl,<-hX,<-iE,<-cf];rw [<-cf] at h0;rw [<-iE] at h1;have ae:Hid (UB=w.heap.size∧RU=w.heap.size+1∧RF=w.heap.size+2∧W.heap.size=w.heap.size+3):=⟨cf,iE,hX,bS⟩
 have H0:=hid h0;have H1:=hid h1;have H2:=hid h2;have aK:=hid cj;obtain⟨c0,c1⟩:=(aad (cs:=[_,_]) h0).get2;rw [Aab] at c1;have zU:UB<W.heap.size:=aac c0;have f0:=aaq h0 0;clear hW h0 h1 h2 cj cf iE hX bS;go_upto_region 2 with (go_at_call 52;refine (kE.out W aK.out).mono ?_;rintro e w2 ⟨va,vc,rfl,lV,cE⟩;have ny:=hid lV;have dP:=hid cE;have c0:=aab c0 cE;have f0:=(cE.frozen (p:=⟨UB,0,none⟩) zU).trans f0;have zU:=aac c0;clear lV cE)
 obtain⟨W3,ck⟩:∃W3,W3=w2.setCell ⟨UB,0,none⟩ (.slice va n vc):=⟨_,rfl⟩
 rw [<-ck];have eu:W3.heap[UB]?=some (.cells #[.slice va n vc,.slice fa q fc] 25 (0,0)):=by
  rw [ck,aak (i:=0) ((dP.out.block UB (Aag.1 H0.out).1).trans H0.out)];rfl
 have dz:Kp (fun b=>b≠UB) w2 W3:=by rw [ck];exact aaP _ _ _ _
 have k6:Below w.heap.size w W3:=by
  rw [ck];exact (aK.out.trans (dP.out.mono aK.out.size)).setCell (p:=⟨UB,0,none⟩) (by have:=ae.out;show w.heap.size<=UB;omega) _
 have gi:agW S (fun _=>False) W3 W.heap.size 52 3 aaO id (.slice va n vc) gs 0 xg:=by
  have h:=agW.start (S:=S) id aaw ny.out l8.out (by rw [Hn.out]) mH.out fU.out (aK.out.trans (dP.out.mono aK.out.size));exact h.kp aaw dz (fun b hb e=>by have:=(h.row.lt b hb).1;have:=ae.out;omega) (fun b hb=>hb.elim) (fun b hb e=>by have:=HS.out b hb;have:=ae.out;omega)
 have gn:=(dz.block RU (by have:=dP.out.size;have:=ae.out;omega) (by have:=ae.out;omega)).trans ((dP.out.block RU (Aag.1 H1.out).1).trans H1.out);have hC:=(dz.block RF (by have:=dP.out.size;have:=ae.out;omega) (by have:=ae.out;omega)).trans ((dP.out.block RF (Aag.1 H2.out).1).trans H2.out);have iw:=hid gi;have ej:=hid eu;have fL:=hid gn;have gP:=hid hC;have me:=hid k6;have lh:Hid (W.heap.size<=W3.heap.size):=by show _<=_;rw [ck];have:=dP.out.size;simpa [World.setCell] using this
 have k0:=(aad (cs:=[_,_]) eu).get2.1;have nS:=aac k0;clear ck eu dz k6 gi gn hC c0 c1 f0 zU;go_wp2_with fail;clear k0;go_loopw [17] (fun s17 wr=>∃(k:Nat) (xss:List (List Value)) (D:Nat->Prop),k<=n∧s17 = .int .i64 (k:Int)∧agW S D wr W.heap.size 52 3 aaO id (.slice va n vc) gs k xss∧Kp (fun b=>(Value.slice va n vc).ownBlock≠some b) W3 wr) (fun s17 _=>n - (intOf s17).toNat)
 case atStart=>exact⟨0,xg,fun _=>False,Aaj _,rfl,iw.out,Kp.refl _ _⟩
 case round =>
  obtain⟨wo,eX⟩:∃wo:World,wo=wr:=⟨_,rfl⟩
  subst eX;obtain⟨k,xss,D,hk,rfl,aP,ai⟩:=hrel
  by_cases hkn:k<n
  . have lD:k<gs.length:=by rw [<-Hn.out];exact hkn
    obtain⟨x,hx⟩:∃x,gs[k]?=some x:=⟨_,Aaa lD⟩
    obtain⟨R,rc,cs,hv,gf,eE,eV,af,hr,hz⟩:=aP.get (by decide) hx;obtain⟨ia,ic,rfl,dX,aW,hI⟩:=hr.opens;rw [<-Hn.out] at hv;have kd:va=some ⟨R,0,none⟩:=by injection hv
    subst kd;obtain⟨nm,ao⟩:∃nm,nm=x.name:=⟨_,rfl⟩
    obtain⟨sz,iA⟩:∃sz,sz=x.size:=⟨_,rfl⟩
    obtain⟨il,be⟩:∃il,il=x.init.length:=⟨_,rfl⟩
    rw [<-ao,<-iA,<-be] at af eV;rw [<-be] at dX;obtain⟨d0,d1,d2⟩:=af.get3;have gy:x.init.length<=1048576:=fp.out.1 x (Aae hx);have zR:R<wo.heap.size:=eE;have bO:R≠UB:=by have:=ae.out;omega
    have k0:wo.cell? ⟨UB,0,none⟩=some (.slice (some ⟨R,0,none⟩) n vc):=ai.cell (fun e=>bO (show R=UB from Option.some.inj e)) (aad (cs:=[_,_]) ej.out).get2.1;have gD:=hid aP;have cg:=hid ai;have Hx:=hid hx;have iS:=hid dX;have HI:=hid hI;have iH:=hid eV;have HR:Hid (W.heap.size<=R∧R<wo.heap.size∧R≠UB):=⟨gf,eE,bO⟩
    have Hz:=hid hz;have c8:Hid (nm=x.name∧sz=x.size∧il=x.init.length):=⟨ao,iA,be⟩
    have iQ:il<=1048576:=by rw [be];exact gy
    clear lD hx hv gf eE eV af dX aW hI hz aP ai ao iA be gy bO;go_upto_region 5 with (fail)
    obtain⟨GB,h6⟩:∃GB,GB=wo.heap.size:=⟨_,rfl⟩
    obtain⟨W4,e9⟩:∃W4,W4=wo.alloc (.cells #[.string nm,.int .i64 sz,.slice ia il ic] 52):=⟨_,rfl⟩
    have kU:W4.heap[GB]?=some (.cells #[.string nm,.int .i64 sz,.slice ia il ic] 52 (0,0)):=by rw [e9,h6];exact heap_alloc_new _ _
    have c9:Below wo.heap.size wo W4:=by rw [e9];exact bE
    rw [<-e9,<-h6];have iy:Below wo.heap.size wo W4.drew:=c9.drew;have bD:Hid (UB≠R∧GB≠R):=by show _∧_;exact⟨fun e=>HR.out.2.2 e.symm,by rw [h6];have:=HR.out;omega⟩
    have mm:=hid (gD.out.later aaw iy);have aL:Hid (W4.drew.cell? ⟨UB,0,none⟩=some (.slice (some ⟨R,0,none⟩) n vc)∧W4.drew.cell? ⟨GB,2,none⟩=some (.slice ia il ic)):=by
     have h:=(aad (cs:=[_,_,_]) kU) 2 _ rfl;rw [Aab] at h;exact⟨aab (w':=W4) k0 c9,h⟩
    have jF:=afF (S:=S) ia ic x.init W4.drew (by rw [<-c8.out.2.2];exact iS.out.later aax iy) (by rw [<-c8.out.2.2];exact iQ);rw [<-c8.out.2.2] at jF;have fB:=hid jF;have aG:Hid (W4.drew.cell? ⟨R,k * 3+2,none⟩=some (.slice ia il ic)∧W4.drew.frozen? ⟨R,k * 3+2,none⟩=false):=⟨aab (w':=W4) d2 c9,(c9.frozen (p:=⟨R,k * 3+2,none⟩) zR).trans (Hz.out _)⟩
    have lT:R<W4.drew.heap.size:=aac aG.out.1;have k4:=hid iy;clear h6 e9 kU c9 iy jF d0 d1 d2 zR k0
    go_region_held3 (fun w' => w'.cell? ⟨UB, 0, none⟩ = some (.slice (some ⟨R, 0, none⟩) n vc) ∧ w'.cell? ⟨GB, 2, none⟩ = some (.slice ia il ic))
     ((first | with_reducible exact cX.out | with_reducible exact aI.out | with_reducible exact aL.out))
     ((go_at_call 28; (with_reducible refine fB.out.mono ?_); rintro e w8 ⟨v, rfl, jg, bg⟩
       obtain ⟨ja, jc, mx⟩ := jg.shape
       subst mx
       have aI : Hid (w8.cell? ⟨UB, 0, none⟩ = some (.slice (some ⟨R, 0, none⟩) n vc) ∧ w8.cell? ⟨GB, 2, none⟩ = some (.slice ia il ic)) := ⟨aab aL.out.1 bg, aab aL.out.2 bg⟩
       have r1 := aab aG.out.1 bg
       have rz := (bg.frozen (p := ⟨R, k * 3 + 2, none⟩) lT).trans aG.out.2
       obtain ⟨dj, be⟩ : ∃ dj, dj = x.init.length := ⟨_, rfl⟩
       rw [<- be]
       have cX : Hid ((w8.setCell ⟨R, k * 3 + 2, none⟩ (.slice ja dj jc)).cell? ⟨UB, 0, none⟩ = some (.slice (some ⟨R, 0, none⟩) n vc) ∧ (w8.setCell ⟨R, k * 3 + 2, none⟩ (.slice ja dj jc)).cell? ⟨GB, 2, none⟩ = some (.slice ia il ic)) := ⟨(aam _ bD.out.1 _ _).trans aI.out.1, (aam _ bD.out.2 _ _).trans aI.out.2⟩
       have nv := hid jg
       have kB := hid bg
       have jJ := hid be
       clear jg bg be))
    have hZ:=mm.out.later aaw kB.out;have lL:=hZ.row.set (j:=2) rfl iH.out (by decide) (.slice ja dj jc);have aH:Kp (fun b=>b≠R) w8 (w8.setCell ⟨R,k * 3+2,none⟩ (.slice ja dj jc)):=aaP _ _ _ _;have dT:(w8.setCell ⟨R,k * 3+2,none⟩ (.slice ja dj jc)).heap.size=w8.heap.size:=by simp [World.setCell]
    have bU := hZ.next aaw (D' := fun b => D b ∨ (W4.drew.heap.size <= b ∧ b < w8.heap.size)) rfl Hx.out lL aH (fun b hb e => by have := HS.out b hb; have := HR.out; have := ae.out; omega) (fun b hb => .inl hb)
     (fun b hb => by
       rw [dT]
       have hle := k4.out.size
       have lX := kB.out.size
       rcases hb with hb | hb
       . have := hZ.low b hb
         exact ⟨this.1, this.2.1, fun e => this.2.2 (by rw [e]; rfl)⟩
       . have := HR.out
         exact ⟨by omega, hb.2, by omega⟩)
     ⟨_, (by show [Value.string nm, Value.int IntKind.i64 sz, Value.slice ja dj jc] = _; rw [c8.out.1, c8.out.2.1]; rfl), by
       have h := nv.out.toSl aax (by decide)
       rw [<- jJ.out] at h
       exact h.mono aax (fun b hb => .inr hb) (aH.stays fun b hb e => by have := hb.1; rw [e] at this; have := lT; omega), HI.out⟩
    have fT:Kp (fun b=>(Value.slice (some ⟨R,0,none⟩) n vc).ownBlock≠some b) W3 (w8.setCell ⟨R,k * 3+2,none⟩ (.slice ja dj jc)) :=
     ((cg.out.trans (Kp.of k4.out)).trans (Kp.of kB.out)).trans (aH.less fun b hb e=>hb (by rw [e];rfl))
    have gC:=hid bU;have j1:=hid fT;clear hZ lL aH dT bU fT;go_wp2_with fail;go_roundw
    case rel=>exact⟨k+1,_,_,by omega,by go_num,gC.out,j1.out⟩
    case measure=>simp [intOf];omega
  . have cm:n=k:=by omega
    subst cm;obtain⟨WA,nl⟩:∃WA:World,WA=wo:=⟨_,rfl⟩
    subst nl;have lq:SlAt (iv W.heap.size WA.heap.size) WA 3 aaO (.slice va n vc) gs:=by
     have cB:=aP;rw [Hn.out] at cB;have h:=agW.read aaw (by decide) cB;rw [<-Hn.out] at h;rw [List.map_id] at h;exact h
    have da:=(ai.block UB (Aag.1 ej.out).1 (fun e=>by have:=(aP.row.lt UB e).1;have:=ae.out;omega)).trans ej.out;have gQ:=(ai.block RU (Aag.1 fL.out).1 (fun e=>by have:=(aP.row.lt RU e).1;have:=ae.out;omega)).trans fL.out;have fM:=(ai.block RF (Aag.1 gP.out).1 (fun e=>by have:=(aP.row.lt RF e).1;have:=ae.out;omega)).trans gP.out;have ls:Below w.heap.size w WA:=me.out.trans (ai.below fun b hb=>⟨by have:=lh.out;have:=ae.out;omega,fun e=>by have:=(aP.row.lt b e).1;have:=ae.out;omega⟩);have bL:Hid (W.heap.size<=WA.heap.size):=by show _<=_;have:=ai.size;have:=lh.out;omega
    have mc:=hid lq;have gj:=hid da;have hE:=hid gQ;have fQ:=hid fM;have jO:=hid ls;have k1:=(aad (cs:=[_,_]) da).get2.2;rw [Aab] at k1;have zA:=aac k1;have kC:=aaq da 1;clear lq da gQ fM ls aP ai hk hkn iw;go_upto_region 8 with (go_at_call 53;refine (jj.out WA jO.out).mono ?_;rintro e w4 ⟨ua,uc,rfl,gl,c9⟩;have j9:=hid gl;have dp:=hid c9;have k1:=aab k1 c9;have kC:=(c9.frozen (p:=⟨UB,1,none⟩) zA).trans kC;have zA:=aac k1;clear gl c9)
    obtain⟨W5,bq⟩:∃W5,W5=w4.setCell ⟨UB,1,none⟩ (.slice ua q uc):=⟨_,rfl⟩
    rw [<-bq];have bG:W5.heap[UB]?=some (.cells #[.slice va n vc,.slice ua q uc] 25 (0,0)):=by
     rw [bq,aak (i:=1) ((dp.out.block UB (Aag.1 gj.out).1).trans gj.out)];rfl
    have cP:Kp (fun b=>b≠UB) w4 W5:=by rw [bq];exact aaP _ _ _ _
    have lS:Below w.heap.size w W5:=by
     rw [bq];exact (jO.out.trans (dp.out.mono (by have:=bL.out;have:=ae.out;omega))).setCell (p:=⟨UB,1,none⟩) (by have:=ae.out;show w.heap.size<=UB;omega) _
    have gi:agW S (fun _=>False) W5 WA.heap.size 37 4 abC abi (.slice ua q uc) fs 0 xf:=by
     have h:=agW.start (S:=S) abi aaE j9.out mU.out (by rw [Hq.out]) nG.out nb.out (jO.out.trans (dp.out.mono (by have:=bL.out;have:=ae.out;omega)));exact h.kp aaE cP (fun b hb e=>by have:=(h.row.lt b hb).1;have:=ae.out;have:=bL.out;omega) (fun b hb=>hb.elim) (fun b hb e=>by have:=HS.out b hb;have:=ae.out;omega)
    have gW:=(cP.block RU (by have:=dp.out.size;have:=ae.out;have:=bL.out;omega) (by have:=ae.out;omega)).trans ((dp.out.block RU (Aag.1 hE.out).1).trans hE.out);have fZ:=(cP.block RF (by have:=dp.out.size;have:=ae.out;have:=bL.out;omega) (by have:=ae.out;omega)).trans ((dp.out.block RF (Aag.1 fQ.out).1).trans fQ.out);have gE:SlAt (iv W.heap.size WA.heap.size) W5 3 aaO (.slice va n vc) gs:=(mc.out.later aaw dp.out).mono aaw (fun _ h=>h) (cP.stays fun b hb e=>by have:=hb.1;have:=ae.out;omega);have iw:=hid gi;have bt:=hid bG;have fY:=hid gW;have gN:=hid fZ;have mv:=hid lS;have km:=hid gE;have lJ:Hid (WA.heap.size<=W5.heap.size):=by show _<=_;rw [bq];have:=dp.out.size;simpa [World.setCell] using this
    have kq:=(aad (cs:=[_,_]) bG).get2.2;rw [Aab] at kq;have nU:=aac kq;clear bq bG cP lS gi gW fZ gE k1 kC zA;go_wp2_with fail;clear kq;go_loopw [38] (fun s38 wr=>∃(k:Nat) (xss:List (List Value)) (D:Nat->Prop),k<=q∧s38 = .int .i64 (k:Int)∧agW S D wr WA.heap.size 37 4 abC abi (.slice ua q uc) fs k xss∧Kp (fun b=>(Value.slice ua q uc).ownBlock≠some b) W5 wr) (fun s38 _=>q - (intOf s38).toNat)
    case atStart=>exact⟨0,xf,fun _=>False,Aaj _,rfl,iw.out,Kp.refl _ _⟩
    case round =>
     obtain⟨wo,eX⟩:∃wo:World,wo=wr:=⟨_,rfl⟩
     subst eX;obtain⟨k,xss,D,hk,rfl,aP,ai⟩:=hrel
     by_cases fS:k<q
     . have lQ:k<fs.length:=by rw [<-Hq.out];exact fS
       obtain⟨x,hx⟩:∃x,fs[k]?=some x:=⟨_,Aaa lQ⟩
       obtain⟨R,rc,cs,hv,gf,eE,eV,af,hr,hz⟩:=aP.get (by decide) hx;obtain⟨ba,bc,rfl,dX,aW,nj,ni⟩:=hr.opens;rw [<-Hq.out] at hv;have mK:ua=some ⟨R,0,none⟩:=by injection hv
       subst mK;obtain⟨ix,gv,e8,iX,mR,lZ⟩:=aks nE.out jk.out hx;obtain⟨pn,eG⟩:∃pn,pn=x.params.toNat:=⟨_,rfl⟩
       obtain⟨rn,cR⟩:∃rn,rn=x.regs.toNat:=⟨_,rfl⟩
       obtain⟨nm,ao⟩:∃nm,nm=x.name:=⟨_,rfl⟩
       obtain⟨bl,ct⟩:∃bl,bl=x.blocks.length:=⟨_,rfl⟩
       have kr:x.params=(pn:Int):=by omega
       have ev:x.regs=(rn:Int):=by omega
       rw [kr,ev,<-ao,<-ct] at af eV;rw [<-ct] at dX;rw [<-cR] at ix;rw [<-eG,<-cR] at e8;rw [<-cR] at iX;obtain⟨d0,d1,d2,d3⟩:=af.get4;have zR:R<wo.heap.size:=eE;have bO:R≠UB∧R≠RU∧R≠RF:=by have:=ae.out;have:=bL.out;omega
       have k1:wo.cell? ⟨UB,1,none⟩=some (.slice (some ⟨R,0,none⟩) q uc):=ai.cell (fun e=>bO.1 (show R=UB from Option.some.inj e)) (by have h:=(aad (cs:=[_,_]) bt.out).get2.2;rw [Aab] at h;exact h);have zU:=aac k1;have gD:=hid aP;have cg:=hid ai;have Hx:=hid hx;have iS:=hid dX;have iH:=hid eV;have HR:Hid (WA.heap.size<=R∧R<wo.heap.size∧R≠UB):=⟨gf,eE,bO.1⟩
       have Hz:=hid hz;have hM:=hid ix;have kb:=hid gv;have c8:Hid (nm=x.name∧x.params=(pn:Int)∧x.regs=(rn:Int)∧bl=x.blocks.length∧pn=x.params.toNat∧rn=x.regs.toNat):=⟨ao,kr,ev,ct,eG,cR⟩
       have de:Hid (pn<=rn∧rn<=100):=⟨e8,iX⟩
       have gO:bl<=1048576:=by rw [ct];exact ix.ok.len
       clear lQ hx hv gf eE eV af dX aW nj ni hz aP ai ao kr ev ct eG cR ix gv e8 iX mR lZ bO;go_upto_region 11 with (fail)
       obtain⟨FB,gG⟩:∃FB,FB=wo.heap.size:=⟨_,rfl⟩
       obtain⟨W6,bF⟩:∃W6,W6=wo.alloc (.cells #[.string nm,.int .i64 (pn:Int),.int .i64 (rn:Int),.slice ba bl bc] 37):=⟨_,rfl⟩
       have aV:W6.heap[FB]?=some (.cells #[.string nm,.int .i64 (pn:Int),.int .i64 (rn:Int),.slice ba bl bc] 37 (0,0)):=by rw [bF,gG];exact heap_alloc_new _ _
       have bP:Below wo.heap.size wo W6:=by rw [bF];exact bE
       rw [<-bF,<-gG];obtain⟨p0,p1,p2,p3⟩:=(aad (cs:=[_,_,_,_]) aV).get4;rw [Aab] at p1 p2 p3;have zF:=aac p0;have nC:=aab k1 bP;have ki:=hid (gD.out.later aaE bP);have mC:Hid (Kp (fun b=>(Value.slice (some ⟨R,0,none⟩) q uc).ownBlock≠some b) W5 W6):=cg.out.trans (Kp.of bP);have cT:=hid aV;have cp:Hid (FB=wo.heap.size∧W6.heap.size=FB+1):=⟨gG,by rw [bF,gG];simp⟩
       have lP:=aou (S:=S) nm (pn:Int) (rn:Int) ba bl bc x.blocks W6 (iS.out.later aau bP) (fun b hb=>by have:=HS.out b hb;have:=bL.out;have:=HR.out;have:=ae.out;have:=bP.size;omega) gO hM.out.ok.small;have mI:=hid lP;have j2:=aoU hM.out de.out.1;obtain⟨mn,cc⟩:∃mn,mn=doN pn rn x.blocks:=⟨_,rfl⟩
       rw [<-cc] at j2;have gA:aen mn.toNat (doB pn rn x.blocks):=by rw [cc];exact akt hM.out de.out.1 (by have:=de.out.2;omega)
       have fK:=aeE.do hM.out kb.out de.out.1
       have iB:=hid cc;have iY:Hid ((pn:Int)<=mn∧mn<=rn):=j2;have jP:=hid gA;have hN:=hid fK;clear gG bF aV bP lP j2 cc gA fK d0 d1 d2 d3 k1 zR zU
       go_upto_region 12 with (first
        | (go_at_call 54; refine mI.out.mono ?_; rintro e w7 ⟨V1, ft, rfl, iF, kY, bQ⟩
           have ji := hid bQ
           obtain ⟨base, aM⟩ : ∃ base, base = min ft w7.heap.size := ⟨_, rfl⟩
           have hG : abK w7 base x.blocks V1 := aah.low kY (by omega)
           have gq : Hid (W6.heap.size <= base ∧ base <= w7.heap.size) := (by show _ ∧ _; have := bQ.size; omega)
           have mP := hid (aqx (S := fun _ => False) nm pn rn x.blocks V1 base w7 hG gq.out.2 hM.out (by have := de.out.2; omega) de.out.1 (fun b hb => hb.elim))
           clear iF kY bQ hG aM)
        | (go_at_call 22; refine mP.out.mono ?_; rintro e w8 ⟨V3, rfl, jd, bg, -⟩
           obtain ⟨ra, eU, bj⟩ := aah.shape (p := .blks) jd trivial
           obtain ⟨l, hl⟩ : ∃ l, l = (doB pn rn x.blocks).length := ⟨_, rfl⟩
           rw [show (aae (doB pn rn x.blocks) V3 .blks).length = l by simp [aae, hl]] at bj
           rw [bj, <- iB.out]
           have dZ : Below W6.heap.size W6 w8 := ji.out.trans (bg.mono gq.out.1)
           have cC : w8.heap[FB]? = some (.cells #[.string nm, .int .i64 (pn : Int), .int .i64 (rn : Int), .slice ba bl bc] 37 (0, 0)) := (dZ.block FB (Aag.1 cT.out).1).trans cT.out
           obtain ⟨p0, p1, p2, p3⟩ := (aad (cs := [_, _, _, _]) cC).get4
           rw [Aab] at p1 p2 p3
           have f0 := aaq cC 0
           have f1 := aaq cC 1
           have f2 := aaq cC 2
           have f3 := aaq cC 3
           have zF := aac p0
           have gX := hid dZ
           have fH := hid cC
           have mS := hid jd
           have b7 := hid bj
           have Hl := hid hl
           clear jd bg bj hl dZ cC))
       obtain⟨av,ay⟩:∃av,av=((((w8.setCell ⟨FB,0,none⟩ (.string nm)).setCell ⟨FB,1,none⟩ (.int .i64 (pn:Int))).setCell ⟨FB,2,none⟩ (.int .i64 mn)).setCell ⟨FB,3,none⟩ (.slice ra l eU)):=⟨_,rfl⟩
       rw [<-ay];have aF:av.heap[FB]?=some (.cells #[.string nm,.int .i64 (pn:Int),.int .i64 mn,.slice ra l eU] 37 (0,0)):=by rw [ay];exact atS fH.out
       have bJ:Kp (fun b=>b≠FB) w8 av:=by rw [ay];exact aaD (aaD (aaD (aaP _ _ _ _) _ _) _ _) _ _
       have hD:av.heap.size=w8.heap.size:=by rw [ay];simp [World.setCell]
       obtain⟨iz,jy,iK,jB⟩:=(aad (cs:=[_,_,_,_]) aF).get4;rw [Aab] at jy iK jB;have di:SlAt (fun b=>base<=b∧b<av.heap.size) av 6 aa2 (.slice ra l eU) (doB pn rn x.blocks):=by
        have h:=abK.read mS.out jP.out.ok.num;rw [b7.out] at h;exact h.mono aau (fun b hb=>by rw [hD];exact hb) (bJ.stays fun b hb e=>by have:=gq.out;have:=cp.out;omega)
       have dQ:agW S D av WA.heap.size 37 4 abC abi (.slice (some ⟨R,0,none⟩) q uc) fs k xss :=
        (ki.out.later aaE gX.out).kp aaE bJ (fun b hb e=>by have:=(gD.out.row.lt b hb).2;have:=cp.out;omega) (fun b hb e=>by have:=(gD.out.low b hb).2.1;have:=cp.out;omega) (fun b hb e=>by have:=HS.out b hb;have:=cp.out;have:=HR.out;have:=bL.out;have:=ae.out;omega)
       have dO:Kp (fun b=>(Value.slice (some ⟨R,0,none⟩) q uc).ownBlock≠some b) W5 av:=by
        have h1:=cg.out;have iA:=h1.size;have h2:Kp (fun b=>(Value.slice (some ⟨R,0,none⟩) q uc).ownBlock≠some b) W5 w8:=mC.out.trans (Kp.of gX.out);rw [ay];have iG:W5.heap.size<=FB:=by have:=cp.out;omega
        exact (((h2.setNew (a:=⟨FB,0,none⟩) iG _).setNew (a:=⟨FB,1,none⟩) iG _).setNew (a:=⟨FB,2,none⟩) iG _).setNew (a:=⟨FB,3,none⟩) iG _
       have kW:=aqR nm (pn:Int) mn ra l eU (doB pn rn x.blocks) av di Hl.out.symm (by rw [Hl.out];exact hN.out.len) hN.out.many (by have:=iY.out;have:=de.out;omega) (by have:=iY.out;omega);have my:=hid kW;have bB:=hid di;have dS:=hid dQ;have dJ:=hid dO;have fW:=hid aF;clear p0 p1 p2 p3 f0 f1 f2 f3 zF ay aF bJ hD di dQ dO kW nC;have nD:=aac iz;have ij:av.cell? ⟨UB,1,none⟩=some (.slice (some ⟨R,0,none⟩) q uc):=dJ.out.cell (fun e=>HR.out.2.2 (show R=UB from Option.some.inj e)) (by have h:=(aad (cs:=[_,_]) bt.out).get2.2;rw [Aab] at h;exact h);have b6:aal av R (k * 4) [.string nm,.int .i64 (pn:Int),.int .i64 (rn:Int),.slice ba bl bc]∧∀o,av.frozen? ⟨R,o,none⟩=false:=by
        obtain⟨g,c,e,-,-,-,h1,h2⟩:=dS.out.row.at iH.out (by decide);have hg:R=g:=by injection e with e1;injection e1 with e2;injection e2
        rw [hg];exact⟨h1,h2⟩
       obtain⟨r0,r1,r2,r3⟩:=b6.1.get4;have g0:=b6.2 (k * 4);have g1:=b6.2 (k * 4+1);have g2:=b6.2 (k * 4+2);have g3:=b6.2 (k * 4+3);have dk:R<av.heap.size:=aac r0;have nk:UB<av.heap.size:=aac ij;clear b6
       go_wp2_with (go_at_call 55; refine my.out.mono ?_; rintro e dL ⟨rfl, ad⟩; have bK := hid ad
                    have iz := aab iz ad; have jy := aab jy ad; have iK := aab iK ad; have jB := aab jB ad
                    have r0 := aab r0 ad; have r1 := aab r1 ad; have r2 := aab r2 ad; have r3 := aab r3 ad
                    have ij := aab ij ad
                    have g0 := (ad.frozen (p := ⟨R, k * 4, none⟩) dk).trans g0; have g1 := (ad.frozen (p := ⟨R, k * 4 + 1, none⟩) dk).trans g1; have g2 := (ad.frozen (p := ⟨R, k * 4 + 2, none⟩) dk).trans g2; have g3 := (ad.frozen (p := ⟨R, k * 4 + 3, none⟩) dk).trans g3
                    have mQ := aac r0; have mZ := aac ij; have nr := aac iz
                    clear ad)
       go_roundw
       case rel =>
        obtain⟨bm,a8⟩:∃bm,bm=((((dL.setCell ⟨R,k * 4,none⟩ (.string nm)).setCell ⟨R,k * 4+1,none⟩ (.int .i64 (pn:Int))).setCell ⟨R,k * 4+2,none⟩ (.int .i64 mn)).setCell ⟨R,k * 4+3,none⟩ (.slice ra l eU)):=⟨_,rfl⟩
        rw [<-a8];have eZ:=dS.out.later aaE bK.out;have bu:Kp (fun b=>b≠R) dL bm:=by rw [a8];exact aaD (aaD (aaD (aaP _ _ _ _) _ _) _ _) _ _
        have iR:bm.heap.size=dL.heap.size:=by rw [a8];simp [World.setCell]
        have jC:ade bm WA.heap.size 37 4 (.slice (some ⟨R,0,none⟩) q uc) (xss.set k [.string nm,.int .i64 (pn:Int),.int .i64 mn,.slice ra l eU]):=by
         rw [a8];exact eZ.row.set4 rfl (Aad.1 iH.out).1 _ _ _ _
        have mX:abi x=⟨nm,(pn:Int),mn,doB pn rn x.blocks⟩:=by
         unfold abi;rw [<-c8.out.2.2.2.2.1,<-c8.out.2.2.2.2.2,<-c8.out.1,c8.out.2.1,iB.out]
        have bU := eZ.next aaE (D' := fun b => D b ∨ (base <= b ∧ b < av.heap.size)) rfl Hx.out jC bu (fun b hb e => by have := HS.out b hb; have := HR.out; have := ae.out; have := bL.out; omega) (fun b hb => .inl hb)
         (fun b hb => by
           rw [iR]
           have hle := bK.out.size
           rcases hb with hb | hb
           . have := eZ.low b hb
             exact ⟨this.1, this.2.1, fun e => this.2.2 (by rw [e]; rfl)⟩
           . have := HR.out
             have := cp.out
             have := gq.out
             exact ⟨by omega, by omega, by omega⟩)
         (by
           rw [mX]
           refine ⟨_, rfl, ?_, ?_, ?_⟩
           . have h := bB.out.later aau bK.out
             exact h.mono aau (fun b hb => .inr hb) (bu.stays fun b hb e => by have := HR.out; have := cp.out; have := gq.out; omega)
           . show I64 (pn : Int)
             unfold I64; have := de.out; omega
           . show I64 mn
             unfold I64; have := de.out; have := iY.out; omega)
        exact⟨k+1,_,_,by omega,by go_num,bU,(dJ.out.trans (Kp.of bK.out)).trans (bu.less fun b hb e=>hb (by rw [e];rfl))⟩
       case measure=>simp [intOf];omega
     . have nH:q=k:=by omega
       subst nH;have kZ:SlAt (iv WA.heap.size wo.heap.size) wo 4 abC (.slice ua q uc) (fs.map abi):=by
        have cB:=aP;rw [Hq.out] at cB;have h:=agW.read aaE (by decide) cB;rw [<-Hq.out] at h;exact h
       have ff:∀b,b<WA.heap.size->(Value.slice ua q uc).ownBlock≠some b:=fun b hb e=>by have:=(aP.row.lt b e).1;omega
       have bY:=(ai.block UB (Aag.1 bt.out).1 (ff UB (by have:=ae.out;have:=bL.out;omega))).trans bt.out;have cD:=(ai.block RU (Aag.1 fY.out).1 (ff RU (by have:=ae.out;have:=bL.out;omega))).trans fY.out;have cw:=(ai.block RF (Aag.1 gN.out).1 (ff RF (by have:=ae.out;have:=bL.out;omega))).trans gN.out;have gK:SlAt (iv W.heap.size WA.heap.size) wo 3 aaO (.slice va n vc) gs:=km.out.mono aaw (fun _ h=>h) (ai.stays fun b hb=>ff b hb.2);have k9:Below w.heap.size w wo:=mv.out.trans (ai.below fun b hb=>⟨by have:=lJ.out;have:=bL.out;have:=ae.out;omega,ff b (by have:=bL.out;have:=ae.out;omega)⟩);have lE:WA.heap.size<=wo.heap.size:=by have:=ai.size;have:=lJ.out;omega
       obtain⟨k0,k1⟩:=(aad (cs:=[_,_]) bY).get2;obtain⟨u0,u1⟩:=(aad (cs:=[_,_]) cD).get2;obtain⟨x0,x1⟩:=(aad (cs:=[_,_]) cw).get2;rw [Aab] at k1 u1 x1;have a0:=aaq cD 0;have a1:=aaq cD 1;have b0:=aaq cw 0;have b1:=aaq cw 1;have nZ:=aac u0;have nR:=aac x0;have cZ:¬RF=RU:=by have:=ae.out;omega
       have lx:∀u v,aal ((wo.setCell ⟨RU,0,none⟩ u).setCell ⟨RU,1,none⟩ v) RF 0 [.int .i64 0,.int .i64 0]:=fun u v j y hj=>by
        rw [aam _ cZ,aam _ cZ];exact aad cw j y hj
       have nx:=hid lx;have nA:Hid (aal wo RU 0 [.slice none 0 0,.slice none 0 0]):=aad (cs:=[_,_]) cD;have nh:=hid kZ;have jm:=hid gK;have mi:=hid k9;have mh:=hid lE;have ir:=hid cZ;clear kZ ff bY cD cw gK k9 lE aP ai hk fS lx;go_wp2_with fail;have q2:=as2 (u0 := .int .i64 0) (u1 := .int .i64 0) (nx.out (.slice va n vc) (.slice ua q uc));have q1:aal ((((wo.setCell ⟨RU,0,none⟩ (.slice va n vc)).setCell ⟨RU,1,none⟩ (.slice ua q uc)).setCell ⟨RF,0,none⟩ (.int .i64 0)).setCell ⟨RF,1,none⟩ (.int .i64 0)) RU 0 [.slice va n vc,.slice ua q uc]:=fun j y hj=>by
        rw [aam _ (fun e=>ir.out e.symm),aam _ (fun e=>ir.out e.symm)];exact as2 (u0 := .slice va n vc) (u1 := .slice ua q uc) nA.out j y hj
       refine bodyPost_ret (aqy rfl rfl rfl q1 q2) rfl ⟨va,vc,ua,uc,rfl,?_,?_,?_⟩
       all_goals
        have aH:Kp (fun b=>b≠RU∧b≠RF) wo ((((wo.setCell ⟨RU,0,none⟩ (.slice va n vc)).setCell ⟨RU,1,none⟩ (.slice ua q uc)).setCell ⟨RF,0,none⟩ (.int .i64 0)).setCell ⟨RF,1,none⟩ (.int .i64 0)) :=
         ((((Kp.refl _ wo).set (a:=⟨RU,0,none⟩) (fun h=>h.1 rfl) _).set (a:=⟨RU,1,none⟩) (fun h=>h.1 rfl) _).set (a:=⟨RF,0,none⟩) (fun h=>h.2 rfl) _).set (a:=⟨RF,1,none⟩) (fun h=>h.2 rfl) _
        have dT:((((wo.setCell ⟨RU,0,none⟩ (.slice va n vc)).setCell ⟨RU,1,none⟩ (.slice ua q uc)).setCell ⟨RF,0,none⟩ (.int .i64 0)).setCell ⟨RF,1,none⟩ (.int .i64 0)).heap.size=wo.heap.size:=by simp [World.setCell]
        have hu:=ae.out;have ha:=bL.out;have hs:=mh.out
       . exact jm.out.mono aaw (fun b hb=>⟨by have:=hb.1;omega,by rw [dT];have:=hb.2;omega⟩) (aH.stays fun b hb=>⟨by have:=hb.1;omega,by have:=hb.1;omega⟩)
       . exact nh.out.mono aaE (fun b hb=>⟨by have:=hb.1;omega,by rw [dT];exact hb.2⟩) (aH.stays fun b hb=>⟨by have:=hb.1;omega,by have:=hb.1;omega⟩)
       . have h1:w.heap.size<=RU:=by omega
         have h2:w.heap.size<=RF:=by omega
         exact (((mi.out.setCell (p:=⟨RU,0,none⟩) h1 _).setCell (p:=⟨RU,1,none⟩) h1 _).setCell (p:=⟨RF,0,none⟩) h2 _).setCell (p:=⟨RF,1,none⟩) h2 _
end
end Go.Proofs.YtpeejlpcikefcaaGreatDoor
