import Derived.Test.YtpeejlpcikefcaaGreatDoorPGPost
/- tidy's namer: the walks of name and val. tidy.NamesOf: the walk. tidy.DoOf: the walk. graph.Each, with tidy.DoOf. -/
set_option maxHeartbeats 8000000
set_option maxRecDepth 100000
namespace Go.Proofs.YtpeejlpcikefcaaGreatDoor
section
open Go.RowKit
variable {T NB n:Nat}{s:Nm}
theorem ac8(hn:n<=1048576)(w:World)(h:afB w T NB n s)(r:Int)(hr:0<=r∧r<n) :
 Calls Tryz.prog 86 #[.pointer (some ⟨NB,0,none⟩),.int .i64 r] w fun e w'=>e = .returned (.int .i64 (nmR s r))∧afB w' T NB n (nmS s r)∧Kp (NmF T NB) w w':=by
 obtain⟨q,rfl⟩:=Abb hr.1;have hq:q<n:=by omega
 have hg:s.now[q]?=some (s.now.getD q 0):=by rw [Aaf,Aaa (by rw [h.ok.len];exact hq)];rfl
 obtain⟨x,hx⟩:∃x,x=s.now.getD q 0:=⟨_,rfl⟩
 obtain⟨m,hm⟩:∃m,m=s.many:=⟨_,rfl⟩
 have hc:w.cell? ⟨T,q,none⟩=some (.int .i64 x):=by
  rw [aaX h.row,Ab7,Aak,hg,hx];rfl
 have hz:w.frozen? ⟨T,q,none⟩=false:=aaq h.row q;have bf:=h.box;rw [<-hm] at bf;obtain⟨n0,n1⟩:=(aad (cs:=[_,_]) bf).get2;rw [Aab] at n1;have z1:=aaq bf 1;have zT:=h.live.1;have zN:=h.live.2;have cV:¬T=NB:=h.ne;have mm:¬NB=T:=fun e=>cV e.symm;have cL:=h.ok.many_le;rw [<-hm] at cL
 by_cases h0:x<0
 . have gA:=h.ok.room hq (by rw [<-hx];exact h0)
   rw [<-hm] at gA;have eh:=h.put hq (by rw [<-hx];exact h0);rw [<-hm] at eh;have hR:nmR s (q:Int)=m:=by
    unfold nmR nmS;rw [Aan,if_pos (by rw [<-hx];exact h0)];show (s.now.set q s.many).getD q 0=m;rw [Aaf,Aa6 (by rw [h.ok.len];exact hq),hm];rfl
   have iW:=hid eh;have HR:=hid hR;have Hh:=hid h;clear h hg hx hm eh hR bf;go_enter Tryz.func86,Tryz.ntmps86;go_wp2_with fail;go_big_region
   all_goals
    go_wp2_with fail;go_ret;have hk:Kp (NmF T NB) w ((w.setCell ⟨T,q,none⟩ (.int .i64 m)).setCell ⟨NB,1,none⟩ (.int .i64 (m+1))):=((Kp.refl _ _).set (fun h:NmF T NB T=>h.1 rfl) _).set (fun h:NmF T NB NB=>h.2 rfl) _;exact⟨show Ending.returned (Value.int .i64 m)=_ by rw [HR.out],iW.out.below (Below.refl _ _).drew,hk.trans (Kp.of (Below.refl _ _).drew)⟩
 . have hS:nmS s (q:Int)=s:=by unfold nmS;rw [Aan,if_neg (by rw [<-hx];exact h0)]
   have hR:nmR s (q:Int)=x:=by unfold nmR;rw [hS,Aan,hx]
   have HR:=hid hR;have HS:=hid hS;have Hh:=hid h;clear h hg hx hm hS hR bf;go_enter Tryz.func86,Tryz.ntmps86;go_wp2_with fail;go_ret;exact⟨show Ending.returned (Value.int .i64 x)=_ by rw [HR.out],by rw [HS.out];exact Hh.out,Kp.refl _ _⟩
theorem ams {fn : Func} (az : fn.results = #[.cell 4 41]) {tmps : Array Value} {b : Nat} (ht : tmps.getD 4 undef = .pointer (some ⟨b, 0, none⟩)) {x y : Value} {W : World}
 (h0:W.cell? ⟨b,0,none⟩=some x) (h1:W.cell? ⟨b,1,none⟩=some y):(results fn tmps).run Tryz.prog W = .ok (.agg #[x,y]) W:=by
 simp only [Acl] at ht;simp [results,az,ht,go_sem,h0,h1]
theorem afB.valLive{W:World}(h:afB W T NB n s):NmF T NB W.heap.size∧NmF T NB (W.heap.size+1):=by
 have:=h.live;exact⟨⟨by omega,by omega⟩,⟨by omega,by omega⟩⟩
theorem acg(hn:n<=1048576)(w:World)(h:afB w T NB n s)(v:aay)(hv:InV n v) :
 Calls Tryz.prog 87 #[.pointer (some ⟨NB,0,none⟩),.agg #[.bool v.reg,.int .i64 v.n]] w fun e w'=>e = .returned (.agg #[.bool (aem s v).reg,.int .i64 (aem s v).n])∧afB w' T NB n (ael s v)∧Kp (NmF T NB) w w':=by
 obtain⟨reg,nn⟩:=v;have Hh:=hid h;have Hv:=hid hv;clear h hv;go_enter Tryz.func87,Tryz.ntmps87;cases reg with
 | true =>
   have hr:=Hv.out rfl;have Hr:=hid hr;clear hr;go_upto_region 2 with (fail)
   obtain⟨W,hW⟩:∃W,W=(w.alloc (.cells #[.bool true,.int .i64 nn] 41)).alloc (.cells #[.bool false,.int .i64 0] 41):=⟨_,rfl⟩
   obtain⟨bU,h0,h1⟩:=abE w (.cells #[.bool true,.int .i64 nn] 41) (.cells #[.bool false,.int .i64 0] 41);rw [<-hW] at bU h0 h1 ⊢;have cp:Below w.heap.size w W:=by rw [hW];exact bE
   obtain⟨VB,bT⟩:∃VB,VB=w.heap.size:=⟨_,rfl⟩
   obtain⟨RB,jv⟩:∃RB,RB=w.heap.size+1:=⟨_,rfl⟩
   rw [<-jv] at h1 ⊢;rw [<-bT] at h0 ⊢;obtain⟨v0,v1⟩:=(aad (cs:=[_,_]) h0).get2;rw [Aab] at v1;have zV:VB<W.heap.size:=aac v0;have aQ:=hid (Hh.out.below cp);have HF:=hid Hh.out.valLive;rw [<-bT] at HF;have iU:Hid (NmF T NB RB):=by rw [jv];exact Hh.out.valLive.2
   have H0:=hid h0;have H1:=hid h1;have aO:=hid cp;have ib:Hid (VB≠RB):=by show _≠_;omega
   have gw:Hid (w.heap.size<=VB∧w.heap.size<=RB):=by show _∧_;omega
   have HN:=hid (ac8 hn W aQ.out nn Hr.out);clear hW h0 h1 cp bT jv bU;go_upto_region 3 with (go_at_call 86;refine HN.out.mono ?_;rintro e w2 ⟨rfl,gK,aT⟩;have km:=hid gK;have ct:=hid aT;have v0:=aT.cell HF.out.1 v0;have v1:=aT.cell HF.out.1 v1;have f1:=aT.frozen (o:=1) HF.out.1 zV (aaq H0.out 1);have zV:=aac v0;clear gK aT)
   have fg:w2.heap[RB]?=some (.cells #[.bool false,.int .i64 0] 41 (0,0)):=(ct.out.block RB (Aag.1 H1.out).1 iU.out).trans H1.out;have zR:=(Aag.1 fg).1;have nA:¬RB=VB:=fun e=>ib.out e.symm;have f2:=aaq fg 0;have f3:=aaq fg 1;obtain⟨r0,r1⟩:=(aad (cs:=[_,_]) fg).get2;rw [Aab] at r1;have ls:aal (w2.setCell ⟨VB,1,none⟩ (.int .i64 (nmR s nn))) RB 0 [.bool false,.int .i64 0]:=fun j v hj=>by
    rw [aam _ nA];exact aad fg j v hj
   have mf:=hid ls;clear fg ls;go_wp2_with fail;obtain⟨c0,c1⟩:=(asV (u0 := .bool true) (u1 := .int .i64 (nmR s nn)) mf.out).get2;rw [Aab] at c1;refine bodyPost_ret (ams rfl rfl c0 c1) rfl ⟨rfl,?_,?_⟩
   . refine km.out.later (F:=NmF VB RB) (((Kp.refl _ _).set (fun h:NmF VB RB VB=>h.1 rfl) _).set (fun h:NmF VB RB RB=>h.2 rfl) _ |>.set (fun h:NmF VB RB RB=>h.2 rfl) _) ?_ ?_
     . have h1:=HF.out.1
       have h2:=iU.out;exact⟨fun e=>h1.1 e.symm,fun e=>h2.1 e.symm⟩
     . have h1:=HF.out.1
       have h2:=iU.out;exact⟨fun e=>h1.2 e.symm,fun e=>h2.2 e.symm⟩
   . have h2:=(Kp.of (F:=NmF T NB) aO.out).trans ct.out
     exact ((h2.setNew (a:=⟨VB,1,none⟩) gw.out.1 _).setNew (a:=⟨RB,0,none⟩) gw.out.2 _).setNew (a:=⟨RB,1,none⟩) gw.out.2 _
 | false =>
   go_wp2_with fail;have hc:=abE w (.cells #[.bool false,.int .i64 nn] 41) (.cells #[.bool false,.int .i64 nn] 41);obtain⟨c0,c1⟩:=(aad (cs:=[_,_]) hc.2.2).get2;rw [Aab] at c1;refine bodyPost_ret (ams rfl rfl c0 c1) rfl ⟨rfl,Hh.out.below ?_,Kp.of ?_⟩
   . exact bE
   . exact bE
end
section
open Go.RowKit
def atV(T NB:Nat)(bs:List DBlock)(V:Pth->Value)(b:Nat):Prop:=b≠T∧b≠NB∧∀q,okP bs q->(V q).ownBlock≠some b
def auc {S:Nat->Prop}(w wc:World)(base UB UO:Nat)(nm:ByteArray)(pn n:Nat)(bk:List DBlock):Prop :=
 ∃V1 ra rc,abJ wc base bk V1∧V1 .blks = .slice ra bk.length rc∧wc.heap[UB]?=some (.cells #[.string nm,.int .i64 (pn:Int),.int .i64 (n:Int),.slice ra bk.length rc] 37 (0,0)) ∧
   wc.heap[UO]?=some (.cells #[.string ⟨#[]⟩,.int .i64 0,.int .i64 0,.slice none 0 0] 37 (0,0))∧Below base w wc∧(∀b,S b->wc.heap[b]?=w.heap[b]?)∧∀b,S b∨b=UB∨b=UO->∀q,okP bk q->(V1 q).ownBlock≠some b
theorem aox {S : Nat -> Prop} (nm : ByteArray) (pn n : Nat) (bs : List DBlock) (V : Pth -> Value) (base : Nat) (w : World) (hf : abJ w base bs V) (aL : base <= w.heap.size) (gf : acU bs) (hto : aeX bs)
 (hn:n<=1048576) (fj:pn<=n) (bk:List DBlock) (ef:bk=aa7 bs (ordL bs)) (cP:acU bk) (gr:∀x∈bk,ac6 n x)
 (hS:∀b,S b->b<w.heap.size∧∀q,okP bs q->(V q).ownBlock≠some b) :
 Calls Tryz.prog 56 #[.agg #[.string nm,.int .i64 (pn:Int),.int .i64 (n:Int),V .blks]] w fun e w' =>
  ∃V',e = .returned (.agg #[.string nm,.int .i64 (pn:Int),.int .i64 (afb pn n bk),V' .blks])∧abJ w' base (adh pn n bk) V'∧Below base w w'∧asZ S w w' (adh pn n bk) V':=by
 obtain⟨ba,bc,dj⟩:=aah.shape (p := .blks) hf trivial;obtain⟨m,hm⟩:∃m,m=bs.length:=⟨_,rfl⟩
 rw [show (aae bs V .blks).length=m by simp [aae,hm]] at dj;have Hf:=hid hf;have bP:=hid gf;have ig:=hid hto;have jP:=hid ef;have b7:=hid cP;have gQ:=hid gr;have HS:=hid hS;have Hm:=hid hm;have gz:=hid dj;rw [dj];clear hf gf hto ef cP gr hS hm dj;go_enter Tryz.func56,Tryz.ntmps56;go_upto_region 1 with (fail)
 obtain⟨W,hW⟩:∃W,W=(w.alloc (.cells #[.string nm,.int .i64 (pn:Int),.int .i64 (n:Int),.slice ba m bc] 37)).alloc (.cells #[.string ⟨#[]⟩,.int .i64 0,.int .i64 0,.slice none 0 0] 37):=⟨_,rfl⟩
 obtain⟨bU,h0,h1⟩:=abE w (.cells #[.string nm,.int .i64 (pn:Int),.int .i64 (n:Int),.slice ba m bc] 37) (.cells #[.string ⟨#[]⟩,.int .i64 0,.int .i64 0,.slice none 0 0] 37);rw [<-hW] at bU h0 h1 ⊢;have cp:Below w.heap.size w W:=by rw [hW];exact bE
 obtain⟨UB,cf⟩:∃UB,UB=w.heap.size:=⟨_,rfl⟩
 obtain⟨UO,eA⟩:∃UO,UO=w.heap.size+1:=⟨_,rfl⟩
 rw [<-eA] at h1 ⊢;rw [<-cf] at h0 ⊢;have ae:Hid (UB=w.heap.size∧UO=w.heap.size+1∧W.heap.size=w.heap.size+2):=⟨cf,eA,bU⟩
 have HB:Hid (base<=w.heap.size):=aL;have H0:=hid h0;have H1:=hid h1;have aO:=hid cp;obtain⟨c0,c1,c2,c3⟩:=(aad (cs:=[_,_,_,_]) h0).get4;rw [Aab] at c1 c2 c3;have dm:SlAt (fun b=>base<=b∧b<w.heap.size) W.drew 6 aa0 (.slice ba m bc) bs:=by
  have h:=abJ.read Hf.out bP.out.num;rw [gz.out] at h;exact h.later aat (aO.out.trans ((Below.refl W.heap.size W).drew.mono aO.out.size))
 have bD:=hid dm;have gd:Hid (∀w',Below W.heap.size W w'->w'.cell? ⟨UB,0,none⟩=some (.string nm)∧w'.cell? ⟨UB,1,none⟩=some (.int .i64 (pn:Int))∧w'.cell? ⟨UB,2,none⟩=some (.int .i64 (n:Int))∧w'.cell? ⟨UB,3,none⟩=some (.slice ba m bc)) :=
  fun w' h=>⟨aab c0 h,aab c1 h,aab c2 h,aab c3 h⟩
 have zU:UB<W.heap.size:=aac c0;have kC:m<=1048576:=by rw [Hm.out];exact bP.out.len
 have HO:=hid (afg nm (pn:Int) (n:Int) ba m bc bs W.drew bD.out (fun b hb=>by have:=aO.out.size;simp;omega) Hm.out.symm kC ig.out)
 have iu : Hid (∀ w8 oa oc, Below W.heap.size W w8 -> abt W.drew.heap.size w8 (.slice oa (ordL bs).length oc) (ordL bs) ->
  Calls Tryz.prog 58 #[.agg #[.string nm, .int .i64 (pn : Int), .int .i64 (n : Int), .slice ba m bc], .slice oa (ordL bs).length oc] w8 fun e w' => ∃ V', e = .returned (.agg #[.string nm, .int .i64 (pn : Int), .int .i64 (n : Int), V' .blks]) ∧
   abJ w' base bk V' ∧ Below base w8 w' ∧ asZ (fun b => S b ∨ (w.heap.size <= b ∧ b < w8.heap.size)) w8 w' bk V') := fun w8 oa oc aU hv => by
  have eX:=aO.out.size;have eH:=aU.size
  have hK := amw (S := fun b => S b ∨ (w.heap.size <= b ∧ b < w8.heap.size)) nm (pn : Int) (n : Int) bs V base w8 (Hf.out.later (aO.out.trans (aU.mono eX))) (by omega) bP.out oa (ordL bs).length oc (ordL bs)
   (hv.sl.mono aaw (fun b hb => .inr ⟨Aai eX hb.1,hb.2⟩) (aaS.refl _ _)) rfl (Aai (by have h:=aic ig.out;rw [af3] at h;rw [show (ordL bs).length=(aaZ bs).length from Ach ..];exact h) bP.out.len)
   (fun b hb => by
     rcases hb with h | h
     . exact ⟨Aay (HS.out b h).1 (Aai eX eH), (HS.out b h).2⟩
     . exact ⟨h.2, fun q hq e => by have := (aah.lt Hf.out hq b e).2; omega⟩)
   (fun x hx=>(aa9 ig.out).1 x (Abw.1 hx)) (List.pairwise_reverse.2 ((aa9 ig.out).2.1.imp fun h e=>h e.symm))
  rw [gz.out,<-jP.out] at hK;exact hK
 clear hW h0 h1 cp cf eA bU aL dm;go_cut [26] (fun v26 wc=>v26=v26∧auc (S:=S) w wc base UB UO nm pn n bk)
 case first =>
  --DEV
  go_region_law
   ((first
     | (go_simp; go_at_call 59; refine HO.out.mono ?_; rintro e w8 ⟨v, rfl, hv, aY⟩
        obtain ⟨oa, oc, kz⟩ := hv.shape
        subst kz
        have aU : Below W.heap.size W w8 := (Below.refl W.heap.size W).drew.trans aY
        obtain ⟨d0, d1, d2, d3⟩ := gd.out w8 aU
        have kI := aac d0
        have HK := hid (iu.out w8 oa oc aU hv)
        have bA := hid aU
        clear hv aY aU)
     | (go_simp; go_at_call 58; refine HK.out.mono ?_; rintro e w9 ⟨V1, rfl, ee, eP, aH⟩
        obtain ⟨ra, rc, bm⟩ := aah.shape (p := .blks) ee trivial
        obtain ⟨l, hl⟩ : ∃ l, l = bk.length := ⟨_, rfl⟩
        rw [show (aae bk V1 .blks).length = l by simp [aae, hl]] at bm
        rw [bm]
        have eC : w9.heap[UB]? = some (.cells #[.string nm, .int .i64 (pn : Int), .int .i64 (n : Int), .slice ba m bc] 37 (0, 0)) := ((aH UB (.inr ⟨by have := ae.out; omega, kI⟩)).1.trans (bA.out.block UB zU)).trans H0.out
        obtain ⟨e0, e1, e2, e3⟩ := (aad (cs := [_, _, _, _]) eC).get4
        rw [Aab] at e1 e2 e3
        have k0 := aaq eC 0
        have k1 := aaq eC 1
        have k2 := aaq eC 2
        have k3 := aaq eC 3
        have Hl := hid hl
        have bX := hid bm
        have mo := hid eC
        have kV := hid ee
        have eB := hid eP
        have cN := hid aH
        clear ee eP aH eC bm hl)))
  all_goals
   have cV:UO≠UB:=by have:=ae.out;omega
   have ay:∀b,S b∨b=UB∨b=UO->∀q,okP bk q->(V1 q).ownBlock≠some b:=fun b hb=>by
    rcases hb with h | rfl | rfl
    . exact (cN.out b (.inl h)).2
    . exact (cN.out b (.inr ⟨by have:=ae.out;omega,kI⟩)).2
    . exact (cN.out b (.inr ⟨by have:=ae.out;omega,by have:=ae.out;have:=bA.out.size;omega⟩)).2
   have hG:=ay UB (.inr (.inl rfl));have aC:=(((aah.setOff kV.out (o:=0) hG (.string nm)).setOff (o:=1) hG (.int .i64 (pn:Int))).setOff (o:=2) hG (.int .i64 (n:Int))).setOff (o:=3) hG (.slice ra l rc);have aj:Kp (fun b=>b≠UB) w9 ((((w9.setCell ⟨UB,0,none⟩ (.string nm)).setCell ⟨UB,1,none⟩ (.int .i64 (pn:Int))).setCell ⟨UB,2,none⟩ (.int .i64 (n:Int))).setCell ⟨UB,3,none⟩ (.slice ra l rc)):=aaD (aaD (aaD (aaQ _ _ _ _) _ _) _ _) _ _;have dQ:=eB.out.size;have mC:=bA.out.size;have kJ:=ae.out;have lr:∀b,S b->w9.heap[b]?=w.heap[b]?:=fun b hb=>(cN.out b (.inl hb)).1.trans ((bA.out.block b (by have:=(HS.out b hb).1;omega)).trans (aO.out.block b (HS.out b hb).1));have hcut:auc (S:=S) w ((((w9.setCell ⟨UB,0,none⟩ (.string nm)).setCell ⟨UB,1,none⟩ (.int .i64 (pn:Int))).setCell ⟨UB,2,none⟩ (.int .i64 (n:Int))).setCell ⟨UB,3,none⟩ (.slice ra l rc)) base UB UO nm pn n bk:=by
    refine⟨V1,ra,rc,aC,by rw [bX.out,Hl.out],by rw [<-Hl.out];exact atM mo.out,?_,?_,fun b hb=>?_,ay⟩
    . refine (aj.block UO (by omega) cV).trans (((cN.out UO (.inr ⟨by omega,by omega⟩)).1.trans (bA.out.block UO (by omega))).trans H1.out)
    . refine ((((((aO.out.mono HB.out).trans (bA.out.mono (by have:=HB.out;omega))).trans eB.out).setCell (p:=⟨UB,0,none⟩) ?_ _).setCell (p:=⟨UB,1,none⟩) ?_ _).setCell (p:=⟨UB,2,none⟩) ?_ _).setCell (p:=⟨UB,3,none⟩) ?_ _ <;> (have:=HB.out;show base<=UB;omega)
    . have cc:=(HS.out b hb).1
      exact (aj.block b (by omega) (show b≠UB by omega)).trans (lr b hb)
   have eZ:=hid hcut;clear hcut lr aj aC ay hG dQ mC kJ cV e0 e1 e2 e3 k0 k1 k2 k3;go_wp2_with fail;go_meet;exact⟨trivial,eZ.out⟩
  --END
 case rest =>
  obtain⟨-,V1,ra,rc,aC,bm,hZ,lL,k8,lA,ay⟩:=hcut;obtain⟨W9,mc⟩:∃W9:World,W9=wc:=⟨_,rfl⟩
  subst mc;obtain⟨l,hl⟩:∃l,l=bk.length:=⟨_,rfl⟩
  rw [<-hl] at bm hZ;obtain⟨e0,e1,e2,e3⟩:=(aad (cs:=[_,_,_,_]) hZ).get4;rw [Aab] at e1 e2 e3;have av:=hid aC;have bX:=hid bm;have ft:=hid hZ;have kD:=hid lL;have lu:=hid k8;have nb:=hid lA;have fw:=hid ay;have Hl:=hid hl;have zB:UB<W9.heap.size:=aac e0;clear aC bm hZ lL k8 lA ay hl c0 c1 c2 c3 HO iu bD e0 e1;go_upto_region 2 with (fail)
  go_upto_region 3 with (go_at_call 73;refine (adB _ _ (-1) n hn _ (aaB _ [.int .i64 (-1)] 3 rfl 0 _ rfl)).mono ?_;rintro e w2 ⟨T,rfl,hg,fI,cM⟩;have hh:Below W9.heap.size W9 w2:=(bE1 cM);have hT:W9.heap.size<=T:=(by simp at hg;omega);have eE:=hid fI;have dx:=hid hh;have HT:=hid hT;clear hg fI cM hh hT)
  obtain⟨NB,ie⟩:∃NB,NB=w2.heap.size:=⟨_,rfl⟩
  obtain⟨W3,ck⟩:∃W3,W3=w2.alloc (.cells #[.slice (some ⟨T,0,none⟩) n n,.int .i64 0] 136):=⟨_,rfl⟩
  have kW:W3.heap[NB]?=some (.cells #[.slice (some ⟨T,0,none⟩) n n,.int .i64 0] 136 (0,0)):=by rw [ck,ie];exact heap_alloc_new _ _
  rw [<-ck,<-ie];have e4:Below w2.heap.size w2 W3:=by rw [ck];exact bE
  have mZ:W3.heap.size=NB+1:=by rw [ck,ie];simp
  have lI:T<w2.heap.size:=(Aag.1 eE.out).1;have ao:afB W3 T NB n (nm0 n):=⟨by rw [e4.block T lI,eE.out];simp [nm0],kW,amU n⟩
  have iE:Below W9.heap.size W9 W3:=dx.out.trans (e4.mono dx.out.size);have fb:Hid (W9.heap.size<=T∧T<W3.heap.size∧W9.heap.size<=NB∧NB<W3.heap.size∧w.heap.size<=W9.heap.size∧W9.heap.size<=W3.heap.size):=by
   show _∧_;have h1:=HT.out;have h2:=dx.out.size;have h3:=lu.out.size;have h4:=iE.size;omega
  have aQ:=hid ao;have dy:=hid iE;have e1:W3.cell? ⟨UB,1,none⟩=some (.int .i64 (pn:Int)):=by
   have h:=(aad (cs:=[_,_,_,_]) ft.out) 1 _ rfl;rw [Aab] at h;exact aab h iE
  have bz:Hid (∀b,b<W9.heap.size->NmF T NB b):=fun b hb=>⟨by have:=fb.out;omega,by have:=fb.out;omega⟩
  clear ie ck kW e4 mZ lI ao iE e2 e3 zB eE dx HT;go_wp2_with fail;go_loopw [35] (fun s35 wr=>∃k:Nat,k<=pn∧s35 = .int .i64 (k:Int)∧afB wr T NB n (agU (nm0 n) k)∧Kp (NmF T NB) W3 wr) (fun s35 _=>pn - (intOf s35).toNat)
  case atStart=>exact⟨0,Aaj _,rfl,aQ.out,Kp.refl _ _⟩
  case round =>
   obtain⟨k,hk,rfl,cj,aj⟩:=hrel;have hX:=hid cj;have cn:=hid aj;clear cj aj
   by_cases hkn:k<pn
   . have ny:Hid (0<=(k:Int)∧(k:Int)<n):=by show _∧_;omega
     go_wp2_with (go_at_call 86;refine (ac8 hn wr hX.out (k:Int) ny.out).mono ?_;rintro e w2 ⟨rfl,bV,aT⟩;have db:=hid bV;have ct:=hid aT;clear bV aT);go_roundw
     case rel=>exact⟨k+1,by omega,by go_num,by rw [ajg];exact db.out,cn.out.trans ct.out⟩
     case measure=>simp [intOf];omega
   . have kh:pn=k:=by omega
     subst kh;obtain⟨s0,jM⟩:∃s0,s0=agU (nm0 n) pn:=⟨_,rfl⟩
     obtain⟨W4,fh⟩:∃W4:World,W4=wr:=⟨_,rfl⟩
     subst fh;rw [<-jM] at hX;have lV:=hid jM;have u3:W4.cell? ⟨UB,3,none⟩=some (.slice ra l rc):=by
      have h:=(aad (cs:=[_,_,_,_]) ft.out) 3 _ rfl;rw [Aab] at h;exact cn.out.cell (bz.out UB (aac h)) (aab h dy.out)
     have gC:SlAt (fun b=>base<=b∧b<W9.heap.size) W4 6 aa0 (.slice ra l rc) bk:=by
      have h:=abJ.read av.out b7.out.num;rw [bX.out] at h;exact (h.later aat dy.out).mono aat (fun _ h=>h) (cn.out.stays fun b hb=>bz.out b hb.2)
     have gn:=hid gC;have lR:Hid (W3.heap.size<=W4.heap.size):=cn.out.size;have nM:l<=1048576:=by rw [Hl.out];exact b7.out.len
     have cg:Hid (∀b,W3.heap.size<=b->NmF T NB b):=fun b hb=>⟨by have:=fb.out;omega,by have:=fb.out;omega⟩
     clear jM gC hk hkn e1;go_wp2_with fail;clear u3;go_loopw [45] (fun s45 wr=>∃k:Nat,k<=l∧s45 = .int .i64 (k:Int)∧afB wr T NB n ((bk.take k).foldl anZ s0)∧Kp (NmF T NB) W4 wr) (fun s45 _=>l - (intOf s45).toNat)
     case atStart=>exact⟨0,Aaj _,rfl,hX.out,Kp.refl _ _⟩
     case round =>
      obtain⟨wo,ey⟩:∃wo:World,wo=wr:=⟨_,rfl⟩
      subst ey;obtain⟨k,hk,rfl,cj,aj⟩:=hrel
      by_cases hkl:k<l
      . skip
        --DEV
        have eM:k<bk.length:=by rw [<-Hl.out];exact hkl
        obtain⟨x,hx⟩:∃x,bk[k]?=some x:=⟨_,Aaa eM⟩
        obtain⟨ob,off,cs,iQ,gx,cR,-,af⟩:=(gn.out.mono aat (fun _ h=>h) (aj.stays fun b hb=>bz.out b hb.2)).get eM;rw [(Aad.1 hx).2] at cR;subst iQ;obtain⟨pa,pc,la,lc,ta,tc,rfl,ky,js,-,nk,nu,mH,-,-⟩:=cR.opens;obtain⟨p,hp⟩:∃p,p=x.phis.length:=⟨_,rfl⟩
        obtain⟨q,hq⟩:∃q,q=x.list.length:=⟨_,rfl⟩
        obtain⟨tn,gL⟩:∃tn,tn=x.fin.to.length:=⟨_,rfl⟩
        obtain⟨ek,aP⟩:∃ek,ek=x.fin.kind:=⟨_,rfl⟩
        obtain⟨er,dX⟩:∃er,er=x.fin.on.reg:=⟨_,rfl⟩
        obtain⟨en,eD⟩:∃en,en=x.fin.on.n:=⟨_,rfl⟩
        rw [<-hp] at ky nk af;rw [<-hq] at js nu af;rw [<-gL] at mH af;rw [<-aP,<-dX,<-eD] at af;obtain⟨s1,eR⟩:∃s1,s1=(bk.take k).foldl anZ s0:=⟨_,rfl⟩
        rw [<-eR] at cj;have hY:=hid eR;have Hx:=hid hx;have aq:Hid (p=x.phis.length∧q=x.list.length∧er=x.fin.on.reg∧en=x.fin.on.n):=⟨hp,hq,dX,eD⟩
        have gg:=hid cj;have eV:=hid aj;have bd:=b7.out.small x (Aae hx);have mG:p<=1048576:=by rw [hp];exact bd.phis
        have my:q<=1048576:=by rw [hq];exact bd.list
        have dP:=hid (gQ.out x (Aae hx));have fp:=hid bd;have aA:aal wo ob (off+k * 6) [.slice pa p pc,.slice la q lc,.int .i64 ek,.bool er,.int .i64 en,.slice ta tn tc]:=af;obtain⟨c0,c1,c2,c3,c4,c5⟩:=aA.get6;have zo:ob<wo.heap.size:=aac c0;have lp:=hid ky;have ll:=hid js;clear eR cj aj hx hp hq gL aP dX eD cR af aA bd ky js gx eM;go_upto_region 11 with (fail)
        obtain⟨LB,e6⟩:∃LB,LB=wo.heap.size:=⟨_,rfl⟩
        obtain⟨W5,bw⟩:∃W5,W5=wo.alloc (.cells #[.slice pa p pc,.slice la q lc,.int .i64 ek,.bool er,.int .i64 en,.slice ta tn tc] 46):=⟨_,rfl⟩
        have kd:W5.heap[LB]?=some (.cells #[.slice pa p pc,.slice la q lc,.int .i64 ek,.bool er,.int .i64 en,.slice ta tn tc] 46 (0,0)):=by rw [bw,e6];exact heap_alloc_new _ _
        rw [<-bw,<-e6];have fo:Below wo.heap.size wo W5:=by rw [bw];exact bE
        have bK:Hid (NmF T NB LB):=by
         refine cg.out LB ?_;have:=eV.out.size;have:=lR.out;omega
        have iR:=hid (gg.out.below fo);have ka:Hid (Kp (NmF T NB) W4 W5):=eV.out.trans (Kp.of fo);have fU:=hid (lp.out.later ace fo);have fP:=hid (ll.out.later aax fo);have jA:=hid kd;have nY:=hid fo;obtain⟨l0,l1,l2,l3,l4,l5⟩:=(aad (cs:=[_,_,_,_,_,_]) kd).get6;rw [Aab] at l1 l2 l3 l4 l5;clear e6 bw kd fo c0 c1 c2 c3 c4 c5 zo lp ll gg eV;go_wp2_with fail;clear l0 l1 l2 l3 l4 l5;go_loopw [52] (fun s52 wr=>∃i:Nat,i<=p∧s52 = .int .i64 (i:Int)∧afB wr T NB n ((x.phis.take i).foldl al2 s1)∧Kp (NmF T NB) W5 wr) (fun s52 _=>p - (intOf s52).toNat)
        case atStart=>exact⟨0,Aaj _,rfl,iR.out,Kp.refl _ _⟩
        case round =>
         obtain⟨wp,eW⟩:∃wp:World,wp=wr:=⟨_,rfl⟩
         subst eW;obtain⟨i,hi,rfl,al,aD⟩:=hrel
         by_cases hip:i<p
         . have a7:i<x.phis.length:=by rw [<-aq.out.1];exact hip
           obtain⟨ph,cr⟩:∃ph,x.phis[i]?=some ph:=⟨_,Aaa a7⟩
           obtain⟨pb,eU,cs,fu,gx,cR,-,af⟩:=(fU.out.mono ace (fun _ h=>h) (aD.stays fun b hb=>bz.out b hb.2)).get a7;rw [(Aad.1 cr).2] at cR;subst fu;obtain⟨fa,fc,rfl,-,-,-⟩:=cR.opens;obtain⟨fn,az⟩:∃fn,fn=ph.src.length:=⟨_,rfl⟩
           obtain⟨d,hd⟩:∃d,d=ph.dst:=⟨_,rfl⟩
           rw [<-az,<-hd] at af;have aA:aal wp pb (eU+i * 2) [.int .i64 d,.slice fa fn fc]:=af;obtain⟨c0,c1⟩:=aA.get2;have zp:pb<wp.heap.size:=aac c0;have bD:Hid (0<=d∧d<n):=by rw [hd];exact (dP.out.phi ph (Aae cr)).1
           have b8:=hid al;have cm:=hid aD;have cW:=hid cr;have Hd:=hid hd;clear al aD cr hd az cR af aA a7 gx;go_upto_region 14 with (fail)
           obtain⟨W6,bB⟩:∃W6,W6=wp.alloc (.cells #[.int .i64 d,.slice fa fn fc] 115):=⟨_,rfl⟩
           have aX:=heap_alloc_new wp (.cells #[.int .i64 d,.slice fa fn fc] 115);have bS:Below wp.heap.size wp W6:=by rw [bB];exact bE
           rw [<-bB] at aX ⊢;obtain⟨PB,fm⟩:∃PB,PB=wp.heap.size:=⟨_,rfl⟩
           rw [<-fm] at aX ⊢;obtain⟨l0,l1⟩:=(aad (cs:=[_,_]) aX).get2;have l9:=hid bS;have kg:=hid (b8.out.below bS);clear bB aX bS fm c0 c1 zp;go_wp2_with (go_at_call 86;refine (ac8 hn W6 kg.out d bD.out).mono ?_;rintro e w2 ⟨rfl,bV,aT⟩;have db:=hid bV;have ct:=hid aT;clear bV aT);go_roundw
           case rel =>
            refine⟨i+1,by omega,by go_num,?_,(cm.out.trans (Kp.of l9.out)).trans ct.out⟩;rw [abk al2 s1 cW.out];unfold al2;rw [<-Hd.out];exact db.out
           case measure=>simp [intOf];omega
         . have eg:p=i:=by omega
           subst eg;rw [aq.out.1,Aa1] at al;obtain⟨s2,cu⟩:∃s2,s2=x.phis.foldl al2 s1:=⟨_,rfl⟩
           rw [<-cu] at al;obtain⟨W6,bB⟩:∃W6:World,W6=wp:=⟨_,rfl⟩
           subst bB;have fT:=fP.out.mono aax (fun _ h=>h) (aD.stays fun b hb=>bz.out b hb.2);have aX:W6.heap[LB]?=some (.cells #[.slice pa p pc,.slice la q lc,.int .i64 ek,.bool er,.int .i64 en,.slice ta tn tc] 46 (0,0)):=(aD.block LB (Aag.1 jA.out).1 bK.out).trans jA.out;obtain⟨l0,l1,l2,l3,l4,l5⟩:=(aad (cs:=[_,_,_,_,_,_]) aX).get6;rw [Aab] at l1 l2 l3 l4 l5;have iV:=hid fT;have cY:=hid aX;have dL:=hid cu;have b8:=hid al;have gy:Hid (Kp (NmF T NB) W4 W6):=ka.out.trans aD;clear cu fT aX al aD hi hip fU fP jA;go_wp2_with fail;clear l0 l1 l2 l3 l4 l5;go_loopw [64] (fun s64 wr=>∃i:Nat,i<=q∧s64 = .int .i64 (i:Int)∧afB wr T NB n ((x.list.take i).foldl acr s2)∧Kp (NmF T NB) W6 wr) (fun s64 _=>q - (intOf s64).toNat)
           case atStart=>exact⟨0,Aaj _,rfl,b8.out,Kp.refl _ _⟩
           case round =>
            obtain⟨wp,eW⟩:∃wp:World,wp=wr:=⟨_,rfl⟩
            subst eW;obtain⟨i,hi,rfl,al,aD⟩:=hrel
            by_cases hiq:i<q
            . have a7:i<x.list.length:=by rw [<-aq.out.2.1];exact hiq
              obtain⟨y,hy⟩:∃y,x.list[i]?=some y:=⟨_,Aaa a7⟩
              obtain⟨pb,eU,cs,fu,gx,cR,-,af⟩:=(iV.out.mono aax (fun _ h=>h) (aD.stays fun b hb=>bz.out b hb.2)).get a7;rw [(Aad.1 hy).2] at cR;subst fu;obtain⟨fa,fc,rfl,has,-,-⟩:=cR.opens;obtain⟨fn,az⟩:∃fn,fn=y.args.length:=⟨_,rfl⟩
              obtain⟨op,hop⟩:∃op,op=y.op:=⟨_,rfl⟩
              obtain⟨d,hd⟩:∃d,d=y.dst:=⟨_,rfl⟩
              obtain⟨ar,dk⟩:∃ar,ar=y.a.reg:=⟨_,rfl⟩
              obtain⟨an,dn⟩:∃an,an=y.a.n:=⟨_,rfl⟩
              obtain⟨br,df⟩:∃br,br=y.b.reg:=⟨_,rfl⟩
              obtain⟨bn,di⟩:∃bn,bn=y.b.n:=⟨_,rfl⟩
              obtain⟨yf,fe⟩:∃yf,yf=y.fn:=⟨_,rfl⟩
              rw [<-az,<-hop,<-hd,<-dk,<-dn,<-df,<-di,<-fe] at af;rw [<-az] at has;have aA:aal wp pb (eU+i * 8) [.int .i64 op,.int .i64 d,.bool ar,.int .i64 an,.bool br,.int .i64 bn,.int .i64 yf,.slice fa fn fc]:=af;obtain⟨c0,c1,c2,c3,c4,c5,c6,c7⟩:=aA.get8;have zp:pb<wp.heap.size:=aac c0;obtain⟨s3,bO⟩:∃s3,s3=(x.list.take i).foldl acr s2:=⟨_,rfl⟩
              rw [<-bO] at al;have cy:=dP.out.ins y (Aae hy);have iT:Hid (InV n ⟨ar,an⟩):=by rw [dk,dn];exact cy.1
              have jr:Hid (InV n ⟨br,bn⟩):=by rw [df,di];exact cy.2.1
              have gW:=hid cy.2.2.1;have ed:Hid (d<n):=by rw [hd];exact cy.2.2.2
              have gh:fn<=1048576:=by rw [az];exact fp.out.args y (Aae hy)
              have b8:=hid al;have cm:=hid aD;have b9:=hid bO;have Hy:=hid hy;have bu:Hid (fn=y.args.length∧d=y.dst∧(⟨ar,an⟩:aay)=y.a∧(⟨br,bn⟩:aay)=y.b):=⟨az,hd,by rw [dk,dn],by rw [df,di]⟩
              have Has:=hid has;clear al aD bO hy az hop hd dk dn df di fe cR af aA a7 gx cy has;go_upto_region 19 with (fail)
              obtain⟨W7,cT⟩:∃W7,W7=wp.alloc (.cells #[.int .i64 op,.int .i64 d,.bool ar,.int .i64 an,.bool br,.int .i64 bn,.int .i64 yf,.slice fa fn fc] 49):=⟨_,rfl⟩
              have bY:=heap_alloc_new wp (.cells #[.int .i64 op,.int .i64 d,.bool ar,.int .i64 an,.bool br,.int .i64 bn,.int .i64 yf,.slice fa fn fc] 49);have bR:Below wp.heap.size wp W7:=by rw [cT];exact bE
              rw [<-cT] at bY ⊢;obtain⟨IB,eO⟩:∃IB,IB=wp.heap.size:=⟨_,rfl⟩
              rw [<-eO] at bY ⊢;have aN:Hid (NmF T NB IB):=by
               refine cg.out IB ?_;have:=cm.out.size;have:=gy.out.size;have:=lR.out;omega
              obtain⟨l0,l1,l2,l3,l4,l5,l6,l7⟩:=(aad (cs:=[_,_,_,_,_,_,_,_]) bY).get8;rw [Aab] at l1 l2 l3 l4 l5 l6 l7;have jn:=hid bR;have de:=hid bY;have jH:=hid (b8.out.below bR);have fZ:=hid (Has.out.later aaN bR);have zI:IB<W7.heap.size:=aac l0;clear cT bY bR eO c0 c1 c2 c3 c4 c5 c6 c7 zp Has;go_upto_region 20 with (go_at_call 87;refine (acg hn W7 jH.out ⟨ar,an⟩ iT.out).mono ?_;rintro e w8 ⟨rfl,aR,ah⟩;have cb:=hid aR;have bo:=hid ah;have l1:=ah.cell aN.out l1;have l4:=ah.cell aN.out l4;have l5:=ah.cell aN.out l5;have l7:=ah.cell aN.out l7;have zI:=aac l1;clear aR ah l0 l2 l3 l6)
              have lv:=hid (acg hn w8 cb.out ⟨br,bn⟩ jr.out);go_upto_region 21 with (go_at_call 87;refine lv.out.mono ?_;rintro e w9 ⟨rfl,fq,aH⟩;have mT:=hid fq;have cN:=hid aH;have l1:=aH.cell aN.out l1;have l7:=aH.cell aN.out l7;have zI:=aac l1;clear fq aH l4 l5 lv)
              have gu:Hid (Kp (NmF T NB) W7 w9):=bo.out.trans cN.out;have iO:=hid (fZ.out.mono aaN (fun _ h=>h) (gu.out.stays fun b hb=>bz.out b hb.2));have ng:=hid l1;clear fZ bo cN cb;go_wp2_with fail;clear l1 l7;go_loopw [79] (fun s79 wr=>∃m:Nat,m<=fn∧s79 = .int .i64 (m:Int)∧afB wr T NB n (aba (ael (ael s3 ⟨ar,an⟩) ⟨br,bn⟩) (y.args.take m))∧Kp (NmF T NB) w9 wr) (fun s79 _=>fn - (intOf s79).toNat)
              case atStart=>exact⟨0,Aaj _,rfl,mT.out,Kp.refl _ _⟩
              case round =>
               obtain⟨wq,gl⟩:∃wq:World,wq=wr:=⟨_,rfl⟩
               subst gl;obtain⟨m,hm,rfl,ao,a6⟩:=hrel
               by_cases hmf:m<fn
               . have cL:m<y.args.length:=by rw [<-bu.out.1];exact hmf
                 obtain⟨v,hv⟩:∃v,y.args[m]?=some v:=⟨_,Aaa cL⟩
                 obtain⟨vb,np,jF,c0,c1⟩:=arQ (iO.out.mono aaN (fun _ h=>h) (a6.stays fun b hb=>bz.out b hb.2)) cL;rw [(Aad.1 hv).2] at c0 c1;subst jF;have kl:=hid (gW.out v (Aae hv));obtain⟨vr,vn⟩:=v;have zv:vb<wq.heap.size:=aac c0;have aQ:=hid ao;have dp:=hid a6;have Hv:=hid hv;clear ao a6 hv cL;go_upto_region 24 with (fail)
                 obtain⟨aw,ax⟩:∃aw,aw=wq.alloc (.cells #[.bool vr,.int .i64 vn] 41):=⟨_,rfl⟩
                 have aG:=heap_alloc_new wq (.cells #[.bool vr,.int .i64 vn] 41);have bq:Below wq.heap.size wq aw:=by rw [ax];exact bE
                 rw [<-ax] at aG ⊢;obtain⟨VB,bT⟩:∃VB,VB=wq.heap.size:=⟨_,rfl⟩
                 rw [<-bT] at aG ⊢;obtain⟨v0,v1⟩:=(aad (cs:=[_,_]) aG).get2;rw [Aab] at v1;have dw:=hid bq;have iM:=hid (acg hn aw (aQ.out.below bq) ⟨vr,vn⟩ kl.out);clear ax aG bq bT c0 c1 zv;go_wp2_with (go_at_call 87;refine iM.out.mono ?_;rintro e w2 ⟨rfl,bV,aT⟩;have db:=hid bV;have ct:=hid aT;clear bV aT);go_roundw
                 case rel =>
                  refine⟨m+1,by omega,by go_num,?_,(dp.out.trans (Kp.of dw.out)).trans ct.out⟩;rw [afu _ Hv.out];exact db.out
                 case measure=>simp [intOf];omega
               . have cG:fn=m:=by omega
                 subst cG;rw [bu.out.1,Aa1,bu.out.2.2.1,bu.out.2.2.2] at ao;have l1:=a6.cell aN.out ng.out;have zI:IB<wq.heap.size:=aac l1;have aQ:=hid ao;have ds:Hid (Kp (NmF T NB) W6 wq):=((cm.out.trans (Kp.of jn.out)).trans gu.out).trans a6;have kS:Hid (∀w',afB w' T NB n (aie (aba (ael (ael s3 y.a) y.b) y.args) d)->afB w' T NB n ((x.list.take (i+1)).foldl acr s2)):=fun w' h=>by
                  rw [abk acr s2 Hy.out,<-b9.out];unfold acr;rw [<-bu.out.2.1];exact h
                 clear ao a6 hmf hm
                 by_cases hd0:0<=d
                 . have bD:Hid (0<=d∧d<n):=⟨hd0,ed.out⟩
                   have ca:=hid (ac8 hn wq aQ.out d bD.out);go_wp2_with (go_at_call 86;refine ca.out.mono ?_;rintro e w2 ⟨rfl,bV,aT⟩;have db:=hid bV;have ct:=hid aT;clear bV aT);go_roundw
                   case rel=>exact⟨i+1,by omega,by go_num,kS.out _ (by unfold aie;rw [if_pos hd0];exact db.out),ds.out.trans ct.out⟩
                   case measure=>simp [intOf];omega
                 . go_wp2_with fail
                   go_roundw
                   case rel=>exact⟨i+1,by omega,by go_num,kS.out _ (by unfold aie;rw [if_neg hd0];exact aQ.out),ds.out⟩
                   case measure=>simp [intOf];omega
            . have dY:q=i:=by omega
              subst dY;rw [aq.out.2.1,Aa1] at al;have aX:=(aD.block LB (Aag.1 cY.out).1 bK.out).trans cY.out;obtain⟨-,-,-,l3,l4,-⟩:=(aad (cs:=[_,_,_,_,_,_]) aX).get6;rw [Aab] at l3 l4;have zL:LB<wp.heap.size:=aac l3;have jB:=hid al;have ds:Hid (Kp (NmF T NB) W4 wp):=gy.out.trans aD;have kA:Hid (InV n ⟨er,en⟩):=by rw [aq.out.2.2.1,aq.out.2.2.2];exact dP.out.on
              have ca:=hid (acg hn wp jB.out ⟨er,en⟩ kA.out);clear al aD aX hi hiq;go_wp2_with (go_at_call 87;refine ca.out.mono ?_;rintro e w2 ⟨rfl,bV,aT⟩;have db:=hid bV;have ct:=hid aT;clear bV aT);go_roundw
              case rel =>
               refine⟨k+1,by omega,by go_num,?_,ds.out.trans ct.out⟩;rw [abk anZ s0 Hx.out,<-hY.out];unfold anZ;rw [<-dL.out];have h:=db.out;rw [aq.out.2.2.1,aq.out.2.2.2] at h;exact h
              case measure=>simp [intOf];omega
        --END
      . have na:l=k:=by omega
        subst na;rw [show (bk.take l).foldl anZ s0=al3 pn n bk by rw [ajf anZ s0 Hl.out,lV.out];rfl] at cj;obtain⟨sA,kx⟩:∃sA,sA=al3 pn n bk:=⟨_,rfl⟩
        rw [<-kx] at cj;obtain⟨W5,bw⟩:∃W5:World,W5=wo:=⟨_,rfl⟩
        subst bw;have aS:Kp (NmF T NB) W3 W5:=cn.out.trans aj;have gU:abJ W5 base bk V1:=aah.kp (av.out.later dy.out) aS fun q hq b hb=>bz.out b (aah.lt av.out hq b hb).2;have bh:aei W5 base T NB n (atV T NB bk V1) bk V1 sA:=⟨gU,cj,fun q hq b hb=>⟨fun h=>h.2.2 q hq hb,fun e=>(bz.out b (aah.lt av.out hq b hb).2).1 e,fun e=>(bz.out b (aah.lt av.out hq b hb).2).2 e⟩,fun h=>h.1 rfl,fun h=>h.2.1 rfl⟩
        have e9 : Hid (∀ b, W3.heap.size <= b -> atV T NB bk V1 b) := fun b hb => ⟨(cg.out b hb).1, (cg.out b hb).2, fun q hq e => by
         have := (aah.lt av.out hq b e).2
         have := fb.out
         omega⟩
        have iI:Hid (∀b,b<W9.heap.size->(S b∨b=UB∨b=UO)->atV T NB bk V1 b):=fun b hb h=>⟨(bz.out b hb).1,(bz.out b hb).2,fw.out b h⟩
        obtain⟨F,hF⟩:∃F,F=atV T NB bk V1:=⟨_,rfl⟩
        rw [<-hF] at bh e9 iI;have bM:W5.heap[UB]?=some (.cells #[.string nm,.int .i64 (pn:Int),.int .i64 (n:Int),.slice ra l rc] 37 (0,0)):=by
         have hz:=(Aag.1 ft.out).1;exact (aS.block UB (Aay hz dy.out.size) (bz.out UB hz)).trans ((dy.out.block UB hz).trans ft.out)
        have gq:W5.heap[UO]?=some (.cells #[.string ⟨#[]⟩,.int .i64 0,.int .i64 0,.slice none 0 0] 37 (0,0)):=by
         have hz:=(Aag.1 kD.out).1;exact (aS.block UO (Aay hz dy.out.size) (bz.out UO hz)).trans ((dy.out.block UO hz).trans kD.out)
        have ff:Hid (W3.heap.size<=W5.heap.size):=aS.size;have dK:=hid aS;have nx:=hid bh;have HF:=hid hF;have lQ:=hid kx;have bt:=hid bM;have gF:=hid gq;have u3:=(aad (cs:=[_,_,_,_]) bM) 3 _ rfl;rw [Aab] at u3;have nP:UB<W5.heap.size:=aac u3;have cZ:Hid (F UB∧F UO):=⟨iI.out UB (Aag.1 ft.out).1 (.inr (.inl rfl)),iI.out UO (Aag.1 kD.out).1 (.inr (.inr rfl))⟩
        clear kx cj aj aS gU bh hF bM gq hk hkl hX gn lV;go_wp2_with fail;clear u3;go_loopw [104] (fun s104 wr=>∃k:Nat,k<=l∧s104 = .int .i64 (k:Int)∧aei wr base T NB n F (afa sA bk k) V1 ((bk.take k).foldl aiA sA)∧Kp F W5 wr) (fun s104 _=>l - (intOf s104).toNat)
        case atStart=>exact⟨0,Aaj _,rfl,by rw [al6];exact nx.out,Kp.refl _ _⟩
        case round =>
         obtain⟨wo,ey⟩:∃wo:World,wo=wr:=⟨_,rfl⟩
         subst ey;obtain⟨k,hk,rfl,bh,aj⟩:=hrel
         by_cases hkl:k<l
         . have eM:k<bk.length:=by rw [<-Hl.out];exact hkl
           obtain⟨x,hx⟩:∃x,bk[k]?=some x:=⟨_,Aaa eM⟩
           obtain⟨au,cA⟩:∃au,au=afa sA bk k:=⟨_,rfl⟩
           have cc:au.length=bk.length:=by rw [cA,aji]
           have be:k<au.length:=by rw [cc];exact eM
           have k4:au[k]?=some x:=by rw [cA];exact apP sA hx
           rw [<-cA,<-abV k4] at bh;obtain⟨s1,eR⟩:∃s1,s1=(bk.take k).foldl aiA sA:=⟨_,rfl⟩
           rw [<-eR] at bh;obtain⟨pa,pc,iB⟩:=aah.shape (p := .phis k) bh.rows (by show k<_;rw [Aat];exact be);obtain⟨la,lc,iA⟩:=aah.shape (p := .list k) bh.rows (by show k<_;rw [Aat];exact be);obtain⟨ta,tc,jj⟩:=aah.shape (p := .to k) bh.rows (by show k<_;rw [Aat];exact be);obtain⟨p,hp⟩:∃p,p=x.phis.length:=⟨_,rfl⟩
           obtain⟨q,hq⟩:∃q,q=x.list.length:=⟨_,rfl⟩
           obtain⟨tn,gL⟩:∃tn,tn=x.fin.to.length:=⟨_,rfl⟩
           obtain⟨ek,aP⟩:∃ek,ek=x.fin.kind:=⟨_,rfl⟩
           obtain⟨er,dX⟩:∃er,er=x.fin.on.reg:=⟨_,rfl⟩
           obtain⟨en,eD⟩:∃en,en=x.fin.on.n:=⟨_,rfl⟩
           rw [show (aae (au.set k x) V1 (.phis k)).length=p by simp only [aae];rw [aau be];simp [hp]] at iB;rw [show (aae (au.set k x) V1 (.list k)).length=q by simp only [aae];rw [aau be];simp [hq]] at iA;rw [show (aae (au.set k x) V1 (.to k)).length=tn by simp only [aae];rw [aau be];simp [gL]] at jj;have af:(aae (au.set k x) V1 .blks)[k]?=some [.slice pa p pc,.slice la q lc,.int .i64 ek,.bool er,.int .i64 en,.slice ta tn tc]:=by
            simp only [aae];rw [aai,Aa6 be,aP,dX,eD,<-iB,<-iA,<-jj];rfl
           obtain⟨R,eK,jl,-,-,-,-⟩:=bh.rows.addr (p := .blks) trivial (Ab9 (Aaj _) (Aad.1 af).1);rw [bX.out] at jl;have iQ:ra=some ⟨R,0,none⟩:=by injection jl
           subst iQ;obtain⟨aA,hz⟩:=bh.rows.at (p := .blks) trivial (g:=R) (n:=l) (c:=rc) bX.out af;have aM:aal wo R (k * 6) [.slice pa p pc,.slice la q lc,.int .i64 ek,.bool er,.int .i64 en,.slice ta tn tc]:=aA;obtain⟨c0,c1,c2,c3,c4,c5⟩:=aM.get6;have zR:R<wo.heap.size:=aac c0;have bd:=b7.out.small x (Aae hx);have mG:p<=1048576:=by rw [hp];exact bd.phis
           have my:q<=1048576:=by rw [hq];exact bd.list
           have dP:=hid (gQ.out x (Aae hx));have fp:=hid bd;have jS:=hid cA;have ai:=hid be;have hY:=hid eR;have Hx:=hid hx;have aq:Hid (p=x.phis.length∧q=x.list.length∧er=x.fin.on.reg∧en=x.fin.on.n):=⟨hp,hq,dX,eD⟩
           have dA:Hid (V1 (.phis k) = .slice pa p pc∧V1 (.list k) = .slice la q lc):=⟨iB,iA⟩
           have hL:=hid bh;have el:=hid aj;clear eM hx cA cc be k4 bh eR iB iA jj hp hq gL aP dX eD af jl aA hz aM bd aj;go_upto_region 34 with (fail)
           obtain⟨LB,e6⟩:∃LB,LB=wo.heap.size:=⟨_,rfl⟩
           obtain⟨W6,bB⟩:∃W6,W6=wo.alloc (.cells #[.slice pa p pc,.slice la q lc,.int .i64 ek,.bool er,.int .i64 en,.slice ta tn tc] 46):=⟨_,rfl⟩
           have aX:W6.heap[LB]?=some (.cells #[.slice pa p pc,.slice la q lc,.int .i64 ek,.bool er,.int .i64 en,.slice ta tn tc] 46 (0,0)):=by rw [bB,e6];exact heap_alloc_new _ _
           rw [<-bB,<-e6];have bS:Below wo.heap.size wo W6:=by rw [bB];exact bE
           have bK:Hid (F LB):=by
            refine e9.out LB ?_;have:=el.out.size;have:=ff.out;omega
           have hB:=hid (hL.out.later bS);have ep:Hid (Kp F W5 W6):=el.out.trans (Kp.of bS);have cY:=hid aX;have lO:Hid (W3.heap.size<=W6.heap.size):=by show _<=_;have:=ep.out.size;have:=ff.out;omega
           obtain⟨l0,l1,l2,l3,l4,l5⟩:=(aad (cs:=[_,_,_,_,_,_]) aX).get6;rw [Aab] at l1 l2 l3 l4 l5;clear e6 bB aX bS c0 c1 c2 c3 c4 c5 zR hL el;go_wp2_with fail;clear l0 l1 l2 l3 l4 l5;go_loopw [112] (fun s112 wr=>∃i:Nat,i<=p∧s112 = .int .i64 (i:Int)∧aei wr base T NB n F (au.set k (phA s1 x i)) V1 ((x.phis.take i).foldl aiz s1)∧Kp F W6 wr) (fun s112 _=>p - (intOf s112).toNat)
           case atStart=>exact⟨0,Aaj _,rfl,by rw [aqB];exact hB.out,Kp.refl _ _⟩
           case round =>
            obtain⟨wp,eW⟩:∃wp:World,wp=wr:=⟨_,rfl⟩
            subst eW;obtain⟨i,hi,rfl,al,aD⟩:=hrel
            by_cases hip:i<p
            . skip
              --DEV
              have a7:i<x.phis.length:=by rw [<-aq.out.1];exact hip
              obtain⟨ph,cr⟩:∃ph,x.phis[i]?=some ph:=⟨_,Aaa a7⟩
              obtain⟨s2,cu⟩:∃s2,s2=(x.phis.take i).foldl aiz s1:=⟨_,rfl⟩
              rw [<-cu] at al;have dt:okP (au.set k (phA s1 x i)) (.phis k):=by show k<_;rw [Aat];exact ai.out
              have aE:okP (au.set k (phA s1 x i)) (.src k i):=by show i<_;rw [aau ai.out];show i<(acj s1 x.phis i).length;rw [agj];exact a7
              obtain⟨fa,fc,du⟩:=aah.shape (p := .src k i) al.rows aE;obtain⟨fn,az⟩:∃fn,fn=ph.src.length:=⟨_,rfl⟩
              obtain⟨d,hd⟩:∃d,d=ph.dst:=⟨_,rfl⟩
              rw [show (aae (au.set k (phA s1 x i)) V1 (.src k i)).length=fn by simp only [aae];rw [aau ai.out,show (phA s1 x i).phis=acj s1 x.phis i from rfl,adD (aii s1 cr),Aah,az]] at du;have af:(aae (au.set k (phA s1 x i)) V1 (.phis k))[i]?=some [.int .i64 d,.slice fa fn fc]:=by
               simp only [aae];rw [aau ai.out,aai,show (phA s1 x i).phis=acj s1 x.phis i from rfl,aii s1 cr,<-du,hd];rfl
              obtain⟨P,nR,jh,-,-,-,-⟩:=al.rows.addr (p := .phis k) dt (Ab9 (Aaj _) (Aad.1 af).1);rw [dA.out.1] at jh;have fu:pa=some ⟨P,0,none⟩:=by injection jh
              subst fu;obtain⟨aA,hz⟩:=al.rows.at (p := .phis k) dt (g:=P) (n:=p) (c:=pc) dA.out.1 af;have aM:aal wp P (i * 2) [.int .i64 d,.slice fa fn fc]:=aA;obtain⟨c0,c1⟩:=aM.get2;have dE:=hz (i * 2);have hQ:=al.off (.phis k) dt P (by rw [dA.out.1];rfl);have iF:Hid (NmF T NB P∧¬F P):=⟨⟨hQ.2.1,hQ.2.2⟩,hQ.1⟩
              have bD:Hid (0<=d∧d<n):=by rw [hd];exact (dP.out.phi ph (Aae cr)).1
              have jx:=hid (dP.out.phi ph (Aae cr)).2;have gh:fn<=1048576:=by rw [az];exact fp.out.src ph (Aae cr)
              have zP:P<wp.heap.size:=aac c0;have l0:wp.cell? ⟨LB,0,none⟩=some (.slice (some ⟨P,0,none⟩) p pc):=aD.cell bK.out ((aad (cs:=[_,_,_,_,_,_]) cY.out) 0 _ rfl);have zL:LB<wp.heap.size:=aac l0;have b8:=hid al;have cm:=hid aD;have cW:=hid cr;have dL:=hid cu;have ju:Hid (fn=ph.src.length∧d=ph.dst):=⟨az,hd⟩
              have c9:=hid du;clear a7 cr cu dt aE du az hd af jh aA hz aM hQ al aD;go_upto_region 37 with (fail)
              obtain⟨PB,fm⟩:∃PB,PB=wp.heap.size:=⟨_,rfl⟩
              obtain⟨W7,cT⟩:∃W7,W7=wp.alloc (.cells #[.int .i64 d,.slice fa fn fc] 115):=⟨_,rfl⟩
              have bY:W7.heap[PB]?=some (.cells #[.int .i64 d,.slice fa fn fc] 115 (0,0)):=by rw [cT,fm];exact heap_alloc_new _ _
              have bR:Below wp.heap.size wp W7:=by rw [cT];exact bE
              rw [<-cT,<-fm];have dH:Hid (F PB):=by
               refine e9.out PB ?_;have:=cm.out.size;have:=lO.out;omega
              have ln:Hid (LB≠P∧PB≠P):=by show _∧_;exact⟨fun e=>iF.out.2 (e ▸ bK.out),fun e=>iF.out.2 (e ▸ dH.out)⟩
              have dq:=hid ((b8.out.later bR).later (Below.refl W7.heap.size W7).drew);have ji:Hid (Kp F wp W7.drew):=(Kp.of bR).trans (Kp.of (Below.refl W7.heap.size W7).drew);have aK:Hid (W7.drew.cell? ⟨LB,0,none⟩=some (.slice (some ⟨P,0,none⟩) p pc)∧W7.drew.cell? ⟨PB,0,none⟩=some (.int .i64 d)):=⟨ji.out.cell bK.out l0,(aad (cs:=[_,_]) bY).get2.1⟩
              have aF:Hid (W7.drew.cell? ⟨P,i * 2,none⟩=some (.int .i64 d)∧W7.drew.frozen? ⟨P,i * 2,none⟩=false):=⟨aab (w':=W7) c0 bR,(bR.frozen (p:=⟨P,i * 2,none⟩) zP).trans dE⟩
              have de:Hid (W7.drew.heap[PB]?=some (.cells #[.int .i64 d,.slice fa fn fc] 115 (0,0))):=bY;have lU:P<W7.drew.heap.size:=aac aF.out.1;have lG:=hid (ac8 hn W7.drew dq.out.nm d bD.out);clear fm cT bY bR c0 c1 dE zP l0 zL
              go_region_held3 (fun w' => w'.cell? ⟨LB, 0, none⟩ = some (.slice (some ⟨P, 0, none⟩) p pc) ∧ w'.cell? ⟨PB, 0, none⟩ = some (.int .i64 d))
               ((first | with_reducible exact c8.out | with_reducible exact aI.out | with_reducible exact aK.out))
               ((go_at_call 86; (with_reducible refine lG.out.mono ?_); rintro e w8 ⟨rfl, aR, ah⟩
                 have aB := dq.out.keepN ah
                 have aI : Hid (w8.cell? ⟨LB, 0, none⟩ = some (.slice (some ⟨P, 0, none⟩) p pc) ∧ w8.cell? ⟨PB, 0, none⟩ = some (.int .i64 d)) := ⟨aB.cell bK.out aK.out.1, aB.cell dH.out aK.out.2⟩
                 have r1 := ah.cell iF.out.1 aF.out.1
                 have rz := ah.frozen iF.out.1 lU aF.out.2
                 have c8 : Hid ((w8.setCell ⟨P, i * 2, none⟩ (.int .i64 (nmR s2 d))).cell? ⟨LB, 0, none⟩ = some (.slice (some ⟨P, 0, none⟩) p pc) ∧ (w8.setCell ⟨P, i * 2, none⟩ (.int .i64 (nmR s2 d))).cell? ⟨PB, 0, none⟩ = some (.int .i64 d)) := ⟨(aam _ ln.out.1 _ _).trans aI.out.1, (aam _ ln.out.2 _ _).trans aI.out.2⟩
                 have cb := hid aR
                 have bo := hid ah
                 have bC := hid aB
                 clear aR ah aB))
              have ag:=(dq.out.named cb.out bo.out).setDst ai.out (i:=i) (g:=P) (pn:=p) (pc:=pc) (by show i<(acj s1 x.phis i).length;rw [agj];exact (Aad.1 cW.out).1) dA.out.1 (nmR s2 d);rw [aoP cW.out (nmS s2 d)] at ag;obtain⟨aw,ax⟩:∃aw,aw=w8.setCell ⟨P,i * 2,none⟩ (.int .i64 (nmR s2 d)):=⟨_,rfl⟩
              rw [<-ax] at ag ⊢;have aG:aw.heap[PB]?=some (.cells #[.int .i64 d,.slice fa fn fc] 115 (0,0)):=(ag.2.block PB (aac aI.out.2) dH.out).trans ((bC.out.block PB (Aag.1 de.out).1 dH.out).trans de.out);have l1:=(aad (cs:=[_,_]) aG) 1 _ rfl;rw [Aab] at l1;have cC:=hid ag.1;have cw:Hid (Kp F W6 aw):=((cm.out.trans ji.out).trans bC.out).trans ag.2;have fS:=hid aG;have l8:PB<aw.heap.size:=aac l1;have j2:Hid (W3.heap.size<=aw.heap.size):=by show _<=_;have:=cw.out.size;have:=lO.out;omega
              clear ag ax aG r1 rz aI c8 aK aF lU lG de cb bo bC dq ji;go_wp2_with fail;clear l1;go_loopw [129] (fun s129 wr=>∃m:Nat,m<=fn∧s129 = .int .i64 (m:Int)∧aei wr base T NB n F (au.set k (phB s1 (nmS s2 d) x i ph (nmR s2 d) m)) V1 (aba (nmS s2 d) (ph.src.take m))∧Kp F aw wr) (fun s129 _=>fn - (intOf s129).toNat)
              case atStart=>exact⟨0,Aaj _,rfl,cC.out,Kp.refl _ _⟩
              case round =>
               obtain⟨wq,gl⟩:∃wq:World,wq=wr:=⟨_,rfl⟩
               subst gl;obtain⟨m,hm,rfl,ao,a6⟩:=hrel
               by_cases hmf:m<fn
               . have cL:m<ph.src.length:=by rw [<-ju.out.1];exact hmf
                 obtain⟨v,hv⟩:∃v,ph.src[m]?=some v:=⟨_,Aaa cL⟩
                 obtain⟨s3,bO⟩:∃s3,s3=aba (nmS s2 d) (ph.src.take m):=⟨_,rfl⟩
                 rw [<-bO] at ao;have eu:i<(phB s1 (nmS s2 d) x i ph (nmR s2 d) m).phis.length:=(Aad.1 (amz cW.out)).1;have aE:okP (au.set k (phB s1 (nmS s2 d) x i ph (nmR s2 d) m)) (.src k i):=by show i<_;rw [aau ai.out];exact eu
                 have af:(aae (au.set k (phB s1 (nmS s2 d) x i ph (nmR s2 d) m)) V1 (.src k i))[m]?=some [.bool v.reg,.int .i64 v.n]:=by
                  simp only [aae];rw [aau ai.out,adD (amz cW.out),Aak,ak7 _ hv];rfl
                 obtain⟨G,gc,eI,-,-,-,-⟩:=ao.rows.addr (p := .src k i) aE (Ab9 (Aaj _) (Aad.1 af).1);rw [c9.out] at eI;have jL:fa=some ⟨G,0,none⟩:=by injection eI
                 subst jL;obtain⟨aA,hz⟩:=ao.rows.at (p := .src k i) aE (g:=G) (n:=fn) (c:=fc) c9.out af;obtain⟨vr,vn⟩:=v;have aM:aal wq G (m * 2) [.bool vr,.int .i64 vn]:=aA;obtain⟨c0,c1⟩:=aM.get2;have dE:=hz (m * 2);have e8:=hz (m * 2+1);have dh:=ao.off (.src k i) aE G (by rw [c9.out];rfl);have bW:Hid (NmF T NB G∧¬F G):=⟨⟨dh.2.1,dh.2.2⟩,dh.1⟩
                 have gW:=hid (jx.out _ (Aae hv));have zG:G<wq.heap.size:=aac c0;have p1:wq.cell? ⟨PB,1,none⟩=some (.slice (some ⟨G,0,none⟩) fn fc):=by
                  have h:=(aad (cs:=[_,_]) fS.out) 1 _ rfl;rw [Aab] at h;exact a6.cell dH.out h
                 have zP:PB<wq.heap.size:=aac p1;have aQ:=hid ao;have dp:=hid a6;have Hv:=hid hv;have b9:=hid bO;have iZ:=hid eu;clear cL hv bO eu aE af eI aA hz aM dh ao a6;go_upto_region 41 with (fail)
                 obtain⟨VB,bT⟩:∃VB,VB=wq.heap.size:=⟨_,rfl⟩
                 obtain⟨ak,bg⟩:∃ak,ak=wq.alloc (.cells #[.bool vr,.int .i64 vn] 41):=⟨_,rfl⟩
                 have cJ:ak.heap[VB]?=some (.cells #[.bool vr,.int .i64 vn] 41 (0,0)):=by rw [bg,bT];exact heap_alloc_new _ _
                 have ad:Below wq.heap.size wq ak:=by rw [bg];exact bE
                 rw [<-bg,<-bT];have e5:Hid (F VB):=by
                  refine e9.out VB ?_;have:=dp.out.size;have:=j2.out;omega
                 have bF:Hid (PB≠G∧VB≠G):=by show _∧_;exact⟨fun e=>bW.out.2 (e ▸ dH.out),fun e=>bW.out.2 (e ▸ e5.out)⟩
                 have aJ:=hid ((aQ.out.later ad).later (Below.refl ak.heap.size ak).drew);have aW:Hid (Kp F wq ak.drew):=(Kp.of ad).trans (Kp.of (Below.refl ak.heap.size ak).drew);have dc:=(aad (cs:=[_,_]) cJ).get2;rw [Aab] at dc;have aK:Hid (ak.drew.cell? ⟨PB,1,none⟩=some (.slice (some ⟨G,0,none⟩) fn fc)∧ak.drew.cell? ⟨VB,0,none⟩=some (.bool vr)∧ak.drew.cell? ⟨VB,1,none⟩=some (.int .i64 vn)):=⟨aW.out.cell dH.out p1,dc.1,dc.2⟩
                 have aF:Hid ((ak.drew.cell? ⟨G,m * 2,none⟩=some (.bool vr)∧ak.drew.frozen? ⟨G,m * 2,none⟩=false)∧ak.drew.cell? ⟨G,m * 2+1,none⟩=some (.int .i64 vn)∧ak.drew.frozen? ⟨G,m * 2+1,none⟩=false):=⟨⟨aab (w':=ak) c0 ad,(ad.frozen (p:=⟨G,m * 2,none⟩) zG).trans dE⟩,aab (w':=ak) c1 ad,(ad.frozen (p:=⟨G,m * 2+1,none⟩) zG).trans e8⟩
                 have cQ:G<ak.drew.heap.size:=aac aF.out.1.1;have dF:=hid (acg hn ak.drew aJ.out.nm ⟨vr,vn⟩ gW.out);obtain⟨zr,cH⟩:∃zr,zr=(aem s3 ⟨vr,vn⟩).reg:=⟨_,rfl⟩
                 obtain⟨zn,cI⟩:∃zn,zn=(aem s3 ⟨vr,vn⟩).n:=⟨_,rfl⟩
                 rw [<-cH,<-cI] at dF;have ec:Hid ((⟨zr,zn⟩:aay)=aem s3 ⟨vr,vn⟩):=by show (⟨zr,zn⟩:aay)=aem s3 ⟨vr,vn⟩;rw [cH,cI]
                 clear bT bg cJ ad c0 c1 dE e8 zG p1 zP dc cH cI
                 go_region_held3 (fun w' => w'.cell? ⟨PB, 1, none⟩ = some (.slice (some ⟨G, 0, none⟩) fn fc) ∧ w'.cell? ⟨VB, 0, none⟩ = some (.bool vr) ∧ w'.cell? ⟨VB, 1, none⟩ = some (.int .i64 vn))
                  ((first | with_reducible exact c8.out | with_reducible exact aI.out | with_reducible exact aK.out))
                  ((go_at_call 87; (with_reducible refine dF.out.mono ?_); rintro e w8 ⟨rfl, aR, ah⟩
                    have aB := aJ.out.keepN ah
                    have aI : Hid (w8.cell? ⟨PB, 1, none⟩ = some (.slice (some ⟨G, 0, none⟩) fn fc) ∧ w8.cell? ⟨VB, 0, none⟩ = some (.bool vr) ∧ w8.cell? ⟨VB, 1, none⟩ = some (.int .i64 vn)) := ⟨aB.cell dH.out aK.out.1, aB.cell e5.out aK.out.2.1, aB.cell e5.out aK.out.2.2⟩
                    have r1 := ah.cell bW.out.1 aF.out.1.1
                    have rz := ah.frozen bW.out.1 cQ aF.out.1.2
                    have r2 := ah.cell bW.out.1 aF.out.2.1
                    have kM := ah.frozen bW.out.1 cQ aF.out.2.2
                    have c8 : Hid (((w8.setCell ⟨G, m * 2, none⟩ (.bool zr)).setCell ⟨G, m * 2 + 1, none⟩ (.int .i64 zn)).cell? ⟨PB, 1, none⟩ = some (.slice (some ⟨G, 0, none⟩) fn fc) ∧ ((w8.setCell ⟨G, m * 2, none⟩ (.bool zr)).setCell ⟨G, m * 2 + 1, none⟩ (.int .i64 zn)).cell? ⟨VB, 0, none⟩ = some (.bool vr) ∧ ((w8.setCell ⟨G, m * 2, none⟩ (.bool zr)).setCell ⟨G, m * 2 + 1, none⟩ (.int .i64 zn)).cell? ⟨VB, 1, none⟩ = some (.int .i64 vn)) :=
                     ⟨(aam _ bF.out.1 _ _).trans ((aam _ bF.out.1 _ _).trans aI.out.1), (aam _ bF.out.2 _ _).trans ((aam _ bF.out.2 _ _).trans aI.out.2.1), (aam _ bF.out.2 _ _).trans ((aam _ bF.out.2 _ _).trans aI.out.2.2)⟩
                    have cb := hid aR
                    have bo := hid ah
                    have bC := hid aB
                    clear aR ah aB))
                 have ag:=(aJ.out.named cb.out bo.out).setSrc ai.out (i:=i) (m:=m) (g:=G) (pn:=fn) (pc:=fc) iZ.out (by rw [adD (amz cW.out)];show m<(abF _ _ _).length;rw [aiX];exact (Aad.1 Hv.out).1) c9.out ⟨zr,zn⟩;rw [ec.out,b9.out,aqC cW.out Hv.out,<-b9.out,<-ec.out] at ag;have bx:=hid ag;clear ag;go_wp2_with fail;go_roundw
                 case rel=>exact⟨m+1,by omega,by go_num,by rw [afu _ Hv.out,<-b9.out];exact bx.out.1,((dp.out.trans aW.out).trans bC.out).trans bx.out.2⟩
                 case measure=>simp [intOf];omega
               . have cG:fn=m:=by omega
                 subst cG;rw [ju.out.1,ju.out.2,dL.out,asn cW.out,<-dL.out,Aa1] at ao;have aQ:=hid ao;have dp:=hid a6;clear ao a6 hm hmf;go_wp2_with fail;go_roundw
                 case rel=>exact⟨i+1,by omega,by go_num,by rw [abk aiz s1 cW.out,<-dL.out];exact aQ.out,cw.out.trans dp.out⟩
                 case measure=>simp [intOf];omega
              --END
            . have eg:p=i:=by omega
              subst eg;obtain⟨s2,cu⟩:∃s2,s2=x.phis.foldl aiz s1:=⟨_,rfl⟩
              obtain⟨Pl,jb⟩:∃Pl,Pl=acj s1 x.phis x.phis.length:=⟨_,rfl⟩
              rw [aq.out.1,Aa1,<-cu,aqD s1 s2,<-jb] at al;obtain⟨W7,cT⟩:∃W7:World,W7=wp:=⟨_,rfl⟩
              subst cT;have bY:W7.heap[LB]?=some (.cells #[.slice pa p pc,.slice la q lc,.int .i64 ek,.bool er,.int .i64 en,.slice ta tn tc] 46 (0,0)):=(aD.block LB (Aag.1 cY.out).1 bK.out).trans cY.out;obtain⟨l0,l1,l2,l3,l4,l5⟩:=(aad (cs:=[_,_,_,_,_,_]) bY).get6;rw [Aab] at l1 l2 l3 l4 l5;have de:=hid bY;have dL:=hid cu;have mQ:=hid jb;have b8:=hid al;have fy:Hid (Kp F W5 W7):=ep.out.trans aD;have lq:Hid (W3.heap.size<=W7.heap.size):=by show _<=_;have:=fy.out.size;have:=ff.out;omega
              clear cu jb bY al aD hi hip cY hB ep;go_wp2_with fail;clear l0 l1 l2 l3 l4 l5;go_loopw [146] (fun s146 wr=>∃i:Nat,i<=q∧s146 = .int .i64 (i:Int)∧aei wr base T NB n F (au.set k (lsA Pl s2 x i)) V1 ((x.list.take i).foldl acr s2)∧Kp F W7 wr) (fun s146 _=>q - (intOf s146).toNat)
              case atStart=>exact⟨0,Aaj _,rfl,b8.out,Kp.refl _ _⟩
              case round =>
               obtain⟨wp,eW⟩:∃wp:World,wp=wr:=⟨_,rfl⟩
               subst eW;obtain⟨i,hi,rfl,al,aD⟩:=hrel
               by_cases hiq:i<q
               . have a7:i<x.list.length:=by rw [<-aq.out.2.1];exact hiq
                 obtain⟨y,hy⟩:∃y,x.list[i]?=some y:=⟨_,Aaa a7⟩
                 obtain⟨s3,bO⟩:∃s3,s3=(x.list.take i).foldl acr s2:=⟨_,rfl⟩
                 rw [<-bO] at al;have eJ:okP (au.set k (lsA Pl s2 x i)) (.list k):=by show k<_;rw [Aat];exact ai.out
                 have hM:okP (au.set k (lsA Pl s2 x i)) (.args k i):=by show i<_;rw [aau ai.out];show i<(adX s2 x.list i).length;rw [aiW];exact a7
                 obtain⟨fa,fc,du⟩:=aah.shape (p := .args k i) al.rows hM;obtain⟨fn,az⟩:∃fn,fn=y.args.length:=⟨_,rfl⟩
                 obtain⟨op,hop⟩:∃op,op=y.op:=⟨_,rfl⟩
                 obtain⟨d,hd⟩:∃d,d=y.dst:=⟨_,rfl⟩
                 obtain⟨ar,dk⟩:∃ar,ar=y.a.reg:=⟨_,rfl⟩
                 obtain⟨an,dn⟩:∃an,an=y.a.n:=⟨_,rfl⟩
                 obtain⟨br,df⟩:∃br,br=y.b.reg:=⟨_,rfl⟩
                 obtain⟨bn,di⟩:∃bn,bn=y.b.n:=⟨_,rfl⟩
                 obtain⟨yf,fe⟩:∃yf,yf=y.fn:=⟨_,rfl⟩
                 rw [show (aae (au.set k (lsA Pl s2 x i)) V1 (.args k i)).length=fn by simp only [aae];rw [aau ai.out,show (lsA Pl s2 x i).list=adX s2 x.list i from rfl,adD (aij s2 hy),Aah,az]] at du;have af:(aae (au.set k (lsA Pl s2 x i)) V1 (.list k))[i]?=some [.int .i64 op,.int .i64 d,.bool ar,.int .i64 an,.bool br,.int .i64 bn,.int .i64 yf,.slice fa fn fc]:=by
                  simp only [aae];rw [aau ai.out,aai,show (lsA Pl s2 x i).list=adX s2 x.list i from rfl,aij s2 hy,<-du,hop,hd,dk,dn,df,di,fe];rfl
                 obtain⟨Q,nZ,jo,-,-,-,-⟩:=al.rows.addr (p := .list k) eJ (Ab9 (Aaj _) (Aad.1 af).1);rw [dA.out.2] at jo;have mq:la=some ⟨Q,0,none⟩:=by injection jo
                 subst mq;have aA:aal wp Q (i * 8) [.int .i64 op,.int .i64 d,.bool ar,.int .i64 an,.bool br,.int .i64 bn,.int .i64 yf,.slice fa fn fc]:=(al.rows.at (p := .list k) eJ (g:=Q) (n:=q) (c:=lc) dA.out.2 af).1;obtain⟨c0,c1,c2,c3,c4,c5,c6,c7⟩:=aA.get8;have zQ:Q<wp.heap.size:=aac c0;have cy:=dP.out.ins y (Aae hy);have iT:Hid (InV n ⟨ar,an⟩):=by rw [dk,dn];exact cy.1
                 have jr:Hid (InV n ⟨br,bn⟩):=by rw [df,di];exact cy.2.1
                 have gW:=hid cy.2.2.1;have ed:Hid (d<n):=by rw [hd];exact cy.2.2.2
                 have gh:fn<=1048576:=by rw [az];exact fp.out.args y (Aae hy)
                 have b8:=hid al;have cm:=hid aD;have b9:=hid bO;have Hy:=hid hy;have bu:Hid (fn=y.args.length∧d=y.dst∧(⟨ar,an⟩:aay)=y.a∧(⟨br,bn⟩:aay)=y.b∧op=y.op∧yf=y.fn):=⟨az,hd,by rw [dk,dn],by rw [df,di],hop,fe⟩
                 have c9:=hid du;clear a7 hy bO eJ hM du az hop hd dk dn df di fe af jo aA cy al aD;go_upto_region 47 with (fail)
                 obtain⟨IB,eO⟩:∃IB,IB=wp.heap.size:=⟨_,rfl⟩
                 obtain⟨W8,aU⟩:∃W8,W8=wp.alloc (.cells #[.int .i64 op,.int .i64 d,.bool ar,.int .i64 an,.bool br,.int .i64 bn,.int .i64 yf,.slice fa fn fc] 49):=⟨_,rfl⟩
                 have cv:W8.heap[IB]?=some (.cells #[.int .i64 op,.int .i64 d,.bool ar,.int .i64 an,.bool br,.int .i64 bn,.int .i64 yf,.slice fa fn fc] 49 (0,0)):=by rw [aU,eO];exact heap_alloc_new _ _
                 have aY:Below wp.heap.size wp W8:=by rw [aU];exact bE
                 rw [<-aU,<-eO];have aN:Hid (F IB):=by
                  refine e9.out IB ?_;have:=cm.out.size;have:=lq.out;omega
                 have nT:Hid (NmF T NB IB):=⟨fun e=>b8.out.nf.1 (e ▸ aN.out),fun e=>b8.out.nf.2 (e ▸ aN.out)⟩
                 have dr:=hid ((b8.out.later aY).later (Below.refl W8.heap.size W8).drew);have bo:Hid (Kp F wp W8.drew):=(Kp.of aY).trans (Kp.of (Below.refl W8.heap.size W8).drew);have fJ:Hid (W8.drew.heap[IB]?=some (.cells #[.int .i64 op,.int .i64 d,.bool ar,.int .i64 an,.bool br,.int .i64 bn,.int .i64 yf,.slice fa fn fc] 49 (0,0))):=cv;have hA:Hid (wp.heap.size<=IB):=by rw [eO];exact Aac _
                 obtain⟨m0,m1,m2,m3,m4,m5,m6,m7⟩:=(aad (cs:=[_,_,_,_,_,_,_,_]) cv).get8;rw [Aab] at m1 m2 m3 m4 m5 m6 m7;have zI:IB<W8.heap.size:=aac m0;have iJ:=hid (acg hn W8.drew dr.out.nm ⟨ar,an⟩ iT.out);obtain⟨xr,eo⟩:∃xr,xr=(aem s3 ⟨ar,an⟩).reg:=⟨_,rfl⟩
                 obtain⟨xn,jT⟩:∃xn,xn=(aem s3 ⟨ar,an⟩).n:=⟨_,rfl⟩
                 rw [<-eo,<-jT] at iJ;have jK:Hid (∀w,afB w T NB n (ael s3 ⟨ar,an⟩)->_):=fun w h=>acg hn w h ⟨br,bn⟩ jr.out;obtain⟨zr,cH⟩:∃zr,zr=(aem (ael s3 ⟨ar,an⟩) ⟨br,bn⟩).reg:=⟨_,rfl⟩
                 obtain⟨zn,cI⟩:∃zn,zn=(aem (ael s3 ⟨ar,an⟩) ⟨br,bn⟩).n:=⟨_,rfl⟩
                 rw [<-cH,<-cI] at jK;have mU:Hid ((⟨xr,xn⟩:aay)=aem s3 y.a):=by show (⟨xr,xn⟩:aay)=_;rw [eo,jT,bu.out.2.2.1]
                 have ec:Hid ((⟨zr,zn⟩:aay)=aem (ael s3 y.a) y.b):=by show (⟨zr,zn⟩:aay)=_;rw [cH,cI,bu.out.2.2.1,bu.out.2.2.2.1]
                 clear eO aU cv aY c0 c1 c2 c3 c4 c5 c6 c7 zQ eo jT cH cI;go_cut [154] (fun v154 wc=>v154=v154∧aei wc base T NB n F (au.set k (lsA Pl s2 x i)) V1 (ae9 s3 y)∧Kp F wp wc∧wc.heap[IB]?=some (.cells #[.int .i64 op,.int .i64 d,.bool xr,.int .i64 xn,.bool zr,.int .i64 zn,.int .i64 yf,.slice fa fn fc] 49 (0,0)))
                 case first =>
                  --DEV
                  go_region_law
                   ((first
                     | (go_simp; go_at_call 87; (with_reducible refine iJ.out.mono ?_); rintro e w8 ⟨rfl, aR, ah⟩
                        have aB := dr.out.keepN ah
                        have j7 := (aB.block IB (Aag.1 fJ.out).1 aN.out).trans fJ.out
                        obtain ⟨-, -, a2, a3, a4, a5, -, -⟩ := (aad (cs := [_, _, _, _, _, _, _, _]) j7).get8
                        rw [Aab] at a2 a3 a4 a5
                        have nX := aac a2
                        have nr := hid (jK.out w8 aR)
                        have cO := hid (dr.out.named aR ah)
                        have bC := hid aB
                        have lh := hid j7
                        clear aR ah aB j7)
                     | (go_simp; go_at_call 87; (with_reducible refine nr.out.mono ?_); rintro e w9 ⟨rfl, fq, aH⟩
                        have jO := cO.out.keepN aH
                        have eN := (jO.block IB (Aag.1 lh.out).1 aN.out).trans lh.out
                        obtain ⟨-, -, b2, b3, b4, b5, -, -⟩ := (aad (cs := [_, _, _, _, _, _, _, _]) eN).get8
                        rw [Aab] at b2 b3 b4 b5
                        have y2 := aaq eN 2
                        have y3 := aaq eN 3
                        have y4 := aaq eN 4
                        have y5 := aaq eN 5
                        have nQ := aac b2
                        have cC := hid (cO.out.named fq aH)
                        have mX := hid jO
                        have nB := hid eN
                        clear fq aH jO eN)))
                  all_goals
                   have dN:=aak (i:=5) (aak (i:=4) (aak (i:=3) (aak (i:=2) nB.out (.bool xr)) (.int .i64 xn)) (.bool zr)) (.int .i64 zn);have lE:Kp (fun b=>b≠IB) w9 ((((w9.setCell ⟨IB,2,none⟩ (.bool xr)).setCell ⟨IB,3,none⟩ (.int .i64 xn)).setCell ⟨IB,4,none⟩ (.bool zr)).setCell ⟨IB,5,none⟩ (.int .i64 zn)):=aaD (aaD (aaD (aaQ _ _ _ _) _ _) _ _) _ _;have eb:=cC.out.other lE aN.out;rw [bu.out.2.2.1,bu.out.2.2.2.1] at eb;have kN:Kp F wp ((((w9.setCell ⟨IB,2,none⟩ (.bool xr)).setCell ⟨IB,3,none⟩ (.int .i64 xn)).setCell ⟨IB,4,none⟩ (.bool zr)).setCell ⟨IB,5,none⟩ (.int .i64 zn)) :=
                    ((((bo.out.trans (bC.out.trans mX.out)).setNew (a:=⟨IB,2,none⟩) hA.out _).setNew (a:=⟨IB,3,none⟩) hA.out _).setNew (a:=⟨IB,4,none⟩) hA.out _).setNew (a:=⟨IB,5,none⟩) hA.out _
                   have eZ:=hid (And.intro eb (And.intro kN dN));clear dN lE eb kN a2 a3 a4 a5 b2 b3 b4 b5 y2 y3 y4 y5;go_wp2_with fail;go_meet;exact⟨trivial,eZ.out⟩
                  --END
                 case rest =>
                  obtain⟨-,kk,j5,dO⟩:=hcut;obtain⟨gp,iY⟩:∃gp:World,gp=wc:=⟨_,rfl⟩
                  subst iY;obtain⟨s4,jd⟩:∃s4,s4=ae9 s3 y:=⟨_,rfl⟩
                  rw [<-jd,aqE Pl s4 Hy.out] at kk;have nD:=hid kk;have mM:=hid j5;have ks:=hid dO;have fR:=hid jd;have l7:=(aad (cs:=[_,_,_,_,_,_,_,_]) dO) 7 _ rfl;rw [Aab] at l7;have nV:IB<gp.heap.size:=aac l7;have mF:Hid (W3.heap.size<=gp.heap.size):=by show _<=_;have:=cm.out.size;have:=j5.size;have:=lq.out;omega
                  clear kk j5 dO jd m0 m1 m2 m3 m4 m5 m6 m7 zI iJ jK dr bo fJ;go_wp2_with fail;clear l7;go_loopw [164] (fun s164 wr=>∃m:Nat,m<=fn∧s164 = .int .i64 (m:Int)∧aei wr base T NB n F (au.set k (lsB Pl s2 s4 x i y m)) V1 (aba s4 (y.args.take m))∧Kp F gp wr) (fun s164 _=>fn - (intOf s164).toNat)
                  case atStart=>exact⟨0,Aaj _,rfl,nD.out,Kp.refl _ _⟩
                  case round =>
                   obtain⟨wq,gl⟩:∃wq:World,wq=wr:=⟨_,rfl⟩
                   subst gl;obtain⟨m,hm,rfl,ao,a6⟩:=hrel
                   by_cases hmf:m<fn
                   . skip
                     --DEV
                     have cL:m<y.args.length:=by rw [<-bu.out.1];exact hmf
                     obtain⟨v,hv⟩:∃v,y.args[m]?=some v:=⟨_,Aaa cL⟩
                     obtain⟨s5,kB⟩:∃s5,s5=aba s4 (y.args.take m):=⟨_,rfl⟩
                     rw [<-kB] at ao;have eu:i<(lsB Pl s2 s4 x i y m).list.length:=(Aad.1 (ahK Hy.out)).1;have aE:okP (au.set k (lsB Pl s2 s4 x i y m)) (.args k i):=by show i<_;rw [aau ai.out];exact eu
                     have af:(aae (au.set k (lsB Pl s2 s4 x i y m)) V1 (.args k i))[m]?=some [.bool v.reg,.int .i64 v.n]:=by
                      simp only [aae];rw [aau ai.out,adD (ahK Hy.out),Aak,ak7 _ hv];rfl
                     obtain⟨G,gc,eI,-,-,-,-⟩:=ao.rows.addr (p := .args k i) aE (Ab9 (Aaj _) (Aad.1 af).1);rw [c9.out] at eI;have jL:fa=some ⟨G,0,none⟩:=by injection eI
                     subst jL;obtain⟨aA,hz⟩:=ao.rows.at (p := .args k i) aE (g:=G) (n:=fn) (c:=fc) c9.out af;obtain⟨vr,vn⟩:=v;have aM:aal wq G (m * 2) [.bool vr,.int .i64 vn]:=aA;obtain⟨c0,c1⟩:=aM.get2;have dE:=hz (m * 2);have e8:=hz (m * 2+1);have dh:=ao.off (.args k i) aE G (by rw [c9.out];rfl);have bW:Hid (NmF T NB G∧¬F G):=⟨⟨dh.2.1,dh.2.2⟩,dh.1⟩
                     have jg:=hid (gW.out _ (Aae hv));have zG:G<wq.heap.size:=aac c0;have p1:wq.cell? ⟨IB,7,none⟩=some (.slice (some ⟨G,0,none⟩) fn fc):=by
                      have h:=(aad (cs:=[_,_,_,_,_,_,_,_]) ks.out) 7 _ rfl;rw [Aab] at h;exact a6.cell aN.out h
                     have zP:IB<wq.heap.size:=aac p1;have aQ:=hid ao;have dp:=hid a6;have Hv:=hid hv;have ki:=hid kB;have iZ:=hid eu;clear cL hv kB eu aE af eI aA hz aM dh ao a6;go_upto_region 51 with (fail)
                     obtain⟨VB,bT⟩:∃VB,VB=wq.heap.size:=⟨_,rfl⟩
                     obtain⟨ak,bg⟩:∃ak,ak=wq.alloc (.cells #[.bool vr,.int .i64 vn] 41):=⟨_,rfl⟩
                     have cJ:ak.heap[VB]?=some (.cells #[.bool vr,.int .i64 vn] 41 (0,0)):=by rw [bg,bT];exact heap_alloc_new _ _
                     have ad:Below wq.heap.size wq ak:=by rw [bg];exact bE
                     rw [<-bg,<-bT];have e5:Hid (F VB):=by
                      refine e9.out VB ?_;have:=dp.out.size;have:=mF.out;omega
                     have bF:Hid (IB≠G∧VB≠G):=by show _∧_;exact⟨fun e=>bW.out.2 (e ▸ aN.out),fun e=>bW.out.2 (e ▸ e5.out)⟩
                     have aJ:=hid ((aQ.out.later ad).later (Below.refl ak.heap.size ak).drew);have aW:Hid (Kp F wq ak.drew):=(Kp.of ad).trans (Kp.of (Below.refl ak.heap.size ak).drew);have dc:=(aad (cs:=[_,_]) cJ).get2;rw [Aab] at dc;have aK:Hid (ak.drew.cell? ⟨IB,7,none⟩=some (.slice (some ⟨G,0,none⟩) fn fc)∧ak.drew.cell? ⟨VB,0,none⟩=some (.bool vr)∧ak.drew.cell? ⟨VB,1,none⟩=some (.int .i64 vn)):=⟨aW.out.cell aN.out p1,dc.1,dc.2⟩
                     have aF:Hid ((ak.drew.cell? ⟨G,m * 2,none⟩=some (.bool vr)∧ak.drew.frozen? ⟨G,m * 2,none⟩=false)∧ak.drew.cell? ⟨G,m * 2+1,none⟩=some (.int .i64 vn)∧ak.drew.frozen? ⟨G,m * 2+1,none⟩=false):=⟨⟨aab (w':=ak) c0 ad,(ad.frozen (p:=⟨G,m * 2,none⟩) zG).trans dE⟩,aab (w':=ak) c1 ad,(ad.frozen (p:=⟨G,m * 2+1,none⟩) zG).trans e8⟩
                     have cQ:G<ak.drew.heap.size:=aac aF.out.1.1;have dF:=hid (acg hn ak.drew aJ.out.nm ⟨vr,vn⟩ jg.out);obtain⟨dR,dV⟩:∃dR,dR=(aem s5 ⟨vr,vn⟩).reg:=⟨_,rfl⟩
                     obtain⟨dM,ew⟩:∃dM,dM=(aem s5 ⟨vr,vn⟩).n:=⟨_,rfl⟩
                     rw [<-dV,<-ew] at dF;have hC:Hid ((⟨dR,dM⟩:aay)=aem s5 ⟨vr,vn⟩):=by show (⟨dR,dM⟩:aay)=aem s5 ⟨vr,vn⟩;rw [dV,ew]
                     clear bT bg cJ ad c0 c1 dE e8 zG p1 zP dc dV ew
                     go_region_held3 (fun w' => w'.cell? ⟨IB, 7, none⟩ = some (.slice (some ⟨G, 0, none⟩) fn fc) ∧ w'.cell? ⟨VB, 0, none⟩ = some (.bool vr) ∧ w'.cell? ⟨VB, 1, none⟩ = some (.int .i64 vn))
                      ((first | with_reducible exact c8.out | with_reducible exact aI.out | with_reducible exact aK.out))
                      ((go_at_call 87; (with_reducible refine dF.out.mono ?_); rintro e w8 ⟨rfl, aR, ah⟩
                        have aB := aJ.out.keepN ah
                        have aI : Hid (w8.cell? ⟨IB, 7, none⟩ = some (.slice (some ⟨G, 0, none⟩) fn fc) ∧ w8.cell? ⟨VB, 0, none⟩ = some (.bool vr) ∧ w8.cell? ⟨VB, 1, none⟩ = some (.int .i64 vn)) := ⟨aB.cell aN.out aK.out.1, aB.cell e5.out aK.out.2.1, aB.cell e5.out aK.out.2.2⟩
                        have r1 := ah.cell bW.out.1 aF.out.1.1
                        have rz := ah.frozen bW.out.1 cQ aF.out.1.2
                        have r2 := ah.cell bW.out.1 aF.out.2.1
                        have kM := ah.frozen bW.out.1 cQ aF.out.2.2
                        have c8 : Hid (((w8.setCell ⟨G, m * 2, none⟩ (.bool dR)).setCell ⟨G, m * 2 + 1, none⟩ (.int .i64 dM)).cell? ⟨IB, 7, none⟩ = some (.slice (some ⟨G, 0, none⟩) fn fc) ∧ ((w8.setCell ⟨G, m * 2, none⟩ (.bool dR)).setCell ⟨G, m * 2 + 1, none⟩ (.int .i64 dM)).cell? ⟨VB, 0, none⟩ = some (.bool vr) ∧ ((w8.setCell ⟨G, m * 2, none⟩ (.bool dR)).setCell ⟨G, m * 2 + 1, none⟩ (.int .i64 dM)).cell? ⟨VB, 1, none⟩ = some (.int .i64 vn)) :=
                         ⟨(aam _ bF.out.1 _ _).trans ((aam _ bF.out.1 _ _).trans aI.out.1), (aam _ bF.out.2 _ _).trans ((aam _ bF.out.2 _ _).trans aI.out.2.1), (aam _ bF.out.2 _ _).trans ((aam _ bF.out.2 _ _).trans aI.out.2.2)⟩
                        have cb := hid aR
                        have bo := hid ah
                        have bC := hid aB
                        clear aR ah aB))
                     have ag:=(aJ.out.named cb.out bo.out).setArg ai.out (i:=i) (m:=m) (g:=G) (pn:=fn) (pc:=fc) iZ.out (by rw [adD (ahK Hy.out)];show m<(abF _ _ _).length;rw [aiX];exact (Aad.1 Hv.out).1) c9.out ⟨dR,dM⟩;rw [hC.out,ki.out,aqF Hy.out Hv.out,<-ki.out,<-hC.out] at ag;have bx:=hid ag;clear ag;go_wp2_with fail;go_roundw
                     case rel=>exact⟨m+1,by omega,by go_num,by rw [afu _ Hv.out,<-ki.out];exact bx.out.1,((dp.out.trans aW.out).trans bC.out).trans bx.out.2⟩
                     case measure=>simp [intOf];omega
                     --END
                   . have cG:fn=m:=by omega
                     subst cG;rw [bu.out.1,Aa1] at ao;have dO:=(a6.block IB (Aag.1 ks.out).1 aN.out).trans ks.out;have ds:Hid (Kp F wp wq):=mM.out.trans a6;have fv:=hid dO;have aQ:=hid ao;obtain⟨m0,m1,m2,m3,m4,m5,m6,m7⟩:=(aad (cs:=[_,_,_,_,_,_,_,_]) dO).get8;rw [Aab] at m1 m2 m3 m4 m5 m6 m7;have zI:IB<wq.heap.size:=aac m0;have y1:=aaq dO 1
                     -- the instruction is stored
                     have cS : Hid (∀ W' d', aei W' base T NB n F (au.set k (lsB Pl s2 s4 x i y y.args.length)) V1 (aie (aba s4 y.args) d) -> d' = atW (aba s4 y.args) d ->
                      ∀ hP, hP = ((((((((W'.setCell ⟨Q, i * 8, none⟩ (.int .i64 op)).setCell ⟨Q, i * 8 + 1, none⟩ (.int .i64 d')).setCell ⟨Q, i * 8 + 2, none⟩ (.bool xr)).setCell ⟨Q, i * 8 + 3, none⟩ (.int .i64 xn)).setCell ⟨Q, i * 8 + 4, none⟩ (.bool zr)).setCell ⟨Q, i * 8 + 5, none⟩ (.int .i64 zn)).setCell ⟨Q, i * 8 + 6, none⟩ (.int .i64 yf)).setCell ⟨Q, i * 8 + 7, none⟩ (.slice fa fn fc)) ->
                      aei hP base T NB n F (au.set k (lsA Pl s2 x (i + 1))) V1 ((x.list.take (i + 1)).foldl acr s2) ∧ Kp F W' hP) := fun W' d' h gR hP kf => by
                      have ag:=h.setIns ai.out (i:=i) (g:=Q) (pn:=q) (pc:=lc) (Aad.1 (ahK Hy.out)).1 dA.out.2 ⟨op,d',⟨xr,xn⟩,⟨zr,zn⟩,yf,[]⟩ c9.out.symm;rw [kf,abk acr s2 Hy.out,<-b9.out];unfold acr;rw [show ael (ael s3 y.a) y.b=s4 from fR.out.symm,<-bu.out.2.1]
                      rw [fR.out, b9.out, aso Hy.out ⟨op, d', ⟨xr, xn⟩, ⟨zr, zn⟩, yf, []⟩ (by
                       rw [<- b9.out, <- fR.out]
                       unfold arl
                       rw [show ae9 s3 y = s4 from fR.out.symm, gR, mU.out, ec.out, bu.out.2.2.2.2.1, bu.out.2.2.2.2.2, bu.out.2.1]), <- b9.out, <- fR.out] at ag
                      exact ag
                     have fD:=aQ.out.off (.list k) (by show k<_;rw [Aat];exact ai.out) Q (by rw [dA.out.2];rfl);have h8:Hid (NmF T NB Q∧¬F Q∧Q≠IB):=⟨⟨fD.2.1,fD.2.2⟩,fD.1,fun e=>fD.1 (e ▸ aN.out)⟩
                     have lS:(aae (au.set k (lsB Pl s2 s4 x i y y.args.length)) V1 (.list k))[i]?=some (abN { y with args:=abF s4 y.args y.args.length } (V1 (.args k i))):=by
                      simp only [aae];rw [aau ai.out,aai,ahK Hy.out];rfl
                     obtain⟨kc,lz⟩:=aQ.out.rows.at (p := .list k) (by show k<_;rw [Aat];exact ai.out) (g:=Q) (n:=q) (c:=lc) dA.out.2 lS;have kT:Hid (aal wq Q (i * 8) (abN { y with args:=abF s4 y.args y.args.length } (V1 (.args k i)))∧∀o,wq.frozen? ⟨Q,o,none⟩=false):=⟨kc,lz⟩
                     have k5:Q<wq.heap.size:=aac (kc 0 _ rfl)
                     -- region 55,wherever the destination is settled
                     have jY:Hid (∀W',Kp (NmF T NB) wq W'->aal W' Q (i * 8) (abN { y with args:=abF s4 y.args y.args.length } (V1 (.args k i)))∧∀o,W'.frozen? ⟨Q,o,none⟩=false):=fun W' h =>
                      ⟨fun j u hj=>h.cell h8.out.1 (kT.out.1 j u hj),fun o=>h.frozen h8.out.1 k5 (kT.out.2 o)⟩
                     clear ao a6 hmf hm dO fD lS kc lz
                     by_cases hd0:0<=d
                     . have bD:Hid (0<=d∧d<n):=⟨hd0,ed.out⟩
                       have ca:=hid (ac8 hn wq aQ.out.nm d bD.out);obtain⟨d',gR⟩:∃d',d'=nmR (aba s4 y.args) d:=⟨_,rfl⟩
                       rw [<-gR] at ca;have nt:=hid gR;clear gR m0 m2 m3 m4 m5 m6 m7;go_upto_region 55 with (go_at_call 86;refine ca.out.mono ?_;rintro e w8 ⟨rfl,aR,ah⟩;have cb:=hid aR;have bo:=hid ah;have bC:=hid (aQ.out.keepN ah);have m1:=bC.out.cell aN.out m1;have y1:=bC.out.frozen aN.out zI y1;have zI:=aac m1;clear aR ah)
                       obtain⟨bj,aZ⟩:∃bj,bj=w8.setCell ⟨IB,1,none⟩ (.int .i64 d'):=⟨_,rfl⟩
                       have dU:=aak (i:=1) ((bC.out.block IB (Aag.1 fv.out).1 aN.out).trans fv.out) (.int .i64 d');rw [<-aZ] at dU ⊢;have dS:bj.heap[IB]?=some (.cells #[.int .i64 op,.int .i64 d',.bool xr,.int .i64 xn,.bool zr,.int .i64 zn,.int .i64 yf,.slice fa fn fc] 49 (0,0)):=dU;obtain⟨n0,n1,n2,n3,n4,n5,n6,n7⟩:=(aad (cs:=[_,_,_,_,_,_,_,_]) dS).get8;rw [Aab] at n1 n2 n3 n4 n5 n6 n7;have bp:Kp (fun b=>b≠IB) w8 bj:=by rw [aZ];exact aaQ _ _ _ _
                       have gY:=hid ((aQ.out.named cb.out bo.out).other bp aN.out);have ir:=jY.out w8 bo.out;have lD:aal bj Q (i * 8) (abN { y with args:=abF s4 y.args y.args.length } (V1 (.args k i))):=fun j u hj=>bp.cell h8.out.2.2 (ir.1 j u hj);have kK:Q<w8.heap.size:=aac (ir.1 0 _ rfl);have aV:∀o,bj.frozen? ⟨Q,o,none⟩=false:=fun o=>bp.frozen h8.out.2.2 kK (ir.2 o);obtain⟨g0,g1,g2,g3,g4,g5,g6,g7⟩:=lD.get8;have f0:=aV (i * 8);have f1:=aV (i * 8+1);have f2:=aV (i * 8+2);have f3:=aV (i * 8+3);have f4:=aV (i * 8+4);have f5:=aV (i * 8+5);have f6:=aV (i * 8+6);have f7:=aV (i * 8+7);have mx:IB<bj.heap.size:=aac n0;have kt:Q<bj.heap.size:=aac g0;have hD:Hid (Kp F W7 bj):=cm.out.trans (by rw [aZ];exact (ds.out.trans bC.out).setNew (a:=⟨IB,1,none⟩) hA.out _);have l1:bj.cell? ⟨LB,1,none⟩=some (.slice (some ⟨Q,0,none⟩) q lc):=by
                        have h:=(aad (cs:=[_,_,_,_,_,_]) de.out) 1 _ rfl;rw [Aab] at h;exact hD.out.cell bK.out h
                       have iN:LB<bj.heap.size:=aac l1;have fX:=hid (cS.out bj d' (by have h:=gY.out;rw [show nmS (aba s4 y.args) d=aie (aba s4 y.args) d from (if_pos bD.out.1).symm] at h;exact h) (by rw [nt.out];exact (if_pos bD.out.1).symm) _ rfl);clear aZ dU dS bp ir lD aV m1 y1 zI kK;go_wp2_with fail;go_roundw
                       case rel=>exact⟨i+1,by omega,by go_num,fX.out.1,hD.out.trans fX.out.2⟩
                       case measure=>simp [intOf];omega
                     . obtain⟨g0,g1,g2,g3,g4,g5,g6,g7⟩:=(jY.out wq (Kp.refl _ _)).1.get8
                       have aV:=(jY.out wq (Kp.refl _ _)).2;have f0:=aV (i * 8);have f1:=aV (i * 8+1);have f2:=aV (i * 8+2);have f3:=aV (i * 8+3);have f4:=aV (i * 8+4);have f5:=aV (i * 8+5);have f6:=aV (i * 8+6);have f7:=aV (i * 8+7);have kt:Q<wq.heap.size:=k5;have hD:Hid (Kp F W7 wq):=cm.out.trans ds.out;have l1:wq.cell? ⟨LB,1,none⟩=some (.slice (some ⟨Q,0,none⟩) q lc):=by
                        have h:=(aad (cs:=[_,_,_,_,_,_]) de.out) 1 _ rfl;rw [Aab] at h;exact hD.out.cell bK.out h
                       have iN:LB<wq.heap.size:=aac l1;have fX:=hid (cS.out wq d (by have h:=aQ.out;rw [show aba s4 y.args=aie (aba s4 y.args) d from (if_neg hd0).symm] at h;exact h) (if_neg hd0).symm _ rfl);clear aV y1;go_wp2_with fail;go_roundw
                       case rel=>exact⟨i+1,by omega,by go_num,fX.out.1,hD.out.trans fX.out.2⟩
                       case measure=>simp [intOf];omega
               . have dY:q=i:=by omega
                 subst dY
                 --DEV
                 rw [aq.out.2.1,Aa1] at al;obtain⟨s3,bO⟩:∃s3,s3=x.list.foldl acr s2:=⟨_,rfl⟩
                 rw [<-bO] at al;have fF:s3=arn s1 x:=by rw [bO,dL.out];rfl
                 have eL:okP (au.set k (lsA Pl s2 x x.list.length)) .blks:=trivial;have af:(aae (au.set k (lsA Pl s2 x x.list.length)) V1 .blks)[k]?=some (abd (lsA Pl s2 x x.list.length) (V1 (.phis k)) (V1 (.list k)) (V1 (.to k))):=by
                  simp only [aae];rw [aai,Aa6 ai.out];rfl
                 obtain⟨aA,hz⟩:=al.rows.at (p := .blks) eL (g:=R) (n:=l) (c:=rc) bX.out af;obtain⟨c0,c1,c2,c3,c4,c5⟩:=aA.get6;have jG:=hz (k * 6+3);have jm:=hz (k * 6+4);have ij:=al.off .blks eL R (by rw [bX.out];rfl);have fk:Hid (NmF T NB R∧¬F R):=⟨⟨ij.2.1,ij.2.2⟩,ij.1⟩
                 have fi:Hid (UB≠R∧LB≠R):=⟨fun e=>fk.out.2 (e ▸ cZ.out.1),fun e=>fk.out.2 (e ▸ bK.out)⟩
                 have kA:Hid (InV n ⟨er,en⟩):=by rw [show (⟨er,en⟩:aay)=x.fin.on by rw [aq.out.2.2.1,aq.out.2.2.2]];exact dP.out.on
                 have fC:Hid ((⟨er,en⟩:aay)=x.fin.on):=by show (⟨er,en⟩:aay)=_;rw [aq.out.2.2.1,aq.out.2.2.2]
                 have jE:Hid (Kp F W7 wp.drew):=aD.trans (Kp.of (Below.refl wp.heap.size wp).drew);have fY:Hid (Kp F W5 wp.drew):=fy.out.trans jE.out;have dZ:=hid (al.later (Below.refl wp.heap.size wp).drew);have aK:Hid (wp.drew.cell? ⟨UB,3,none⟩=some (.slice (some ⟨R,0,none⟩) l rc)∧wp.drew.cell? ⟨LB,3,none⟩=some (.bool er)∧wp.drew.cell? ⟨LB,4,none⟩=some (.int .i64 en)):=by
                  have h1:=(aad (cs:=[_,_,_,_]) bt.out) 3 _ rfl;have h2:=(aad (cs:=[_,_,_,_,_,_]) de.out) 3 _ rfl;have h3:=(aad (cs:=[_,_,_,_,_,_]) de.out) 4 _ rfl;rw [Aab] at h1 h2 h3;exact⟨fY.out.cell cZ.out.1 h1,jE.out.cell bK.out h2,jE.out.cell bK.out h3⟩
                 have zR:R<wp.drew.heap.size:=aac (w:=wp) c3;have aF:Hid ((wp.drew.cell? ⟨R,k * 6+3,none⟩=some (.bool (lsA Pl s2 x x.list.length).fin.on.reg)∧wp.drew.frozen? ⟨R,k * 6+3,none⟩=false)∧wp.drew.cell? ⟨R,k * 6+4,none⟩=some (.int .i64 (lsA Pl s2 x x.list.length).fin.on.n)∧wp.drew.frozen? ⟨R,k * 6+4,none⟩=false):=⟨⟨c3,jG⟩,c4,jm⟩
                 have dF:=hid (acg hn wp.drew dZ.out.nm ⟨er,en⟩ kA.out);obtain⟨zr,cH⟩:∃zr,zr=(aem s3 ⟨er,en⟩).reg:=⟨_,rfl⟩
                 obtain⟨zn,cI⟩:∃zn,zn=(aem s3 ⟨er,en⟩).n:=⟨_,rfl⟩
                 rw [<-cH,<-cI] at dF;have ec:Hid ((⟨zr,zn⟩:aay)=aem s3 x.fin.on):=by show (⟨zr,zn⟩:aay)=_;rw [cH,cI,fC.out]
                 have b9:=hid fF;clear bO fF eL af aA hz c0 c1 c2 c3 c4 c5 jG jm ij al aD hi hiq cH cI;go_upto_region 57 with (fail)
                 go_region_held3 (fun w' => w'.cell? ⟨UB, 3, none⟩ = some (.slice (some ⟨R, 0, none⟩) l rc) ∧ w'.cell? ⟨LB, 3, none⟩ = some (.bool er) ∧ w'.cell? ⟨LB, 4, none⟩ = some (.int .i64 en))
                  ((first | with_reducible exact c8.out | with_reducible exact aI.out | with_reducible exact aK.out))
                  ((go_at_call 87; (with_reducible refine dF.out.mono ?_); rintro e w8 ⟨rfl, aR, ah⟩
                    have aB := dZ.out.keepN ah
                    have aI : Hid (w8.cell? ⟨UB, 3, none⟩ = some (.slice (some ⟨R, 0, none⟩) l rc) ∧ w8.cell? ⟨LB, 3, none⟩ = some (.bool er) ∧ w8.cell? ⟨LB, 4, none⟩ = some (.int .i64 en)) := ⟨aB.cell cZ.out.1 aK.out.1, aB.cell bK.out aK.out.2.1, aB.cell bK.out aK.out.2.2⟩
                    have r1 := ah.cell fk.out.1 aF.out.1.1
                    have rz := ah.frozen fk.out.1 zR aF.out.1.2
                    have r2 := ah.cell fk.out.1 aF.out.2.1
                    have kM := ah.frozen fk.out.1 zR aF.out.2.2
                    have c8 : Hid (((w8.setCell ⟨R, k * 6 + 3, none⟩ (.bool zr)).setCell ⟨R, k * 6 + 4, none⟩ (.int .i64 zn)).cell? ⟨UB, 3, none⟩ = some (.slice (some ⟨R, 0, none⟩) l rc) ∧ ((w8.setCell ⟨R, k * 6 + 3, none⟩ (.bool zr)).setCell ⟨R, k * 6 + 4, none⟩ (.int .i64 zn)).cell? ⟨LB, 3, none⟩ = some (.bool er) ∧ ((w8.setCell ⟨R, k * 6 + 3, none⟩ (.bool zr)).setCell ⟨R, k * 6 + 4, none⟩ (.int .i64 zn)).cell? ⟨LB, 4, none⟩ = some (.int .i64 en)) :=
                     ⟨(aam _ fi.out.1 _ _).trans ((aam _ fi.out.1 _ _).trans aI.out.1), (aam _ fi.out.2 _ _).trans ((aam _ fi.out.2 _ _).trans aI.out.2.1), (aam _ fi.out.2 _ _).trans ((aam _ fi.out.2 _ _).trans aI.out.2.2)⟩
                    have cb := hid aR
                    have bo := hid ah
                    have bC := hid aB
                    clear aR ah aB))
                 have ag:=(dZ.out.named cb.out bo.out).setOn ai.out (g:=R) (pn:=l) (pc:=rc) bX.out ⟨zr,zn⟩;rw [ec.out,b9.out,mQ.out,dL.out,aqG,fC.out,show ael (arn s1 x) x.fin.on=aiA s1 x from rfl,hY.out,jS.out,anU sA Hx.out,<-abk aiA sA Hx.out] at ag;rw [show aem (arn (List.foldl aiA sA (List.take k bk)) x) x.fin.on=⟨zr,zn⟩ by rw [<-hY.out,<-b9.out];exact ec.out.symm] at ag;have bx:=hid ag;clear ag;go_wp2_with fail;go_roundw
                 case rel=>exact⟨k+1,by omega,by go_num,bx.out.1,(fY.out.trans bC.out).trans bx.out.2⟩
                 case measure=>simp [intOf];omega
                 --END
         . have iL:l=k:=by omega
           subst iL;obtain⟨sF,j8⟩:∃sF,sF=bk.foldl aiA sA:=⟨_,rfl⟩
           rw [ajf aiA sA Hl.out,<-j8] at bh;obtain⟨mn,cq⟩:∃mn,mn=sF.many:=⟨_,rfl⟩
           have hJ:mn=afb pn n bk:=by rw [cq,j8,lQ.out];rfl
           have iD:afa sA bk l=adh pn n bk:=by rw [lQ.out,Hl.out];rfl
           rw [iD] at bh;have bf:=bh.nm.box;rw [<-cq] at bf;have n1:=(aad (cs:=[_,_]) bf) 1 _ rfl;rw [Aab] at n1;have zN:NB<wo.heap.size:=aac n1;have b6:=(aj.block UB (Aag.1 bt.out).1 cZ.out.1).trans bt.out;have bJ:=(aj.block UO (Aag.1 gF.out).1 cZ.out.2).trans gF.out;obtain⟨c0,c1,c2,c3⟩:=(aad (cs:=[_,_,_,_]) b6).get4;obtain⟨o0,o1,o2,o3⟩:=(aad (cs:=[_,_,_,_]) bJ).get4;rw [Aab] at c1 c2 c3 o1 o2 o3;have f2:=aaq b6 2;have z0:=aaq bJ 0;have z1:=aaq bJ 1;have z2:=aaq bJ 2;have z3:=aaq bJ 3;have cV:¬UO=UB:=by have:=ae.out;omega
           have gB:aal (wo.setCell ⟨UB,2,none⟩ (.int .i64 mn)) UO 0 [.string ⟨#[]⟩,.int .i64 0,.int .i64 0,.slice none 0 0]:=fun j v hj=>by
            rw [aam _ cV];exact aad bJ j v hj
           have jf:=hid gB;have cO:=hid bh;have ei:=hid aj;have jt:=hid hJ;have nO:Hid (l=(adh pn n bk).length):=by show l=_;rw [Hl.out];unfold adh;rw [aji]
           clear j8 cq hJ iD bf b6 bJ bh aj gB;go_wp2_with fail;have bw:=asW (u0 := .string nm) (u1 := .int .i64 (pn:Int)) (u2 := .int .i64 mn) (u3 := .slice ra l rc) jf.out;refine bodyPost_ret (adP rfl rfl bw) rfl ?_;have kJ:=ae.out;have dQ:=fb.out;have nU:=HB.out;have e7:∀b,F b->∀q,okP (adh pn n bk) q->(V1 q).ownBlock≠some b:=fun b hb q hq e=>(cO.out.off q hq b e).1 hb;refine⟨V1,?_,(((((cO.out.rows.setOff (o:=2) (e7 UB cZ.out.1) (.int .i64 mn)).setOff (o:=0) (e7 UO cZ.out.2) (.string nm)).setOff (o:=1) (e7 UO cZ.out.2) (.int .i64 (pn:Int))).setOff (o:=2) (e7 UO cZ.out.2) (.int .i64 mn)).setOff (o:=3) (e7 UO cZ.out.2) (.slice ra l rc)),?_,?_⟩
           . show _=Ending.returned (.agg #[.string nm,.int .i64 (pn:Int),.int .i64 (afb pn n bk),V1 .blks])
             rw [<-jt.out,bX.out]
           . have nc:Below base W9 wo:=by
              refine ((dy.out.mono (by omega)).trans (dK.out.below fun b hb=>⟨by omega,bz.out b (by omega)⟩)).trans (ei.out.below fun b hb=>⟨by have:=ff.out;omega,?_⟩);rw [HF.out];exact⟨by omega,by omega,fun q hq e=>by have:=(aah.lt av.out hq b e).1;omega⟩
             have hb:=lu.out.trans nc;have h1:base<=UB:=by omega
             have h2:base<=UO:=by omega
             exact ((((hb.setCell (p:=⟨UB,2,none⟩) h1 _).setCell (p:=⟨UO,0,none⟩) h2 _).setCell (p:=⟨UO,1,none⟩) h2 _).setCell (p:=⟨UO,2,none⟩) h2 _).setCell (p:=⟨UO,3,none⟩) h2 _
           . intro b hb
             have cc:=(HS.out b hb).1;have h1:b≠UB:=by omega
             have h2:b≠UO:=by omega
             have lx:F b:=iI.out b (by omega) (.inl hb);refine⟨?_,e7 b lx⟩;refine (((((Kp.refl (fun b=>b≠UB∧b≠UO) wo).set (a:=⟨UB,2,none⟩) (fun h=>h.1 rfl) _).set (a:=⟨UO,0,none⟩) (fun h=>h.2 rfl) _).set (a:=⟨UO,1,none⟩) (fun h=>h.2 rfl) _).set (a:=⟨UO,2,none⟩) (fun h=>h.2 rfl) _ |>.set (a:=⟨UO,3,none⟩) (fun h=>h.2 rfl) _).block b ?_ ⟨h1,h2⟩ |>.trans ?_
             . have:=ei.out.size;have:=ff.out;omega
             . exact (ei.out.block b (by have:=ff.out;omega) lx).trans ((dK.out.block b (by omega) (bz.out b (by omega))).trans ((dy.out.block b (by omega)).trans (nb.out b hb)))
end
section
open Go.RowKit
theorem aqs {S : Nat -> Prop} (nm : ByteArray) (pn n : Nat) (bs : List DBlock) (V : Pth -> Value) (base : Nat) (w : World) (hf : abJ w base bs V) (aL : base <= w.heap.size) (gf : aen n bs)
 (hn:n<=1048576) (fj:pn<=n) (hS:∀b,S b->b<w.heap.size∧∀q,okP bs q->(V q).ownBlock≠some b) :
 Calls Tryz.prog 22 #[.agg #[.string nm,.int .i64 (pn:Int),.int .i64 (n:Int),V .blks]] w fun e w' =>
  ∃V',e = .returned (.agg #[.string nm,.int .i64 (pn:Int),.int .i64 (doN pn n bs),V' .blks])∧abJ w' base (doB pn n bs) V'∧Below base w w'∧asZ S w w' (doB pn n bs) V':=by
 obtain⟨ba,bc,dj⟩:=aah.shape (p := .blks) hf trivial;obtain⟨m,hm⟩:∃m,m=bs.length:=⟨_,rfl⟩
 rw [show (aae bs V .blks).length=m by simp [aae,hm]] at dj;have Hf:=hid hf;have bP:=hid gf;have HS:=hid hS;have Hm:=hid hm;have gz:=hid dj;rw [dj];clear hf gf hS hm dj;go_enter Tryz.func22,Tryz.ntmps22;go_upto_region 1 with (fail)
 obtain⟨W,hW⟩:∃W,W=(w.alloc (.cells #[.string nm,.int .i64 (pn:Int),.int .i64 (n:Int),.slice ba m bc] 37)).alloc (.cells #[.string ⟨#[]⟩,.int .i64 0,.int .i64 0,.slice none 0 0] 37):=⟨_,rfl⟩
 obtain⟨bU,h0,h1⟩:=abE w (.cells #[.string nm,.int .i64 (pn:Int),.int .i64 (n:Int),.slice ba m bc] 37) (.cells #[.string ⟨#[]⟩,.int .i64 0,.int .i64 0,.slice none 0 0] 37);rw [<-hW] at bU h0 h1 ⊢;have cp:Below w.heap.size w W:=by rw [hW];exact bE
 obtain⟨UB,cf⟩:∃UB,UB=w.heap.size:=⟨_,rfl⟩
 obtain⟨UO,eA⟩:∃UO,UO=w.heap.size+1:=⟨_,rfl⟩
 rw [<-eA] at h1 ⊢;rw [<-cf] at h0 ⊢;have ae:Hid (UB=w.heap.size∧UO=w.heap.size+1∧W.heap.size=w.heap.size+2):=⟨cf,eA,bU⟩
 have HB:Hid (base<=w.heap.size):=aL;have H0:=hid h0;have H1:=hid h1;have aO:=hid cp;obtain⟨c0,c1,c2,c3⟩:=(aad (cs:=[_,_,_,_]) h0).get4;rw [Aab] at c1 c2 c3;have dm:SlAt (fun b=>base<=b∧b<w.heap.size) W.drew 6 aa0 (.slice ba m bc) bs:=by
  have h:=abJ.read Hf.out bP.out.ok.num;rw [gz.out] at h;exact h.later aat (aO.out.trans ((Below.refl W.heap.size W).drew.mono aO.out.size))
 have bD:=hid dm;have gd:Hid (∀w',Below W.heap.size W w'->w'.cell? ⟨UB,0,none⟩=some (.string nm)∧w'.cell? ⟨UB,1,none⟩=some (.int .i64 (pn:Int))∧w'.cell? ⟨UB,2,none⟩=some (.int .i64 (n:Int))∧w'.cell? ⟨UB,3,none⟩=some (.slice ba m bc)) :=
  fun w' h=>⟨aab c0 h,aab c1 h,aab c2 h,aab c3 h⟩
 have zU:UB<W.heap.size:=aac c0;have kC:m<=1048576:=by rw [Hm.out];exact bP.out.ok.len
 have HO:=hid (afg nm (pn:Int) (n:Int) ba m bc bs W.drew bD.out (fun b hb=>by have:=aO.out.size;simp;omega) Hm.out.symm kC bP.out.tok);obtain⟨bk,ef⟩:∃bk,bk=aa7 bs (ordL bs):=⟨_,rfl⟩
 have cP:aen n bk:=by rw [ef];exact bP.out.keep
 have b7:=hid cP;have ej:apS bs=acC bk:=by rw [ef];rfl
 have eS:=hid bP.out.pre;rw [ej] at eS;have gT:=hid bP.out.kept;have gb:adn bs=aa7 (acC bk) (ordL (acC bk)):=by unfold adn;rw [ej]
 have ds:=hid gb;have jP:=hid ef
 -- what stays: S,and the two boxes
 have iu : Hid (∀ w8 oa oc, Below W.heap.size W w8 -> abt W.drew.heap.size w8 (.slice oa (ordL bs).length oc) (ordL bs) ->
  Calls Tryz.prog 58 #[.agg #[.string nm, .int .i64 (pn : Int), .int .i64 (n : Int), .slice ba m bc], .slice oa (ordL bs).length oc] w8 fun e w' => ∃ V', e = .returned (.agg #[.string nm, .int .i64 (pn : Int), .int .i64 (n : Int), V' .blks]) ∧
   abJ w' base bk V' ∧ Below base w8 w' ∧ asZ (fun b => S b ∨ (w.heap.size <= b ∧ b < w8.heap.size)) w8 w' bk V') := fun w8 oa oc aU hv => by
  have eX:=aO.out.size;have eH:=aU.size;have ho:=agv bP.out.tok
  have hK := amw (S := fun b => S b ∨ (w.heap.size <= b ∧ b < w8.heap.size)) nm (pn : Int) (n : Int) bs V base w8 (Hf.out.later (aO.out.trans (aU.mono eX))) (by omega) bP.out.ok oa (ordL bs).length oc (ordL bs)
   (hv.sl.mono aaw (fun b hb => .inr ⟨Aai eX hb.1,hb.2⟩) (aaS.refl _ _)) rfl (Aai (al7 ho) bP.out.ok.len)
   (fun b hb => by
     rcases hb with h | h
     . exact ⟨Aay (HS.out b h).1 (Aai eX eH), (HS.out b h).2⟩
     . exact ⟨h.2, fun q hq e => by have := (aah.lt Hf.out hq b e).2; omega⟩)
   ho.inn ho.nd
  rw [gz.out,<-jP.out] at hK;exact hK
 clear hW h0 h1 cp cf eA bU aL dm cP ej gb ef
 go_region_law
  ((first
    | (go_simp; go_at_call 59; refine HO.out.mono ?_; rintro e w8 ⟨v, rfl, hv, aY⟩
       obtain ⟨oa, oc, kz⟩ := hv.shape
       subst kz
       have aU : Below W.heap.size W w8 := (Below.refl W.heap.size W).drew.trans aY
       obtain ⟨d0, d1, d2, d3⟩ := gd.out w8 aU
       have kI := aac d0
       have HK := hid (iu.out w8 oa oc aU hv)
       have bA := hid aU
       clear hv aY aU)
    | (go_simp; go_at_call 58; refine HK.out.mono ?_; rintro e w9 ⟨V1, rfl, ee, eP, aH⟩
       have eB := hid eP
       have kV := hid ee
       have cN := hid aH
       have HC := hid (anR (S := fun b => S b ∨ (w.heap.size <= b ∧ b < w8.heap.size)) nm (pn : Int) (n : Int) bk V1 base w9 ee (by have := eP.size; have := bA.out.size; have := ae.out; have := HB.out; omega) b7.out.ch (fun b hb => ⟨by
        have := eP.size
        rcases hb with h | h
        . have := (HS.out b h).1
          have := bA.out.size
          have := ae.out
          omega
        . omega, (aH b hb).2⟩))
       clear ee eP aH)
    | (go_simp; go_at_call 57; refine HC.out.mono ?_; rintro e nv ⟨V2, rfl, hN, bq, bN⟩
       have dw := hid bq
       have cw := hid bN
       have HN := hid (aox (S := fun b => S b ∨ (w.heap.size <= b ∧ b < w8.heap.size)) nm pn n (acC bk) V2 base nv hN (by have := bq.size; have := eB.out.size; have := bA.out.size; have := ae.out; have := HB.out; omega) eS.out.ok eS.out.tok hn fj (adn bs) ds.out gT.out.ok gT.out.reg (fun b hb => ⟨by
        have := bq.size
        have := eB.out.size
        rcases hb with h | h
        . have := (HS.out b h).1
          have := bA.out.size
          have := ae.out
          omega
        . omega, (bN b hb).2⟩))
       clear hN bq bN)
    | (go_simp; go_at_call 56; refine HN.out.mono ?_; rintro e dI ⟨V3, rfl, eG, ad, et⟩
       obtain ⟨ra, rc, bm⟩ := aah.shape (p := .blks) eG trivial
       obtain ⟨l, hl⟩ : ∃ l, l = (adh pn n (adn bs)).length := ⟨_, rfl⟩
       rw [show (aae (adh pn n (adn bs)) V3 .blks).length = l by simp [aae, hl]] at bm
       rw [bm]
       have bI : dI.heap[UO]? = some (.cells #[.string ⟨#[]⟩, .int .i64 0, .int .i64 0, .slice none 0 0] 37 (0, 0)) := by
        have hz : w.heap.size <= UO ∧ UO < w8.heap.size := by have := ae.out; have := bA.out.size; omega
        exact (et UO (.inr hz)).1.trans ((cw.out UO (.inr hz)).1.trans ((cN.out UO (.inr hz)).1.trans ((bA.out.block UO (by have := ae.out; omega)).trans H1.out)))
       obtain ⟨mn, cq⟩ : ∃ mn, mn = afb pn n (adn bs) := ⟨_, rfl⟩
       rw [<- cq]
       obtain ⟨e0, e1, e2, e3⟩ := (aad (cs := [_, _, _, _]) bI).get4
       rw [Aab] at e1 e2 e3
       have k0 := aaq bI 0
       have k1 := aaq bI 1
       have k2 := aaq bI 2
       have k3 := aaq bI 3
       have Hl := hid hl
       have iH := hid cq
       have bX := hid bm
       have kH := hid bI
       have kb := hid eG
       have bG := hid ad
       have aW := hid et
       clear eG ad et bI bm hl cq)))
 all_goals
  have ay:∀q,okP (adh pn n (adn bs)) q->(V3 q).ownBlock≠some UO:=(aW.out UO (.inr ⟨by have:=ae.out;omega,by have:=ae.out;have:=bA.out.size;omega⟩)).2;have aC:=(((aah.setOff kb.out (o:=0) ay (.string nm)).setOff (o:=1) ay (.int .i64 (pn:Int))).setOff (o:=2) ay (.int .i64 mn)).setOff (o:=3) ay (.slice ra l rc);have aj:Kp (fun b=>b≠UO) dI ((((dI.setCell ⟨UO,0,none⟩ (.string nm)).setCell ⟨UO,1,none⟩ (.int .i64 (pn:Int))).setCell ⟨UO,2,none⟩ (.int .i64 mn)).setCell ⟨UO,3,none⟩ (.slice ra l rc)):=aaD (aaD (aaD (aaQ _ _ _ _) _ _) _ _) _ _;have av:=hid aC;have cn:=hid aj;have fw:=hid ay;clear aC aj ay e0 e1 e2 e3 k0 k1 k2 k3;go_wp2_with fail;have bw:=asW (u0 := .string nm) (u1 := .int .i64 (pn:Int)) (u2 := .int .i64 mn) (u3 := .slice ra l rc) (aad (cs:=[_,_,_,_]) kH.out);refine bodyPost_ret (adP rfl rfl bw) rfl ?_;have e8:=ae.out;have nS:=bA.out.size;have jG:=eB.out.size;have jm:=dw.out.size;have nN:=bG.out.size;have mO:=HB.out;refine⟨V3,?_,av.out,?_,fun b hb=>⟨?_,(aW.out b (.inl hb)).2⟩⟩
  . show _=Ending.returned (.agg #[.string nm,.int .i64 (pn:Int),.int .i64 (afb pn n (adn bs)),V3 .blks])
    rw [bX.out,iH.out]
  . have hb:Below base w dI:=((((aO.out.mono mO).trans (bA.out.mono (by omega))).trans eB.out).trans dw.out).trans bG.out
    have h2:base<=UO:=by omega
    exact (((hb.setCell (p:=⟨UO,0,none⟩) h2 _).setCell (p:=⟨UO,1,none⟩) h2 _).setCell (p:=⟨UO,2,none⟩) h2 _).setCell (p:=⟨UO,3,none⟩) h2 _
  . have cc:=(HS.out b hb).1
    refine (cn.out.block b (by omega) (show b≠UO by omega)).trans ?_;exact (aW.out b (.inl hb)).1.trans ((cw.out b (.inl hb)).1.trans ((cN.out b (.inl hb)).1.trans ((bA.out.block b (by omega)).trans (aO.out.block b cc))))
end
section
open Go.RowKit
theorem aoy {S:Nat->Prop}{w:World}{cs:List Value}{x:aaz}(h:abD S w cs x):∀u∈cs,u.oneCell'=true:=by
 obtain⟨v,rfl,hb,-⟩:=h;obtain⟨a,c,rfl,-⟩:=hb;intro u hu;simp only [Aam,Aao,or_false] at hu;rcases hu with rfl | rfl | rfl | rfl <;> rfl
theorem als {S:Nat->Prop}{w:World}{cs:List Value}{x:aaF}(h:aaO S w cs x):∀u∈cs,u.oneCell'=true:=by
 obtain⟨v,rfl,hb,-⟩:=h;obtain⟨a,c,rfl,-⟩:=hb;intro u hu;simp only [Aam,Aao,or_false] at hu;rcases hu with rfl | rfl | rfl <;> rfl
theorem agW.start {α : Type} {S : Nat -> Prop} {w W : World} {base : Nat} {e : TypeId} {sz n : Nat} {r : Rp α} (f : α -> α) {v : Value} {l : List α} {xss : List (List Value)} (hr : r.Mono) (kE : W.ownsRow base e sz v n xss.flatten) (hn : xss.length = n) (hl : l.length = n)
 (hw:∀cs∈xss,cs.length=sz) (he:∀(i:Nat) x,l[i]?=some x->∃cs,xss[i]?=some cs∧r S w cs x) (hb:Below w.heap.size w W):agW S (fun _=>False) W base e sz r f v l 0 xss:=by
 subst hn;refine⟨⟨kE,hw⟩,hl.symm,fun b h=>h.elim,fun i cs x h=>by omega,fun i cs x _ h1 h2=>?_⟩;obtain⟨k7,h3,h4⟩:=he i x h2;rw [h1] at h3;cases h3;exact hr.out _ _ _ _ _ _ (fun _ h=>h) (aaS.below' hb) h4
theorem aqt {fn : Func} {p q : Nat} (az : fn.results = #[.cell p 25, .cell q 27]) {tmps : Array Value} {b b' : Nat} (ht : tmps.getD p undef = .pointer (some ⟨b, 0, none⟩)) (lC : tmps.getD q undef = .pointer (some ⟨b', 0, none⟩)) {g f c a : Value} {W : World}
 (h1:aal W b 0 [g,f]) (h2:aal W b' 0 [c,a]):(results fn tmps).run Tryz.prog W = .ok (.tuple #[.agg #[g,f],.agg #[c,a]]) W:=by
 obtain⟨a0,a1⟩:=h1.get2;obtain⟨b0,b1⟩:=h2.get2;simp only [Acl] at ht lC;simp [results,az,ht,lC,go_sem,a0,a1,b0,b1]
theorem aah.low {W:World}{base base':Nat}{ok:Pth->Prop}{V:Pth->Value}{C:Pth->List (List Value)}(h:aah W base ok V C)(hb:base'<=base):aah W base' ok V C:=⟨fun p hp=>ab3 (h.own p hp) hb,h.wid,h.apart⟩
theorem aqu {S : Nat -> Prop} (ga : Option Addr) (gc : Nat) (fa : Option Addr) (fc : Nat) (gs : List aaF) (fs : List aaz) (w : World)
 (hg:SlAt S w 3 aaO (.slice ga gs.length gc) gs) (hf:SlAt S w 4 abD (.slice fa fs.length fc) fs) (hS:∀b,S b->b<w.heap.size) (iG:aav ⟨gs,fs⟩=(0,0)) :
 Calls Tryz.prog 21 #[.agg #[.slice ga gs.length gc,.slice fa fs.length fc],.func (.func 22) #[] #[]] w fun e w' =>
  ∃ga2 gc2 fa2 fc2,e = .returned (.tuple #[.agg #[.slice ga2 gs.length gc2,.slice fa2 fs.length fc2],.agg #[.int .i64 0,.int .i64 0]]) ∧
    SlAt (iv w.heap.size w'.heap.size) w' 3 aaO (.slice ga2 gs.length gc2) gs∧SlAt (iv w.heap.size w'.heap.size) w' 4 abD (.slice fa2 fs.length fc2) (fs.map abx)∧Below w.heap.size w w':=by
 have fW:ajx ⟨gs,fs⟩:=aln hf;have j4:=ab9 iG;obtain⟨kO,lj,-⟩:=acm (u:=⟨gs,fs⟩) (by rw [iG]);dsimp only at kO lj j4;obtain⟨xg,-,h7,j9,ku,cz,kP⟩:=aez hg (by decide);obtain⟨xf,-,az,j1,iX,cK,kX⟩:=aez hf (by decide);have lW:∀cs∈xg,∀u∈cs,u.oneCell'=true:=fun cs af=>by
  obtain⟨i,hi,rfl⟩:=Aav af;have jD:i<gs.length:=by omega
  obtain⟨k7,g1,g2⟩:=j9 i gs[i] (Aaa jD);rw [Aaa hi] at g1;rw [Option.some.inj g1];exact als g2
 have k9:∀cs∈xf,∀u∈cs,u.oneCell'=true:=fun cs af=>by
  obtain⟨i,hi,rfl⟩:=Aav af;have jD:i<fs.length:=by omega
  obtain⟨k7,g1,g2⟩:=j1 i fs[i] (Aaa jD);rw [Aaa hi] at g1;rw [Option.some.inj g1];exact aoy g2
 obtain⟨n,hn⟩:∃n,n=gs.length:=⟨_,rfl⟩
 obtain⟨q,hq⟩:∃q,q=fs.length:=⟨_,rfl⟩
 rw [<-hn] at h7 hg kO cz ⊢;rw [<-hq] at az hf lj cK ⊢;have Hn:=hid hn;have Hq:=hid hq;have HS:=hid hS;have gw:=hid j9;have mK:=hid ku;have nH:=hid h7;have me:=hid j1;have nw:=hid iX;have mP:=hid az;have fp:=hid j4;have mj:=hid iG;have jZ:=hid fW
 have jU := hid (fun (V : World) (hV : Below w.heap.size w V) => akh ga n gc xg.flatten V (by rw [abl xg (fun i cs hi => ku cs (Aae hi)), h7]) cz (fun b cM j u hj => by
  have h := kP b cM j u hj
  rw [hV.cell (p := b.add j) (abv h)]; exact h) (adq lW) (by omega))
 have jC := hid (fun (V : World) (hV : Below w.heap.size w V) => akg fa q fc xf.flatten V (by rw [abl xf (fun i cs hi => iX cs (Aae hi)), az]) cK (fun b cM j u hj => by
  have h := kX b cM j u hj
  rw [hV.cell (p := b.add j) (abv h)]; exact h) (adq k9) (by omega))
 clear hg hf hS iG fW j4 h7 j9 ku cz kP az j1 iX cK kX lW k9 hn hq;go_enter Tryz.func21,Tryz.ntmps21;go_upto_region 1 with (fail)
 obtain⟨W,hW⟩:∃W,W=((w.alloc (.cells #[.slice ga n gc,.slice fa q fc] 25)).alloc (.cells #[.slice none 0 0,.slice none 0 0] 25)).alloc (.cells #[.int .i64 0,.int .i64 0] 27):=⟨_,rfl⟩
 obtain⟨bU,h0,h1,h2⟩:=aff w (.cells #[.slice ga n gc,.slice fa q fc] 25) (.cells #[.slice none 0 0,.slice none 0 0] 25) (.cells #[.int .i64 0,.int .i64 0] 27);rw [<-hW] at bU h0 h1 h2 ⊢;have cp:Below w.heap.size w W:=by rw [hW];exact bE
 obtain⟨UB,cf⟩:∃UB,UB=w.heap.size:=⟨_,rfl⟩
 obtain⟨RU,ik⟩:∃RU,RU=w.heap.size+1:=⟨_,rfl⟩
 obtain⟨RF,ih⟩:∃RF,RF=w.heap.size+2:=⟨_,rfl⟩
 rw [show w.heap.size+1+1=w.heap.size+2 from rfl,<-ih] at h2;rw [show w.heap.size+1+1=w.heap.size+2 from rfl,<-ih,<-ik,<-cf];rw [<-cf] at h0;rw [<-ik] at h1;have ae:Hid (UB=w.heap.size∧RU=w.heap.size+1∧RF=w.heap.size+2∧W.heap.size=w.heap.size+3):=⟨cf,ik,ih,bU⟩
 have H0:=hid h0;have H1:=hid h1;have H2:=hid h2;have aO:=hid cp;obtain⟨c0,c1⟩:=(aad (cs:=[_,_]) h0).get2;rw [Aab] at c1;have zU:UB<W.heap.size:=aac c0;have f0:=aaq h0 0;clear hW h0 h1 h2 cp cf ik ih bU;go_upto_region 2 with (go_at_call 52;refine (jU.out W aO.out).mono ?_;rintro e w2 ⟨va,vc,rfl,lP,cM⟩;have mN:=hid lP;have dG:=hid cM;have c0:=aab c0 cM;have f0:=(cM.frozen (p:=⟨UB,0,none⟩) zU).trans f0;have zU:=aac c0;clear lP cM)
 obtain⟨W3,ck⟩:∃W3,W3=w2.setCell ⟨UB,0,none⟩ (.slice va n vc):=⟨_,rfl⟩
 rw [<-ck];have eQ:W3.heap[UB]?=some (.cells #[.slice va n vc,.slice fa q fc] 25 (0,0)):=by
  rw [ck,aak (i:=0) ((dG.out.block UB (Aag.1 H0.out).1).trans H0.out)];rfl
 have dg:Kp (fun b=>b≠UB) w2 W3:=by rw [ck];exact aaQ _ _ _ _
 have k6:Below w.heap.size w W3:=by
  rw [ck];exact (aO.out.trans (dG.out.mono aO.out.size)).setCell (p:=⟨UB,0,none⟩) (by have:=ae.out;show w.heap.size<=UB;omega) _
 have gI:agW S (fun _=>False) W3 W.heap.size 52 3 aaO id (.slice va n vc) gs 0 xg:=by
  have h:=agW.start (S:=S) id aar mN.out nH.out (by rw [Hn.out]) mK.out gw.out (aO.out.trans (dG.out.mono aO.out.size));exact h.kp aar dg (fun b hb e=>by have:=(h.row.lt b hb).1;have:=ae.out;omega) (fun b hb=>hb.elim) (fun b hb e=>by have:=HS.out b hb;have:=ae.out;omega)
 have hE:=(dg.block RU (by have:=dG.out.size;have:=ae.out;omega) (by have:=ae.out;omega)).trans ((dG.out.block RU (Aag.1 H1.out).1).trans H1.out);have fx:=(dg.block RF (by have:=dG.out.size;have:=ae.out;omega) (by have:=ae.out;omega)).trans ((dG.out.block RF (Aag.1 H2.out).1).trans H2.out);have iq:=hid gI;have ea:=hid eQ;have gH:=hid hE;have gv:=hid fx;have nz:=hid k6;have kU:Hid (W.heap.size<=W3.heap.size):=by show _<=_;rw [ck];have:=dG.out.size;simpa [World.setCell] using this
 have k0:=(aad (cs:=[_,_]) eQ).get2.1;have nL:=aac k0;clear ck eQ dg k6 gI hE fx c0 c1 f0 zU;go_wp2_with fail;clear k0;go_loopw [17] (fun s17 wr=>∃(k:Nat) (xss:List (List Value)) (D:Nat->Prop),k<=n∧s17 = .int .i64 (k:Int)∧agW S D wr W.heap.size 52 3 aaO id (.slice va n vc) gs k xss∧Kp (fun b=>(Value.slice va n vc).ownBlock≠some b) W3 wr) (fun s17 _=>n - (intOf s17).toNat)
 case atStart=>exact⟨0,xg,fun _=>False,Aaj _,rfl,iq.out,Kp.refl _ _⟩
 case round =>
  obtain⟨wo,ey⟩:∃wo:World,wo=wr:=⟨_,rfl⟩
  subst ey;obtain⟨k,xss,D,hk,rfl,aP,aj⟩:=hrel
  by_cases hkn:k<n
  . have kR:k<gs.length:=by rw [<-Hn.out];exact hkn
    obtain⟨x,hx⟩:∃x,gs[k]?=some x:=⟨_,Aaa kR⟩
    obtain⟨R,rc,cs,hv,fG,eF,eY,af,hr,hz⟩:=aP.get (by decide) hx;obtain⟨ia,ic,rfl,ev,a7,hI⟩:=hr.opens;rw [<-Hn.out] at hv;have jF:va=some ⟨R,0,none⟩:=by injection hv
    subst jF;obtain⟨nm,ao⟩:∃nm,nm=x.name:=⟨_,rfl⟩
    obtain⟨sz,h5⟩:∃sz,sz=x.size:=⟨_,rfl⟩
    obtain⟨il,a8⟩:∃il,il=x.init.length:=⟨_,rfl⟩
    rw [<-ao,<-h5,<-a8] at af eY;rw [<-a8] at ev;obtain⟨d0,d1,d2⟩:=af.get3;have fA:x.init.length<=1048576:=fp.out.1 x (Aae hx);have zR:R<wo.heap.size:=eF;have bL:R≠UB:=by have:=ae.out;omega
    have k0:wo.cell? ⟨UB,0,none⟩=some (.slice (some ⟨R,0,none⟩) n vc):=aj.cell (fun e=>bL (show R=UB from Option.some.inj e)) (aad (cs:=[_,_]) ea.out).get2.1;have fN:=hid aP;have cn:=hid aj;have Hx:=hid hx;have iK:=hid ev;have HI:=hid hI;have hU:=hid eY;have HR:Hid (W.heap.size<=R∧R<wo.heap.size∧R≠UB):=⟨fG,eF,bL⟩
    have Hz:=hid hz;have cU:Hid (nm=x.name∧sz=x.size∧il=x.init.length):=⟨ao,h5,a8⟩
    have jz:il<=1048576:=by rw [a8];exact fA
    clear kR hx hv fG eF eY af ev a7 hI hz aP aj ao h5 a8 fA bL;go_upto_region 5 with (fail)
    obtain⟨GB,h9⟩:∃GB,GB=wo.heap.size:=⟨_,rfl⟩
    obtain⟨W4,fh⟩:∃W4,W4=wo.alloc (.cells #[.string nm,.int .i64 sz,.slice ia il ic] 52):=⟨_,rfl⟩
    have lJ:W4.heap[GB]?=some (.cells #[.string nm,.int .i64 sz,.slice ia il ic] 52 (0,0)):=by rw [fh,h9];exact heap_alloc_new _ _
    have cX:Below wo.heap.size wo W4:=by rw [fh];exact bE
    rw [<-fh,<-h9];have iy:Below wo.heap.size wo W4.drew:=cX.drew;have bF:Hid (UB≠R∧GB≠R):=by show _∧_;exact⟨fun e=>HR.out.2.2 e.symm,by rw [h9];have:=HR.out;omega⟩
    have mD:=hid (fN.out.later aar iy);have aK:Hid (W4.drew.cell? ⟨UB,0,none⟩=some (.slice (some ⟨R,0,none⟩) n vc)∧W4.drew.cell? ⟨GB,2,none⟩=some (.slice ia il ic)):=by
     have h:=(aad (cs:=[_,_,_]) lJ) 2 _ rfl;rw [Aab] at h;exact⟨aab (w':=W4) k0 cX,h⟩
    have kr:=afE (S:=S) ia ic x.init W4.drew (by rw [<-cU.out.2.2];exact iK.out.later aaw iy) (by rw [<-cU.out.2.2];exact jz);rw [<-cU.out.2.2] at kr;have gd:=hid kr;have aF:Hid (W4.drew.cell? ⟨R,k * 3+2,none⟩=some (.slice ia il ic)∧W4.drew.frozen? ⟨R,k * 3+2,none⟩=false):=⟨aab (w':=W4) d2 cX,(cX.frozen (p:=⟨R,k * 3+2,none⟩) zR).trans (Hz.out _)⟩
    have kY:R<W4.drew.heap.size:=aac aF.out.1;have lf:=hid iy;clear h9 fh lJ cX iy kr d0 d1 d2 zR k0
    go_region_held3 (fun w' => w'.cell? ⟨UB, 0, none⟩ = some (.slice (some ⟨R, 0, none⟩) n vc) ∧ w'.cell? ⟨GB, 2, none⟩ = some (.slice ia il ic))
     ((first | with_reducible exact c8.out | with_reducible exact aI.out | with_reducible exact aK.out))
     ((go_at_call 28; (with_reducible refine gd.out.mono ?_); rintro e w8 ⟨v, rfl, jV, aY⟩
       obtain ⟨ja, jc, mL⟩ := jV.shape
       subst mL
       have aI : Hid (w8.cell? ⟨UB, 0, none⟩ = some (.slice (some ⟨R, 0, none⟩) n vc) ∧ w8.cell? ⟨GB, 2, none⟩ = some (.slice ia il ic)) := ⟨aab aK.out.1 aY, aab aK.out.2 aY⟩
       have r1 := aab aF.out.1 aY
       have rz := (aY.frozen (p := ⟨R, k * 3 + 2, none⟩) kY).trans aF.out.2
       obtain ⟨dd, a8⟩ : ∃ dd, dd = x.init.length := ⟨_, rfl⟩
       rw [<- a8]
       have c8 : Hid ((w8.setCell ⟨R, k * 3 + 2, none⟩ (.slice ja dd jc)).cell? ⟨UB, 0, none⟩ = some (.slice (some ⟨R, 0, none⟩) n vc) ∧ (w8.setCell ⟨R, k * 3 + 2, none⟩ (.slice ja dd jc)).cell? ⟨GB, 2, none⟩ = some (.slice ia il ic)) := ⟨(aam _ bF.out.1 _ _).trans aI.out.1, (aam _ bF.out.2 _ _).trans aI.out.2⟩
       have mE := hid jV
       have j0 := hid aY
       have jJ := hid a8
       clear jV aY a8))
    have h6:=mD.out.later aar j0.out;have lg:=h6.row.set (j:=2) rfl hU.out (by decide) (.slice ja dd jc);have aH:Kp (fun b=>b≠R) w8 (w8.setCell ⟨R,k * 3+2,none⟩ (.slice ja dd jc)):=aaQ _ _ _ _;have dQ:(w8.setCell ⟨R,k * 3+2,none⟩ (.slice ja dd jc)).heap.size=w8.heap.size:=by simp [World.setCell]
    have bQ := h6.next aar (D' := fun b => D b ∨ (W4.drew.heap.size <= b ∧ b < w8.heap.size)) rfl Hx.out lg aH (fun b hb e => by have := HS.out b hb; have := HR.out; have := ae.out; omega) (fun b hb => .inl hb)
     (fun b hb => by
       rw [dQ]
       have hle := lf.out.size
       have lX := j0.out.size
       rcases hb with hb | hb
       . have := h6.low b hb
         exact ⟨this.1, this.2.1, fun e => this.2.2 (by rw [e]; rfl)⟩
       . have := HR.out
         exact ⟨by omega, hb.2, by omega⟩)
     ⟨_, (by show [Value.string nm, Value.int IntKind.i64 sz, Value.slice ja dd jc] = _; rw [cU.out.1, cU.out.2.1]; rfl), by
       have h := mE.out.toSl aaw (by decide)
       rw [<- jJ.out] at h
       exact h.mono aaw (fun b hb => .inr hb) (aH.stays fun b hb e => by have := hb.1; rw [e] at this; have := kY; omega), HI.out⟩
    have fQ:Kp (fun b=>(Value.slice (some ⟨R,0,none⟩) n vc).ownBlock≠some b) W3 (w8.setCell ⟨R,k * 3+2,none⟩ (.slice ja dd jc)) :=
     ((cn.out.trans (Kp.of lf.out)).trans (Kp.of j0.out)).trans (aH.less fun b hb e=>hb (by rw [e];rfl))
    have fK:=hid bQ;have j6:=hid fQ;clear h6 lg aH dQ bQ fQ;go_wp2_with fail;go_roundw
    case rel=>exact⟨k+1,_,_,by omega,by go_num,fK.out,j6.out⟩
    case measure=>simp [intOf];omega
  . have cj:n=k:=by omega
    subst cj;obtain⟨WA,nG⟩:∃WA:World,WA=wo:=⟨_,rfl⟩
    subst nG;have ly:SlAt (iv W.heap.size WA.heap.size) WA 3 aaO (.slice va n vc) gs:=by
     have cD:=aP;rw [Hn.out] at cD;have h:=agW.read aar (by decide) cD;rw [<-Hn.out] at h;rw [List.map_id] at h;exact h
    have dv:=(aj.block UB (Aag.1 ea.out).1 (fun e=>by have:=(aP.row.lt UB e).1;have:=ae.out;omega)).trans ea.out;have gj:=(aj.block RU (Aag.1 gH.out).1 (fun e=>by have:=(aP.row.lt RU e).1;have:=ae.out;omega)).trans gH.out;have fB:=(aj.block RF (Aag.1 gv.out).1 (fun e=>by have:=(aP.row.lt RF e).1;have:=ae.out;omega)).trans gv.out;have kQ:Below w.heap.size w WA:=nz.out.trans (aj.below fun b hb=>⟨by have:=kU.out;have:=ae.out;omega,fun e=>by have:=(aP.row.lt b e).1;have:=ae.out;omega⟩);have bH:Hid (W.heap.size<=WA.heap.size):=by show _<=_;have:=aj.size;have:=kU.out;omega
    have mr:=hid ly;have fE:=hid dv;have gi:=hid gj;have gD:=hid fB;have jy:=hid kQ;have k1:=(aad (cs:=[_,_]) dv).get2.2;rw [Aab] at k1;have zA:=aac k1;have kq:=aaq dv 1;clear ly dv gj fB kQ aP aj hk hkn iq;go_upto_region 8 with (go_at_call 53;refine (jC.out WA jy.out).mono ?_;rintro e w4 ⟨ua,uc,rfl,gB,cX⟩;have jf:=hid gB;have dz:=hid cX;have k1:=aab k1 cX;have kq:=(cX.frozen (p:=⟨UB,1,none⟩) zA).trans kq;have zA:=aac k1;clear gB cX)
    obtain⟨W5,bw⟩:∃W5,W5=w4.setCell ⟨UB,1,none⟩ (.slice ua q uc):=⟨_,rfl⟩
    rw [<-bw];have bM:W5.heap[UB]?=some (.cells #[.slice va n vc,.slice ua q uc] 25 (0,0)):=by
     rw [bw,aak (i:=1) ((dz.out.block UB (Aag.1 fE.out).1).trans fE.out)];rfl
    have cF:Kp (fun b=>b≠UB) w4 W5:=by rw [bw];exact aaQ _ _ _ _
    have lM:Below w.heap.size w W5:=by
     rw [bw];exact (jy.out.trans (dz.out.mono (by have:=bH.out;have:=ae.out;omega))).setCell (p:=⟨UB,1,none⟩) (by have:=ae.out;show w.heap.size<=UB;omega) _
    have gI:agW S (fun _=>False) W5 WA.heap.size 37 4 abD abx (.slice ua q uc) fs 0 xf:=by
     have h:=agW.start (S:=S) abx aaG jf.out mP.out (by rw [Hq.out]) nw.out me.out (jy.out.trans (dz.out.mono (by have:=bH.out;have:=ae.out;omega)));exact h.kp aaG cF (fun b hb e=>by have:=(h.row.lt b hb).1;have:=ae.out;have:=bH.out;omega) (fun b hb=>hb.elim) (fun b hb e=>by have:=HS.out b hb;have:=ae.out;omega)
    have fH:=(cF.block RU (by have:=dz.out.size;have:=ae.out;have:=bH.out;omega) (by have:=ae.out;omega)).trans ((dz.out.block RU (Aag.1 gi.out).1).trans gi.out);have gZ:=(cF.block RF (by have:=dz.out.size;have:=ae.out;have:=bH.out;omega) (by have:=ae.out;omega)).trans ((dz.out.block RF (Aag.1 gD.out).1).trans gD.out);have fV:SlAt (iv W.heap.size WA.heap.size) W5 3 aaO (.slice va n vc) gs:=(mr.out.later aar dz.out).mono aar (fun _ h=>h) (cF.stays fun b hb e=>by have:=hb.1;have:=ae.out;omega);have iq:=hid gI;have bt:=hid bM;have gX:=hid fH;have gM:=hid gZ;have mS:=hid lM;have iP:=hid fV;have lT:Hid (WA.heap.size<=W5.heap.size):=by show _<=_;rw [bw];have:=dz.out.size;simpa [World.setCell] using this
    have jW:=(aad (cs:=[_,_]) bM).get2.2;rw [Aab] at jW;have nJ:=aac jW;clear bw bM cF lM gI fH gZ fV k1 kq zA;go_wp2_with fail;clear jW;go_loopw [38] (fun s38 wr=>∃(k:Nat) (xss:List (List Value)) (D:Nat->Prop),k<=q∧s38 = .int .i64 (k:Int)∧agW S D wr WA.heap.size 37 4 abD abx (.slice ua q uc) fs k xss∧Kp (fun b=>(Value.slice ua q uc).ownBlock≠some b) W5 wr) (fun s38 _=>q - (intOf s38).toNat)
    case atStart=>exact⟨0,xf,fun _=>False,Aaj _,rfl,iq.out,Kp.refl _ _⟩
    case round =>
     obtain⟨wo,ey⟩:∃wo:World,wo=wr:=⟨_,rfl⟩
     subst ey;obtain⟨k,xss,D,hk,rfl,aP,aj⟩:=hrel
     by_cases gb:k<q
     . have lH:k<fs.length:=by rw [<-Hq.out];exact gb
       obtain⟨x,hx⟩:∃x,fs[k]?=some x:=⟨_,Aaa lH⟩
       obtain⟨R,rc,cs,hv,fG,eF,eY,af,hr,hz⟩:=aP.get (by decide) hx;obtain⟨ba,bc,rfl,ev,a7,nE,mB⟩:=hr.opens;rw [<-Hq.out] at hv;have mh:ua=some ⟨R,0,none⟩:=by injection hv
       subst mh;obtain⟨iw,fO,fj,j3,mR,mv⟩:=alE mj.out jZ.out hx;obtain⟨pn,eT⟩:∃pn,pn=x.params.toNat:=⟨_,rfl⟩
       obtain⟨rn,cB⟩:∃rn,rn=x.regs.toNat:=⟨_,rfl⟩
       obtain⟨nm,ao⟩:∃nm,nm=x.name:=⟨_,rfl⟩
       obtain⟨bl,cc⟩:∃bl,bl=x.blocks.length:=⟨_,rfl⟩
       have kj:x.params=(pn:Int):=by omega
       have eo:x.regs=(rn:Int):=by omega
       rw [kj,eo,<-ao,<-cc] at af eY;rw [<-cc] at ev;rw [<-cB] at iw;rw [<-eT,<-cB] at fj;rw [<-cB] at j3;obtain⟨d0,d1,d2,d3⟩:=af.get4;have zR:R<wo.heap.size:=eF;have bL:R≠UB∧R≠RU∧R≠RF:=by have:=ae.out;have:=bH.out;omega
       have k1:wo.cell? ⟨UB,1,none⟩=some (.slice (some ⟨R,0,none⟩) q uc):=aj.cell (fun e=>bL.1 (show R=UB from Option.some.inj e)) (by have h:=(aad (cs:=[_,_]) bt.out).get2.2;rw [Aab] at h;exact h);have zU:=aac k1;have fN:=hid aP;have cn:=hid aj;have Hx:=hid hx;have iK:=hid ev;have hU:=hid eY;have HR:Hid (WA.heap.size<=R∧R<wo.heap.size∧R≠UB):=⟨fG,eF,bL.1⟩
       have Hz:=hid hz;have fr:=hid iw;have kF:=hid fO;have cU:Hid (nm=x.name∧x.params=(pn:Int)∧x.regs=(rn:Int)∧bl=x.blocks.length∧pn=x.params.toNat∧rn=x.regs.toNat):=⟨ao,kj,eo,cc,eT,cB⟩
       have dB:Hid (pn<=rn∧rn<=100):=⟨fj,j3⟩
       have gS:bl<=1048576:=by rw [cc];exact iw.ok.len
       clear lH hx hv fG eF eY af ev a7 nE mB hz aP aj ao kj eo cc eT cB iw fO fj j3 mR mv bL;go_upto_region 11 with (fail)
       obtain⟨FB,gO⟩:∃FB,FB=wo.heap.size:=⟨_,rfl⟩
       obtain⟨W6,bB⟩:∃W6,W6=wo.alloc (.cells #[.string nm,.int .i64 (pn:Int),.int .i64 (rn:Int),.slice ba bl bc] 37):=⟨_,rfl⟩
       have aX:W6.heap[FB]?=some (.cells #[.string nm,.int .i64 (pn:Int),.int .i64 (rn:Int),.slice ba bl bc] 37 (0,0)):=by rw [bB,gO];exact heap_alloc_new _ _
       have bS:Below wo.heap.size wo W6:=by rw [bB];exact bE
       rw [<-bB,<-gO];obtain⟨p0,p1,p2,p3⟩:=(aad (cs:=[_,_,_,_]) aX).get4;rw [Aab] at p1 p2 p3;have zF:=aac p0;have lY:=aab k1 bS;have iS:=hid (fN.out.later aaG bS);have mg:Hid (Kp (fun b=>(Value.slice (some ⟨R,0,none⟩) q uc).ownBlock≠some b) W5 W6):=cn.out.trans (Kp.of bS);have cY:=hid aX;have cg:Hid (FB=wo.heap.size∧W6.heap.size=FB+1):=⟨gO,by rw [bB,gO];simp⟩
       have kL:=aow (S:=S) nm (pn:Int) (rn:Int) ba bl bc x.blocks W6 (iK.out.later aat bS) (fun b hb=>by have:=HS.out b hb;have:=bH.out;have:=HR.out;have:=ae.out;have:=bS.size;omega) gS fr.out.ok.small;have mY:=hid kL;have jX:=aoV fr.out dB.out.1;obtain⟨mn,cq⟩:∃mn,mn=doN pn rn x.blocks:=⟨_,rfl⟩
       rw [<-cq] at jX;have gG:aen mn.toNat (doB pn rn x.blocks):=by rw [cq];exact aks fr.out dB.out.1 (by have:=dB.out.2;omega)
       have gN:=aeB.do fr.out kF.out dB.out.1
       have iH:=hid cq;have kn:Hid ((pn:Int)<=mn∧mn<=rn):=jX;have jq:=hid gG;have gJ:=hid gN;clear gO bB aX bS kL jX cq gG gN d0 d1 d2 d3 k1 zR zU
       go_upto_region 12 with (first
        | (go_at_call 54; refine mY.out.mono ?_; rintro e w7 ⟨V1, fM, rfl, iD, lK, bR⟩
           have jn := hid bR
           obtain ⟨base, aL⟩ : ∃ base, base = min fM w7.heap.size := ⟨_, rfl⟩
           have gV : abJ w7 base x.blocks V1 := aah.low lK (by omega)
           have gE : Hid (W6.heap.size <= base ∧ base <= w7.heap.size) := (by show _ ∧ _; have := bR.size; omega)
           have lZ := hid (aqs (S := fun _ => False) nm pn rn x.blocks V1 base w7 gV gE.out.2 fr.out (by have := dB.out.2; omega) dB.out.1 (fun b hb => hb.elim))
           clear iD lK bR gV aL)
        | (go_at_call 22; refine lZ.out.mono ?_; rintro e w8 ⟨V3, rfl, je, aY, -⟩
           obtain ⟨ra, eK, bm⟩ := aah.shape (p := .blks) je trivial
           obtain ⟨l, hl⟩ : ∃ l, l = (doB pn rn x.blocks).length := ⟨_, rfl⟩
           rw [show (aae (doB pn rn x.blocks) V3 .blks).length = l by simp [aae, hl]] at bm
           rw [bm, <- iH.out]
           have ez : Below W6.heap.size W6 w8 := jn.out.trans (aY.mono gE.out.1)
           have cv : w8.heap[FB]? = some (.cells #[.string nm, .int .i64 (pn : Int), .int .i64 (rn : Int), .slice ba bl bc] 37 (0, 0)) := (ez.block FB (Aag.1 cY.out).1).trans cY.out
           obtain ⟨p0, p1, p2, p3⟩ := (aad (cs := [_, _, _, _]) cv).get4
           rw [Aab] at p1 p2 p3
           have f0 := aaq cv 0
           have f1 := aaq cv 1
           have f2 := aaq cv 2
           have f3 := aaq cv 3
           have zF := aac p0
           have gm := hid ez
           have fJ := hid cv
           have ni := hid je
           have bX := hid bm
           have Hl := hid hl
           clear je aY bm hl ez cv))
       obtain⟨aw,ax⟩:∃aw,aw=((((w8.setCell ⟨FB,0,none⟩ (.string nm)).setCell ⟨FB,1,none⟩ (.int .i64 (pn:Int))).setCell ⟨FB,2,none⟩ (.int .i64 mn)).setCell ⟨FB,3,none⟩ (.slice ra l eK)):=⟨_,rfl⟩
       rw [<-ax];have aG:aw.heap[FB]?=some (.cells #[.string nm,.int .i64 (pn:Int),.int .i64 mn,.slice ra l eK] 37 (0,0)):=by rw [ax];exact atM fJ.out
       have bN:Kp (fun b=>b≠FB) w8 aw:=by rw [ax];exact aaD (aaD (aaD (aaQ _ _ _ _) _ _) _ _) _ _
       have fL:aw.heap.size=w8.heap.size:=by rw [ax];simp [World.setCell]
       obtain⟨iz,jQ,jw,jk⟩:=(aad (cs:=[_,_,_,_]) aG).get4;rw [Aab] at jQ jw jk;have dm:SlAt (fun b=>base<=b∧b<aw.heap.size) aw 6 aa0 (.slice ra l eK) (doB pn rn x.blocks):=by
        have h:=abJ.read ni.out jq.out.ok.num;rw [bX.out] at h;exact h.mono aat (fun b hb=>by rw [fL];exact hb) (bN.stays fun b hb e=>by have:=gE.out;have:=cg.out;omega)
       have dJ:agW S D aw WA.heap.size 37 4 abD abx (.slice (some ⟨R,0,none⟩) q uc) fs k xss :=
        (iS.out.later aaG gm.out).kp aaG bN (fun b hb e=>by have:=(fN.out.row.lt b hb).2;have:=cg.out;omega) (fun b hb e=>by have:=(fN.out.low b hb).2.1;have:=cg.out;omega) (fun b hb e=>by have:=HS.out b hb;have:=cg.out;have:=HR.out;have:=bH.out;have:=ae.out;omega)
       have dD:Kp (fun b=>(Value.slice (some ⟨R,0,none⟩) q uc).ownBlock≠some b) W5 aw:=by
        have h1:=cn.out;have h5:=h1.size;have h2:Kp (fun b=>(Value.slice (some ⟨R,0,none⟩) q uc).ownBlock≠some b) W5 w8:=mg.out.trans (Kp.of gm.out);rw [ax];have ix:W5.heap.size<=FB:=by have:=cg.out;omega
        exact (((h2.setNew (a:=⟨FB,0,none⟩) ix _).setNew (a:=⟨FB,1,none⟩) ix _).setNew (a:=⟨FB,2,none⟩) ix _).setNew (a:=⟨FB,3,none⟩) ix _
       have lB:=aqL nm (pn:Int) mn ra l eK (doB pn rn x.blocks) aw dm Hl.out.symm (by rw [Hl.out];exact gJ.out.len) gJ.out.many (by have:=kn.out;have:=dB.out;omega) (by have:=kn.out;omega);have mI:=hid lB;have bD:=hid dm;have dC:=hid dJ;have dT:=hid dD;have fS:=hid aG;clear p0 p1 p2 p3 f0 f1 f2 f3 zF ax aG bN fL dm dJ dD lB lY;have mb:=aac iz;have iC:aw.cell? ⟨UB,1,none⟩=some (.slice (some ⟨R,0,none⟩) q uc):=dT.out.cell (fun e=>HR.out.2.2 (show R=UB from Option.some.inj e)) (by have h:=(aad (cs:=[_,_]) bt.out).get2.2;rw [Aab] at h;exact h);have bZ:aal aw R (k * 4) [.string nm,.int .i64 (pn:Int),.int .i64 (rn:Int),.slice ba bl bc]∧∀o,aw.frozen? ⟨R,o,none⟩=false:=by
        obtain⟨g,c,e,-,-,-,h1,h2⟩:=dC.out.row.at hU.out (by decide);have hg:R=g:=by injection e with e1;injection e1 with e2;injection e2
        rw [hg];exact⟨h1,h2⟩
       obtain⟨r0,r1,r2,r3⟩:=bZ.1.get4;have g0:=bZ.2 (k * 4);have g1:=bZ.2 (k * 4+1);have g2:=bZ.2 (k * 4+2);have g3:=bZ.2 (k * 4+3);have da:R<aw.heap.size:=aac r0;have mi:UB<aw.heap.size:=aac iC;clear bZ
       go_wp2_with (go_at_call 55; refine mI.out.mono ?_; rintro e dI ⟨rfl, ad⟩; have bG := hid ad
                    have iz := aab iz ad; have jQ := aab jQ ad; have jw := aab jw ad; have jk := aab jk ad
                    have r0 := aab r0 ad; have r1 := aab r1 ad; have r2 := aab r2 ad; have r3 := aab r3 ad
                    have iC := aab iC ad
                    have g0 := (ad.frozen (p := ⟨R, k * 4, none⟩) da).trans g0; have g1 := (ad.frozen (p := ⟨R, k * 4 + 1, none⟩) da).trans g1; have g2 := (ad.frozen (p := ⟨R, k * 4 + 2, none⟩) da).trans g2; have g3 := (ad.frozen (p := ⟨R, k * 4 + 3, none⟩) da).trans g3
                    have nh := aac r0; have nI := aac iC; have nj := aac iz
                    clear ad)
       go_roundw
       case rel =>
        obtain⟨bj,aZ⟩:∃bj,bj=((((dI.setCell ⟨R,k * 4,none⟩ (.string nm)).setCell ⟨R,k * 4+1,none⟩ (.int .i64 (pn:Int))).setCell ⟨R,k * 4+2,none⟩ (.int .i64 mn)).setCell ⟨R,k * 4+3,none⟩ (.slice ra l eK)):=⟨_,rfl⟩
        rw [<-aZ];have dW:=dC.out.later aaG bG.out;have bp:Kp (fun b=>b≠R) dI bj:=by rw [aZ];exact aaD (aaD (aaD (aaQ _ _ _ _) _ _) _ _) _ _
        have jR:bj.heap.size=dI.heap.size:=by rw [aZ];simp [World.setCell]
        have kG:ac7 bj WA.heap.size 37 4 (.slice (some ⟨R,0,none⟩) q uc) (xss.set k [.string nm,.int .i64 (pn:Int),.int .i64 mn,.slice ra l eK]):=by
         rw [aZ];exact dW.row.set4 rfl (Aad.1 hU.out).1 _ _ _ _
        have nl:abx x=⟨nm,(pn:Int),mn,doB pn rn x.blocks⟩:=by
         unfold abx;rw [<-cU.out.2.2.2.2.1,<-cU.out.2.2.2.2.2,<-cU.out.1,cU.out.2.1,iH.out]
        have bQ := dW.next aaG (D' := fun b => D b ∨ (base <= b ∧ b < aw.heap.size)) rfl Hx.out kG bp (fun b hb e => by have := HS.out b hb; have := HR.out; have := ae.out; have := bH.out; omega) (fun b hb => .inl hb)
         (fun b hb => by
           rw [jR]
           have hle := bG.out.size
           rcases hb with hb | hb
           . have := dW.low b hb
             exact ⟨this.1, this.2.1, fun e => this.2.2 (by rw [e]; rfl)⟩
           . have := HR.out
             have := cg.out
             have := gE.out
             exact ⟨by omega, by omega, by omega⟩)
         (by
           rw [nl]
           refine ⟨_, rfl, ?_, ?_, ?_⟩
           . have h := bD.out.later aat bG.out
             exact h.mono aat (fun b hb => .inr hb) (bp.stays fun b hb e => by have := HR.out; have := cg.out; have := gE.out; omega)
           . show I64 (pn : Int)
             unfold I64; have := dB.out; omega
           . show I64 mn
             unfold I64; have := dB.out; have := kn.out; omega)
        exact⟨k+1,_,_,by omega,by go_num,bQ,(dT.out.trans (Kp.of bG.out)).trans (bp.less fun b hb e=>hb (by rw [e];rfl))⟩
       case measure=>simp [intOf];omega
     . have nC:q=k:=by omega
       subst nC;have kZ:SlAt (iv WA.heap.size wo.heap.size) wo 4 abD (.slice ua q uc) (fs.map abx):=by
        have cD:=aP;rw [Hq.out] at cD;have h:=agW.read aaG (by decide) cD;rw [<-Hq.out] at h;exact h
       have fl:∀b,b<WA.heap.size->(Value.slice ua q uc).ownBlock≠some b:=fun b hb e=>by have:=(aP.row.lt b e).1;omega
       have b6:=(aj.block UB (Aag.1 bt.out).1 (fl UB (by have:=ae.out;have:=bH.out;omega))).trans bt.out;have cE:=(aj.block RU (Aag.1 gX.out).1 (fl RU (by have:=ae.out;have:=bH.out;omega))).trans gX.out;have cx:=(aj.block RF (Aag.1 gM.out).1 (fl RF (by have:=ae.out;have:=bH.out;omega))).trans gM.out;have gP:SlAt (iv W.heap.size WA.heap.size) wo 3 aaO (.slice va n vc) gs:=iP.out.mono aar (fun _ h=>h) (aj.stays fun b hb=>fl b hb.2);have lF:Below w.heap.size w wo:=mS.out.trans (aj.below fun b hb=>⟨by have:=lT.out;have:=bH.out;have:=ae.out;omega,fl b (by have:=bH.out;have:=ae.out;omega)⟩);have lk:WA.heap.size<=wo.heap.size:=by have:=aj.size;have:=lT.out;omega
       obtain⟨k0,k1⟩:=(aad (cs:=[_,_]) b6).get2;obtain⟨u0,u1⟩:=(aad (cs:=[_,_]) cE).get2;obtain⟨x0,x1⟩:=(aad (cs:=[_,_]) cx).get2;rw [Aab] at k1 u1 x1;have a0:=aaq cE 0;have a1:=aaq cE 1;have b0:=aaq cx 0;have b1:=aaq cx 1;have nK:=aac u0;have nW:=aac x0;have cV:¬RF=RU:=by have:=ae.out;omega
       have lN:∀u v,aal ((wo.setCell ⟨RU,0,none⟩ u).setCell ⟨RU,1,none⟩ v) RF 0 [.int .i64 0,.int .i64 0]:=fun u v j y hj=>by
        rw [aam _ cV,aam _ cV];exact aad cx j y hj
       have mV:=hid lN;have mJ:Hid (aal wo RU 0 [.slice none 0 0,.slice none 0 0]):=aad (cs:=[_,_]) cE;have mW:=hid kZ;have jI:=hid gP;have mA:=hid lF;have nF:=hid lk;have ib:=hid cV;clear kZ fl b6 cE cx gP lF lk aP aj hk gb lN;go_wp2_with fail;have q2:=asV (u0 := .int .i64 0) (u1 := .int .i64 0) (mV.out (.slice va n vc) (.slice ua q uc));have q1:aal ((((wo.setCell ⟨RU,0,none⟩ (.slice va n vc)).setCell ⟨RU,1,none⟩ (.slice ua q uc)).setCell ⟨RF,0,none⟩ (.int .i64 0)).setCell ⟨RF,1,none⟩ (.int .i64 0)) RU 0 [.slice va n vc,.slice ua q uc]:=fun j y hj=>by
        rw [aam _ (fun e=>ib.out e.symm),aam _ (fun e=>ib.out e.symm)];exact asV (u0 := .slice va n vc) (u1 := .slice ua q uc) mJ.out j y hj
       refine bodyPost_ret (aqt rfl rfl rfl q1 q2) rfl ⟨va,vc,ua,uc,rfl,?_,?_,?_⟩
       all_goals
        have aH:Kp (fun b=>b≠RU∧b≠RF) wo ((((wo.setCell ⟨RU,0,none⟩ (.slice va n vc)).setCell ⟨RU,1,none⟩ (.slice ua q uc)).setCell ⟨RF,0,none⟩ (.int .i64 0)).setCell ⟨RF,1,none⟩ (.int .i64 0)) :=
         ((((Kp.refl _ wo).set (a:=⟨RU,0,none⟩) (fun h=>h.1 rfl) _).set (a:=⟨RU,1,none⟩) (fun h=>h.1 rfl) _).set (a:=⟨RF,0,none⟩) (fun h=>h.2 rfl) _).set (a:=⟨RF,1,none⟩) (fun h=>h.2 rfl) _
        have dQ:((((wo.setCell ⟨RU,0,none⟩ (.slice va n vc)).setCell ⟨RU,1,none⟩ (.slice ua q uc)).setCell ⟨RF,0,none⟩ (.int .i64 0)).setCell ⟨RF,1,none⟩ (.int .i64 0)).heap.size=wo.heap.size:=by simp [World.setCell]
        have hu:=ae.out;have ha:=bH.out;have hs:=nF.out
       . exact jI.out.mono aar (fun b hb=>⟨by have:=hb.1;omega,by rw [dQ];have:=hb.2;omega⟩) (aH.stays fun b hb=>⟨by have:=hb.1;omega,by have:=hb.1;omega⟩)
       . exact mW.out.mono aaG (fun b hb=>⟨by have:=hb.1;omega,by rw [dQ];exact hb.2⟩) (aH.stays fun b hb=>⟨by have:=hb.1;omega,by have:=hb.1;omega⟩)
       . have h1:w.heap.size<=RU:=by omega
         have h2:w.heap.size<=RF:=by omega
         exact (((mA.out.setCell (p:=⟨RU,0,none⟩) h1 _).setCell (p:=⟨RU,1,none⟩) h1 _).setCell (p:=⟨RF,0,none⟩) h2 _).setCell (p:=⟨RF,1,none⟩) h2 _
end
end Go.Proofs.YtpeejlpcikefcaaGreatDoor
