import Derived.Test.YtnkfdeiigplhoaaGreatDoorPMeanW
import Derived.Test.YtnkfdeiigplhoaaGreatDoorPOutc
import Derived.Test.YtnkfdeiigplhoaaGreatDoorPDoW
/- A run of a checked unit at its end, in plain Lean. WeighMean, plainly: the counts of a run fit the unit; laid by any counts that fit, it runs alike. WeighMean: the law's walk. -/
namespace Go.Proofs.YtnkfdeiigplhoaaGreatDoor
section
section
variable {u : aaC}
theorem aqf (hc : aal u = (0, 0)) (hn : ajv u) : ∀ (m : Nat) (s : RnS), RnW u s -> s.frs ≠ [] -> RnW u (RnS.go u m s) ∧ (RnS.go u m s).steps <= s.steps + m
 | 0,s,h,_=>⟨⟨h.frs,h.link,h.deep,h.mem,h.inp,h.out,h.value,h.cnt⟩,Aad _⟩
 | m+1,s,h,hne=>by
   obtain⟨t,r,bm⟩:∃t r,s.frs=t :: r:=by
    cases e:s.frs with
    | nil=>exact absurd e hne
    | cons t r=>exact⟨t,r,rfl⟩
   obtain⟨f,x,cb⟩:=h.frs t (by rw [bm];exact Aa7 ..);obtain⟨k1,k2,k3⟩:=ahD hc hn h bm cb (ahC hc hn h bm cb);rw [RnS.go]
   by_cases e:(s.step u).2=true
   . rw [if_pos e]
     obtain⟨h1,h2⟩:=aqf hc hn m _ k1 (k2 e);exact⟨h1,by omega⟩
   . rw [if_neg e]
     exact⟨k1,by omega⟩
theorem aqd(hc:aal u=(0,0))(hn:ajv u){inp:List Int}(hi:∀v∈inp,I64 v){g:aao}(hm:u.funcs[mainAt u.funcs]?=some g)(hp:g.params=0)(m:Nat):RnW u (acD u inp m)∧(acD u inp m).steps<=m:=by
 obtain⟨h1,h2⟩:=aqf hc hn m _ (ajo hc hn hi hm hp) (by intro e;unfold RnS.start RnS.enter at e;cases e);exact⟨h1,by have h3:(RnS.start u inp).steps=0:=rfl;rw [h3] at h2;show (RnS.go u m _).steps<=m;omega⟩
end
end
section
theorem anI {u:aaC}(hc:aal u=(0,0))(hn:ajv u){inp:List Int}(hi:∀v∈inp,I64 v)(m:Nat):acs u (acD u inp m).cnt=(0,0)∧(acD u inp m).cnt.length=u.funcs.length∧(∀C∈(acD u inp m).cnt,C.length<=1048576)∧(acD u inp m).out.length<=200:=by
 obtain⟨g,hm,hp,-⟩:=aeb hc;have hw:=(aqd hc hn hi hm hp m).1;have hl:=hw.cnt.1;refine⟨afz hc hl fun j hj=>?_,hl,fun C hC=>?_,hw.out.1⟩
 . have aB:j<u.funcs.length:=by omega
   obtain⟨cr,h1,h2,-⟩:=hw.cnt.2 j _ (Aaa aB);refine (adA aB hj).2 ?_;rw [Aaa hj] at h1;rw [Option.some.inj h1,h2]
 . obtain⟨j,hj,rfl⟩:=Aa1 hC
   have aB:j<u.funcs.length:=by omega
   obtain⟨cr,h1,h2,-⟩:=hw.cnt.2 j _ (Aaa aB);rw [Aaa hj] at h1;rw [Option.some.inj h1,h2];have:=((adq hc).2 _ (Aaf aB)).blocks;omega
theorem ajE {gs:List aas}{fs:List aao}{Cs:List (List Int)}(h:acs ⟨gs,fs⟩ Cs=(0,0))(hn:ajv ⟨gs,fs⟩){inp:List Int}(hi:∀v∈inp,I64 v)(m:Nat) :
 aal ⟨gs,byL fs Cs⟩=(0,0)∧(acD ⟨gs,byL fs Cs⟩ inp m).out=(acD ⟨gs,fs⟩ inp m).out∧(acD ⟨gs,byL fs Cs⟩ inp m).state=(acD ⟨gs,fs⟩ inp m).state∧(acD ⟨gs,byL fs Cs⟩ inp m).value=(acD ⟨gs,fs⟩ inp m).value∧(acD ⟨gs,byL fs Cs⟩ inp m).steps=(acD ⟨gs,fs⟩ inp m).steps:=by
 obtain⟨h2,-⟩:=akT h;obtain⟨h3,-⟩:=aes h2;obtain⟨hc,-⟩:=aes h;obtain⟨g,hm,hp,-⟩:=aeb hc;exact⟨h3,aoU (apx h) hc hn hi hm hp m⟩
end
section
open Go.RowKit
theorem agF.congr {R R':RnS}(h:R'.out=R.out∧R'.state=R.state∧R'.value=R.value∧R'.steps=R.steps){w:World}{e:Ending}{w':World}(k:agF R' w e w'):agF R w e w':=by
 obtain⟨h1,h2,h3,h4⟩:=h;unfold agF at k;rw [h1,h2,h3,h4] at k;exact k
set_option maxRecDepth 100000 in
set_option maxHeartbeats 4000000 in
theorem ahH (w : World) (hw : abX w) (ga : Option Addr) (gc : Nat) (fa : Option Addr) (fc : Nat) (gs : List aas) (fs : List aao) (hg : SlAt (fun b => b < w.heap.size) w 3 aaE (.slice ga gs.length gc) gs) (hf : SlAt (fun b => b < w.heap.size) w 4 aaZ (.slice fa fs.length fc) fs)
 (aw:ahb gs fs) (ca:Option Addr) (cc:Nat) (C:List Int) (hC:SlAt (fun b=>b<w.heap.size) w 1 aaO (.slice ca C.length cc) C) (_hcl:C.length<=1048576) (fuel:Int) (cT : -9223372036854775808<=fuel) (cU:fuel<=9223372036854775807) :
 Calls Tryz.prog 3 #[.agg #[.slice ga gs.length gc,.slice fa fs.length fc],.slice ca C.length cc,.int .i64 fuel] w fun e w'=>e = .returned (.bool true)∧Below w.heap.size w w':=by
 have aA:∀x∈C,I64 x:=fun v hv=>by obtain⟨-,-,h⟩:=hC.all v hv;exact h
 have aC:ajv ⟨gs,fs⟩:=ald hg hf;have bo:=aw.globals;have aU:=aw.funcs;have aO:∀V,Below w.heap.size w V->Calls Tryz.prog 8 #[.agg #[.slice ga gs.length gc,.slice fa fs.length fc],.slice ca C.length cc,.int .i64 fuel] V fun e w'=>agE ⟨gs,fs⟩ C fuel V e w':=fun V hb =>
  agO (S:=fun b=>b<w.heap.size) ga gc fa fc gs fs ca cc C fuel V (hg.later aan hb) (hf.later aak hb) (hC.later aae hb) (abX.below hw hb) (fun b h=>Aap h hb.size) bo aU aw.many ⟨cT,cU⟩
 obtain⟨n,hn⟩:∃n,n=fs.length:=⟨_,rfl⟩
 obtain⟨cl,ar⟩:∃n,n=C.length:=⟨_,rfl⟩
 obtain⟨W,hW⟩:∃W,W=(w.alloc (.cells #[.slice ga gs.length gc,.slice fa n fc] 25)):=⟨_,rfl⟩
 have ay:Below w.heap.size w W:=by rw [hW];exact bE
 have h0:W.heap[w.heap.size]?=some (.cells #[.slice ga gs.length gc,.slice fa n fc] 25 (0,0)):=by rw [hW];exact heap_alloc_new _ _
 have b1:W.heap.size=w.heap.size+1:=by rw [hW];simp
 obtain⟨UB,aH⟩:∃UB,UB=w.heap.size:=⟨_,rfl⟩
 rw [<-aH] at h0;obtain⟨c0,c1⟩:=(aah (cs:=[_,_]) h0).get2;rw [Aab] at c1;have bG:Hid (∀V,Below W.heap.size W V->V.cell? ⟨UB,0,none⟩=some (.slice ga gs.length gc)∧V.cell? ⟨UB,1,none⟩=some (.slice fa n fc)):=fun V hV=>⟨aab c0 hV,aab c1 hV⟩
 have zB:UB<W.heap.size:=aac c0;have aY:=hid ay;have HW:=hid hW;have bF:Hid (UB=w.heap.size∧W.heap.size=UB+1):=⟨aH,by omega⟩
 by_cases hE:abp ⟨gs,fs⟩ C.length fuel=(0,0)
 case neg =>
  have aX:Hid (Calls Tryz.prog 8 #[.agg #[.slice ga gs.length gc,.slice fa n fc],.slice ca cl cc,.int .i64 fuel] W fun e w'=>∃c a:Int,c≠0∧e = .returned (.tuple #[.slice none 0 0,.agg #[.int .i64 0,.int .i64 0,.slice none 0 0,.int .i64 0],.agg #[.int .i64 c,.int .i64 a]])∧Below W.heap.size W w'):=by
   rw [hn,ar];refine (aO W ay).mono ?_;rintro e w' ⟨h1,⟨h2,-⟩ | ⟨c,a,b6,h2,h3⟩⟩
   . exact absurd h2 hE
   . refine⟨c,a,fun h=>hE (aiT (by rw [h2];exact h)),h3,h1⟩
  rw [<-hn,<-ar];clear hg hf hC hw aw aA aC aO hE hW ay h0 aH b1 hn ar;go_enter Tryz.func3,Tryz.ntmps3;go_upto_region 1 with (fail)
  rw [<-HW.out,<-bF.out.1];clear HW;have bq:∀(c a:Int),c≠0->(decide (c<0)||decide (0<c))=true:=fun c a h=>ad1 h;go_wp2_with (go_at_call 8;refine aX.out.mono ?_;rintro e w3 ⟨c,a,hc,rfl,ax⟩;have hq:=bq c a hc;have aD:=hid ax;clear ax);go_ret;exact⟨rfl,by have h:=aY.out;have h3:=aD.out;exact bE2 h3 h⟩
 case pos =>
  obtain⟨az,bp,bx,bz⟩:=aiU hE;obtain⟨aV,ai,au,av⟩:=anI az aC aA fuel.toNat;obtain⟨R,hR⟩:∃R,R=acD ⟨gs,fs⟩ C fuel.toNat:=⟨_,rfl⟩
  obtain⟨Cs,be⟩:∃l,l=R.cnt:=⟨_,rfl⟩
  rw [<-hR,<-be] at aV ai au;rw [<-hR] at av;dsimp only at ai;have aj:=ajE aV aC aA fuel.toNat;have ak:=ajE (af1 az) aC aA fuel.toNat;rw [<-hR] at aj ak
  have aX : Hid (Calls Tryz.prog 8 #[.agg #[.slice ga gs.length gc, .slice fa n fc], .slice ca cl cc, .int .i64 fuel] W fun e w' => ∃ qa qc oa oc, e = .returned (.tuple #[.slice qa n qc, .agg #[.int .i64 R.state, .int .i64 R.value, .slice oa R.out.length oc, .int .i64 (R.steps : Int)], .agg #[.int .i64 0, .int .i64 0]]) ∧
   SlAt (fun b => W.heap.size <= b) w' 1 rRow (.slice qa n qc) Cs ∧ SlAt (fun b => W.heap.size <= b) w' 1 aaO (.slice oa R.out.length oc) R.out ∧ Below W.heap.size W w') := by
   rw [hn,ar];refine (aO W ay).mono ?_;rintro e w' ⟨h1,⟨-,qa,qc,oa,oc,h2,h3,h4⟩ | ⟨c,a,b6,h2,-⟩⟩
   . rw [<-hR] at h2 h3 h4
     rw [<-be] at h3;exact⟨qa,qc,oa,oc,h2,h3,h4,h1⟩
   . rw [hE] at h2
     obtain⟨rfl,rfl⟩:0=c∧0=a:=by simpa using h2
     simp at b6
  have cw : Hid (∀ V, Below w.heap.size w V -> ∀ (S' : Nat -> Prop) qa qc, SlAt S' V 1 rRow (.slice qa n qc) Cs -> Calls Tryz.prog 9 #[.agg #[.slice ga gs.length gc, .slice fa n fc], .slice qa n qc] V fun e w' => ∃ af ag ad ae, e = .returned (.tuple #[.agg #[.slice af gs.length ag, .slice ad n ae], .agg #[.int .i64 0, .int .i64 0]]) ∧
   SlAt (iv V.heap.size w'.heap.size) w' 3 aaE (.slice af gs.length ag) gs ∧ SlAt (iv V.heap.size w'.heap.size) w' 4 aaZ (.slice ad n ae) (byL fs Cs) ∧ Below V.heap.size V w') := fun V hb S' qa qc hq => by
   have ck:n=Cs.length:=by rw [hn,ai]
   have h:=an8 (S:=fun b=>b<w.heap.size) (S':=S') ga gc fa fc gs fs qa qc Cs V (hg.later aan hb) (hf.later aak hb) (by rw [<-ck];exact hq) (abX.below hw hb) bo aU (by rw [ai];exact aU) aw.many au;rw [<-ck,<-hn] at h;refine h.mono ?_;rintro e w' ⟨h1,⟨c,d,h2,h3,-⟩ | ⟨-,af,ag,ad,ae,h3,h4,h5⟩⟩
   . rw [aV] at h2
     obtain⟨rfl,rfl⟩:0=c∧0=d:=by simpa using h2
     simp at h3
   . rw [<-hn] at h3 h5
     exact⟨af,ag,ad,ae,h3,h4,h5,h1⟩
  have cy : Hid (∀ V, Below w.heap.size w V -> Calls Tryz.prog 10 #[.agg #[.slice ga gs.length gc, .slice fa n fc]] V fun e w' => ∃ af ag ad ae, e = .returned (.tuple #[.agg #[.slice af gs.length ag, .slice ad n ae], .agg #[.int .i64 0, .int .i64 0]]) ∧
   SlAt (iv V.heap.size w'.heap.size) w' 3 aaE (.slice af gs.length ag) gs ∧ SlAt (iv V.heap.size w'.heap.size) w' 4 aaZ (.slice ad n ae) (byL fs (guessL fs)) ∧ Below V.heap.size V w') := fun V hb => by
   have h:=apB (S:=fun b=>b<w.heap.size) ga gc fa fc gs fs V (hg.later aan hb) (hf.later aak hb) (abX.below hw hb) (fun b h=>Aap h hb.size) bo aU aw.many;rw [<-hn] at h;refine h.mono ?_;rintro e w' ⟨h1,-,h2⟩;obtain⟨af,ag,ad,ae,h3,h4,h5⟩:=h2 (by rw [az]);rw [<-hn] at h3 h5;exact⟨af,ag,ad,ae,h3,h4,h5,h1⟩
  have HR:Hid (∀V,Below w.heap.size w V->∀(S':Nat->Prop) af ag ad ae (Ds:List (List Int)),(Ds=Cs∨Ds=guessL fs)->(∀b,S' b->b<V.heap.size)->SlAt S' V 3 aaE (.slice af gs.length ag) gs->SlAt S' V 4 aaZ (.slice ad n ae) (byL fs Ds)->Calls Tryz.prog 11 #[.agg #[.slice af gs.length ag,.slice ad n ae],.slice ca cl cc,.int .i64 fuel] V (agF R V)):=fun V hb S' af ag ad ae Ds hD bX cf b7=>by
   rw [ar];rcases hD with rfl | rfl
   . exact (aj2 (S:=S') (T:=fun b=>b<w.heap.size) af ag ad n ae gs _ ca cc C fuel V cf b7 (by rw [ach,hn]) (hC.later aae hb) (abX.below hw hb) bX (fun b h=>Aap h hb.size) aj.1 bp bx bz).mono fun e w' h=>h.congr aj.2
   . exact (aj2 (S:=S') (T:=fun b=>b<w.heap.size) af ag ad n ae gs _ ca cc C fuel V cf b7 (by rw [ach,hn]) (hC.later aae hb) (abX.below hw hb) bX (fun b h=>Aap h hb.size) ak.1 bp bx bz).mono fun e w' h=>h.congr ak.2
  have bw:0<n:=by rw [hn];exact agN (u:=⟨gs,fs⟩) az
  have cn:(0:Int)<(n:Int):=by omega
  have cO:=hid av;rw [<-hn,<-ar];clear hg hf hC hw aw aA aC aO hE hW ay h0 aH b1 az bp bx bz aV ai au av hR be aj ak bw hn ar;go_enter Tryz.func3,Tryz.ntmps3;go_upto_region 1 with (fail)
  rw [<-HW.out,<-bF.out.1];clear HW;go_upto_region 2 with (go_at_call 8;refine aX.out.mono ?_;rintro e w3 ⟨qa,qc,oa,oc,rfl,hq,ho,ax⟩;have aD:=hid ax;have Hq:=hid hq;have Ho:=hid ho;clear ax hq ho)
  obtain⟨W4,bf⟩:∃W4,W4=(w3.alloc (.cells #[.int .i64 R.state,.int .i64 R.value,.slice oa R.out.length oc,.int .i64 (R.steps:Int)] 29)).alloc (.cells #[.int .i64 0,.int .i64 0] 31):=⟨_,rfl⟩
  obtain⟨bP,aW,aP⟩:=abk w3 (.cells #[.int .i64 R.state,.int .i64 R.value,.slice oa R.out.length oc,.int .i64 (R.steps:Int)] 29) (.cells #[.int .i64 0,.int .i64 0] 31);rw [<-bf] at bP aW aP ⊢;have aM:Below w3.heap.size w3 W4:=by rw [bf];exact bE
  have aE:Hid (Below W.heap.size W W4):=aD.out.trans (aM.mono aD.out.size);have a6:Hid (Below w.heap.size w W4):=aY.out.trans (aE.out.mono aY.out.size);obtain⟨OB,bU⟩:∃b,b=w3.heap.size:=⟨_,rfl⟩
  obtain⟨EB,bQ⟩:∃b,b=w3.heap.size+1:=⟨_,rfl⟩
  rw [<-bQ] at aP ⊢;rw [<-bU] at aW ⊢;obtain⟨o0,o1,o2,o3⟩:=(aah (cs:=[_,_,_,_]) aW).get4;obtain⟨e0,e1⟩:=(aah (cs:=[_,_]) aP).get2;rw [Aab] at o1 o2 o3 e1;have cI:Hid (∀V,Below W4.heap.size W4 V->V.cell? ⟨OB,0,none⟩=some (.int .i64 R.state)∧V.cell? ⟨OB,1,none⟩=some (.int .i64 R.value)∧V.cell? ⟨OB,2,none⟩=some (.slice oa R.out.length oc)∧V.cell? ⟨OB,3,none⟩=some (.int .i64 (R.steps:Int))):=fun V hV=>⟨aab o0 hV,aab o1 hV,aab o2 hV,aab o3 hV⟩
  have cN:=hid (Ho.out.later aae aM);have cR:=hid (Hq.out.later aax aM);obtain⟨c0,c1⟩:=bG.out W4 aE.out;have z1:=aac c0;have z2:=aac e0;clear bf bP aW aP aM bU bQ zB o0 o1 o2 o3;have cv:=hid (cw.out W4 a6.out _ qa qc cR.out)
  --REST
  go_upto_region 5 with (go_at_call 9;refine cv.out.mono ?_;rintro e w5 ⟨va,vc,wa,wc,rfl,cg,b8,b2⟩;have bH:=hid b2;have cG:=hid cg;have cE:=hid b8;clear b2 cg b8)
  obtain⟨W5,bg⟩:∃W,W=(w5.alloc (.cells #[.slice va gs.length vc,.slice wa n wc] 25)).alloc (.cells #[.int .i64 0,.int .i64 0] 31):=⟨_,rfl⟩
  obtain⟨cp,aI,aQ⟩:=abk w5 (.cells #[.slice va gs.length vc,.slice wa n wc] 25) (.cells #[.int .i64 0,.int .i64 0] 31);rw [<-bg] at cp aI aQ ⊢;have bA:Below w5.heap.size w5 W5:=by rw [bg];exact bE
  have al:=hid bA;have aF:Hid (Below W4.heap.size W4 W5):=bH.out.trans (bA.mono bH.out.size);have a7:Hid (Below w.heap.size w W5):=a6.out.trans (aF.out.mono a6.out.size);obtain⟨VB,b0⟩:∃b,b=w5.heap.size:=⟨_,rfl⟩
  obtain⟨GB,bR⟩:∃b,b=w5.heap.size+1:=⟨_,rfl⟩
  rw [<-bR] at aQ ⊢;rw [<-b0] at aI ⊢;obtain⟨v0,v1⟩:=(aah (cs:=[_,_]) aI).get2;obtain⟨g0,g1⟩:=(aah (cs:=[_,_]) aQ).get2;rw [Aab] at v1 g1;have bM:Hid (∀V,Below W5.heap.size W5 V->(V.cell? ⟨VB,0,none⟩=some (.slice va gs.length vc)∧V.cell? ⟨VB,1,none⟩=some (.slice wa n wc))∧V.cell? ⟨GB,0,none⟩=some (.int .i64 0)):=fun V hV=>⟨⟨aab v0 hV,aab v1 hV⟩,aab g0 hV⟩
  obtain⟨c0,c1⟩:=bG.out W5 (aE.out.trans (aF.out.mono aE.out.size));have z1:=aac c0;clear bg cp aI aQ bA b0 bR v0 v1 g0 g1 e0 e1 z2;have cx:=hid (cy.out W5 a7.out);go_upto_region 6 with (go_at_call 10;refine cx.out.mono ?_;rintro e w6 ⟨ta,tc,sa,sc,rfl,ch,b9,b3⟩;have bI:=hid b3;have cH:=hid ch;have cF:=hid b9;clear b3 ch b9)
  obtain⟨W6,bh⟩:∃W,W=(w6.alloc (.cells #[.slice ta gs.length tc,.slice sa n sc] 25)).alloc (.cells #[.int .i64 0,.int .i64 0] 31):=⟨_,rfl⟩
  obtain⟨cq,aJ,aR⟩:=abk w6 (.cells #[.slice ta gs.length tc,.slice sa n sc] 25) (.cells #[.int .i64 0,.int .i64 0] 31);rw [<-bh] at cq aJ aR ⊢;have bB:Below w6.heap.size w6 W6:=by rw [bh];exact bE
  have an:=hid bB;have ao:Hid (Below W5.heap.size W5 W6):=bI.out.trans (bB.mono bI.out.size);have a8:Hid (Below w.heap.size w W6):=a7.out.trans (ao.out.mono a7.out.size);obtain⟨TB,bZ⟩:∃b,b=w6.heap.size:=⟨_,rfl⟩
  obtain⟨SB,bY⟩:∃b,b=w6.heap.size+1:=⟨_,rfl⟩
  rw [<-bY] at aR ⊢;rw [<-bZ] at aJ ⊢;obtain⟨t0,t1⟩:=(aah (cs:=[_,_]) aJ).get2;obtain⟨s0,s1⟩:=(aah (cs:=[_,_]) aR).get2;rw [Aab] at t1 s1;have bN:Hid (∀V,Below W6.heap.size W6 V->(V.cell? ⟨TB,0,none⟩=some (.slice ta gs.length tc)∧V.cell? ⟨TB,1,none⟩=some (.slice sa n sc))∧V.cell? ⟨SB,0,none⟩=some (.int .i64 0)):=fun V hV=>⟨⟨aab t0 hV,aab t1 hV⟩,aab s0 hV⟩
  obtain⟨⟨v0,v1⟩,g0⟩:=bM.out W6 ao.out;have z2:=aac v0;clear bh cq aJ aR bB bZ bY t0 t1 s0 s1 c0 c1 z1;have cA:=hid (HR.out W6 a8.out (iv W4.heap.size w5.heap.size) va vc wa wc Cs (.inl rfl) (fun b h=>Aap h.2 (Aag al.out.size ao.out.size)) ((cG.out.later aan al.out).later aan ao.out) ((cE.out.later aak al.out).later aak ao.out));go_upto_region 7 with (go_at_call 11;refine cA.out.mono ?_;rintro e w7 ⟨pa,pc,rfl,cm,b4⟩;have bJ:=hid b4;have cP:=hid cm;clear b4 cm)
  obtain⟨W7,bj⟩:∃W,W=(w7.alloc (.cells #[.int .i64 R.state,.int .i64 R.value,.slice pa R.out.length pc,.int .i64 (R.steps:Int)] 29)).alloc (.cells #[.int .i64 0,.int .i64 0] 31):=⟨_,rfl⟩
  obtain⟨ct,aK,aS⟩:=abk w7 (.cells #[.int .i64 R.state,.int .i64 R.value,.slice pa R.out.length pc,.int .i64 (R.steps:Int)] 29) (.cells #[.int .i64 0,.int .i64 0] 31);rw [<-bj] at ct aK aS ⊢;have bC:Below w7.heap.size w7 W7:=by rw [bj];exact bE
  have aZ:=hid bC;have aq:Hid (Below W6.heap.size W6 W7):=bJ.out.trans (bC.mono bJ.out.size);have bd:Hid (Below w.heap.size w W7):=a8.out.trans (aq.out.mono a8.out.size);obtain⟨PB,bV⟩:∃b,b=w7.heap.size:=⟨_,rfl⟩
  obtain⟨QB,bW⟩:∃b,b=w7.heap.size+1:=⟨_,rfl⟩
  rw [<-bW] at aS ⊢;rw [<-bV] at aK ⊢;obtain⟨p0,p1,p2,p3⟩:=(aah (cs:=[_,_,_,_]) aK).get4;obtain⟨q0,q1⟩:=(aah (cs:=[_,_]) aS).get2;rw [Aab] at p1 p2 p3 q1;have cJ:Hid (∀V,Below W7.heap.size W7 V->(V.cell? ⟨PB,0,none⟩=some (.int .i64 R.state)∧V.cell? ⟨PB,1,none⟩=some (.int .i64 R.value)∧V.cell? ⟨PB,2,none⟩=some (.slice pa R.out.length pc)∧V.cell? ⟨PB,3,none⟩=some (.int .i64 (R.steps:Int)))∧V.cell? ⟨QB,0,none⟩=some (.int .i64 0)):=fun V hV=>⟨⟨aab p0 hV,aab p1 hV,aab p2 hV,aab p3 hV⟩,aab q0 hV⟩
  obtain⟨⟨t0,t1⟩,s0⟩:=bN.out W7 aq.out;have z3:=aac t0;clear bj ct aK aS bC bV bW p0 p1 p2 p3 q0 q1 v0 v1 g0 z2;have cB:=hid (HR.out W7 bd.out (iv W5.heap.size w6.heap.size) ta tc sa sc (guessL fs) (.inr rfl) (fun b h=>Aap h.2 (Aag an.out.size aq.out.size)) ((cH.out.later aan an.out).later aan aq.out) ((cF.out.later aak an.out).later aak aq.out));go_upto_region 8 with (go_at_call 11;refine cB.out.mono ?_;rintro e w8 ⟨ma,mc,rfl,cj,b5⟩;have bK:=hid b5;have cL:=hid cj;clear b5 cj)
  obtain⟨W8,bk⟩:∃W,W=(w8.alloc (.cells #[.int .i64 R.state,.int .i64 R.value,.slice ma R.out.length mc,.int .i64 (R.steps:Int)] 29)).alloc (.cells #[.int .i64 0,.int .i64 0] 31):=⟨_,rfl⟩
  obtain⟨cu,aL,aT⟩:=abk w8 (.cells #[.int .i64 R.state,.int .i64 R.value,.slice ma R.out.length mc,.int .i64 (R.steps:Int)] 29) (.cells #[.int .i64 0,.int .i64 0] 31);rw [<-bk] at cu aL aT ⊢;have bD:Below w8.heap.size w8 W8:=by rw [bk];exact bE
  have a1:=hid bD;have aG:Hid (Below W7.heap.size W7 W8):=bK.out.trans (bD.mono bK.out.size);have cS:Hid (Below w.heap.size w W8):=bd.out.trans (aG.out.mono bd.out.size);obtain⟨MB,bS⟩:∃b,b=w8.heap.size:=⟨_,rfl⟩
  obtain⟨NB,bT⟩:∃b,b=w8.heap.size+1:=⟨_,rfl⟩
  rw [<-bT] at aT ⊢;rw [<-bS] at aL ⊢;obtain⟨m0,m1,m2,m3⟩:=(aah (cs:=[_,_,_,_]) aL).get4;obtain⟨n0,n1⟩:=(aah (cs:=[_,_]) aT).get2;rw [Aab] at m1 m2 m3 n1;have cK:Hid (∀V,Below W8.heap.size W8 V->V.cell? ⟨MB,0,none⟩=some (.int .i64 R.state)∧V.cell? ⟨MB,1,none⟩=some (.int .i64 R.value)∧V.cell? ⟨MB,2,none⟩=some (.slice ma R.out.length mc)∧V.cell? ⟨MB,3,none⟩=some (.int .i64 (R.steps:Int))):=fun V hV=>⟨aab m0 hV,aab m1 hV,aab m2 hV,aab m3 hV⟩
  have bu:=aq.out.trans (aG.out.mono aq.out.size);have bt:=ao.out.trans (bu.mono ao.out.size);have br:=aF.out.trans (bt.mono aF.out.size);obtain⟨⟨v0,v1⟩,g0⟩:=bM.out W8 bt;obtain⟨⟨t0,t1⟩,s0⟩:=bN.out W8 bu;obtain⟨⟨p0,p1,p2,p3⟩,q0⟩:=cJ.out W8 aG.out;obtain⟨o0,o1,o2,o3⟩:=cI.out W8 br;have bO:=hid (cN.out.later aae br);have cQ:=hid ((cP.out.later aae aZ.out).later aae aG.out);have cM:=hid (cL.out.later aae a1.out);have av:R.out.length<=1048576:=by have:=cO.out;omega
  have cC:=hid (aeE (S:=fun b=>W.heap.size<=b) (S':=fun b=>W6.heap.size<=b) oa pa oc pc R.out R.state R.value (R.steps:Int) W8 bO.out cQ.out av);have cD:Hid (∀V,Below W8.heap.size W8 V->Calls Tryz.prog 12 #[.agg #[.int .i64 R.state,.int .i64 R.value,.slice oa R.out.length oc,.int .i64 (R.steps:Int)],.agg #[.int .i64 R.state,.int .i64 R.value,.slice ma R.out.length mc,.int .i64 (R.steps:Int)]] V fun e w'=>e = .returned (.bool true)∧Below V.heap.size V w'):=fun V hV=>aeE (S:=fun b=>W.heap.size<=b) (S':=fun b=>W7.heap.size<=b) oa ma oc mc R.out R.state R.value (R.steps:Int) V (bO.out.later aae hV) (cM.out.later aae hV) av;have cz:Hid (∀V,Below W8.heap.size W8 V->V.cell? ⟨OB,0,none⟩=some (.int .i64 R.state)∧V.cell? ⟨OB,1,none⟩=some (.int .i64 R.value)∧V.cell? ⟨OB,2,none⟩=some (.slice oa R.out.length oc)∧V.cell? ⟨OB,3,none⟩=some (.int .i64 (R.steps:Int))):=fun V hV=>⟨aab o0 hV,aab o1 hV,aab o2 hV,aab o3 hV⟩
  have y1:=aac o0;have y2:=aac v0;have y3:=aac g0;have y4:=aac t0;have y5:=aac s0;have y6:=aac p0;have y7:=aac q0;have y8:=aac m0;have y9:=aac n0;clear bk cu aL aT bD bS bT bu bt br av z3
  go_wp2_with (first
   | (go_at_call 12; refine (cD.out _ bL.out).mono ?_; rintro e cV ⟨rfl, bl⟩)
   | (go_at_call 12; refine cC.out.mono ?_; rintro e w9 ⟨rfl, aN⟩; obtain ⟨o0, o1, o2, o3⟩ := cz.out w9 aN; obtain ⟨m0, m1, m2, m3⟩ := cK.out w9 aN; have y1 := aac o0; have y8 := aac m0; have bL := hid aN; clear aN))
  go_ret;exact⟨rfl,by have h:=cS.out;have h9:=bL.out;exact bE3 bl h9 h⟩
end
end Go.Proofs.YtnkfdeiigplhoaaGreatDoor
