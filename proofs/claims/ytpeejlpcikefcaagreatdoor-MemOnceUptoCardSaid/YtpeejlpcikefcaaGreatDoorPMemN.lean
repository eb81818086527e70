import Derived.Test.YtpeejlpcikefcaaGreatDoorPUnSt
/- mem.known. -/
namespace Go.Proofs.YtpeejlpcikefcaaGreatDoor
open Go.RowKit
theorem aqU:(Tryz.prog.info? 74).map (fun i=>(i.zero,i.size,i.bytes))=some (some (.agg #[.bool false,.int .i64 0,.bool false,.int .i64 0]),4,32):=by kernel_rfl
theorem aeF (a : aay) : ∀ T : List (aay × aay), afF (asO a) (T.map abg) = (T.filter fun w => abX w.1 a).map abg
 | []=>rfl
 | x :: T=>by
   have ih:=aeF a T;unfold afF at ih ⊢;have e:asO a (abg x)=!abX x.1 a:=rfl;rw [Aa3,List.filter_cons,List.filter_cons,e,Bool.not_not,ih];split <;> rfl
variable {w:World}{S:Nat->Prop}
theorem adj.del{wr W':World}{WB:Nat}{vo vw v':Value}{xs:List (List Value)}{s:List (aay×aay)×List aaJ}{T:List (aay×aay)}(h:adj w WB S wr vo vw xs s)(hS:∀c,S c->c<w.heap.size)(hk:Kp (fun c=>vw.ownBlock≠some c) wr W')(hr:ac7 W' (WB+1) 74 4 v' (T.map abg))(hv:∀c,v'.ownBlock=some c->vw.ownBlock=some c) :
 adj w WB S (W'.setCell ⟨WB,0,none⟩ v') vo v' xs (T,s.2):=by
 have ak:=h.low;have aJ:=h.wb;have cP:vw.ownBlock≠some WB:=fun e=>by have:=(ak.2 WB e).1;omega
 have b4:Below w.heap.size w W':=h.below.trans (hk.below fun b hb=>⟨Aay hb h.below.size,fun e=>by have:=(ak.2 b e).1;omega⟩);have b5:W'.heap[WB]?=some (.cells #[vw] 71 (0,0)):=(hk.block WB h.size cP).trans h.cell;have b6:ab1 W' (WB+1) S vo s.2 xs:=h.out.kp hk (fun c hc e=>h.apart c e hc) (fun c hc e=>by have:=(ak.2 c e).1;have:=hS c hc;omega);have cq:Kp (fun c=>c≠WB) W' (W'.setCell ⟨WB,0,none⟩ v'):=aaQ W' WB 0 v';exact⟨b4.trans (cq.below fun b hb=>⟨Aay hb b4.size,by omega⟩),h.wb,aak b5 v',b6.kp cq (fun c hc e=>by have:=(b6.row.lt c hc).1;omega) (fun c hc e=>by have:=hS c hc;omega),hr.off (cq.less fun c hc e=>by have:=(hr.lt c hc).1;omega),fun c hc=>h.apart c (hv c hc)⟩
theorem adj.box{wr:World}{WB IB:Nat}{vo vw:Value}{xs:List (List Value)}{s:List (aay×aay)×List aaJ}(h:adj w WB S wr vo vw xs s)(hS:∀c,S c->c<w.heap.size){W':World}(hk:Kp (fun c=>c≠IB) wr W')(h1:WB<IB)(h2:vo.ownBlock≠some IB)(h3:vw.ownBlock≠some IB):adj w WB S W' vo vw xs s :=
 h.kp hk hS (fun c hc e=>by have:=h.wb;omega) (by omega) (fun c hc e=>by subst e;exact h2 hc) (fun c hc e=>by subst e;exact h3 hc)
theorem asB{v:Value}{l:List aaJ}(h:SlAt S w 8 acb v l):∀y∈l,I64 y.dst∧I64 y.b.n:=fun y hy=>by
 obtain⟨i,hi⟩:=List.mem_iff_getElem?.1 hy;obtain⟨ao,c,-,-,-,hr⟩:=h;obtain⟨b,off,-,-,bT⟩:=hr (fun e=>by rw [e] at hy;cases hy);obtain⟨cs,⟨v2,-,-,-,h2,-,h4,-⟩,-,-⟩:=bT i y hi;exact⟨h2,h4⟩
theorem akD {a v : aay} : ∀ {T : List (aay × aay)}, abK T a = some v -> ∃ x ∈ T, x.2 = v
 | [],h=>by cases h
 | x :: T,h=>by
   rw [acA] at h
   by_cases e:eqV x.1 a=true
   . rw [if_pos e] at h
     injection h with h;exact⟨x,Aa2 ..,h⟩
   . rw [if_neg e] at h
     obtain⟨z,h1,h2⟩:=akD h;exact⟨z,Aa0 _ h1,h2⟩
theorem atx {l:List aaJ}(hl:∀y∈l,I64 y.dst∧I64 y.b.n){T:List (aay×aay)}(hT:∀w∈T,ap3 l w.2){a v:aay}(h:abK T a=some v):I64 v.n:=by
 obtain⟨x,hx,rfl⟩:=akD h;rcases hT x hx with h1 | ⟨y,hy,⟨-,e⟩ | ⟨-,e⟩⟩
 . exact h1.2
 . rw [e];exact (hl y hy).2
 . rw [e];exact (hl y hy).1
set_option maxRecDepth 100000 in
set_option maxHeartbeats 8000000 in
theorem akE(la:Option Addr)(lc:Nat)(l:List aaJ)(n:Nat)(w:World)(hl:SlAt S w 8 acb (.slice la n lc) l)(cC:l.length=n)(hn:n<=1048576)(hS:∀c,S c->c<w.heap.size) :
 Calls Tryz.prog 17 #[.slice la n lc] w fun e w'=>∃a m c xs,e = .returned (.slice a m c)∧m=xs.length∧ab1 w' (w.heap.size+1) S (.slice a m c) (akw l) xs∧Below w.heap.size w w':=by
 have cc:=hid (asB hl);have Hl:=hid hl;have ca:=hid cC;have HS:=hid hS;obtain⟨ii,bO,a8,be,bg⟩:=info_parts ahr;obtain⟨iw,bZ,bB,bF,bx⟩:=info_parts aqU;obtain⟨W,hW⟩:∃W,W=w.alloc (.cells #[.slice none 0 0] 71):=⟨_,rfl⟩
 have cE:Below w.heap.size w W:=by rw [hW];exact bE
 have bS:adj w w.heap.size S W (.slice none 0 0) (.slice none 0 0) [] ([],[]):=adj.start hW cE;obtain⟨WB,cg⟩:∃WB,WB=w.heap.size:=⟨_,rfl⟩
 rw [<-cg] at bS;have cu:=hid bS;have HW:=hid hW;have cz:=hid cg;clear hl cC hS hW cE bS cg;go_enter Tryz.func17,Tryz.ntmps17;go_upto_region 2 with (fail)
 rw [<-HW.out,<-cz.out];go_wp2_with fail;go_loopw [5,15] (fun s5 s15 wr=>∃(k:Nat) (vo vw:Value) (xs:List (List Value)),vo=s5∧k<=n∧s15 = .int .i64 (k:Int)∧adj w WB S wr vo vw xs ((l.take k).foldl aaI ([],[]))) (fun _ s15 _=>n - (intOf s15).toNat)
 case atStart=>exact⟨0,_,_,_,rfl,Aaj _,rfl,cu.out⟩
 case round =>
  obtain⟨wi,cN⟩:∃wi:World,wi=wr:=⟨_,rfl⟩
  subst cN;obtain⟨k,vo,vw,xs,rfl,hk,rfl,bD⟩:=hrel;obtain⟨oa,oc,cH⟩:=bD.out.slice;subst cH;obtain⟨on,bX⟩:∃on,on=xs.length:=⟨_,rfl⟩
  rw [<-bX] at bD ⊢
  by_cases hkn:k<n
  . have cj:k<l.length:=by rw [ca.out];exact hkn
    have hy:l[k]?=some l[k]:=Aaa cj;obtain⟨y,ct⟩:∃y,y=l[k]:=⟨_,rfl⟩
    rw [<-ct] at hy;have cm:=Hl.out.later aax bD.below;rw [<-ca.out] at cm;obtain⟨ob,oo,aa,ac,cO,bT,a7,bH⟩:=ama cm cj;rw [<-ct] at bT a7 bH;subst cO;obtain⟨s,hs⟩:∃s,s=(l.take k).foldl aaI ([],[]):=⟨_,rfl⟩
    have bN:(l.take (k+1)).foldl aaI ([],[])=aaI s y:=by rw [hs];exact abk aaI _ hy
    rw [<-hs] at bD;have cp:k<=l.length:=by rw [ca.out];exact hk
    have bL:=(ai2 l k cp).2.2;rw [<-hs] at bL;have hT:s.1.length<=1048576:=by
     have:s.1.length<=k:=by rw [hs];exact arK l k cp
     omega
    have ck:=(ai2 l k cp).2.1;rw [<-hs] at ck;have cJ:=hid ck;clear ck;have b7:xs.length<=1048576:=by rw [bD.out.len];omega
    obtain⟨yo,yd,⟨ar,an⟩,⟨br,bn⟩,yf,ag⟩:=y;dsimp only at bT a7 bH;obtain⟨al,cw⟩:∃al,al=ag.length:=⟨_,rfl⟩
    rw [<-cw] at bT a7;have cx:acb S wi [.int .i64 yo,.int .i64 yd,.bool ar,.int .i64 an,.bool br,.int .i64 bn,.int .i64 yf,.slice aa al ac] ⟨yo,yd,⟨ar,an⟩,⟨br,bn⟩,yf,ag⟩:=⟨_,rfl,a7,bH⟩
    obtain⟨d0,d1,d2,d3,d4,d5,d6,d7⟩:=bT.get8;have zo:=aac d0;obtain⟨wn,cn⟩:∃wn,wn=s.1.length:=⟨_,rfl⟩
    obtain⟨wa,wc,cK⟩:∃a c,vw = .slice a wn c:=by
     obtain⟨a,c,e⟩:=aao bD.words.own;exact⟨a,c,by rw [e,Aah,cn]⟩
    subst cK;have bU:=hid bD;have aI:=hid bN;have HT:=hid hT;have bj:=hid b7;have bG:=hid cx;have cF:=hid bX;have bM:=hid cn;clear bD bN bL hT b7 cx bX cn hs cm bT a7 bH cw hy ct cj;go_upto_region 7 with (fail)
    obtain⟨IB,b9⟩:∃IB,IB=wi.heap.size:=⟨_,rfl⟩
    obtain⟨W4,b8⟩:∃V,V=wi.alloc (.cells #[.int .i64 yo,.int .i64 yd,.bool ar,.int .i64 an,.bool br,.int .i64 bn,.int .i64 yf,.slice aa al ac] 49):=⟨_,rfl⟩
    have cr:W4.heap[IB]?=some (.cells #[.int .i64 yo,.int .i64 yd,.bool ar,.int .i64 an,.bool br,.int .i64 bn,.int .i64 yf,.slice aa al ac] 49 (0,0)):=by rw [b8,b9];exact heap_alloc_new _ _
    have cf:Below wi.heap.size wi W4:=by rw [b8];exact bE
    have cQ:W4.heap.size=IB+1:=by rw [b8,b9];simp
    rw [<-b8,<-b9];have ak:=bU.out.low;have cG:WB<IB:=by rw [b9];exact bU.out.size
    have cA:(Value.slice oa on oc).ownBlock≠some IB:=fun e=>by have:=(ak.1 IB e).2;omega
    have cD:(Value.slice wa wn wc).ownBlock≠some IB:=fun e=>by have:=(ak.2 IB e).2;omega
    have HX : Hid (∀ V, Below W4.heap.size W4 V -> _) := fun V hV => (by
     have h := (aad (cs := [.int .i64 yo, .int .i64 yd, .bool ar, .int .i64 an, .bool br, .int .i64 bn, .int .i64 yf, .slice aa al ac]) ((hV.block IB (by omega)).trans cr)).get8
     simp only [Aab] at h
     exact h : V.cell? ⟨IB, 0, none⟩ = some (.int .i64 yo) ∧ V.cell? ⟨IB, 1, none⟩ = some (.int .i64 yd) ∧ V.cell? ⟨IB, 2, none⟩ = some (.bool ar) ∧ V.cell? ⟨IB, 3, none⟩ = some (.int .i64 an) ∧ V.cell? ⟨IB, 4, none⟩ = some (.bool br) ∧ V.cell? ⟨IB, 5, none⟩ = some (.int .i64 bn) ∧ V.cell? ⟨IB, 6, none⟩ = some (.int .i64 yf) ∧ V.cell? ⟨IB, 7, none⟩ = some (.slice aa al ac))
    have bP:Hid (∀V,Below W4.heap.size W4 V->V.heap[IB]?=some (.cells #[.int .i64 yo,.int .i64 yd,.bool ar,.int .i64 an,.bool br,.int .i64 bn,.int .i64 yf,.slice aa al ac] 49 (0,0))):=fun V hV=>(hV.block IB (by omega)).trans cr;have aN:=hid (bU.out.later cf);have bI:=hid cf;have aM:=hid (And.intro cG (And.intro cA cD));obtain⟨x0,x1,x2,x3,x4,x5,x6,x7⟩:=HX.out W4 (Below.refl _ _);have zX:=aac x0;obtain⟨c0,fz⟩:=aN.out.get;have zW:=aac c0;have cB:WB+1<=W4.heap.size:=by omega
    have aV:=hid cB;have f0:=fz 0;clear b9 b8 cr cf cQ ak cG cA cD fz cB d0 d1 d2 d3 d4 d5 d6 d7 zo
    by_cases h18:yo=18
    . subst h18
      have av:=ahW (WB+1) WB (.slice wa wn wc) s.1 ar an W4 c0 aN.out.words HT.out;cases hf:abK s.1 ⟨ar,an⟩ with
      | some v =>
        obtain⟨vr,vn⟩:=v;have cy:=atx cc.out cJ.out hf;have cL:=hid cy;have Hz:Hid (aaI s ⟨18,yd,⟨ar,an⟩,⟨br,bn⟩,yf,ag⟩=(s.1,s.2++[⟨1,yd,⟨vr,vn⟩,⟨false,0⟩,0,[]⟩])):=by
         show _=_;unfold aaI;rw [if_pos (show (18:Int)=18 from rfl)];dsimp only;rw [hf];rfl
        rw [hf] at av;simp only [ao9] at av;have aD:=hid av;clear hf cy av;go_upto_region 10 with (go_at_call 34;refine aD.out.mono ?_;rintro e w5 ⟨rfl,aA⟩;have aS:=hid aA;have x0:=aab x0 aA;have c0:=aab c0 aA;have zX:=aac x0;have zW:=aac c0;clear aA)
        obtain⟨W6,az⟩:∃V,V=w5.alloc (.cells #[.bool vr,.int .i64 vn] 41):=⟨_,rfl⟩
        obtain⟨CB,aK⟩:∃CB,CB=w5.heap.size:=⟨_,rfl⟩
        have aQ:Below w5.heap.size w5 W6:=by rw [az];exact bE
        have aR:W6.heap[CB]?=some (.cells #[.bool vr,.int .i64 vn] 41 (0,0)):=by rw [az,aK];exact heap_alloc_new _ _
        rw [<-az,<-aK];obtain⟨k0,k1⟩:=(aad (cs:=[_,_]) aR).get2;rw [Aab] at k1;have zC:=aac k0;have af:Below W4.heap.size W4 W6:=aS.out.trans (aQ.mono aS.out.size);have au:adj w WB S W6 (.slice oa on oc) (.slice wa wn wc) xs s:=aN.out.later af;have ah:=hid au;have bu:=hid af;obtain⟨x0,x1,x2,x3,x4,x5,x6,x7⟩:=HX.out W6 af;have zX:=aac x0;obtain⟨c0,fz⟩:=au.get;have f0:=fz 0;have zW:=aac c0;have aL:Hid (WB+1<=W6.heap.size):=Aai aV.out af.size;have aC:=hid (bP.out W6 af);have aO:Hid (acb S W6 [.int .i64 18,.int .i64 yd,.bool ar,.int .i64 an,.bool br,.int .i64 bn,.int .i64 yf,.slice aa al ac] ⟨18,yd,⟨ar,an⟩,⟨br,bn⟩,yf,ag⟩):=aax.out _ _ _ _ _ _ (fun _ h=>h) ((aaS.below' bI.out).trans (aaS.below' af)) bG.out;clear az aK aQ aR af au fz;have g0:=aaq aC.out 0;have g1:=aaq aC.out 1;have g2:=aaq aC.out 2;have g3:=aaq aC.out 3;have g4:=aaq aC.out 4;have g5:=aaq aC.out 5;have g6:=aaq aC.out 6;have g7:=aaq aC.out 7;go_upto_region 20 with (fail)
        obtain⟨WZ,aH⟩:∃V,V=((((((((W6.setCell ⟨IB,0,none⟩ (.int .i64 1)).setCell ⟨IB,1,none⟩ (.int .i64 yd)).setCell ⟨IB,2,none⟩ (.bool vr)).setCell ⟨IB,3,none⟩ (.int .i64 vn)).setCell ⟨IB,4,none⟩ (.bool false)).setCell ⟨IB,5,none⟩ (.int .i64 0)).setCell ⟨IB,6,none⟩ (.int .i64 0)).setCell ⟨IB,7,none⟩ (.slice none 0 0)):=⟨_,rfl⟩
        rw [<-aH];have bf:WZ.heap[IB]?=some (.cells #[.int .i64 1,.int .i64 yd,.bool vr,.int .i64 vn,.bool false,.int .i64 0,.int .i64 0,.slice none 0 0] 49 (0,0)):=by rw [aH];exact (aak (aak (aak (aak (aak (aak (aak (aak aC.out _) _) _) _) _) _) _) _)
        have aB:Kp (fun c=>c≠IB) W6 WZ:=by rw [aH];exact (aaD (aaD (aaD (aaD (aaD (aaD (aaD (aaQ W6 IB 0 _) _ _) _ _) _ _) _ _) _ _) _ _) _ _)
        have aw:=hid (ah.out.box HS.out aB aM.out.1 aM.out.2.1 aM.out.2.2);have bp:Hid (WB+1<=WZ.heap.size):=Aai aL.out aB.size;have cM:Hid (I64 yd):=bG.out.choose_spec.2.2.2.1;have bo:Hid (acb S WZ [.int .i64 1,.int .i64 yd,.bool vr,.int .i64 vn,.bool false,.int .i64 0,.int .i64 0,.slice none 0 0] ⟨1,yd,⟨vr,vn⟩,⟨false,0⟩,0,[]⟩):=⟨_,rfl,⟨none,0,rfl,Aac _,by decide,fun h=>absurd rfl h⟩,agt 1 (by decide) (by decide),cM.out,cL.out,agt 0 (by decide) (by decide),agt 0 (by decide) (by decide)⟩
        obtain⟨x0,x1,x2,x3,x4,x5,x6,x7⟩:=(aad (cs:=[_,_,_,_,_,_,_,_]) bf).get8;rw [Aab] at x1 x2 x3 x4 x5 x6 x7;have zX:=aac x0;clear aH bf aB g0 g1 g2 g3 g4 g5 g6 g7 c0 f0 zW k0 k1 zC;go_wp2_with (at_builtin;refine wpList_append_own_at _ rfl _ _ 39 rfl (WB+1) 49 ii (.agg #[.int .i64 0,.int .i64 0,.bool false,.int .i64 0,.bool false,.int .i64 0,.int .i64 0,.slice none 0 0]) 8 80 Tryz.underlying39 bO a8 be bg rfl (by decide) (.slice oa on oc) xs.length xs.flatten rfl (aan aw.out.out.row.own bE) ⟨WZ.heap.size,0,none⟩ 1 1 [.int .i64 1,.int .i64 yd,.bool vr,.int .i64 vn,.bool false,.int .i64 0,.int .i64 0,.slice none 0 0] rfl rfl (aaB WZ _ _ rfl) (by intro u hu;simp only [Aam,Aao,or_false] at hu;rcases hu with rfl | rfl | rfl | rfl | rfl | rfl | rfl | rfl <;> rfl) (by have:=bj.out;unfold maxLen;omega) (by have:=bj.out;omega) (by have:=bp.out;simp;omega) ?_);intro v9 w9 ae ad _ ai;obtain⟨bd,bh,rfl⟩:=aao ae;have ay:Below WZ.heap.size WZ (WZ.alloc (.cells #[.int .i64 1,.int .i64 yd,.bool vr,.int .i64 vn,.bool false,.int .i64 0,.int .i64 0,.slice none 0 0] 49)):=by exact bE
        have aq:=aw.out.snoc HS.out ay rfl bo.out ae ad (by rcases ai with h | h;exact .inl h;exact .inr (by first | exact h | (rw [h];simp)));rw [<-Hz.out] at aq;have aF:=hid aq;clear ae ad ai ay aq;go_wp2_with fail;go_roundw
        case rel=>exact⟨k+1,_,_,_,rfl,by omega,by go_num,by rw [aI.out];exact aF.out⟩
        case measure=>simp [intOf];omega
      | none =>
        have Hz:Hid (aaI s ⟨18,yd,⟨ar,an⟩,⟨br,bn⟩,yf,ag⟩=(s.1++[(⟨ar,an⟩,⟨true,yd⟩)],s.2++[⟨18,yd,⟨ar,an⟩,⟨br,bn⟩,yf,ag⟩])):=by
         show _=_;unfold aaI;rw [if_pos (show (18:Int)=18 from rfl)];dsimp only;rw [hf]
        rw [hf] at av;simp only [ao9] at av;have aD:=hid av;have a6:=aM.out.2.2;clear hf av;go_upto_region 10 with (go_at_call 34;refine aD.out.mono ?_;rintro e w5 ⟨rfl,aA⟩;have aS:=hid aA;have x0:=aab x0 aA;have c0:=aab c0 aA;have zX:=aac x0;have zW:=aac c0;clear aA)
        obtain⟨W6,az⟩:∃V,V=w5.alloc (.cells #[.bool false,.int .i64 0] 41):=⟨_,rfl⟩
        obtain⟨CB,aK⟩:∃CB,CB=w5.heap.size:=⟨_,rfl⟩
        have aQ:Below w5.heap.size w5 W6:=by rw [az];exact bE
        have aR:W6.heap[CB]?=some (.cells #[.bool false,.int .i64 0] 41 (0,0)):=by rw [az,aK];exact heap_alloc_new _ _
        rw [<-az,<-aK];obtain⟨k0,k1⟩:=(aad (cs:=[_,_]) aR).get2;rw [Aab] at k1;have zC:=aac k0;have af:Below W4.heap.size W4 W6:=aS.out.trans (aQ.mono aS.out.size);have au:adj w WB S W6 (.slice oa on oc) (.slice wa wn wc) xs s:=aN.out.later af;have ah:=hid au;have bu:=hid af;obtain⟨x0,x1,x2,x3,x4,x5,x6,x7⟩:=HX.out W6 af;have zX:=aac x0;obtain⟨c0,fz⟩:=au.get;have f0:=fz 0;have zW:=aac c0;have aL:Hid (WB+1<=W6.heap.size):=Aai aV.out af.size;have aC:=hid (bP.out W6 af);have aO:Hid (acb S W6 [.int .i64 18,.int .i64 yd,.bool ar,.int .i64 an,.bool br,.int .i64 bn,.int .i64 yf,.slice aa al ac] ⟨18,yd,⟨ar,an⟩,⟨br,bn⟩,yf,ag⟩):=aax.out _ _ _ _ _ _ (fun _ h=>h) ((aaS.below' bI.out).trans (aaS.below' af)) bG.out;clear az aK aQ aR af au fz;go_upto_region 20 with
         (at_builtin; refine wpList_append_own_at _ rfl _ _ 71 rfl (WB + 1) 74 iw (.agg #[.bool false, .int .i64 0, .bool false, .int .i64 0]) 4 32 Tryz.underlying71 bZ bB bF bx rfl (by decide) (.slice wa wn wc) (s.1).length ((s.1).map abg).flatten rfl (aan (by have h := ah.out.words.own; rw [Aah] at h; exact h) bE) ⟨W6.heap.size, 0, none⟩ 1 1 [.bool ar, .int .i64 an, .bool true, .int .i64 yd] rfl rfl (aaB W6 _ _ rfl) (by intro u hu; simp only [Aam, Aao, or_false] at hu; rcases hu with rfl | rfl | rfl | rfl <;> rfl) (by have := HT.out; unfold maxLen; omega) (by have := HT.out; omega) (by have := aL.out; simp; omega) ?_
          intro v9 w9 ae ad _ ai
          obtain ⟨bd, bh, rfl⟩ := aao ae
          have ay : Below W6.heap.size W6 (W6.alloc (.cells #[.bool ar, .int .i64 an, .bool true, .int .i64 yd] 74)) := by exact bE
          have HP := hid (ah.out.push HS.out ay (x := (⟨ar, an⟩, ⟨true, yd⟩)) ae ad (by rcases ai with h | h; exact .inl h; exact .inr (by first | exact h | (rw [h]; simp))))
          have aX : Kp (fun c => (Value.slice wa wn wc).ownBlock ≠ some c) W6 w9 := (Kp.of ay).trans ⟨ad.os, ad.tape, ad.output, ad.size, fun c hc hF => ad.block c hc fun e => hF e.symm⟩
          have bK := hid aX
          have aJ := ah.out.size
          have ak := ah.out.low
          have aT := (aX.block WB aJ (fun e => by have := (ak.2 WB e).1; omega)).trans ah.out.cell
          have c0 := (aad (cs := [_]) aT).get1
          have f0 := aaq aT 0
          have zW := aac c0
          clear ae ad ai ay aX aJ ak aT)
        obtain⟨WZ,aH⟩:∃V,V=w9.setCell ⟨WB,0,none⟩ (.slice bd ((s.1).length+1) bh):=⟨_,rfl⟩
        rw [<-aH] at HP ⊢;have aB:Kp (fun c=>(Value.slice wa wn wc).ownBlock≠some c∧c≠WB) W6 WZ:=by
         rw [aH];exact (bK.out.less fun c h=>h.1).trans ((aaQ w9 WB 0 _).less fun c h=>h.2)
        have bf:=(aB.block IB (Aag.1 aC.out).1 ⟨a6,fun e=>by have:=aM.out.1;omega⟩).trans aC.out;obtain⟨x0,x1,x2,x3,x4,x5,x6,x7⟩:=(aad (cs:=[_,_,_,_,_,_,_,_]) bf).get8;rw [Aab] at x1 x2 x3 x4 x5 x6 x7;have zX:=aac x0;have aw:=HP;have bp:Hid (WB+1<=WZ.heap.size):=Aai aL.out aB.size;have bo:Hid (acb S WZ [.int .i64 18,.int .i64 yd,.bool ar,.int .i64 an,.bool br,.int .i64 bn,.int .i64 yf,.slice aa al ac] ⟨18,yd,⟨ar,an⟩,⟨br,bn⟩,yf,ag⟩):=aax.out _ _ _ _ _ _ (fun _ h=>h) (aB.stays fun c hc=>⟨fun e=>by have h1:=HS.out c hc;have h2:=(ah.out.low.2 c e).1;have h3:=ah.out.wb;omega,fun e=>by have h1:=HS.out c hc;have h3:=ah.out.wb;omega⟩) aO.out;clear aH aB bf c0 f0 zW HP;clear k0 k1 zC;go_wp2_with (at_builtin;refine wpList_append_own_at _ rfl _ _ 39 rfl (WB+1) 49 ii (.agg #[.int .i64 0,.int .i64 0,.bool false,.int .i64 0,.bool false,.int .i64 0,.int .i64 0,.slice none 0 0]) 8 80 Tryz.underlying39 bO a8 be bg rfl (by decide) (.slice oa on oc) xs.length xs.flatten rfl (aan aw.out.out.row.own bE) ⟨WZ.heap.size,0,none⟩ 1 1 [.int .i64 18,.int .i64 yd,.bool ar,.int .i64 an,.bool br,.int .i64 bn,.int .i64 yf,.slice aa al ac] rfl rfl (aaB WZ _ _ rfl) (by intro u hu;simp only [Aam,Aao,or_false] at hu;rcases hu with rfl | rfl | rfl | rfl | rfl | rfl | rfl | rfl <;> rfl) (by have:=bj.out;unfold maxLen;omega) (by have:=bj.out;omega) (by have:=bp.out;simp;omega) ?_);intro v9 w9 ae ad _ ai;obtain⟨bd,bh,rfl⟩:=aao ae;have ay:Below WZ.heap.size WZ (WZ.alloc (.cells #[.int .i64 18,.int .i64 yd,.bool ar,.int .i64 an,.bool br,.int .i64 bn,.int .i64 yf,.slice aa al ac] 49)):=by exact bE
        have aq:=aw.out.snoc HS.out ay rfl bo.out ae ad (by rcases ai with h | h;exact .inl h;exact .inr (by first | exact h | (rw [h];simp)));rw [<-Hz.out] at aq;have aF:=hid aq;clear ae ad ai ay aq;go_wp2_with fail;go_roundw
        case rel=>exact⟨k+1,_,_,_,rfl,by omega,by go_num,by rw [aI.out];exact aF.out⟩
        case measure=>simp [intOf];omega
    . have cb:(decide (yo<=18)&&decide (18<=yo))=false:=abI h18
      by_cases h19:yo=19
      . subst h19
        have av:=ahW (WB+1) WB (.slice wa wn wc) s.1 ar an W4 c0 aN.out.words HT.out;cases hf:abK s.1 ⟨ar,an⟩ with
        | some v =>
          obtain⟨vr,vn⟩:=v;rw [hf] at av;simp only [ao9] at av;have aD:=hid av;clear av
          by_cases hv:vr=br∧vn=bn
          . obtain⟨rfl,rfl⟩:=hv
            have Hz:Hid (aaI s ⟨19,yd,⟨ar,an⟩,⟨vr,vn⟩,yf,ag⟩=s):=by
             show _=_;unfold aaI;rw [if_neg (show ¬(19:Int)=18 by decide),if_pos (show (19:Int)=19 from rfl),if_pos hf]
            clear hf h18 cb;go_upto_region 15 with (go_at_call 34;refine aD.out.mono ?_;rintro e w5 ⟨rfl,aA⟩;have aS:=hid aA;have x0:=aab x0 aA;have c0:=aab c0 aA;have zX:=aac x0;have zW:=aac c0;clear aA)
            obtain⟨W6,az⟩:∃V,V=w5.alloc (.cells #[.bool vr,.int .i64 vn] 41):=⟨_,rfl⟩
            obtain⟨CB,aK⟩:∃CB,CB=w5.heap.size:=⟨_,rfl⟩
            have aQ:Below w5.heap.size w5 W6:=by rw [az];exact bE
            have aR:W6.heap[CB]?=some (.cells #[.bool vr,.int .i64 vn] 41 (0,0)):=by rw [az,aK];exact heap_alloc_new _ _
            rw [<-az,<-aK];obtain⟨k0,k1⟩:=(aad (cs:=[_,_]) aR).get2;rw [Aab] at k1;have zC:=aac k0;have af:Below W4.heap.size W4 W6:=aS.out.trans (aQ.mono aS.out.size);have au:adj w WB S W6 (.slice oa on oc) (.slice wa wn wc) xs s:=aN.out.later af;have ah:=hid au;have bu:=hid af;obtain⟨x0,x1,x2,x3,x4,x5,x6,x7⟩:=HX.out W6 af;have zX:=aac x0;obtain⟨c0,fz⟩:=au.get;have f0:=fz 0;have zW:=aac c0;have aL:Hid (WB+1<=W6.heap.size):=Aai aV.out af.size;have aC:=hid (bP.out W6 af);have aO:Hid (acb S W6 [.int .i64 19,.int .i64 yd,.bool ar,.int .i64 an,.bool vr,.int .i64 vn,.int .i64 yf,.slice aa al ac] ⟨19,yd,⟨ar,an⟩,⟨vr,vn⟩,yf,ag⟩):=aax.out _ _ _ _ _ _ (fun _ h=>h) ((aaS.below' bI.out).trans (aaS.below' af)) bG.out;clear az aK aQ aR af au fz;clear c0 f0 zW;go_wp2_with fail;go_roundw
            case rel=>exact⟨k+1,_,_,_,rfl,by omega,by go_num,by rw [aI.out,Hz.out];exact ah.out⟩
            case measure=>simp [intOf];omega
          . have a1:¬abK s.1 ⟨ar,an⟩=some ⟨br,bn⟩:=fun e=>by
             rw [hf] at e;injection e with e;injection e with e1 e2;exact hv ⟨e1,e2⟩
            have bW:(vr=br∧(decide (vn<=bn)&&decide (bn<=vn))=false)∨(vr=true∧br=false)∨(vr=false∧br=true):=by
             cases vr <;> cases br
             . exact .inl ⟨rfl,abI fun e=>hv ⟨rfl,e⟩⟩
             . exact .inr (.inr ⟨rfl,rfl⟩)
             . exact .inr (.inl ⟨rfl,rfl⟩)
             . exact .inl ⟨rfl,abI fun e=>hv ⟨rfl,e⟩⟩
            clear hf hv h18 cb;rcases bW with⟨hvr,q0⟩ | ⟨hvr,hbr⟩ | ⟨hvr,hbr⟩
            . subst hvr
              have Hz:Hid (aaI s ⟨19,yd,⟨ar,an⟩,⟨vr,bn⟩,yf,ag⟩=(s.1.filter (fun w=>abX w.1 ⟨ar,an⟩)++[(⟨ar,an⟩,⟨vr,bn⟩)],s.2++[⟨19,yd,⟨ar,an⟩,⟨vr,bn⟩,yf,ag⟩])):=by
               show _=_;unfold aaI;rw [if_neg (show ¬(19:Int)=18 by decide),if_pos (show (19:Int)=19 from rfl),if_neg a1]
              clear a1;go_upto_region 15 with (go_at_call 34;refine aD.out.mono ?_;rintro e w5 ⟨rfl,aA⟩;have aS:=hid aA;have x0:=aab x0 aA;have c0:=aab c0 aA;have zX:=aac x0;have zW:=aac c0;clear aA)
              obtain⟨W6,az⟩:∃V,V=w5.alloc (.cells #[.bool vr,.int .i64 vn] 41):=⟨_,rfl⟩
              obtain⟨CB,aK⟩:∃CB,CB=w5.heap.size:=⟨_,rfl⟩
              have aQ:Below w5.heap.size w5 W6:=by rw [az];exact bE
              have aR:W6.heap[CB]?=some (.cells #[.bool vr,.int .i64 vn] 41 (0,0)):=by rw [az,aK];exact heap_alloc_new _ _
              rw [<-az,<-aK];obtain⟨k0,k1⟩:=(aad (cs:=[_,_]) aR).get2;rw [Aab] at k1;have zC:=aac k0;have af:Below W4.heap.size W4 W6:=aS.out.trans (aQ.mono aS.out.size);have au:adj w WB S W6 (.slice oa on oc) (.slice wa wn wc) xs s:=aN.out.later af;have ah:=hid au;have bu:=hid af;obtain⟨x0,x1,x2,x3,x4,x5,x6,x7⟩:=HX.out W6 af;have zX:=aac x0;obtain⟨c0,fz⟩:=au.get;have f0:=fz 0;have zW:=aac c0;have aL:Hid (WB+1<=W6.heap.size):=Aai aV.out af.size;have aC:=hid (bP.out W6 af);have aO:Hid (acb S W6 [.int .i64 19,.int .i64 yd,.bool ar,.int .i64 an,.bool vr,.int .i64 bn,.int .i64 yf,.slice aa al ac] ⟨19,yd,⟨ar,an⟩,⟨vr,bn⟩,yf,ag⟩):=aax.out _ _ _ _ _ _ (fun _ h=>h) ((aaS.below' bI.out).trans (aaS.below' af)) bG.out;clear az aK aQ aR af au fz;obtain⟨T8,aU⟩:∃T8,T8=s.1.filter (fun w=>abX w.1 ⟨ar,an⟩):=⟨_,rfl⟩
              have bA:Hid (T8.length<=1048576):=by
               show _<=_;rw [aU];exact Aai (Aci _ _) HT.out
              have aG := acN (WB + 1) wa wn wc (s.1.map abg) W6 ah.out.words (by rw [Aah]; exact bM.out.symm) (by have := HT.out; have := bM.out; omega) (fun cs bQ => by
               obtain ⟨x, -, rfl⟩ := Aal.1 bQ
               exact ⟨_, _, _, _, rfl⟩) (asO ⟨ar, an⟩) (.pointer (some ⟨IB, 0, none⟩)) (fun V hV b0 b1 b2 b3 hm => by
               obtain ⟨x, hx, e⟩ := Aal.1 hm
               injection e with e0 e; injection e with e1 e; injection e with e2 e; injection e with e3 e
               subst e0 e1 e2 e3
               have h := (aad (cs := [_, _, _, _, _, _, _, _]) ((hV.block IB (Aag.1 aC.out).1 aM.out.2.2).trans aC.out)).get8
               simp only [Aab] at h
               exact ag5 IB ar an V h.2.2.1 h.2.2.2.1 x.1.reg x.1.n x.2.reg x.2.n)
              rw [aeF,<-aU] at aG;rw [<-aU] at Hz;have bl:=hid aG;clear aU aG;go_upto_region 17 with
               (go_at_call 37; refine bl.out.mono ?_; rintro e w7 ⟨m, hm, rfl, bC, aZ⟩
                have aJ := ah.out.size
                have ak := ah.out.low
                have bt := (aZ.block WB aJ (fun e => by have := (ak.2 WB e).1; omega)).trans ah.out.cell
                have c0 := (aad (cs := [_]) bt).get1
                have f0 := aaq bt 0
                have zW := aac c0
                have h7 := (aZ.block IB (Aag.1 aC.out).1 aM.out.2.2).trans aC.out
                obtain ⟨x0, x1, x2, x3, x4, x5, x6, x7⟩ := (aad (cs := [_, _, _, _, _, _, _, _]) h7).get8
                rw [Aab] at x1 x2 x3 x4 x5 x6 x7
                have zX := aac x0
                have H7 := hid h7
                have Hm := hid hm
                have bR := hid bC
                have bk := hid aZ
                clear aJ ak bt h7 hm bC aZ)
              have ax:(Value.slice wa m wc).ownBlock=(Value.slice wa wn wc).ownBlock:=by cases wa <;> rfl
              obtain⟨W8,aW⟩:∃V,V=w7.setCell ⟨WB,0,none⟩ (.slice wa m wc):=⟨_,rfl⟩
              rw [<-aW];have aE:adj w WB S W8 (.slice oa on oc) (.slice wa m wc) xs (T8,s.2):=by
               rw [aW];exact ah.out.del HS.out bk.out bR.out (fun c hc=>by rw [<-ax];exact hc)
              have aY:Kp (fun c=>c≠WB) w7 W8:=by rw [aW];exact aaQ w7 WB 0 _
              have bq:=(aY.block IB (Aag.1 H7.out).1 (by have:=aM.out.1;omega)).trans H7.out;obtain⟨x0,x1,x2,x3,x4,x5,x6,x7⟩:=(aad (cs:=[_,_,_,_,_,_,_,_]) bq).get8;rw [Aab] at x1 x2 x3 x4 x5 x6 x7;have zX:=aac x0;obtain⟨c0,fz⟩:=aE.get;have f0:=fz 0;have zW:=aac c0;have a6:(Value.slice wa m wc).ownBlock≠some IB:=by rw [ax];exact aM.out.2.2
              have aj:=hid aE;have bz:=hid bq;have aP:Hid (WB+1<=W8.heap.size):=Aai aL.out (Aai bk.out.size aY.size);have bm:Hid (acb S W8 [.int .i64 19,.int .i64 yd,.bool ar,.int .i64 an,.bool vr,.int .i64 bn,.int .i64 yf,.slice aa al ac] ⟨19,yd,⟨ar,an⟩,⟨vr,bn⟩,yf,ag⟩):=aax.out _ _ _ _ _ _ (fun _ h=>h) ((bk.out.stays fun c hc e=>by have h1:=HS.out c hc;have h2:=(ah.out.low.2 c e).1;have h3:=ah.out.wb;omega).trans (aY.stays fun c hc e=>by have h1:=HS.out c hc;have h3:=ah.out.wb;omega)) aO.out;have bw:m=T8.length:=by rw [Hm.out,Aah]
              have cv:=hid bw;clear aW aE aY bq fz ax bw k0 k1 zC;go_upto_region 20 with
               (at_builtin; refine wpList_append_own_at _ rfl _ _ 71 rfl (WB + 1) 74 iw (.agg #[.bool false, .int .i64 0, .bool false, .int .i64 0]) 4 32 Tryz.underlying71 bZ bB bF bx rfl (by decide) (.slice wa m wc) (T8).length ((T8).map abg).flatten rfl (aan (by have h := aj.out.words.own; rw [Aah] at h; exact h) bE) ⟨W8.heap.size, 0, none⟩ 1 1 [.bool ar, .int .i64 an, .bool vr, .int .i64 bn] rfl rfl (aaB W8 _ _ rfl) (by intro u hu; simp only [Aam, Aao, or_false] at hu; rcases hu with rfl | rfl | rfl | rfl <;> rfl) (by have := bA.out; unfold maxLen; omega) (by have := bA.out; omega) (by have := aP.out; simp; omega) ?_
                intro v9 w9 ae ad _ ai
                obtain ⟨bd, bh, rfl⟩ := aao ae
                have ay : Below W8.heap.size W8 (W8.alloc (.cells #[.bool ar, .int .i64 an, .bool vr, .int .i64 bn] 74)) := by exact bE
                have HP := hid (aj.out.push HS.out ay (x := (⟨ar, an⟩, ⟨vr, bn⟩)) ae ad (by rcases ai with h | h; exact .inl h; exact .inr (by first | exact h | (rw [h]; simp))))
                have aX : Kp (fun c => (Value.slice wa m wc).ownBlock ≠ some c) W8 w9 := (Kp.of ay).trans ⟨ad.os, ad.tape, ad.output, ad.size, fun c hc hF => ad.block c hc fun e => hF e.symm⟩
                have bK := hid aX
                have aJ := aj.out.size
                have ak := aj.out.low
                have aT := (aX.block WB aJ (fun e => by have := (ak.2 WB e).1; omega)).trans aj.out.cell
                have c0 := (aad (cs := [_]) aT).get1
                have f0 := aaq aT 0
                have zW := aac c0
                clear ae ad ai ay aX aJ ak aT)
              obtain⟨WZ,aH⟩:∃V,V=w9.setCell ⟨WB,0,none⟩ (.slice bd ((T8).length+1) bh):=⟨_,rfl⟩
              rw [<-aH] at HP ⊢;have aB:Kp (fun c=>(Value.slice wa m wc).ownBlock≠some c∧c≠WB) W8 WZ:=by
               rw [aH];exact (bK.out.less fun c h=>h.1).trans ((aaQ w9 WB 0 _).less fun c h=>h.2)
              have bf:=(aB.block IB (Aag.1 bz.out).1 ⟨a6,fun e=>by have:=aM.out.1;omega⟩).trans bz.out;obtain⟨x0,x1,x2,x3,x4,x5,x6,x7⟩:=(aad (cs:=[_,_,_,_,_,_,_,_]) bf).get8;rw [Aab] at x1 x2 x3 x4 x5 x6 x7;have zX:=aac x0;have aw:=HP;have bp:Hid (WB+1<=WZ.heap.size):=Aai aP.out aB.size;have bo:Hid (acb S WZ [.int .i64 19,.int .i64 yd,.bool ar,.int .i64 an,.bool vr,.int .i64 bn,.int .i64 yf,.slice aa al ac] ⟨19,yd,⟨ar,an⟩,⟨vr,bn⟩,yf,ag⟩):=aax.out _ _ _ _ _ _ (fun _ h=>h) (aB.stays fun c hc=>⟨fun e=>by have h1:=HS.out c hc;have h2:=(aj.out.low.2 c e).1;have h3:=aj.out.wb;omega,fun e=>by have h1:=HS.out c hc;have h3:=aj.out.wb;omega⟩) bm.out;clear aH aB bf c0 f0 zW HP;go_wp2_with (at_builtin;refine wpList_append_own_at _ rfl _ _ 39 rfl (WB+1) 49 ii (.agg #[.int .i64 0,.int .i64 0,.bool false,.int .i64 0,.bool false,.int .i64 0,.int .i64 0,.slice none 0 0]) 8 80 Tryz.underlying39 bO a8 be bg rfl (by decide) (.slice oa on oc) xs.length xs.flatten rfl (aan aw.out.out.row.own bE) ⟨WZ.heap.size,0,none⟩ 1 1 [.int .i64 19,.int .i64 yd,.bool ar,.int .i64 an,.bool vr,.int .i64 bn,.int .i64 yf,.slice aa al ac] rfl rfl (aaB WZ _ _ rfl) (by intro u hu;simp only [Aam,Aao,or_false] at hu;rcases hu with rfl | rfl | rfl | rfl | rfl | rfl | rfl | rfl <;> rfl) (by have:=bj.out;unfold maxLen;omega) (by have:=bj.out;omega) (by have:=bp.out;simp;omega) ?_);intro v9 w9 ae ad _ ai;obtain⟨bd,bh,rfl⟩:=aao ae;have ay:Below WZ.heap.size WZ (WZ.alloc (.cells #[.int .i64 19,.int .i64 yd,.bool ar,.int .i64 an,.bool vr,.int .i64 bn,.int .i64 yf,.slice aa al ac] 49)):=by exact bE
              have aq:=aw.out.snoc HS.out ay rfl bo.out ae ad (by rcases ai with h | h;exact .inl h;exact .inr (by first | exact h | (rw [h];simp)));rw [<-Hz.out] at aq;have aF:=hid aq;clear ae ad ai ay aq;go_wp2_with fail;go_roundw
              case rel=>exact⟨k+1,_,_,_,rfl,by omega,by go_num,by rw [aI.out];exact aF.out⟩
              case measure=>simp [intOf];omega
            . subst hvr
              subst hbr;have Hz:Hid (aaI s ⟨19,yd,⟨ar,an⟩,⟨false,bn⟩,yf,ag⟩=(s.1.filter (fun w=>abX w.1 ⟨ar,an⟩)++[(⟨ar,an⟩,⟨false,bn⟩)],s.2++[⟨19,yd,⟨ar,an⟩,⟨false,bn⟩,yf,ag⟩])):=by
               show _=_;unfold aaI;rw [if_neg (show ¬(19:Int)=18 by decide),if_pos (show (19:Int)=19 from rfl),if_neg a1]
              clear a1;go_upto_region 15 with (go_at_call 34;refine aD.out.mono ?_;rintro e w5 ⟨rfl,aA⟩;have aS:=hid aA;have x0:=aab x0 aA;have c0:=aab c0 aA;have zX:=aac x0;have zW:=aac c0;clear aA)
              obtain⟨W6,az⟩:∃V,V=w5.alloc (.cells #[.bool true,.int .i64 vn] 41):=⟨_,rfl⟩
              obtain⟨CB,aK⟩:∃CB,CB=w5.heap.size:=⟨_,rfl⟩
              have aQ:Below w5.heap.size w5 W6:=by rw [az];exact bE
              have aR:W6.heap[CB]?=some (.cells #[.bool true,.int .i64 vn] 41 (0,0)):=by rw [az,aK];exact heap_alloc_new _ _
              rw [<-az,<-aK];obtain⟨k0,k1⟩:=(aad (cs:=[_,_]) aR).get2;rw [Aab] at k1;have zC:=aac k0;have af:Below W4.heap.size W4 W6:=aS.out.trans (aQ.mono aS.out.size);have au:adj w WB S W6 (.slice oa on oc) (.slice wa wn wc) xs s:=aN.out.later af;have ah:=hid au;have bu:=hid af;obtain⟨x0,x1,x2,x3,x4,x5,x6,x7⟩:=HX.out W6 af;have zX:=aac x0;obtain⟨c0,fz⟩:=au.get;have f0:=fz 0;have zW:=aac c0;have aL:Hid (WB+1<=W6.heap.size):=Aai aV.out af.size;have aC:=hid (bP.out W6 af);have aO:Hid (acb S W6 [.int .i64 19,.int .i64 yd,.bool ar,.int .i64 an,.bool false,.int .i64 bn,.int .i64 yf,.slice aa al ac] ⟨19,yd,⟨ar,an⟩,⟨false,bn⟩,yf,ag⟩):=aax.out _ _ _ _ _ _ (fun _ h=>h) ((aaS.below' bI.out).trans (aaS.below' af)) bG.out;clear az aK aQ aR af au fz;obtain⟨T8,aU⟩:∃T8,T8=s.1.filter (fun w=>abX w.1 ⟨ar,an⟩):=⟨_,rfl⟩
              have bA:Hid (T8.length<=1048576):=by
               show _<=_;rw [aU];exact Aai (Aci _ _) HT.out
              have aG := acN (WB + 1) wa wn wc (s.1.map abg) W6 ah.out.words (by rw [Aah]; exact bM.out.symm) (by have := HT.out; have := bM.out; omega) (fun cs bQ => by
               obtain ⟨x, -, rfl⟩ := Aal.1 bQ
               exact ⟨_, _, _, _, rfl⟩) (asO ⟨ar, an⟩) (.pointer (some ⟨IB, 0, none⟩)) (fun V hV b0 b1 b2 b3 hm => by
               obtain ⟨x, hx, e⟩ := Aal.1 hm
               injection e with e0 e; injection e with e1 e; injection e with e2 e; injection e with e3 e
               subst e0 e1 e2 e3
               have h := (aad (cs := [_, _, _, _, _, _, _, _]) ((hV.block IB (Aag.1 aC.out).1 aM.out.2.2).trans aC.out)).get8
               simp only [Aab] at h
               exact ag5 IB ar an V h.2.2.1 h.2.2.2.1 x.1.reg x.1.n x.2.reg x.2.n)
              rw [aeF,<-aU] at aG;rw [<-aU] at Hz;have bl:=hid aG;clear aU aG;go_upto_region 17 with
               (go_at_call 37; refine bl.out.mono ?_; rintro e w7 ⟨m, hm, rfl, bC, aZ⟩
                have aJ := ah.out.size
                have ak := ah.out.low
                have bt := (aZ.block WB aJ (fun e => by have := (ak.2 WB e).1; omega)).trans ah.out.cell
                have c0 := (aad (cs := [_]) bt).get1
                have f0 := aaq bt 0
                have zW := aac c0
                have h7 := (aZ.block IB (Aag.1 aC.out).1 aM.out.2.2).trans aC.out
                obtain ⟨x0, x1, x2, x3, x4, x5, x6, x7⟩ := (aad (cs := [_, _, _, _, _, _, _, _]) h7).get8
                rw [Aab] at x1 x2 x3 x4 x5 x6 x7
                have zX := aac x0
                have H7 := hid h7
                have Hm := hid hm
                have bR := hid bC
                have bk := hid aZ
                clear aJ ak bt h7 hm bC aZ)
              have ax:(Value.slice wa m wc).ownBlock=(Value.slice wa wn wc).ownBlock:=by cases wa <;> rfl
              obtain⟨W8,aW⟩:∃V,V=w7.setCell ⟨WB,0,none⟩ (.slice wa m wc):=⟨_,rfl⟩
              rw [<-aW];have aE:adj w WB S W8 (.slice oa on oc) (.slice wa m wc) xs (T8,s.2):=by
               rw [aW];exact ah.out.del HS.out bk.out bR.out (fun c hc=>by rw [<-ax];exact hc)
              have aY:Kp (fun c=>c≠WB) w7 W8:=by rw [aW];exact aaQ w7 WB 0 _
              have bq:=(aY.block IB (Aag.1 H7.out).1 (by have:=aM.out.1;omega)).trans H7.out;obtain⟨x0,x1,x2,x3,x4,x5,x6,x7⟩:=(aad (cs:=[_,_,_,_,_,_,_,_]) bq).get8;rw [Aab] at x1 x2 x3 x4 x5 x6 x7;have zX:=aac x0;obtain⟨c0,fz⟩:=aE.get;have f0:=fz 0;have zW:=aac c0;have a6:(Value.slice wa m wc).ownBlock≠some IB:=by rw [ax];exact aM.out.2.2
              have aj:=hid aE;have bz:=hid bq;have aP:Hid (WB+1<=W8.heap.size):=Aai aL.out (Aai bk.out.size aY.size);have bm:Hid (acb S W8 [.int .i64 19,.int .i64 yd,.bool ar,.int .i64 an,.bool false,.int .i64 bn,.int .i64 yf,.slice aa al ac] ⟨19,yd,⟨ar,an⟩,⟨false,bn⟩,yf,ag⟩):=aax.out _ _ _ _ _ _ (fun _ h=>h) ((bk.out.stays fun c hc e=>by have h1:=HS.out c hc;have h2:=(ah.out.low.2 c e).1;have h3:=ah.out.wb;omega).trans (aY.stays fun c hc e=>by have h1:=HS.out c hc;have h3:=ah.out.wb;omega)) aO.out;have bw:m=T8.length:=by rw [Hm.out,Aah]
              have cv:=hid bw;clear aW aE aY bq fz ax bw k0 k1 zC;go_upto_region 20 with
               (at_builtin; refine wpList_append_own_at _ rfl _ _ 71 rfl (WB + 1) 74 iw (.agg #[.bool false, .int .i64 0, .bool false, .int .i64 0]) 4 32 Tryz.underlying71 bZ bB bF bx rfl (by decide) (.slice wa m wc) (T8).length ((T8).map abg).flatten rfl (aan (by have h := aj.out.words.own; rw [Aah] at h; exact h) bE) ⟨W8.heap.size, 0, none⟩ 1 1 [.bool ar, .int .i64 an, .bool false, .int .i64 bn] rfl rfl (aaB W8 _ _ rfl) (by intro u hu; simp only [Aam, Aao, or_false] at hu; rcases hu with rfl | rfl | rfl | rfl <;> rfl) (by have := bA.out; unfold maxLen; omega) (by have := bA.out; omega) (by have := aP.out; simp; omega) ?_
                intro v9 w9 ae ad _ ai
                obtain ⟨bd, bh, rfl⟩ := aao ae
                have ay : Below W8.heap.size W8 (W8.alloc (.cells #[.bool ar, .int .i64 an, .bool false, .int .i64 bn] 74)) := by exact bE
                have HP := hid (aj.out.push HS.out ay (x := (⟨ar, an⟩, ⟨false, bn⟩)) ae ad (by rcases ai with h | h; exact .inl h; exact .inr (by first | exact h | (rw [h]; simp))))
                have aX : Kp (fun c => (Value.slice wa m wc).ownBlock ≠ some c) W8 w9 := (Kp.of ay).trans ⟨ad.os, ad.tape, ad.output, ad.size, fun c hc hF => ad.block c hc fun e => hF e.symm⟩
                have bK := hid aX
                have aJ := aj.out.size
                have ak := aj.out.low
                have aT := (aX.block WB aJ (fun e => by have := (ak.2 WB e).1; omega)).trans aj.out.cell
                have c0 := (aad (cs := [_]) aT).get1
                have f0 := aaq aT 0
                have zW := aac c0
                clear ae ad ai ay aX aJ ak aT)
              obtain⟨WZ,aH⟩:∃V,V=w9.setCell ⟨WB,0,none⟩ (.slice bd ((T8).length+1) bh):=⟨_,rfl⟩
              rw [<-aH] at HP ⊢;have aB:Kp (fun c=>(Value.slice wa m wc).ownBlock≠some c∧c≠WB) W8 WZ:=by
               rw [aH];exact (bK.out.less fun c h=>h.1).trans ((aaQ w9 WB 0 _).less fun c h=>h.2)
              have bf:=(aB.block IB (Aag.1 bz.out).1 ⟨a6,fun e=>by have:=aM.out.1;omega⟩).trans bz.out;obtain⟨x0,x1,x2,x3,x4,x5,x6,x7⟩:=(aad (cs:=[_,_,_,_,_,_,_,_]) bf).get8;rw [Aab] at x1 x2 x3 x4 x5 x6 x7;have zX:=aac x0;have aw:=HP;have bp:Hid (WB+1<=WZ.heap.size):=Aai aP.out aB.size;have bo:Hid (acb S WZ [.int .i64 19,.int .i64 yd,.bool ar,.int .i64 an,.bool false,.int .i64 bn,.int .i64 yf,.slice aa al ac] ⟨19,yd,⟨ar,an⟩,⟨false,bn⟩,yf,ag⟩):=aax.out _ _ _ _ _ _ (fun _ h=>h) (aB.stays fun c hc=>⟨fun e=>by have h1:=HS.out c hc;have h2:=(aj.out.low.2 c e).1;have h3:=aj.out.wb;omega,fun e=>by have h1:=HS.out c hc;have h3:=aj.out.wb;omega⟩) bm.out;clear aH aB bf c0 f0 zW HP;go_wp2_with (at_builtin;refine wpList_append_own_at _ rfl _ _ 39 rfl (WB+1) 49 ii (.agg #[.int .i64 0,.int .i64 0,.bool false,.int .i64 0,.bool false,.int .i64 0,.int .i64 0,.slice none 0 0]) 8 80 Tryz.underlying39 bO a8 be bg rfl (by decide) (.slice oa on oc) xs.length xs.flatten rfl (aan aw.out.out.row.own bE) ⟨WZ.heap.size,0,none⟩ 1 1 [.int .i64 19,.int .i64 yd,.bool ar,.int .i64 an,.bool false,.int .i64 bn,.int .i64 yf,.slice aa al ac] rfl rfl (aaB WZ _ _ rfl) (by intro u hu;simp only [Aam,Aao,or_false] at hu;rcases hu with rfl | rfl | rfl | rfl | rfl | rfl | rfl | rfl <;> rfl) (by have:=bj.out;unfold maxLen;omega) (by have:=bj.out;omega) (by have:=bp.out;simp;omega) ?_);intro v9 w9 ae ad _ ai;obtain⟨bd,bh,rfl⟩:=aao ae;have ay:Below WZ.heap.size WZ (WZ.alloc (.cells #[.int .i64 19,.int .i64 yd,.bool ar,.int .i64 an,.bool false,.int .i64 bn,.int .i64 yf,.slice aa al ac] 49)):=by exact bE
              have aq:=aw.out.snoc HS.out ay rfl bo.out ae ad (by rcases ai with h | h;exact .inl h;exact .inr (by first | exact h | (rw [h];simp)));rw [<-Hz.out] at aq;have aF:=hid aq;clear ae ad ai ay aq;go_wp2_with fail;go_roundw
              case rel=>exact⟨k+1,_,_,_,rfl,by omega,by go_num,by rw [aI.out];exact aF.out⟩
              case measure=>simp [intOf];omega
            . subst hvr
              subst hbr;have Hz:Hid (aaI s ⟨19,yd,⟨ar,an⟩,⟨true,bn⟩,yf,ag⟩=(s.1.filter (fun w=>abX w.1 ⟨ar,an⟩)++[(⟨ar,an⟩,⟨true,bn⟩)],s.2++[⟨19,yd,⟨ar,an⟩,⟨true,bn⟩,yf,ag⟩])):=by
               show _=_;unfold aaI;rw [if_neg (show ¬(19:Int)=18 by decide),if_pos (show (19:Int)=19 from rfl),if_neg a1]
              clear a1;go_upto_region 15 with (go_at_call 34;refine aD.out.mono ?_;rintro e w5 ⟨rfl,aA⟩;have aS:=hid aA;have x0:=aab x0 aA;have c0:=aab c0 aA;have zX:=aac x0;have zW:=aac c0;clear aA)
              obtain⟨W6,az⟩:∃V,V=w5.alloc (.cells #[.bool false,.int .i64 vn] 41):=⟨_,rfl⟩
              obtain⟨CB,aK⟩:∃CB,CB=w5.heap.size:=⟨_,rfl⟩
              have aQ:Below w5.heap.size w5 W6:=by rw [az];exact bE
              have aR:W6.heap[CB]?=some (.cells #[.bool false,.int .i64 vn] 41 (0,0)):=by rw [az,aK];exact heap_alloc_new _ _
              rw [<-az,<-aK];obtain⟨k0,k1⟩:=(aad (cs:=[_,_]) aR).get2;rw [Aab] at k1;have zC:=aac k0;have af:Below W4.heap.size W4 W6:=aS.out.trans (aQ.mono aS.out.size);have au:adj w WB S W6 (.slice oa on oc) (.slice wa wn wc) xs s:=aN.out.later af;have ah:=hid au;have bu:=hid af;obtain⟨x0,x1,x2,x3,x4,x5,x6,x7⟩:=HX.out W6 af;have zX:=aac x0;obtain⟨c0,fz⟩:=au.get;have f0:=fz 0;have zW:=aac c0;have aL:Hid (WB+1<=W6.heap.size):=Aai aV.out af.size;have aC:=hid (bP.out W6 af);have aO:Hid (acb S W6 [.int .i64 19,.int .i64 yd,.bool ar,.int .i64 an,.bool true,.int .i64 bn,.int .i64 yf,.slice aa al ac] ⟨19,yd,⟨ar,an⟩,⟨true,bn⟩,yf,ag⟩):=aax.out _ _ _ _ _ _ (fun _ h=>h) ((aaS.below' bI.out).trans (aaS.below' af)) bG.out;clear az aK aQ aR af au fz;obtain⟨T8,aU⟩:∃T8,T8=s.1.filter (fun w=>abX w.1 ⟨ar,an⟩):=⟨_,rfl⟩
              have bA:Hid (T8.length<=1048576):=by
               show _<=_;rw [aU];exact Aai (Aci _ _) HT.out
              have aG := acN (WB + 1) wa wn wc (s.1.map abg) W6 ah.out.words (by rw [Aah]; exact bM.out.symm) (by have := HT.out; have := bM.out; omega) (fun cs bQ => by
               obtain ⟨x, -, rfl⟩ := Aal.1 bQ
               exact ⟨_, _, _, _, rfl⟩) (asO ⟨ar, an⟩) (.pointer (some ⟨IB, 0, none⟩)) (fun V hV b0 b1 b2 b3 hm => by
               obtain ⟨x, hx, e⟩ := Aal.1 hm
               injection e with e0 e; injection e with e1 e; injection e with e2 e; injection e with e3 e
               subst e0 e1 e2 e3
               have h := (aad (cs := [_, _, _, _, _, _, _, _]) ((hV.block IB (Aag.1 aC.out).1 aM.out.2.2).trans aC.out)).get8
               simp only [Aab] at h
               exact ag5 IB ar an V h.2.2.1 h.2.2.2.1 x.1.reg x.1.n x.2.reg x.2.n)
              rw [aeF,<-aU] at aG;rw [<-aU] at Hz;have bl:=hid aG;clear aU aG;go_upto_region 17 with
               (go_at_call 37; refine bl.out.mono ?_; rintro e w7 ⟨m, hm, rfl, bC, aZ⟩
                have aJ := ah.out.size
                have ak := ah.out.low
                have bt := (aZ.block WB aJ (fun e => by have := (ak.2 WB e).1; omega)).trans ah.out.cell
                have c0 := (aad (cs := [_]) bt).get1
                have f0 := aaq bt 0
                have zW := aac c0
                have h7 := (aZ.block IB (Aag.1 aC.out).1 aM.out.2.2).trans aC.out
                obtain ⟨x0, x1, x2, x3, x4, x5, x6, x7⟩ := (aad (cs := [_, _, _, _, _, _, _, _]) h7).get8
                rw [Aab] at x1 x2 x3 x4 x5 x6 x7
                have zX := aac x0
                have H7 := hid h7
                have Hm := hid hm
                have bR := hid bC
                have bk := hid aZ
                clear aJ ak bt h7 hm bC aZ)
              have ax:(Value.slice wa m wc).ownBlock=(Value.slice wa wn wc).ownBlock:=by cases wa <;> rfl
              obtain⟨W8,aW⟩:∃V,V=w7.setCell ⟨WB,0,none⟩ (.slice wa m wc):=⟨_,rfl⟩
              rw [<-aW];have aE:adj w WB S W8 (.slice oa on oc) (.slice wa m wc) xs (T8,s.2):=by
               rw [aW];exact ah.out.del HS.out bk.out bR.out (fun c hc=>by rw [<-ax];exact hc)
              have aY:Kp (fun c=>c≠WB) w7 W8:=by rw [aW];exact aaQ w7 WB 0 _
              have bq:=(aY.block IB (Aag.1 H7.out).1 (by have:=aM.out.1;omega)).trans H7.out;obtain⟨x0,x1,x2,x3,x4,x5,x6,x7⟩:=(aad (cs:=[_,_,_,_,_,_,_,_]) bq).get8;rw [Aab] at x1 x2 x3 x4 x5 x6 x7;have zX:=aac x0;obtain⟨c0,fz⟩:=aE.get;have f0:=fz 0;have zW:=aac c0;have a6:(Value.slice wa m wc).ownBlock≠some IB:=by rw [ax];exact aM.out.2.2
              have aj:=hid aE;have bz:=hid bq;have aP:Hid (WB+1<=W8.heap.size):=Aai aL.out (Aai bk.out.size aY.size);have bm:Hid (acb S W8 [.int .i64 19,.int .i64 yd,.bool ar,.int .i64 an,.bool true,.int .i64 bn,.int .i64 yf,.slice aa al ac] ⟨19,yd,⟨ar,an⟩,⟨true,bn⟩,yf,ag⟩):=aax.out _ _ _ _ _ _ (fun _ h=>h) ((bk.out.stays fun c hc e=>by have h1:=HS.out c hc;have h2:=(ah.out.low.2 c e).1;have h3:=ah.out.wb;omega).trans (aY.stays fun c hc e=>by have h1:=HS.out c hc;have h3:=ah.out.wb;omega)) aO.out;have bw:m=T8.length:=by rw [Hm.out,Aah]
              have cv:=hid bw;clear aW aE aY bq fz ax bw k0 k1 zC;go_upto_region 20 with
               (at_builtin; refine wpList_append_own_at _ rfl _ _ 71 rfl (WB + 1) 74 iw (.agg #[.bool false, .int .i64 0, .bool false, .int .i64 0]) 4 32 Tryz.underlying71 bZ bB bF bx rfl (by decide) (.slice wa m wc) (T8).length ((T8).map abg).flatten rfl (aan (by have h := aj.out.words.own; rw [Aah] at h; exact h) bE) ⟨W8.heap.size, 0, none⟩ 1 1 [.bool ar, .int .i64 an, .bool true, .int .i64 bn] rfl rfl (aaB W8 _ _ rfl) (by intro u hu; simp only [Aam, Aao, or_false] at hu; rcases hu with rfl | rfl | rfl | rfl <;> rfl) (by have := bA.out; unfold maxLen; omega) (by have := bA.out; omega) (by have := aP.out; simp; omega) ?_
                intro v9 w9 ae ad _ ai
                obtain ⟨bd, bh, rfl⟩ := aao ae
                have ay : Below W8.heap.size W8 (W8.alloc (.cells #[.bool ar, .int .i64 an, .bool true, .int .i64 bn] 74)) := by exact bE
                have HP := hid (aj.out.push HS.out ay (x := (⟨ar, an⟩, ⟨true, bn⟩)) ae ad (by rcases ai with h | h; exact .inl h; exact .inr (by first | exact h | (rw [h]; simp))))
                have aX : Kp (fun c => (Value.slice wa m wc).ownBlock ≠ some c) W8 w9 := (Kp.of ay).trans ⟨ad.os, ad.tape, ad.output, ad.size, fun c hc hF => ad.block c hc fun e => hF e.symm⟩
                have bK := hid aX
                have aJ := aj.out.size
                have ak := aj.out.low
                have aT := (aX.block WB aJ (fun e => by have := (ak.2 WB e).1; omega)).trans aj.out.cell
                have c0 := (aad (cs := [_]) aT).get1
                have f0 := aaq aT 0
                have zW := aac c0
                clear ae ad ai ay aX aJ ak aT)
              obtain⟨WZ,aH⟩:∃V,V=w9.setCell ⟨WB,0,none⟩ (.slice bd ((T8).length+1) bh):=⟨_,rfl⟩
              rw [<-aH] at HP ⊢;have aB:Kp (fun c=>(Value.slice wa m wc).ownBlock≠some c∧c≠WB) W8 WZ:=by
               rw [aH];exact (bK.out.less fun c h=>h.1).trans ((aaQ w9 WB 0 _).less fun c h=>h.2)
              have bf:=(aB.block IB (Aag.1 bz.out).1 ⟨a6,fun e=>by have:=aM.out.1;omega⟩).trans bz.out;obtain⟨x0,x1,x2,x3,x4,x5,x6,x7⟩:=(aad (cs:=[_,_,_,_,_,_,_,_]) bf).get8;rw [Aab] at x1 x2 x3 x4 x5 x6 x7;have zX:=aac x0;have aw:=HP;have bp:Hid (WB+1<=WZ.heap.size):=Aai aP.out aB.size;have bo:Hid (acb S WZ [.int .i64 19,.int .i64 yd,.bool ar,.int .i64 an,.bool true,.int .i64 bn,.int .i64 yf,.slice aa al ac] ⟨19,yd,⟨ar,an⟩,⟨true,bn⟩,yf,ag⟩):=aax.out _ _ _ _ _ _ (fun _ h=>h) (aB.stays fun c hc=>⟨fun e=>by have h1:=HS.out c hc;have h2:=(aj.out.low.2 c e).1;have h3:=aj.out.wb;omega,fun e=>by have h1:=HS.out c hc;have h3:=aj.out.wb;omega⟩) bm.out;clear aH aB bf c0 f0 zW HP;go_wp2_with (at_builtin;refine wpList_append_own_at _ rfl _ _ 39 rfl (WB+1) 49 ii (.agg #[.int .i64 0,.int .i64 0,.bool false,.int .i64 0,.bool false,.int .i64 0,.int .i64 0,.slice none 0 0]) 8 80 Tryz.underlying39 bO a8 be bg rfl (by decide) (.slice oa on oc) xs.length xs.flatten rfl (aan aw.out.out.row.own bE) ⟨WZ.heap.size,0,none⟩ 1 1 [.int .i64 19,.int .i64 yd,.bool ar,.int .i64 an,.bool true,.int .i64 bn,.int .i64 yf,.slice aa al ac] rfl rfl (aaB WZ _ _ rfl) (by intro u hu;simp only [Aam,Aao,or_false] at hu;rcases hu with rfl | rfl | rfl | rfl | rfl | rfl | rfl | rfl <;> rfl) (by have:=bj.out;unfold maxLen;omega) (by have:=bj.out;omega) (by have:=bp.out;simp;omega) ?_);intro v9 w9 ae ad _ ai;obtain⟨bd,bh,rfl⟩:=aao ae;have ay:Below WZ.heap.size WZ (WZ.alloc (.cells #[.int .i64 19,.int .i64 yd,.bool ar,.int .i64 an,.bool true,.int .i64 bn,.int .i64 yf,.slice aa al ac] 49)):=by exact bE
              have aq:=aw.out.snoc HS.out ay rfl bo.out ae ad (by rcases ai with h | h;exact .inl h;exact .inr (by first | exact h | (rw [h];simp)));rw [<-Hz.out] at aq;have aF:=hid aq;clear ae ad ai ay aq;go_wp2_with fail;go_roundw
              case rel=>exact⟨k+1,_,_,_,rfl,by omega,by go_num,by rw [aI.out];exact aF.out⟩
              case measure=>simp [intOf];omega
        | none =>
          rw [hf] at av;simp only [ao9] at av;have aD:=hid av;have a1:¬abK s.1 ⟨ar,an⟩=some ⟨br,bn⟩:=fun e=>by rw [hf] at e;cases e
          clear av hf h18 cb;have Hz:Hid (aaI s ⟨19,yd,⟨ar,an⟩,⟨br,bn⟩,yf,ag⟩=(s.1.filter (fun w=>abX w.1 ⟨ar,an⟩)++[(⟨ar,an⟩,⟨br,bn⟩)],s.2++[⟨19,yd,⟨ar,an⟩,⟨br,bn⟩,yf,ag⟩])):=by
           show _=_;unfold aaI;rw [if_neg (show ¬(19:Int)=18 by decide),if_pos (show (19:Int)=19 from rfl),if_neg a1]
          clear a1;go_upto_region 15 with (go_at_call 34;refine aD.out.mono ?_;rintro e w5 ⟨rfl,aA⟩;have aS:=hid aA;have x0:=aab x0 aA;have c0:=aab c0 aA;have zX:=aac x0;have zW:=aac c0;clear aA)
          obtain⟨W6,az⟩:∃V,V=w5.alloc (.cells #[.bool false,.int .i64 0] 41):=⟨_,rfl⟩
          obtain⟨CB,aK⟩:∃CB,CB=w5.heap.size:=⟨_,rfl⟩
          have aQ:Below w5.heap.size w5 W6:=by rw [az];exact bE
          have aR:W6.heap[CB]?=some (.cells #[.bool false,.int .i64 0] 41 (0,0)):=by rw [az,aK];exact heap_alloc_new _ _
          rw [<-az,<-aK];obtain⟨k0,k1⟩:=(aad (cs:=[_,_]) aR).get2;rw [Aab] at k1;have zC:=aac k0;have af:Below W4.heap.size W4 W6:=aS.out.trans (aQ.mono aS.out.size);have au:adj w WB S W6 (.slice oa on oc) (.slice wa wn wc) xs s:=aN.out.later af;have ah:=hid au;have bu:=hid af;obtain⟨x0,x1,x2,x3,x4,x5,x6,x7⟩:=HX.out W6 af;have zX:=aac x0;obtain⟨c0,fz⟩:=au.get;have f0:=fz 0;have zW:=aac c0;have aL:Hid (WB+1<=W6.heap.size):=Aai aV.out af.size;have aC:=hid (bP.out W6 af);have aO:Hid (acb S W6 [.int .i64 19,.int .i64 yd,.bool ar,.int .i64 an,.bool br,.int .i64 bn,.int .i64 yf,.slice aa al ac] ⟨19,yd,⟨ar,an⟩,⟨br,bn⟩,yf,ag⟩):=aax.out _ _ _ _ _ _ (fun _ h=>h) ((aaS.below' bI.out).trans (aaS.below' af)) bG.out;clear az aK aQ aR af au fz;obtain⟨T8,aU⟩:∃T8,T8=s.1.filter (fun w=>abX w.1 ⟨ar,an⟩):=⟨_,rfl⟩
          have bA:Hid (T8.length<=1048576):=by
           show _<=_;rw [aU];exact Aai (Aci _ _) HT.out
          have aG := acN (WB + 1) wa wn wc (s.1.map abg) W6 ah.out.words (by rw [Aah]; exact bM.out.symm) (by have := HT.out; have := bM.out; omega) (fun cs bQ => by
           obtain ⟨x, -, rfl⟩ := Aal.1 bQ
           exact ⟨_, _, _, _, rfl⟩) (asO ⟨ar, an⟩) (.pointer (some ⟨IB, 0, none⟩)) (fun V hV b0 b1 b2 b3 hm => by
           obtain ⟨x, hx, e⟩ := Aal.1 hm
           injection e with e0 e; injection e with e1 e; injection e with e2 e; injection e with e3 e
           subst e0 e1 e2 e3
           have h := (aad (cs := [_, _, _, _, _, _, _, _]) ((hV.block IB (Aag.1 aC.out).1 aM.out.2.2).trans aC.out)).get8
           simp only [Aab] at h
           exact ag5 IB ar an V h.2.2.1 h.2.2.2.1 x.1.reg x.1.n x.2.reg x.2.n)
          rw [aeF,<-aU] at aG;rw [<-aU] at Hz;have bl:=hid aG;clear aU aG;go_upto_region 17 with
           (go_at_call 37; refine bl.out.mono ?_; rintro e w7 ⟨m, hm, rfl, bC, aZ⟩
            have aJ := ah.out.size
            have ak := ah.out.low
            have bt := (aZ.block WB aJ (fun e => by have := (ak.2 WB e).1; omega)).trans ah.out.cell
            have c0 := (aad (cs := [_]) bt).get1
            have f0 := aaq bt 0
            have zW := aac c0
            have h7 := (aZ.block IB (Aag.1 aC.out).1 aM.out.2.2).trans aC.out
            obtain ⟨x0, x1, x2, x3, x4, x5, x6, x7⟩ := (aad (cs := [_, _, _, _, _, _, _, _]) h7).get8
            rw [Aab] at x1 x2 x3 x4 x5 x6 x7
            have zX := aac x0
            have H7 := hid h7
            have Hm := hid hm
            have bR := hid bC
            have bk := hid aZ
            clear aJ ak bt h7 hm bC aZ)
          have ax:(Value.slice wa m wc).ownBlock=(Value.slice wa wn wc).ownBlock:=by cases wa <;> rfl
          obtain⟨W8,aW⟩:∃V,V=w7.setCell ⟨WB,0,none⟩ (.slice wa m wc):=⟨_,rfl⟩
          rw [<-aW];have aE:adj w WB S W8 (.slice oa on oc) (.slice wa m wc) xs (T8,s.2):=by
           rw [aW];exact ah.out.del HS.out bk.out bR.out (fun c hc=>by rw [<-ax];exact hc)
          have aY:Kp (fun c=>c≠WB) w7 W8:=by rw [aW];exact aaQ w7 WB 0 _
          have bq:=(aY.block IB (Aag.1 H7.out).1 (by have:=aM.out.1;omega)).trans H7.out;obtain⟨x0,x1,x2,x3,x4,x5,x6,x7⟩:=(aad (cs:=[_,_,_,_,_,_,_,_]) bq).get8;rw [Aab] at x1 x2 x3 x4 x5 x6 x7;have zX:=aac x0;obtain⟨c0,fz⟩:=aE.get;have f0:=fz 0;have zW:=aac c0;have a6:(Value.slice wa m wc).ownBlock≠some IB:=by rw [ax];exact aM.out.2.2
          have aj:=hid aE;have bz:=hid bq;have aP:Hid (WB+1<=W8.heap.size):=Aai aL.out (Aai bk.out.size aY.size);have bm:Hid (acb S W8 [.int .i64 19,.int .i64 yd,.bool ar,.int .i64 an,.bool br,.int .i64 bn,.int .i64 yf,.slice aa al ac] ⟨19,yd,⟨ar,an⟩,⟨br,bn⟩,yf,ag⟩):=aax.out _ _ _ _ _ _ (fun _ h=>h) ((bk.out.stays fun c hc e=>by have h1:=HS.out c hc;have h2:=(ah.out.low.2 c e).1;have h3:=ah.out.wb;omega).trans (aY.stays fun c hc e=>by have h1:=HS.out c hc;have h3:=ah.out.wb;omega)) aO.out;have bw:m=T8.length:=by rw [Hm.out,Aah]
          have cv:=hid bw;clear aW aE aY bq fz ax bw k0 k1 zC;go_upto_region 20 with
           (at_builtin; refine wpList_append_own_at _ rfl _ _ 71 rfl (WB + 1) 74 iw (.agg #[.bool false, .int .i64 0, .bool false, .int .i64 0]) 4 32 Tryz.underlying71 bZ bB bF bx rfl (by decide) (.slice wa m wc) (T8).length ((T8).map abg).flatten rfl (aan (by have h := aj.out.words.own; rw [Aah] at h; exact h) bE) ⟨W8.heap.size, 0, none⟩ 1 1 [.bool ar, .int .i64 an, .bool br, .int .i64 bn] rfl rfl (aaB W8 _ _ rfl) (by intro u hu; simp only [Aam, Aao, or_false] at hu; rcases hu with rfl | rfl | rfl | rfl <;> rfl) (by have := bA.out; unfold maxLen; omega) (by have := bA.out; omega) (by have := aP.out; simp; omega) ?_
            intro v9 w9 ae ad _ ai
            obtain ⟨bd, bh, rfl⟩ := aao ae
            have ay : Below W8.heap.size W8 (W8.alloc (.cells #[.bool ar, .int .i64 an, .bool br, .int .i64 bn] 74)) := by exact bE
            have HP := hid (aj.out.push HS.out ay (x := (⟨ar, an⟩, ⟨br, bn⟩)) ae ad (by rcases ai with h | h; exact .inl h; exact .inr (by first | exact h | (rw [h]; simp))))
            have aX : Kp (fun c => (Value.slice wa m wc).ownBlock ≠ some c) W8 w9 := (Kp.of ay).trans ⟨ad.os, ad.tape, ad.output, ad.size, fun c hc hF => ad.block c hc fun e => hF e.symm⟩
            have bK := hid aX
            have aJ := aj.out.size
            have ak := aj.out.low
            have aT := (aX.block WB aJ (fun e => by have := (ak.2 WB e).1; omega)).trans aj.out.cell
            have c0 := (aad (cs := [_]) aT).get1
            have f0 := aaq aT 0
            have zW := aac c0
            clear ae ad ai ay aX aJ ak aT)
          obtain⟨WZ,aH⟩:∃V,V=w9.setCell ⟨WB,0,none⟩ (.slice bd ((T8).length+1) bh):=⟨_,rfl⟩
          rw [<-aH] at HP ⊢;have aB:Kp (fun c=>(Value.slice wa m wc).ownBlock≠some c∧c≠WB) W8 WZ:=by
           rw [aH];exact (bK.out.less fun c h=>h.1).trans ((aaQ w9 WB 0 _).less fun c h=>h.2)
          have bf:=(aB.block IB (Aag.1 bz.out).1 ⟨a6,fun e=>by have:=aM.out.1;omega⟩).trans bz.out;obtain⟨x0,x1,x2,x3,x4,x5,x6,x7⟩:=(aad (cs:=[_,_,_,_,_,_,_,_]) bf).get8;rw [Aab] at x1 x2 x3 x4 x5 x6 x7;have zX:=aac x0;have aw:=HP;have bp:Hid (WB+1<=WZ.heap.size):=Aai aP.out aB.size;have bo:Hid (acb S WZ [.int .i64 19,.int .i64 yd,.bool ar,.int .i64 an,.bool br,.int .i64 bn,.int .i64 yf,.slice aa al ac] ⟨19,yd,⟨ar,an⟩,⟨br,bn⟩,yf,ag⟩):=aax.out _ _ _ _ _ _ (fun _ h=>h) (aB.stays fun c hc=>⟨fun e=>by have h1:=HS.out c hc;have h2:=(aj.out.low.2 c e).1;have h3:=aj.out.wb;omega,fun e=>by have h1:=HS.out c hc;have h3:=aj.out.wb;omega⟩) bm.out;clear aH aB bf c0 f0 zW HP;go_wp2_with (at_builtin;refine wpList_append_own_at _ rfl _ _ 39 rfl (WB+1) 49 ii (.agg #[.int .i64 0,.int .i64 0,.bool false,.int .i64 0,.bool false,.int .i64 0,.int .i64 0,.slice none 0 0]) 8 80 Tryz.underlying39 bO a8 be bg rfl (by decide) (.slice oa on oc) xs.length xs.flatten rfl (aan aw.out.out.row.own bE) ⟨WZ.heap.size,0,none⟩ 1 1 [.int .i64 19,.int .i64 yd,.bool ar,.int .i64 an,.bool br,.int .i64 bn,.int .i64 yf,.slice aa al ac] rfl rfl (aaB WZ _ _ rfl) (by intro u hu;simp only [Aam,Aao,or_false] at hu;rcases hu with rfl | rfl | rfl | rfl | rfl | rfl | rfl | rfl <;> rfl) (by have:=bj.out;unfold maxLen;omega) (by have:=bj.out;omega) (by have:=bp.out;simp;omega) ?_);intro v9 w9 ae ad _ ai;obtain⟨bd,bh,rfl⟩:=aao ae;have ay:Below WZ.heap.size WZ (WZ.alloc (.cells #[.int .i64 19,.int .i64 yd,.bool ar,.int .i64 an,.bool br,.int .i64 bn,.int .i64 yf,.slice aa al ac] 49)):=by exact bE
          have aq:=aw.out.snoc HS.out ay rfl bo.out ae ad (by rcases ai with h | h;exact .inl h;exact .inr (by first | exact h | (rw [h];simp)));rw [<-Hz.out] at aq;have aF:=hid aq;clear ae ad ai ay aq;go_wp2_with fail;go_roundw
          case rel=>exact⟨k+1,_,_,_,rfl,by omega,by go_num,by rw [aI.out];exact aF.out⟩
          case measure=>simp [intOf];omega
      . have cI:(decide (yo<=19)&&decide (19<=yo))=false:=abI h19
        by_cases h20:yo=20
        . subst h20
          have Hz:Hid (aaI s ⟨20,yd,⟨ar,an⟩,⟨br,bn⟩,yf,ag⟩=([],s.2++[⟨20,yd,⟨ar,an⟩,⟨br,bn⟩,yf,ag⟩])):=by show _=_;unfold aaI;rw [if_neg (show ¬(20:Int)=18 by decide),if_neg (show ¬(20:Int)=19 by decide),if_pos rfl]
          clear h18 h19 cb cI;go_upto_region 20 with (fail)
          obtain⟨WZ,aH⟩:∃V,V=W4.setCell ⟨WB,0,none⟩ (.slice none 0 0):=⟨_,rfl⟩
          rw [<-aH];have bV:adj w WB S WZ (.slice oa on oc) (.slice none 0 0) xs ([],s.2):=by
           rw [aH];exact aN.out.put HS.out ⟨World.ownsRow_nil _ _ _ _,fun cs h=>by cases h⟩ (fun c hc=>by cases hc)
          have aB:Kp (fun c=>c≠WB) W4 WZ:=by rw [aH];exact aaQ W4 WB 0 _
          have bJ:∀(o:Nat) v,W4.cell? ⟨IB,o,none⟩=some v->WZ.cell? ⟨IB,o,none⟩=some v:=fun o v h=>aB.cell (show IB≠WB by have:=aM.out.1;omega) h;have x0:=bJ _ _ x0;have x1:=bJ _ _ x1;have x2:=bJ _ _ x2;have x3:=bJ _ _ x3;have x4:=bJ _ _ x4;have x5:=bJ _ _ x5;have x6:=bJ _ _ x6;have x7:=bJ _ _ x7;have zX:=aac x0;have bp:Hid (WB+1<=WZ.heap.size):=Aai aV.out aB.size;have aw:=hid bV;have bo:Hid (acb S WZ [.int .i64 20,.int .i64 yd,.bool ar,.int .i64 an,.bool br,.int .i64 bn,.int .i64 yf,.slice aa al ac] ⟨20,yd,⟨ar,an⟩,⟨br,bn⟩,yf,ag⟩):=aax.out _ _ _ _ _ _ (fun _ h=>h) ((aaS.below' bI.out).trans (aB.stays fun c hc e=>by have h1:=HS.out c hc;have h2:=aw.out.wb;omega)) bG.out;clear aH bV aB bJ c0 f0 zW;go_wp2_with (at_builtin;refine wpList_append_own_at _ rfl _ _ 39 rfl (WB+1) 49 ii (.agg #[.int .i64 0,.int .i64 0,.bool false,.int .i64 0,.bool false,.int .i64 0,.int .i64 0,.slice none 0 0]) 8 80 Tryz.underlying39 bO a8 be bg rfl (by decide) (.slice oa on oc) xs.length xs.flatten rfl (aan aw.out.out.row.own bE) ⟨WZ.heap.size,0,none⟩ 1 1 [.int .i64 20,.int .i64 yd,.bool ar,.int .i64 an,.bool br,.int .i64 bn,.int .i64 yf,.slice aa al ac] rfl rfl (aaB WZ _ _ rfl) (by intro u hu;simp only [Aam,Aao,or_false] at hu;rcases hu with rfl | rfl | rfl | rfl | rfl | rfl | rfl | rfl <;> rfl) (by have:=bj.out;unfold maxLen;omega) (by have:=bj.out;omega) (by have:=bp.out;simp;omega) ?_);intro v9 w9 ae ad _ ai;obtain⟨bd,bh,rfl⟩:=aao ae;have ay:Below WZ.heap.size WZ (WZ.alloc (.cells #[.int .i64 20,.int .i64 yd,.bool ar,.int .i64 an,.bool br,.int .i64 bn,.int .i64 yf,.slice aa al ac] 49)):=by exact bE
          have aq:=aw.out.snoc HS.out ay rfl bo.out ae ad (by rcases ai with h | h;exact .inl h;exact .inr (by first | exact h | (rw [h];simp)));rw [<-Hz.out] at aq;have aF:=hid aq;clear ae ad ai ay aq;go_wp2_with fail;go_roundw
          case rel=>exact⟨k+1,_,_,_,rfl,by omega,by go_num,by rw [aI.out];exact aF.out⟩
          case measure=>simp [intOf];omega
        . have cS:(decide (yo<=20)&&decide (20<=yo))=false:=abI h20
          have Hz:Hid (aaI s ⟨yo,yd,⟨ar,an⟩,⟨br,bn⟩,yf,ag⟩=(s.1,s.2++[⟨yo,yd,⟨ar,an⟩,⟨br,bn⟩,yf,ag⟩])):=by show _=_;unfold aaI;rw [if_neg h18,if_neg h19,if_neg h20]
          have aw:Hid (adj w WB S W4 (.slice oa on oc) (.slice wa wn wc) xs (s.1,s.2)):=aN.out;have bp:=aV;have bo:Hid (acb S W4 [.int .i64 yo,.int .i64 yd,.bool ar,.int .i64 an,.bool br,.int .i64 bn,.int .i64 yf,.slice aa al ac] ⟨yo,yd,⟨ar,an⟩,⟨br,bn⟩,yf,ag⟩):=aax.out _ _ _ _ _ _ (fun _ h=>h) (aaS.below' bI.out) bG.out;clear h18 h19 h20 c0 f0 zW;go_wp2_with (at_builtin;refine wpList_append_own_at _ rfl _ _ 39 rfl (WB+1) 49 ii (.agg #[.int .i64 0,.int .i64 0,.bool false,.int .i64 0,.bool false,.int .i64 0,.int .i64 0,.slice none 0 0]) 8 80 Tryz.underlying39 bO a8 be bg rfl (by decide) (.slice oa on oc) xs.length xs.flatten rfl (aan aw.out.out.row.own bE) ⟨W4.heap.size,0,none⟩ 1 1 [.int .i64 yo,.int .i64 yd,.bool ar,.int .i64 an,.bool br,.int .i64 bn,.int .i64 yf,.slice aa al ac] rfl rfl (aaB W4 _ _ rfl) (by intro u hu;simp only [Aam,Aao,or_false] at hu;rcases hu with rfl | rfl | rfl | rfl | rfl | rfl | rfl | rfl <;> rfl) (by have:=bj.out;unfold maxLen;omega) (by have:=bj.out;omega) (by have:=bp.out;simp;omega) ?_);intro v9 w9 ae ad _ ai;obtain⟨bd,bh,rfl⟩:=aao ae;have ay:Below W4.heap.size W4 (W4.alloc (.cells #[.int .i64 yo,.int .i64 yd,.bool ar,.int .i64 an,.bool br,.int .i64 bn,.int .i64 yf,.slice aa al ac] 49)):=by exact bE
          have aq:=aw.out.snoc HS.out ay rfl bo.out ae ad (by rcases ai with h | h;exact .inl h;exact .inr (by first | exact h | (rw [h];simp)));rw [<-Hz.out] at aq;have aF:=hid aq;clear ae ad ai ay aq;go_wp2_with fail;go_roundw
          case rel=>exact⟨k+1,_,_,_,rfl,by omega,by go_num,by rw [aI.out];exact aF.out⟩
          case measure=>simp [intOf];omega
  . have cR:k=n:=by omega
    have bY:l.take k=l:=Abq (by rw [ca.out];omega);rw [bY] at bD;have bU:=hid bD;have cF:=hid bX;clear bD bX bY;go_wp2_with fail;go_ret;exact⟨oa,on,oc,xs,rfl,cF.out,by rw [<-cz.out];exact bU.out.out,bU.out.below⟩
end Go.Proofs.YtpeejlpcikefcaaGreatDoor
