import Derived.Test.YtpeejlpcikefcaaGreatDoorPUnSt
/- mem.known. -/
namespace Go.Proofs.YtpeejlpcikefcaaGreatDoor
open Go.RowKit
theorem aq4:(Tryz.prog.info? 74).map (fun i=>(i.zero,i.size,i.bytes))=some (some (.agg #[.bool false,.int .i64 0,.bool false,.int .i64 0]),4,32):=by kernel_rfl
theorem aeG (a : aaA) : ∀ T : List (aaA × aaA), afG (asW a) (T.map abl) = (T.filter fun w => acb w.1 a).map abl
 | []=>rfl
 | x :: T=>by
   have ih:=aeG a T;unfold afG at ih ⊢;have e:asW a (abl x)=!acb x.1 a:=rfl;rw [Aa1,List.filter_cons,List.filter_cons,e,Bool.not_not,ih];split <;> rfl
variable {w:World}{S:Nat->Prop}
theorem adn.del{wr W':World}{WB:Nat}{vo vw v':Value}{xs:List (List Value)}{s:List (aaA×aaA)×List aaK}{T:List (aaA×aaA)}(h:adn w WB S wr vo vw xs s)(hS:∀c,S c->c<w.heap.size)(hk:Kp (fun c=>vw.ownBlock≠some c) wr W')(hr:ade W' (WB+1) 74 4 v' (T.map abl))(hv:∀c,v'.ownBlock=some c->vw.ownBlock=some c) :
 adn w WB S (W'.setCell ⟨WB,0,none⟩ v') vo v' xs (T,s.2):=by
 have ak:=h.low;have aJ:=h.wb;have cL:vw.ownBlock≠some WB:=fun e=>by have:=(ak.2 WB e).1;omega
 have bY:Below w.heap.size w W':=h.below.trans (hk.below fun b hb=>⟨Aay hb h.below.size,fun e=>by have:=(ak.2 b e).1;omega⟩);have bX:W'.heap[WB]?=some (.cells #[vw] 71 (0,0)):=(hk.block WB h.size cL).trans h.cell;have bW:ab2 W' (WB+1) S vo s.2 xs:=h.out.kp hk (fun c hc e=>h.apart c e hc) (fun c hc e=>by have:=(ak.2 c e).1;have:=hS c hc;omega);have cq:Kp (fun c=>c≠WB) W' (W'.setCell ⟨WB,0,none⟩ v'):=aaP W' WB 0 v';exact⟨bY.trans (cq.below fun b hb=>⟨Aay hb bY.size,by omega⟩),h.wb,aak bX v',bW.kp cq (fun c hc e=>by have:=(bW.row.lt c hc).1;omega) (fun c hc e=>by have:=hS c hc;omega),hr.off (cq.less fun c hc e=>by have:=(hr.lt c hc).1;omega),fun c hc=>h.apart c (hv c hc)⟩
theorem adn.box{wr:World}{WB IB:Nat}{vo vw:Value}{xs:List (List Value)}{s:List (aaA×aaA)×List aaK}(h:adn w WB S wr vo vw xs s)(hS:∀c,S c->c<w.heap.size){W':World}(hk:Kp (fun c=>c≠IB) wr W')(h1:WB<IB)(h2:vo.ownBlock≠some IB)(h3:vw.ownBlock≠some IB):adn w WB S W' vo vw xs s :=
 h.kp hk hS (fun c hc e=>by have:=h.wb;omega) (by omega) (fun c hc e=>by subst e;exact h2 hc) (fun c hc e=>by subst e;exact h3 hc)
theorem asI{v:Value}{l:List aaK}(h:SlAt S w 8 acs v l):∀y∈l,I64 y.dst∧I64 y.b.n:=fun y hy=>by
 obtain⟨i,hi⟩:=Acl.1 hy;obtain⟨ao,c,-,-,-,hr⟩:=h;obtain⟨b,off,-,-,bT⟩:=hr (fun e=>by rw [e] at hy;cases hy);obtain⟨cs,⟨v2,-,-,-,h2,-,h4,-⟩,-,-⟩:=bT i y hi;exact⟨h2,h4⟩
theorem akD {a v : aaA} : ∀ {T : List (aaA × aaA)}, adG T a = some v -> ∃ x ∈ T, x.2 = v
 | [],h=>by cases h
 | x :: T,h=>by
   rw [aeU] at h
   by_cases e:eqV x.1 a=true
   . rw [if_pos e] at h
     injection h with h;exact⟨x,Aa3 ..,h⟩
   . rw [if_neg e] at h
     obtain⟨z,h1,h2⟩:=akD h;exact⟨z,Aa2 _ h1,h2⟩
theorem atC {l:List aaK}(hl:∀y∈l,I64 y.dst∧I64 y.b.n){T:List (aaA×aaA)}(hT:∀w∈T,ap7 l w.2){a v:aaA}(h:adG T a=some v):I64 v.n:=by
 obtain⟨x,hx,rfl⟩:=akD h;rcases hT x hx with h1 | ⟨y,hy,⟨-,e⟩ | ⟨-,e⟩⟩
 . exact h1.2
 . rw [e];exact (hl y hy).2
 . rw [e];exact (hl y hy).1
set_option maxRecDepth 100000 in
set_option maxHeartbeats 8000000 in
theorem akE(la:Option Addr)(lc:Nat)(l:List aaK)(n:Nat)(w:World)(hl:SlAt S w 8 acs (.slice la n lc) l)(cy:l.length=n)(hn:n<=1048576)(hS:∀c,S c->c<w.heap.size) :
 Calls Tryz.prog 17 #[.slice la n lc] w fun e w'=>∃a m c xs,e = .returned (.slice a m c)∧m=xs.length∧ab2 w' (w.heap.size+1) S (.slice a m c) (ae8 l) xs∧Below w.heap.size w w':=by
 have cn:=hid (asI hl);have Hl:=hid hl;have cb:=hid cy;have HS:=hid hS;obtain⟨ii,bL,a7,be,a8⟩:=info_parts ahq;obtain⟨iw,b8,bD,bA,bC⟩:=info_parts aq4;obtain⟨W,hW⟩:∃W,W=w.alloc (.cells #[.slice none 0 0] 71):=⟨_,rfl⟩
 have cG:Below w.heap.size w W:=by rw [hW];exact bE
 have bS:adn w w.heap.size S W (.slice none 0 0) (.slice none 0 0) [] ([],[]):=adn.start hW cG;obtain⟨WB,cu⟩:∃WB,WB=w.heap.size:=⟨_,rfl⟩
 rw [<-cu] at bS;have cr:=hid bS;have HW:=hid hW;have cC:=hid cu;clear hl cy hS hW cG bS cu;go_enter Tryz.func17,Tryz.ntmps17;go_upto_region 2 with (fail)
 rw [<-HW.out,<-cC.out];go_wp2_with fail;go_loopw [5,15] (fun s5 s15 wr=>∃(k:Nat) (vo vw:Value) (xs:List (List Value)),vo=s5∧k<=n∧s15 = .int .i64 (k:Int)∧adn w WB S wr vo vw xs ((l.take k).foldl aaX ([],[]))) (fun _ s15 _=>n - (intOf s15).toNat)
 case atStart=>exact⟨0,_,_,_,rfl,Aaj _,rfl,cr.out⟩
 case round =>
  obtain⟨wi,cR⟩:∃wi:World,wi=wr:=⟨_,rfl⟩
  subst cR;obtain⟨k,vo,vw,xs,rfl,hk,rfl,bz⟩:=hrel;obtain⟨oa,oc,cN⟩:=bz.out.slice;subst cN;obtain⟨on,bV⟩:∃on,on=xs.length:=⟨_,rfl⟩
  rw [<-bV] at bz ⊢
  by_cases hkn:k<n
  . have cc:k<l.length:=by rw [cb.out];exact hkn
    have hy:l[k]?=some l[k]:=Aaa cc;obtain⟨y,ck⟩:∃y,y=l[k]:=⟨_,rfl⟩
    rw [<-ck] at hy;have cm:=Hl.out.later aay bz.below;rw [<-cb.out] at cm;obtain⟨ob,oo,aa,ac,cQ,bT,bd,bJ⟩:=an9 cm cc;rw [<-ck] at bT bd bJ;subst cQ;obtain⟨s,hs⟩:∃s,s=(l.take k).foldl aaX ([],[]):=⟨_,rfl⟩
    have bN:(l.take (k+1)).foldl aaX ([],[])=aaX s y:=by rw [hs];exact abo aaX _ hy
    rw [<-hs] at bz;have cg:k<=l.length:=by rw [cb.out];exact hk
    have bM:=(aiW l k cg).2.2;rw [<-hs] at bM;have hT:s.1.length<=1048576:=by
     have:s.1.length<=k:=by rw [hs];exact arV l k cg
     omega
    have cj:=(aiW l k cg).2.1;rw [<-hs] at cj;have cI:=hid cj;clear cj;have b7:xs.length<=1048576:=by rw [bz.out.len];omega
    obtain⟨yo,yd,⟨ar,an⟩,⟨br,bn⟩,yf,ag⟩:=y;dsimp only at bT bd bJ;obtain⟨al,cz⟩:∃al,al=ag.length:=⟨_,rfl⟩
    rw [<-cz] at bT bd;have cw:acs S wi [.int .i64 yo,.int .i64 yd,.bool ar,.int .i64 an,.bool br,.int .i64 bn,.int .i64 yf,.slice aa al ac] ⟨yo,yd,⟨ar,an⟩,⟨br,bn⟩,yf,ag⟩:=⟨_,rfl,bd,bJ⟩
    obtain⟨d0,d1,d2,d3,d4,d5,d6,d7⟩:=bT.get8;have zo:=aac d0;obtain⟨wn,ct⟩:∃wn,wn=s.1.length:=⟨_,rfl⟩
    obtain⟨wa,wc,cO⟩:∃a c,vw = .slice a wn c:=by
     obtain⟨a,c,e⟩:=aap bz.words.own;exact⟨a,c,by rw [e,Aah,ct]⟩
    subst cO;have bU:=hid bz;have aH:=hid bN;have HT:=hid hT;have bj:=hid b7;have bG:=hid cw;have cA:=hid bV;have bO:=hid ct;clear bz bN bM hT b7 cw bV ct hs cm bT bd bJ cz hy ck cc;go_upto_region 7 with (fail)
    obtain⟨IB,b4⟩:∃IB,IB=wi.heap.size:=⟨_,rfl⟩
    obtain⟨W4,b6⟩:∃V,V=wi.alloc (.cells #[.int .i64 yo,.int .i64 yd,.bool ar,.int .i64 an,.bool br,.int .i64 bn,.int .i64 yf,.slice aa al ac] 49):=⟨_,rfl⟩
    have cp:W4.heap[IB]?=some (.cells #[.int .i64 yo,.int .i64 yd,.bool ar,.int .i64 an,.bool br,.int .i64 bn,.int .i64 yf,.slice aa al ac] 49 (0,0)):=by rw [b6,b4];exact heap_alloc_new _ _
    have cv:Below wi.heap.size wi W4:=by rw [b6];exact bE
    have cM:W4.heap.size=IB+1:=by rw [b6,b4];simp
    rw [<-b6,<-b4];have ak:=bU.out.low;have cB:WB<IB:=by rw [b4];exact bU.out.size
    have cE:(Value.slice oa on oc).ownBlock≠some IB:=fun e=>by have:=(ak.1 IB e).2;omega
    have cF:(Value.slice wa wn wc).ownBlock≠some IB:=fun e=>by have:=(ak.2 IB e).2;omega
    have HX : Hid (∀ V, Below W4.heap.size W4 V -> _) := fun V hV => (by
     have h := (aad (cs := [.int .i64 yo, .int .i64 yd, .bool ar, .int .i64 an, .bool br, .int .i64 bn, .int .i64 yf, .slice aa al ac]) ((hV.block IB (by omega)).trans cp)).get8
     simp only [Aab] at h
     exact h : V.cell? ⟨IB, 0, none⟩ = some (.int .i64 yo) ∧ V.cell? ⟨IB, 1, none⟩ = some (.int .i64 yd) ∧ V.cell? ⟨IB, 2, none⟩ = some (.bool ar) ∧ V.cell? ⟨IB, 3, none⟩ = some (.int .i64 an) ∧ V.cell? ⟨IB, 4, none⟩ = some (.bool br) ∧ V.cell? ⟨IB, 5, none⟩ = some (.int .i64 bn) ∧ V.cell? ⟨IB, 6, none⟩ = some (.int .i64 yf) ∧ V.cell? ⟨IB, 7, none⟩ = some (.slice aa al ac))
    have bP:Hid (∀V,Below W4.heap.size W4 V->V.heap[IB]?=some (.cells #[.int .i64 yo,.int .i64 yd,.bool ar,.int .i64 an,.bool br,.int .i64 bn,.int .i64 yf,.slice aa al ac] 49 (0,0))):=fun V hV=>(hV.block IB (by omega)).trans cp;have aN:=hid (bU.out.later cv);have bK:=hid cv;have aM:=hid (And.intro cB (And.intro cE cF));obtain⟨x0,x1,x2,x3,x4,x5,x6,x7⟩:=HX.out W4 (Below.refl _ _);have zX:=aac x0;obtain⟨c0,fz⟩:=aN.out.get;have zW:=aac c0;have cx:WB+1<=W4.heap.size:=by omega
    have aT:=hid cx;have f0:=fz 0;clear b4 b6 cp cv cM ak cB cE cF fz cx d0 d1 d2 d3 d4 d5 d6 d7 zo
    by_cases h18:yo=18
    . subst h18
      have av:=ahT (WB+1) WB (.slice wa wn wc) s.1 ar an W4 c0 aN.out.words HT.out;cases hf:adG s.1 ⟨ar,an⟩ with
      | some v =>
        obtain⟨vr,vn⟩:=v;have cD:=atC cn.out cI.out hf;have cP:=hid cD;have Hz:Hid (aaX s ⟨18,yd,⟨ar,an⟩,⟨br,bn⟩,yf,ag⟩=(s.1,s.2++[⟨1,yd,⟨vr,vn⟩,⟨false,0⟩,0,[]⟩])):=by
         show _=_;unfold aaX;rw [if_pos (show (18:Int)=18 from rfl)];dsimp only;rw [hf];rfl
        rw [hf] at av;simp only [apd] at av;have aD:=hid av;clear hf cD av;go_upto_region 10 with (go_at_call 34;refine aD.out.mono ?_;rintro e w5 ⟨rfl,aA⟩;have aS:=hid aA;have x0:=aab x0 aA;have c0:=aab c0 aA;have zX:=aac x0;have zW:=aac c0;clear aA)
        obtain⟨W6,az⟩:∃V,V=w5.alloc (.cells #[.bool vr,.int .i64 vn] 41):=⟨_,rfl⟩
        obtain⟨CB,aK⟩:∃CB,CB=w5.heap.size:=⟨_,rfl⟩
        have aR:Below w5.heap.size w5 W6:=by rw [az];exact bE
        have aQ:W6.heap[CB]?=some (.cells #[.bool vr,.int .i64 vn] 41 (0,0)):=by rw [az,aK];exact heap_alloc_new _ _
        rw [<-az,<-aK];obtain⟨k0,k1⟩:=(aad (cs:=[_,_]) aQ).get2;rw [Aab] at k1;have zC:=aac k0;have af:Below W4.heap.size W4 W6:=aS.out.trans (aR.mono aS.out.size);have au:adn w WB S W6 (.slice oa on oc) (.slice wa wn wc) xs s:=aN.out.later af;have ah:=hid au;have bu:=hid af;obtain⟨x0,x1,x2,x3,x4,x5,x6,x7⟩:=HX.out W6 af;have zX:=aac x0;obtain⟨c0,fz⟩:=au.get;have f0:=fz 0;have zW:=aac c0;have aL:Hid (WB+1<=W6.heap.size):=Aai aT.out af.size;have aB:=hid (bP.out W6 af);have aO:Hid (acs S W6 [.int .i64 18,.int .i64 yd,.bool ar,.int .i64 an,.bool br,.int .i64 bn,.int .i64 yf,.slice aa al ac] ⟨18,yd,⟨ar,an⟩,⟨br,bn⟩,yf,ag⟩):=aay.out _ _ _ _ _ _ (fun _ h=>h) ((aaS.below' bK.out).trans (aaS.below' af)) bG.out;clear az aK aR aQ af au fz;have g0:=aaq aB.out 0;have g1:=aaq aB.out 1;have g2:=aaq aB.out 2;have g3:=aaq aB.out 3;have g4:=aaq aB.out 4;have g5:=aaq aB.out 5;have g6:=aaq aB.out 6;have g7:=aaq aB.out 7;go_upto_region 20 with (fail)
        obtain⟨WZ,aI⟩:∃V,V=((((((((W6.setCell ⟨IB,0,none⟩ (.int .i64 1)).setCell ⟨IB,1,none⟩ (.int .i64 yd)).setCell ⟨IB,2,none⟩ (.bool vr)).setCell ⟨IB,3,none⟩ (.int .i64 vn)).setCell ⟨IB,4,none⟩ (.bool false)).setCell ⟨IB,5,none⟩ (.int .i64 0)).setCell ⟨IB,6,none⟩ (.int .i64 0)).setCell ⟨IB,7,none⟩ (.slice none 0 0)):=⟨_,rfl⟩
        rw [<-aI];have bh:WZ.heap[IB]?=some (.cells #[.int .i64 1,.int .i64 yd,.bool vr,.int .i64 vn,.bool false,.int .i64 0,.int .i64 0,.slice none 0 0] 49 (0,0)):=by rw [aI];exact (aak (aak (aak (aak (aak (aak (aak (aak aB.out _) _) _) _) _) _) _) _)
        have aC:Kp (fun c=>c≠IB) W6 WZ:=by rw [aI];exact (aaD (aaD (aaD (aaD (aaD (aaD (aaD (aaP W6 IB 0 _) _ _) _ _) _ _) _ _) _ _) _ _) _ _)
        have aw:=hid (ah.out.box HS.out aC aM.out.1 aM.out.2.1 aM.out.2.2);have bq:Hid (WB+1<=WZ.heap.size):=Aai aL.out aC.size;have cK:Hid (I64 yd):=bG.out.choose_spec.2.2.2.1;have bm:Hid (acs S WZ [.int .i64 1,.int .i64 yd,.bool vr,.int .i64 vn,.bool false,.int .i64 0,.int .i64 0,.slice none 0 0] ⟨1,yd,⟨vr,vn⟩,⟨false,0⟩,0,[]⟩):=⟨_,rfl,⟨none,0,rfl,Aac _,by decide,fun h=>absurd rfl h⟩,agw 1 (by decide) (by decide),cK.out,cP.out,agw 0 (by decide) (by decide),agw 0 (by decide) (by decide)⟩
        obtain⟨x0,x1,x2,x3,x4,x5,x6,x7⟩:=(aad (cs:=[_,_,_,_,_,_,_,_]) bh).get8;rw [Aab] at x1 x2 x3 x4 x5 x6 x7;have zX:=aac x0;clear aI bh aC g0 g1 g2 g3 g4 g5 g6 g7 c0 f0 zW k0 k1 zC;go_wp2_with (at_builtin;refine wpList_append_own_at _ rfl _ _ 39 rfl (WB+1) 49 ii (.agg #[.int .i64 0,.int .i64 0,.bool false,.int .i64 0,.bool false,.int .i64 0,.int .i64 0,.slice none 0 0]) 8 80 Tryz.underlying39 bL a7 be a8 rfl (by decide) (.slice oa on oc) xs.length xs.flatten rfl (aao aw.out.out.row.own bE) ⟨WZ.heap.size,0,none⟩ 1 1 [.int .i64 1,.int .i64 yd,.bool vr,.int .i64 vn,.bool false,.int .i64 0,.int .i64 0,.slice none 0 0] rfl rfl (aaB WZ _ _ rfl) (by intro u hu;simp only [Aam,Aaq,or_false] at hu;rcases hu with rfl | rfl | rfl | rfl | rfl | rfl | rfl | rfl <;> rfl) (by have:=bj.out;unfold maxLen;omega) (by have:=bj.out;omega) (by have:=bq.out;simp;omega) ?_);intro v9 w9 ae ad _ ai;obtain⟨bg,bf,rfl⟩:=aap ae;have ay:Below WZ.heap.size WZ (WZ.alloc (.cells #[.int .i64 1,.int .i64 yd,.bool vr,.int .i64 vn,.bool false,.int .i64 0,.int .i64 0,.slice none 0 0] 49)):=by exact bE
        have aq:=aw.out.snoc HS.out ay rfl bm.out ae ad (by rcases ai with h | h;exact .inl h;exact .inr (by first | exact h | (rw [h];simp)));rw [<-Hz.out] at aq;have aF:=hid aq;clear ae ad ai ay aq;go_wp2_with fail;go_roundw
        case rel=>exact⟨k+1,_,_,_,rfl,by omega,by go_num,by rw [aH.out];exact aF.out⟩
        case measure=>simp [intOf];omega
      | none =>
        have Hz:Hid (aaX s ⟨18,yd,⟨ar,an⟩,⟨br,bn⟩,yf,ag⟩=(s.1++[(⟨ar,an⟩,⟨true,yd⟩)],s.2++[⟨18,yd,⟨ar,an⟩,⟨br,bn⟩,yf,ag⟩])):=by
         show _=_;unfold aaX;rw [if_pos (show (18:Int)=18 from rfl)];dsimp only;rw [hf]
        rw [hf] at av;simp only [apd] at av;have aD:=hid av;have aY:=aM.out.2.2;clear hf av;go_upto_region 10 with (go_at_call 34;refine aD.out.mono ?_;rintro e w5 ⟨rfl,aA⟩;have aS:=hid aA;have x0:=aab x0 aA;have c0:=aab c0 aA;have zX:=aac x0;have zW:=aac c0;clear aA)
        obtain⟨W6,az⟩:∃V,V=w5.alloc (.cells #[.bool false,.int .i64 0] 41):=⟨_,rfl⟩
        obtain⟨CB,aK⟩:∃CB,CB=w5.heap.size:=⟨_,rfl⟩
        have aR:Below w5.heap.size w5 W6:=by rw [az];exact bE
        have aQ:W6.heap[CB]?=some (.cells #[.bool false,.int .i64 0] 41 (0,0)):=by rw [az,aK];exact heap_alloc_new _ _
        rw [<-az,<-aK];obtain⟨k0,k1⟩:=(aad (cs:=[_,_]) aQ).get2;rw [Aab] at k1;have zC:=aac k0;have af:Below W4.heap.size W4 W6:=aS.out.trans (aR.mono aS.out.size);have au:adn w WB S W6 (.slice oa on oc) (.slice wa wn wc) xs s:=aN.out.later af;have ah:=hid au;have bu:=hid af;obtain⟨x0,x1,x2,x3,x4,x5,x6,x7⟩:=HX.out W6 af;have zX:=aac x0;obtain⟨c0,fz⟩:=au.get;have f0:=fz 0;have zW:=aac c0;have aL:Hid (WB+1<=W6.heap.size):=Aai aT.out af.size;have aB:=hid (bP.out W6 af);have aO:Hid (acs S W6 [.int .i64 18,.int .i64 yd,.bool ar,.int .i64 an,.bool br,.int .i64 bn,.int .i64 yf,.slice aa al ac] ⟨18,yd,⟨ar,an⟩,⟨br,bn⟩,yf,ag⟩):=aay.out _ _ _ _ _ _ (fun _ h=>h) ((aaS.below' bK.out).trans (aaS.below' af)) bG.out;clear az aK aR aQ af au fz;go_upto_region 20 with
         (at_builtin; refine wpList_append_own_at _ rfl _ _ 71 rfl (WB + 1) 74 iw (.agg #[.bool false, .int .i64 0, .bool false, .int .i64 0]) 4 32 Tryz.underlying71 b8 bD bA bC rfl (by decide) (.slice wa wn wc) (s.1).length ((s.1).map abl).flatten rfl (aao (by have h := ah.out.words.own; rw [Aah] at h; exact h) bE) ⟨W6.heap.size, 0, none⟩ 1 1 [.bool ar, .int .i64 an, .bool true, .int .i64 yd] rfl rfl (aaB W6 _ _ rfl) (by intro u hu; simp only [Aam, Aaq, or_false] at hu; rcases hu with rfl | rfl | rfl | rfl <;> rfl) (by have := HT.out; unfold maxLen; omega) (by have := HT.out; omega) (by have := aL.out; simp; omega) ?_
          intro v9 w9 ae ad _ ai
          obtain ⟨bg, bf, rfl⟩ := aap ae
          have ay : Below W6.heap.size W6 (W6.alloc (.cells #[.bool ar, .int .i64 an, .bool true, .int .i64 yd] 74)) := by exact bE
          have HP := hid (ah.out.push HS.out ay (x := (⟨ar, an⟩, ⟨true, yd⟩)) ae ad (by rcases ai with h | h; exact .inl h; exact .inr (by first | exact h | (rw [h]; simp))))
          have aW : Kp (fun c => (Value.slice wa wn wc).ownBlock ≠ some c) W6 w9 := (Kp.of ay).trans ⟨ad.os, ad.tape, ad.output, ad.size, fun c hc hF => ad.block c hc fun e => hF e.symm⟩
          have bH := hid aW
          have aJ := ah.out.size
          have ak := ah.out.low
          have a1 := (aW.block WB aJ (fun e => by have := (ak.2 WB e).1; omega)).trans ah.out.cell
          have c0 := (aad (cs := [_]) a1).get1
          have f0 := aaq a1 0
          have zW := aac c0
          clear ae ad ai ay aW aJ ak a1)
        obtain⟨WZ,aI⟩:∃V,V=w9.setCell ⟨WB,0,none⟩ (.slice bg ((s.1).length+1) bf):=⟨_,rfl⟩
        rw [<-aI] at HP ⊢;have aC:Kp (fun c=>(Value.slice wa wn wc).ownBlock≠some c∧c≠WB) W6 WZ:=by
         rw [aI];exact (bH.out.less fun c h=>h.1).trans ((aaP w9 WB 0 _).less fun c h=>h.2)
        have bh:=(aC.block IB (Aag.1 aB.out).1 ⟨aY,fun e=>by have:=aM.out.1;omega⟩).trans aB.out;obtain⟨x0,x1,x2,x3,x4,x5,x6,x7⟩:=(aad (cs:=[_,_,_,_,_,_,_,_]) bh).get8;rw [Aab] at x1 x2 x3 x4 x5 x6 x7;have zX:=aac x0;have aw:=HP;have bq:Hid (WB+1<=WZ.heap.size):=Aai aL.out aC.size;have bm:Hid (acs S WZ [.int .i64 18,.int .i64 yd,.bool ar,.int .i64 an,.bool br,.int .i64 bn,.int .i64 yf,.slice aa al ac] ⟨18,yd,⟨ar,an⟩,⟨br,bn⟩,yf,ag⟩):=aay.out _ _ _ _ _ _ (fun _ h=>h) (aC.stays fun c hc=>⟨fun e=>by have h1:=HS.out c hc;have h2:=(ah.out.low.2 c e).1;have h3:=ah.out.wb;omega,fun e=>by have h1:=HS.out c hc;have h3:=ah.out.wb;omega⟩) aO.out;clear aI aC bh c0 f0 zW HP;clear k0 k1 zC;go_wp2_with (at_builtin;refine wpList_append_own_at _ rfl _ _ 39 rfl (WB+1) 49 ii (.agg #[.int .i64 0,.int .i64 0,.bool false,.int .i64 0,.bool false,.int .i64 0,.int .i64 0,.slice none 0 0]) 8 80 Tryz.underlying39 bL a7 be a8 rfl (by decide) (.slice oa on oc) xs.length xs.flatten rfl (aao aw.out.out.row.own bE) ⟨WZ.heap.size,0,none⟩ 1 1 [.int .i64 18,.int .i64 yd,.bool ar,.int .i64 an,.bool br,.int .i64 bn,.int .i64 yf,.slice aa al ac] rfl rfl (aaB WZ _ _ rfl) (by intro u hu;simp only [Aam,Aaq,or_false] at hu;rcases hu with rfl | rfl | rfl | rfl | rfl | rfl | rfl | rfl <;> rfl) (by have:=bj.out;unfold maxLen;omega) (by have:=bj.out;omega) (by have:=bq.out;simp;omega) ?_);intro v9 w9 ae ad _ ai;obtain⟨bg,bf,rfl⟩:=aap ae;have ay:Below WZ.heap.size WZ (WZ.alloc (.cells #[.int .i64 18,.int .i64 yd,.bool ar,.int .i64 an,.bool br,.int .i64 bn,.int .i64 yf,.slice aa al ac] 49)):=by exact bE
        have aq:=aw.out.snoc HS.out ay rfl bm.out ae ad (by rcases ai with h | h;exact .inl h;exact .inr (by first | exact h | (rw [h];simp)));rw [<-Hz.out] at aq;have aF:=hid aq;clear ae ad ai ay aq;go_wp2_with fail;go_roundw
        case rel=>exact⟨k+1,_,_,_,rfl,by omega,by go_num,by rw [aH.out];exact aF.out⟩
        case measure=>simp [intOf];omega
    . have ca:(decide (yo<=18)&&decide (18<=yo))=false:=ac0 h18
      by_cases h19:yo=19
      . subst h19
        have av:=ahT (WB+1) WB (.slice wa wn wc) s.1 ar an W4 c0 aN.out.words HT.out;cases hf:adG s.1 ⟨ar,an⟩ with
        | some v =>
          obtain⟨vr,vn⟩:=v;rw [hf] at av;simp only [apd] at av;have aD:=hid av;clear av
          by_cases hv:vr=br∧vn=bn
          . obtain⟨rfl,rfl⟩:=hv
            have Hz:Hid (aaX s ⟨19,yd,⟨ar,an⟩,⟨vr,vn⟩,yf,ag⟩=s):=by
             show _=_;unfold aaX;rw [if_neg (show ¬(19:Int)=18 by decide),if_pos (show (19:Int)=19 from rfl),if_pos hf]
            clear hf h18 ca;go_upto_region 15 with (go_at_call 34;refine aD.out.mono ?_;rintro e w5 ⟨rfl,aA⟩;have aS:=hid aA;have x0:=aab x0 aA;have c0:=aab c0 aA;have zX:=aac x0;have zW:=aac c0;clear aA)
            obtain⟨W6,az⟩:∃V,V=w5.alloc (.cells #[.bool vr,.int .i64 vn] 41):=⟨_,rfl⟩
            obtain⟨CB,aK⟩:∃CB,CB=w5.heap.size:=⟨_,rfl⟩
            have aR:Below w5.heap.size w5 W6:=by rw [az];exact bE
            have aQ:W6.heap[CB]?=some (.cells #[.bool vr,.int .i64 vn] 41 (0,0)):=by rw [az,aK];exact heap_alloc_new _ _
            rw [<-az,<-aK];obtain⟨k0,k1⟩:=(aad (cs:=[_,_]) aQ).get2;rw [Aab] at k1;have zC:=aac k0;have af:Below W4.heap.size W4 W6:=aS.out.trans (aR.mono aS.out.size);have au:adn w WB S W6 (.slice oa on oc) (.slice wa wn wc) xs s:=aN.out.later af;have ah:=hid au;have bu:=hid af;obtain⟨x0,x1,x2,x3,x4,x5,x6,x7⟩:=HX.out W6 af;have zX:=aac x0;obtain⟨c0,fz⟩:=au.get;have f0:=fz 0;have zW:=aac c0;have aL:Hid (WB+1<=W6.heap.size):=Aai aT.out af.size;have aB:=hid (bP.out W6 af);have aO:Hid (acs S W6 [.int .i64 19,.int .i64 yd,.bool ar,.int .i64 an,.bool vr,.int .i64 vn,.int .i64 yf,.slice aa al ac] ⟨19,yd,⟨ar,an⟩,⟨vr,vn⟩,yf,ag⟩):=aay.out _ _ _ _ _ _ (fun _ h=>h) ((aaS.below' bK.out).trans (aaS.below' af)) bG.out;clear az aK aR aQ af au fz;clear c0 f0 zW;go_wp2_with fail;go_roundw
            case rel=>exact⟨k+1,_,_,_,rfl,by omega,by go_num,by rw [aH.out,Hz.out];exact ah.out⟩
            case measure=>simp [intOf];omega
          . have aX:¬adG s.1 ⟨ar,an⟩=some ⟨br,bn⟩:=fun e=>by
             rw [hf] at e;injection e with e;injection e with e1 e2;exact hv ⟨e1,e2⟩
            have b9:(vr=br∧(decide (vn<=bn)&&decide (bn<=vn))=false)∨(vr=true∧br=false)∨(vr=false∧br=true):=by
             cases vr <;> cases br
             . exact .inl ⟨rfl,ac0 fun e=>hv ⟨rfl,e⟩⟩
             . exact .inr (.inr ⟨rfl,rfl⟩)
             . exact .inr (.inl ⟨rfl,rfl⟩)
             . exact .inl ⟨rfl,ac0 fun e=>hv ⟨rfl,e⟩⟩
            clear hf hv h18 ca;rcases b9 with⟨hvr,q0⟩ | ⟨hvr,hbr⟩ | ⟨hvr,hbr⟩
            . subst hvr
              have Hz:Hid (aaX s ⟨19,yd,⟨ar,an⟩,⟨vr,bn⟩,yf,ag⟩=(s.1.filter (fun w=>acb w.1 ⟨ar,an⟩)++[(⟨ar,an⟩,⟨vr,bn⟩)],s.2++[⟨19,yd,⟨ar,an⟩,⟨vr,bn⟩,yf,ag⟩])):=by
               show _=_;unfold aaX;rw [if_neg (show ¬(19:Int)=18 by decide),if_pos (show (19:Int)=19 from rfl),if_neg aX]
              clear aX;go_upto_region 15 with (go_at_call 34;refine aD.out.mono ?_;rintro e w5 ⟨rfl,aA⟩;have aS:=hid aA;have x0:=aab x0 aA;have c0:=aab c0 aA;have zX:=aac x0;have zW:=aac c0;clear aA)
              obtain⟨W6,az⟩:∃V,V=w5.alloc (.cells #[.bool vr,.int .i64 vn] 41):=⟨_,rfl⟩
              obtain⟨CB,aK⟩:∃CB,CB=w5.heap.size:=⟨_,rfl⟩
              have aR:Below w5.heap.size w5 W6:=by rw [az];exact bE
              have aQ:W6.heap[CB]?=some (.cells #[.bool vr,.int .i64 vn] 41 (0,0)):=by rw [az,aK];exact heap_alloc_new _ _
              rw [<-az,<-aK];obtain⟨k0,k1⟩:=(aad (cs:=[_,_]) aQ).get2;rw [Aab] at k1;have zC:=aac k0;have af:Below W4.heap.size W4 W6:=aS.out.trans (aR.mono aS.out.size);have au:adn w WB S W6 (.slice oa on oc) (.slice wa wn wc) xs s:=aN.out.later af;have ah:=hid au;have bu:=hid af;obtain⟨x0,x1,x2,x3,x4,x5,x6,x7⟩:=HX.out W6 af;have zX:=aac x0;obtain⟨c0,fz⟩:=au.get;have f0:=fz 0;have zW:=aac c0;have aL:Hid (WB+1<=W6.heap.size):=Aai aT.out af.size;have aB:=hid (bP.out W6 af);have aO:Hid (acs S W6 [.int .i64 19,.int .i64 yd,.bool ar,.int .i64 an,.bool vr,.int .i64 bn,.int .i64 yf,.slice aa al ac] ⟨19,yd,⟨ar,an⟩,⟨vr,bn⟩,yf,ag⟩):=aay.out _ _ _ _ _ _ (fun _ h=>h) ((aaS.below' bK.out).trans (aaS.below' af)) bG.out;clear az aK aR aQ af au fz;obtain⟨T8,aZ⟩:∃T8,T8=s.1.filter (fun w=>acb w.1 ⟨ar,an⟩):=⟨_,rfl⟩
              have bF:Hid (T8.length<=1048576):=by
               show _<=_;rw [aZ];exact Aai (Ack _ _) HT.out
              have aG := acM (WB + 1) wa wn wc (s.1.map abl) W6 ah.out.words (by rw [Aah]; exact bO.out.symm) (by have := HT.out; have := bO.out; omega) (fun cs bR => by
               obtain ⟨x, -, rfl⟩ := Aal.1 bR
               exact ⟨_, _, _, _, rfl⟩) (asW ⟨ar, an⟩) (.pointer (some ⟨IB, 0, none⟩)) (fun V hV b0 b1 b2 b3 hm => by
               obtain ⟨x, hx, e⟩ := Aal.1 hm
               injection e with e0 e; injection e with e1 e; injection e with e2 e; injection e with e3 e
               subst e0 e1 e2 e3
               have h := (aad (cs := [_, _, _, _, _, _, _, _]) ((hV.block IB (Aag.1 aB.out).1 aM.out.2.2).trans aB.out)).get8
               simp only [Aab] at h
               exact ag3 IB ar an V h.2.2.1 h.2.2.2.1 x.1.reg x.1.n x.2.reg x.2.n)
              rw [aeG,<-aZ] at aG;rw [<-aZ] at Hz;have bo:=hid aG;clear aZ aG;go_upto_region 17 with
               (go_at_call 37; refine bo.out.mono ?_; rintro e w7 ⟨m, hm, rfl, bB, aU⟩
                have aJ := ah.out.size
                have ak := ah.out.low
                have bk := (aU.block WB aJ (fun e => by have := (ak.2 WB e).1; omega)).trans ah.out.cell
                have c0 := (aad (cs := [_]) bk).get1
                have f0 := aaq bk 0
                have zW := aac c0
                have h7 := (aU.block IB (Aag.1 aB.out).1 aM.out.2.2).trans aB.out
                obtain ⟨x0, x1, x2, x3, x4, x5, x6, x7⟩ := (aad (cs := [_, _, _, _, _, _, _, _]) h7).get8
                rw [Aab] at x1 x2 x3 x4 x5 x6 x7
                have zX := aac x0
                have H7 := hid h7
                have Hm := hid hm
                have bQ := hid bB
                have bl := hid aU
                clear aJ ak bk h7 hm bB aU)
              have ax:(Value.slice wa m wc).ownBlock=(Value.slice wa wn wc).ownBlock:=by cases wa <;> rfl
              obtain⟨W8,a6⟩:∃V,V=w7.setCell ⟨WB,0,none⟩ (.slice wa m wc):=⟨_,rfl⟩
              rw [<-a6];have aE:adn w WB S W8 (.slice oa on oc) (.slice wa m wc) xs (T8,s.2):=by
               rw [a6];exact ah.out.del HS.out bl.out bQ.out (fun c hc=>by rw [<-ax];exact hc)
              have aV:Kp (fun c=>c≠WB) w7 W8:=by rw [a6];exact aaP w7 WB 0 _
              have bp:=(aV.block IB (Aag.1 H7.out).1 (by have:=aM.out.1;omega)).trans H7.out;obtain⟨x0,x1,x2,x3,x4,x5,x6,x7⟩:=(aad (cs:=[_,_,_,_,_,_,_,_]) bp).get8;rw [Aab] at x1 x2 x3 x4 x5 x6 x7;have zX:=aac x0;obtain⟨c0,fz⟩:=aE.get;have f0:=fz 0;have zW:=aac c0;have aY:(Value.slice wa m wc).ownBlock≠some IB:=by rw [ax];exact aM.out.2.2
              have aj:=hid aE;have bw:=hid bp;have aP:Hid (WB+1<=W8.heap.size):=Aai aL.out (Aai bl.out.size aV.size);have bt:Hid (acs S W8 [.int .i64 19,.int .i64 yd,.bool ar,.int .i64 an,.bool vr,.int .i64 bn,.int .i64 yf,.slice aa al ac] ⟨19,yd,⟨ar,an⟩,⟨vr,bn⟩,yf,ag⟩):=aay.out _ _ _ _ _ _ (fun _ h=>h) ((bl.out.stays fun c hc e=>by have h1:=HS.out c hc;have h2:=(ah.out.low.2 c e).1;have h3:=ah.out.wb;omega).trans (aV.stays fun c hc e=>by have h1:=HS.out c hc;have h3:=ah.out.wb;omega)) aO.out;have bx:m=T8.length:=by rw [Hm.out,Aah]
              have cf:=hid bx;clear a6 aE aV bp fz ax bx k0 k1 zC;go_upto_region 20 with
               (at_builtin; refine wpList_append_own_at _ rfl _ _ 71 rfl (WB + 1) 74 iw (.agg #[.bool false, .int .i64 0, .bool false, .int .i64 0]) 4 32 Tryz.underlying71 b8 bD bA bC rfl (by decide) (.slice wa m wc) (T8).length ((T8).map abl).flatten rfl (aao (by have h := aj.out.words.own; rw [Aah] at h; exact h) bE) ⟨W8.heap.size, 0, none⟩ 1 1 [.bool ar, .int .i64 an, .bool vr, .int .i64 bn] rfl rfl (aaB W8 _ _ rfl) (by intro u hu; simp only [Aam, Aaq, or_false] at hu; rcases hu with rfl | rfl | rfl | rfl <;> rfl) (by have := bF.out; unfold maxLen; omega) (by have := bF.out; omega) (by have := aP.out; simp; omega) ?_
                intro v9 w9 ae ad _ ai
                obtain ⟨bg, bf, rfl⟩ := aap ae
                have ay : Below W8.heap.size W8 (W8.alloc (.cells #[.bool ar, .int .i64 an, .bool vr, .int .i64 bn] 74)) := by exact bE
                have HP := hid (aj.out.push HS.out ay (x := (⟨ar, an⟩, ⟨vr, bn⟩)) ae ad (by rcases ai with h | h; exact .inl h; exact .inr (by first | exact h | (rw [h]; simp))))
                have aW : Kp (fun c => (Value.slice wa m wc).ownBlock ≠ some c) W8 w9 := (Kp.of ay).trans ⟨ad.os, ad.tape, ad.output, ad.size, fun c hc hF => ad.block c hc fun e => hF e.symm⟩
                have bH := hid aW
                have aJ := aj.out.size
                have ak := aj.out.low
                have a1 := (aW.block WB aJ (fun e => by have := (ak.2 WB e).1; omega)).trans aj.out.cell
                have c0 := (aad (cs := [_]) a1).get1
                have f0 := aaq a1 0
                have zW := aac c0
                clear ae ad ai ay aW aJ ak a1)
              obtain⟨WZ,aI⟩:∃V,V=w9.setCell ⟨WB,0,none⟩ (.slice bg ((T8).length+1) bf):=⟨_,rfl⟩
              rw [<-aI] at HP ⊢;have aC:Kp (fun c=>(Value.slice wa m wc).ownBlock≠some c∧c≠WB) W8 WZ:=by
               rw [aI];exact (bH.out.less fun c h=>h.1).trans ((aaP w9 WB 0 _).less fun c h=>h.2)
              have bh:=(aC.block IB (Aag.1 bw.out).1 ⟨aY,fun e=>by have:=aM.out.1;omega⟩).trans bw.out;obtain⟨x0,x1,x2,x3,x4,x5,x6,x7⟩:=(aad (cs:=[_,_,_,_,_,_,_,_]) bh).get8;rw [Aab] at x1 x2 x3 x4 x5 x6 x7;have zX:=aac x0;have aw:=HP;have bq:Hid (WB+1<=WZ.heap.size):=Aai aP.out aC.size;have bm:Hid (acs S WZ [.int .i64 19,.int .i64 yd,.bool ar,.int .i64 an,.bool vr,.int .i64 bn,.int .i64 yf,.slice aa al ac] ⟨19,yd,⟨ar,an⟩,⟨vr,bn⟩,yf,ag⟩):=aay.out _ _ _ _ _ _ (fun _ h=>h) (aC.stays fun c hc=>⟨fun e=>by have h1:=HS.out c hc;have h2:=(aj.out.low.2 c e).1;have h3:=aj.out.wb;omega,fun e=>by have h1:=HS.out c hc;have h3:=aj.out.wb;omega⟩) bt.out;clear aI aC bh c0 f0 zW HP;go_wp2_with (at_builtin;refine wpList_append_own_at _ rfl _ _ 39 rfl (WB+1) 49 ii (.agg #[.int .i64 0,.int .i64 0,.bool false,.int .i64 0,.bool false,.int .i64 0,.int .i64 0,.slice none 0 0]) 8 80 Tryz.underlying39 bL a7 be a8 rfl (by decide) (.slice oa on oc) xs.length xs.flatten rfl (aao aw.out.out.row.own bE) ⟨WZ.heap.size,0,none⟩ 1 1 [.int .i64 19,.int .i64 yd,.bool ar,.int .i64 an,.bool vr,.int .i64 bn,.int .i64 yf,.slice aa al ac] rfl rfl (aaB WZ _ _ rfl) (by intro u hu;simp only [Aam,Aaq,or_false] at hu;rcases hu with rfl | rfl | rfl | rfl | rfl | rfl | rfl | rfl <;> rfl) (by have:=bj.out;unfold maxLen;omega) (by have:=bj.out;omega) (by have:=bq.out;simp;omega) ?_);intro v9 w9 ae ad _ ai;obtain⟨bg,bf,rfl⟩:=aap ae;have ay:Below WZ.heap.size WZ (WZ.alloc (.cells #[.int .i64 19,.int .i64 yd,.bool ar,.int .i64 an,.bool vr,.int .i64 bn,.int .i64 yf,.slice aa al ac] 49)):=by exact bE
              have aq:=aw.out.snoc HS.out ay rfl bm.out ae ad (by rcases ai with h | h;exact .inl h;exact .inr (by first | exact h | (rw [h];simp)));rw [<-Hz.out] at aq;have aF:=hid aq;clear ae ad ai ay aq;go_wp2_with fail;go_roundw
              case rel=>exact⟨k+1,_,_,_,rfl,by omega,by go_num,by rw [aH.out];exact aF.out⟩
              case measure=>simp [intOf];omega
            . subst hvr
              subst hbr;have Hz:Hid (aaX s ⟨19,yd,⟨ar,an⟩,⟨false,bn⟩,yf,ag⟩=(s.1.filter (fun w=>acb w.1 ⟨ar,an⟩)++[(⟨ar,an⟩,⟨false,bn⟩)],s.2++[⟨19,yd,⟨ar,an⟩,⟨false,bn⟩,yf,ag⟩])):=by
               show _=_;unfold aaX;rw [if_neg (show ¬(19:Int)=18 by decide),if_pos (show (19:Int)=19 from rfl),if_neg aX]
              clear aX;go_upto_region 15 with (go_at_call 34;refine aD.out.mono ?_;rintro e w5 ⟨rfl,aA⟩;have aS:=hid aA;have x0:=aab x0 aA;have c0:=aab c0 aA;have zX:=aac x0;have zW:=aac c0;clear aA)
              obtain⟨W6,az⟩:∃V,V=w5.alloc (.cells #[.bool true,.int .i64 vn] 41):=⟨_,rfl⟩
              obtain⟨CB,aK⟩:∃CB,CB=w5.heap.size:=⟨_,rfl⟩
              have aR:Below w5.heap.size w5 W6:=by rw [az];exact bE
              have aQ:W6.heap[CB]?=some (.cells #[.bool true,.int .i64 vn] 41 (0,0)):=by rw [az,aK];exact heap_alloc_new _ _
              rw [<-az,<-aK];obtain⟨k0,k1⟩:=(aad (cs:=[_,_]) aQ).get2;rw [Aab] at k1;have zC:=aac k0;have af:Below W4.heap.size W4 W6:=aS.out.trans (aR.mono aS.out.size);have au:adn w WB S W6 (.slice oa on oc) (.slice wa wn wc) xs s:=aN.out.later af;have ah:=hid au;have bu:=hid af;obtain⟨x0,x1,x2,x3,x4,x5,x6,x7⟩:=HX.out W6 af;have zX:=aac x0;obtain⟨c0,fz⟩:=au.get;have f0:=fz 0;have zW:=aac c0;have aL:Hid (WB+1<=W6.heap.size):=Aai aT.out af.size;have aB:=hid (bP.out W6 af);have aO:Hid (acs S W6 [.int .i64 19,.int .i64 yd,.bool ar,.int .i64 an,.bool false,.int .i64 bn,.int .i64 yf,.slice aa al ac] ⟨19,yd,⟨ar,an⟩,⟨false,bn⟩,yf,ag⟩):=aay.out _ _ _ _ _ _ (fun _ h=>h) ((aaS.below' bK.out).trans (aaS.below' af)) bG.out;clear az aK aR aQ af au fz;obtain⟨T8,aZ⟩:∃T8,T8=s.1.filter (fun w=>acb w.1 ⟨ar,an⟩):=⟨_,rfl⟩
              have bF:Hid (T8.length<=1048576):=by
               show _<=_;rw [aZ];exact Aai (Ack _ _) HT.out
              have aG := acM (WB + 1) wa wn wc (s.1.map abl) W6 ah.out.words (by rw [Aah]; exact bO.out.symm) (by have := HT.out; have := bO.out; omega) (fun cs bR => by
               obtain ⟨x, -, rfl⟩ := Aal.1 bR
               exact ⟨_, _, _, _, rfl⟩) (asW ⟨ar, an⟩) (.pointer (some ⟨IB, 0, none⟩)) (fun V hV b0 b1 b2 b3 hm => by
               obtain ⟨x, hx, e⟩ := Aal.1 hm
               injection e with e0 e; injection e with e1 e; injection e with e2 e; injection e with e3 e
               subst e0 e1 e2 e3
               have h := (aad (cs := [_, _, _, _, _, _, _, _]) ((hV.block IB (Aag.1 aB.out).1 aM.out.2.2).trans aB.out)).get8
               simp only [Aab] at h
               exact ag3 IB ar an V h.2.2.1 h.2.2.2.1 x.1.reg x.1.n x.2.reg x.2.n)
              rw [aeG,<-aZ] at aG;rw [<-aZ] at Hz;have bo:=hid aG;clear aZ aG;go_upto_region 17 with
               (go_at_call 37; refine bo.out.mono ?_; rintro e w7 ⟨m, hm, rfl, bB, aU⟩
                have aJ := ah.out.size
                have ak := ah.out.low
                have bk := (aU.block WB aJ (fun e => by have := (ak.2 WB e).1; omega)).trans ah.out.cell
                have c0 := (aad (cs := [_]) bk).get1
                have f0 := aaq bk 0
                have zW := aac c0
                have h7 := (aU.block IB (Aag.1 aB.out).1 aM.out.2.2).trans aB.out
                obtain ⟨x0, x1, x2, x3, x4, x5, x6, x7⟩ := (aad (cs := [_, _, _, _, _, _, _, _]) h7).get8
                rw [Aab] at x1 x2 x3 x4 x5 x6 x7
                have zX := aac x0
                have H7 := hid h7
                have Hm := hid hm
                have bQ := hid bB
                have bl := hid aU
                clear aJ ak bk h7 hm bB aU)
              have ax:(Value.slice wa m wc).ownBlock=(Value.slice wa wn wc).ownBlock:=by cases wa <;> rfl
              obtain⟨W8,a6⟩:∃V,V=w7.setCell ⟨WB,0,none⟩ (.slice wa m wc):=⟨_,rfl⟩
              rw [<-a6];have aE:adn w WB S W8 (.slice oa on oc) (.slice wa m wc) xs (T8,s.2):=by
               rw [a6];exact ah.out.del HS.out bl.out bQ.out (fun c hc=>by rw [<-ax];exact hc)
              have aV:Kp (fun c=>c≠WB) w7 W8:=by rw [a6];exact aaP w7 WB 0 _
              have bp:=(aV.block IB (Aag.1 H7.out).1 (by have:=aM.out.1;omega)).trans H7.out;obtain⟨x0,x1,x2,x3,x4,x5,x6,x7⟩:=(aad (cs:=[_,_,_,_,_,_,_,_]) bp).get8;rw [Aab] at x1 x2 x3 x4 x5 x6 x7;have zX:=aac x0;obtain⟨c0,fz⟩:=aE.get;have f0:=fz 0;have zW:=aac c0;have aY:(Value.slice wa m wc).ownBlock≠some IB:=by rw [ax];exact aM.out.2.2
              have aj:=hid aE;have bw:=hid bp;have aP:Hid (WB+1<=W8.heap.size):=Aai aL.out (Aai bl.out.size aV.size);have bt:Hid (acs S W8 [.int .i64 19,.int .i64 yd,.bool ar,.int .i64 an,.bool false,.int .i64 bn,.int .i64 yf,.slice aa al ac] ⟨19,yd,⟨ar,an⟩,⟨false,bn⟩,yf,ag⟩):=aay.out _ _ _ _ _ _ (fun _ h=>h) ((bl.out.stays fun c hc e=>by have h1:=HS.out c hc;have h2:=(ah.out.low.2 c e).1;have h3:=ah.out.wb;omega).trans (aV.stays fun c hc e=>by have h1:=HS.out c hc;have h3:=ah.out.wb;omega)) aO.out;have bx:m=T8.length:=by rw [Hm.out,Aah]
              have cf:=hid bx;clear a6 aE aV bp fz ax bx k0 k1 zC;go_upto_region 20 with
               (at_builtin; refine wpList_append_own_at _ rfl _ _ 71 rfl (WB + 1) 74 iw (.agg #[.bool false, .int .i64 0, .bool false, .int .i64 0]) 4 32 Tryz.underlying71 b8 bD bA bC rfl (by decide) (.slice wa m wc) (T8).length ((T8).map abl).flatten rfl (aao (by have h := aj.out.words.own; rw [Aah] at h; exact h) bE) ⟨W8.heap.size, 0, none⟩ 1 1 [.bool ar, .int .i64 an, .bool false, .int .i64 bn] rfl rfl (aaB W8 _ _ rfl) (by intro u hu; simp only [Aam, Aaq, or_false] at hu; rcases hu with rfl | rfl | rfl | rfl <;> rfl) (by have := bF.out; unfold maxLen; omega) (by have := bF.out; omega) (by have := aP.out; simp; omega) ?_
                intro v9 w9 ae ad _ ai
                obtain ⟨bg, bf, rfl⟩ := aap ae
                have ay : Below W8.heap.size W8 (W8.alloc (.cells #[.bool ar, .int .i64 an, .bool false, .int .i64 bn] 74)) := by exact bE
                have HP := hid (aj.out.push HS.out ay (x := (⟨ar, an⟩, ⟨false, bn⟩)) ae ad (by rcases ai with h | h; exact .inl h; exact .inr (by first | exact h | (rw [h]; simp))))
                have aW : Kp (fun c => (Value.slice wa m wc).ownBlock ≠ some c) W8 w9 := (Kp.of ay).trans ⟨ad.os, ad.tape, ad.output, ad.size, fun c hc hF => ad.block c hc fun e => hF e.symm⟩
                have bH := hid aW
                have aJ := aj.out.size
                have ak := aj.out.low
                have a1 := (aW.block WB aJ (fun e => by have := (ak.2 WB e).1; omega)).trans aj.out.cell
                have c0 := (aad (cs := [_]) a1).get1
                have f0 := aaq a1 0
                have zW := aac c0
                clear ae ad ai ay aW aJ ak a1)
              obtain⟨WZ,aI⟩:∃V,V=w9.setCell ⟨WB,0,none⟩ (.slice bg ((T8).length+1) bf):=⟨_,rfl⟩
              rw [<-aI] at HP ⊢;have aC:Kp (fun c=>(Value.slice wa m wc).ownBlock≠some c∧c≠WB) W8 WZ:=by
               rw [aI];exact (bH.out.less fun c h=>h.1).trans ((aaP w9 WB 0 _).less fun c h=>h.2)
              have bh:=(aC.block IB (Aag.1 bw.out).1 ⟨aY,fun e=>by have:=aM.out.1;omega⟩).trans bw.out;obtain⟨x0,x1,x2,x3,x4,x5,x6,x7⟩:=(aad (cs:=[_,_,_,_,_,_,_,_]) bh).get8;rw [Aab] at x1 x2 x3 x4 x5 x6 x7;have zX:=aac x0;have aw:=HP;have bq:Hid (WB+1<=WZ.heap.size):=Aai aP.out aC.size;have bm:Hid (acs S WZ [.int .i64 19,.int .i64 yd,.bool ar,.int .i64 an,.bool false,.int .i64 bn,.int .i64 yf,.slice aa al ac] ⟨19,yd,⟨ar,an⟩,⟨false,bn⟩,yf,ag⟩):=aay.out _ _ _ _ _ _ (fun _ h=>h) (aC.stays fun c hc=>⟨fun e=>by have h1:=HS.out c hc;have h2:=(aj.out.low.2 c e).1;have h3:=aj.out.wb;omega,fun e=>by have h1:=HS.out c hc;have h3:=aj.out.wb;omega⟩) bt.out;clear aI aC bh c0 f0 zW HP;go_wp2_with (at_builtin;refine wpList_append_own_at _ rfl _ _ 39 rfl (WB+1) 49 ii (.agg #[.int .i64 0,.int .i64 0,.bool false,.int .i64 0,.bool false,.int .i64 0,.int .i64 0,.slice none 0 0]) 8 80 Tryz.underlying39 bL a7 be a8 rfl (by decide) (.slice oa on oc) xs.length xs.flatten rfl (aao aw.out.out.row.own bE) ⟨WZ.heap.size,0,none⟩ 1 1 [.int .i64 19,.int .i64 yd,.bool ar,.int .i64 an,.bool false,.int .i64 bn,.int .i64 yf,.slice aa al ac] rfl rfl (aaB WZ _ _ rfl) (by intro u hu;simp only [Aam,Aaq,or_false] at hu;rcases hu with rfl | rfl | rfl | rfl | rfl | rfl | rfl | rfl <;> rfl) (by have:=bj.out;unfold maxLen;omega) (by have:=bj.out;omega) (by have:=bq.out;simp;omega) ?_);intro v9 w9 ae ad _ ai;obtain⟨bg,bf,rfl⟩:=aap ae;have ay:Below WZ.heap.size WZ (WZ.alloc (.cells #[.int .i64 19,.int .i64 yd,.bool ar,.int .i64 an,.bool false,.int .i64 bn,.int .i64 yf,.slice aa al ac] 49)):=by exact bE
              have aq:=aw.out.snoc HS.out ay rfl bm.out ae ad (by rcases ai with h | h;exact .inl h;exact .inr (by first | exact h | (rw [h];simp)));rw [<-Hz.out] at aq;have aF:=hid aq;clear ae ad ai ay aq;go_wp2_with fail;go_roundw
              case rel=>exact⟨k+1,_,_,_,rfl,by omega,by go_num,by rw [aH.out];exact aF.out⟩
              case measure=>simp [intOf];omega
            . subst hvr
              subst hbr;have Hz:Hid (aaX s ⟨19,yd,⟨ar,an⟩,⟨true,bn⟩,yf,ag⟩=(s.1.filter (fun w=>acb w.1 ⟨ar,an⟩)++[(⟨ar,an⟩,⟨true,bn⟩)],s.2++[⟨19,yd,⟨ar,an⟩,⟨true,bn⟩,yf,ag⟩])):=by
               show _=_;unfold aaX;rw [if_neg (show ¬(19:Int)=18 by decide),if_pos (show (19:Int)=19 from rfl),if_neg aX]
              clear aX;go_upto_region 15 with (go_at_call 34;refine aD.out.mono ?_;rintro e w5 ⟨rfl,aA⟩;have aS:=hid aA;have x0:=aab x0 aA;have c0:=aab c0 aA;have zX:=aac x0;have zW:=aac c0;clear aA)
              obtain⟨W6,az⟩:∃V,V=w5.alloc (.cells #[.bool false,.int .i64 vn] 41):=⟨_,rfl⟩
              obtain⟨CB,aK⟩:∃CB,CB=w5.heap.size:=⟨_,rfl⟩
              have aR:Below w5.heap.size w5 W6:=by rw [az];exact bE
              have aQ:W6.heap[CB]?=some (.cells #[.bool false,.int .i64 vn] 41 (0,0)):=by rw [az,aK];exact heap_alloc_new _ _
              rw [<-az,<-aK];obtain⟨k0,k1⟩:=(aad (cs:=[_,_]) aQ).get2;rw [Aab] at k1;have zC:=aac k0;have af:Below W4.heap.size W4 W6:=aS.out.trans (aR.mono aS.out.size);have au:adn w WB S W6 (.slice oa on oc) (.slice wa wn wc) xs s:=aN.out.later af;have ah:=hid au;have bu:=hid af;obtain⟨x0,x1,x2,x3,x4,x5,x6,x7⟩:=HX.out W6 af;have zX:=aac x0;obtain⟨c0,fz⟩:=au.get;have f0:=fz 0;have zW:=aac c0;have aL:Hid (WB+1<=W6.heap.size):=Aai aT.out af.size;have aB:=hid (bP.out W6 af);have aO:Hid (acs S W6 [.int .i64 19,.int .i64 yd,.bool ar,.int .i64 an,.bool true,.int .i64 bn,.int .i64 yf,.slice aa al ac] ⟨19,yd,⟨ar,an⟩,⟨true,bn⟩,yf,ag⟩):=aay.out _ _ _ _ _ _ (fun _ h=>h) ((aaS.below' bK.out).trans (aaS.below' af)) bG.out;clear az aK aR aQ af au fz;obtain⟨T8,aZ⟩:∃T8,T8=s.1.filter (fun w=>acb w.1 ⟨ar,an⟩):=⟨_,rfl⟩
              have bF:Hid (T8.length<=1048576):=by
               show _<=_;rw [aZ];exact Aai (Ack _ _) HT.out
              have aG := acM (WB + 1) wa wn wc (s.1.map abl) W6 ah.out.words (by rw [Aah]; exact bO.out.symm) (by have := HT.out; have := bO.out; omega) (fun cs bR => by
               obtain ⟨x, -, rfl⟩ := Aal.1 bR
               exact ⟨_, _, _, _, rfl⟩) (asW ⟨ar, an⟩) (.pointer (some ⟨IB, 0, none⟩)) (fun V hV b0 b1 b2 b3 hm => by
               obtain ⟨x, hx, e⟩ := Aal.1 hm
               injection e with e0 e; injection e with e1 e; injection e with e2 e; injection e with e3 e
               subst e0 e1 e2 e3
               have h := (aad (cs := [_, _, _, _, _, _, _, _]) ((hV.block IB (Aag.1 aB.out).1 aM.out.2.2).trans aB.out)).get8
               simp only [Aab] at h
               exact ag3 IB ar an V h.2.2.1 h.2.2.2.1 x.1.reg x.1.n x.2.reg x.2.n)
              rw [aeG,<-aZ] at aG;rw [<-aZ] at Hz;have bo:=hid aG;clear aZ aG;go_upto_region 17 with
               (go_at_call 37; refine bo.out.mono ?_; rintro e w7 ⟨m, hm, rfl, bB, aU⟩
                have aJ := ah.out.size
                have ak := ah.out.low
                have bk := (aU.block WB aJ (fun e => by have := (ak.2 WB e).1; omega)).trans ah.out.cell
                have c0 := (aad (cs := [_]) bk).get1
                have f0 := aaq bk 0
                have zW := aac c0
                have h7 := (aU.block IB (Aag.1 aB.out).1 aM.out.2.2).trans aB.out
                obtain ⟨x0, x1, x2, x3, x4, x5, x6, x7⟩ := (aad (cs := [_, _, _, _, _, _, _, _]) h7).get8
                rw [Aab] at x1 x2 x3 x4 x5 x6 x7
                have zX := aac x0
                have H7 := hid h7
                have Hm := hid hm
                have bQ := hid bB
                have bl := hid aU
                clear aJ ak bk h7 hm bB aU)
              have ax:(Value.slice wa m wc).ownBlock=(Value.slice wa wn wc).ownBlock:=by cases wa <;> rfl
              obtain⟨W8,a6⟩:∃V,V=w7.setCell ⟨WB,0,none⟩ (.slice wa m wc):=⟨_,rfl⟩
              rw [<-a6];have aE:adn w WB S W8 (.slice oa on oc) (.slice wa m wc) xs (T8,s.2):=by
               rw [a6];exact ah.out.del HS.out bl.out bQ.out (fun c hc=>by rw [<-ax];exact hc)
              have aV:Kp (fun c=>c≠WB) w7 W8:=by rw [a6];exact aaP w7 WB 0 _
              have bp:=(aV.block IB (Aag.1 H7.out).1 (by have:=aM.out.1;omega)).trans H7.out;obtain⟨x0,x1,x2,x3,x4,x5,x6,x7⟩:=(aad (cs:=[_,_,_,_,_,_,_,_]) bp).get8;rw [Aab] at x1 x2 x3 x4 x5 x6 x7;have zX:=aac x0;obtain⟨c0,fz⟩:=aE.get;have f0:=fz 0;have zW:=aac c0;have aY:(Value.slice wa m wc).ownBlock≠some IB:=by rw [ax];exact aM.out.2.2
              have aj:=hid aE;have bw:=hid bp;have aP:Hid (WB+1<=W8.heap.size):=Aai aL.out (Aai bl.out.size aV.size);have bt:Hid (acs S W8 [.int .i64 19,.int .i64 yd,.bool ar,.int .i64 an,.bool true,.int .i64 bn,.int .i64 yf,.slice aa al ac] ⟨19,yd,⟨ar,an⟩,⟨true,bn⟩,yf,ag⟩):=aay.out _ _ _ _ _ _ (fun _ h=>h) ((bl.out.stays fun c hc e=>by have h1:=HS.out c hc;have h2:=(ah.out.low.2 c e).1;have h3:=ah.out.wb;omega).trans (aV.stays fun c hc e=>by have h1:=HS.out c hc;have h3:=ah.out.wb;omega)) aO.out;have bx:m=T8.length:=by rw [Hm.out,Aah]
              have cf:=hid bx;clear a6 aE aV bp fz ax bx k0 k1 zC;go_upto_region 20 with
               (at_builtin; refine wpList_append_own_at _ rfl _ _ 71 rfl (WB + 1) 74 iw (.agg #[.bool false, .int .i64 0, .bool false, .int .i64 0]) 4 32 Tryz.underlying71 b8 bD bA bC rfl (by decide) (.slice wa m wc) (T8).length ((T8).map abl).flatten rfl (aao (by have h := aj.out.words.own; rw [Aah] at h; exact h) bE) ⟨W8.heap.size, 0, none⟩ 1 1 [.bool ar, .int .i64 an, .bool true, .int .i64 bn] rfl rfl (aaB W8 _ _ rfl) (by intro u hu; simp only [Aam, Aaq, or_false] at hu; rcases hu with rfl | rfl | rfl | rfl <;> rfl) (by have := bF.out; unfold maxLen; omega) (by have := bF.out; omega) (by have := aP.out; simp; omega) ?_
                intro v9 w9 ae ad _ ai
                obtain ⟨bg, bf, rfl⟩ := aap ae
                have ay : Below W8.heap.size W8 (W8.alloc (.cells #[.bool ar, .int .i64 an, .bool true, .int .i64 bn] 74)) := by exact bE
                have HP := hid (aj.out.push HS.out ay (x := (⟨ar, an⟩, ⟨true, bn⟩)) ae ad (by rcases ai with h | h; exact .inl h; exact .inr (by first | exact h | (rw [h]; simp))))
                have aW : Kp (fun c => (Value.slice wa m wc).ownBlock ≠ some c) W8 w9 := (Kp.of ay).trans ⟨ad.os, ad.tape, ad.output, ad.size, fun c hc hF => ad.block c hc fun e => hF e.symm⟩
                have bH := hid aW
                have aJ := aj.out.size
                have ak := aj.out.low
                have a1 := (aW.block WB aJ (fun e => by have := (ak.2 WB e).1; omega)).trans aj.out.cell
                have c0 := (aad (cs := [_]) a1).get1
                have f0 := aaq a1 0
                have zW := aac c0
                clear ae ad ai ay aW aJ ak a1)
              obtain⟨WZ,aI⟩:∃V,V=w9.setCell ⟨WB,0,none⟩ (.slice bg ((T8).length+1) bf):=⟨_,rfl⟩
              rw [<-aI] at HP ⊢;have aC:Kp (fun c=>(Value.slice wa m wc).ownBlock≠some c∧c≠WB) W8 WZ:=by
               rw [aI];exact (bH.out.less fun c h=>h.1).trans ((aaP w9 WB 0 _).less fun c h=>h.2)
              have bh:=(aC.block IB (Aag.1 bw.out).1 ⟨aY,fun e=>by have:=aM.out.1;omega⟩).trans bw.out;obtain⟨x0,x1,x2,x3,x4,x5,x6,x7⟩:=(aad (cs:=[_,_,_,_,_,_,_,_]) bh).get8;rw [Aab] at x1 x2 x3 x4 x5 x6 x7;have zX:=aac x0;have aw:=HP;have bq:Hid (WB+1<=WZ.heap.size):=Aai aP.out aC.size;have bm:Hid (acs S WZ [.int .i64 19,.int .i64 yd,.bool ar,.int .i64 an,.bool true,.int .i64 bn,.int .i64 yf,.slice aa al ac] ⟨19,yd,⟨ar,an⟩,⟨true,bn⟩,yf,ag⟩):=aay.out _ _ _ _ _ _ (fun _ h=>h) (aC.stays fun c hc=>⟨fun e=>by have h1:=HS.out c hc;have h2:=(aj.out.low.2 c e).1;have h3:=aj.out.wb;omega,fun e=>by have h1:=HS.out c hc;have h3:=aj.out.wb;omega⟩) bt.out;clear aI aC bh c0 f0 zW HP;go_wp2_with (at_builtin;refine wpList_append_own_at _ rfl _ _ 39 rfl (WB+1) 49 ii (.agg #[.int .i64 0,.int .i64 0,.bool false,.int .i64 0,.bool false,.int .i64 0,.int .i64 0,.slice none 0 0]) 8 80 Tryz.underlying39 bL a7 be a8 rfl (by decide) (.slice oa on oc) xs.length xs.flatten rfl (aao aw.out.out.row.own bE) ⟨WZ.heap.size,0,none⟩ 1 1 [.int .i64 19,.int .i64 yd,.bool ar,.int .i64 an,.bool true,.int .i64 bn,.int .i64 yf,.slice aa al ac] rfl rfl (aaB WZ _ _ rfl) (by intro u hu;simp only [Aam,Aaq,or_false] at hu;rcases hu with rfl | rfl | rfl | rfl | rfl | rfl | rfl | rfl <;> rfl) (by have:=bj.out;unfold maxLen;omega) (by have:=bj.out;omega) (by have:=bq.out;simp;omega) ?_);intro v9 w9 ae ad _ ai;obtain⟨bg,bf,rfl⟩:=aap ae;have ay:Below WZ.heap.size WZ (WZ.alloc (.cells #[.int .i64 19,.int .i64 yd,.bool ar,.int .i64 an,.bool true,.int .i64 bn,.int .i64 yf,.slice aa al ac] 49)):=by exact bE
              have aq:=aw.out.snoc HS.out ay rfl bm.out ae ad (by rcases ai with h | h;exact .inl h;exact .inr (by first | exact h | (rw [h];simp)));rw [<-Hz.out] at aq;have aF:=hid aq;clear ae ad ai ay aq;go_wp2_with fail;go_roundw
              case rel=>exact⟨k+1,_,_,_,rfl,by omega,by go_num,by rw [aH.out];exact aF.out⟩
              case measure=>simp [intOf];omega
        | none =>
          rw [hf] at av;simp only [apd] at av;have aD:=hid av;have aX:¬adG s.1 ⟨ar,an⟩=some ⟨br,bn⟩:=fun e=>by rw [hf] at e;cases e
          clear av hf h18 ca;have Hz:Hid (aaX s ⟨19,yd,⟨ar,an⟩,⟨br,bn⟩,yf,ag⟩=(s.1.filter (fun w=>acb w.1 ⟨ar,an⟩)++[(⟨ar,an⟩,⟨br,bn⟩)],s.2++[⟨19,yd,⟨ar,an⟩,⟨br,bn⟩,yf,ag⟩])):=by
           show _=_;unfold aaX;rw [if_neg (show ¬(19:Int)=18 by decide),if_pos (show (19:Int)=19 from rfl),if_neg aX]
          clear aX;go_upto_region 15 with (go_at_call 34;refine aD.out.mono ?_;rintro e w5 ⟨rfl,aA⟩;have aS:=hid aA;have x0:=aab x0 aA;have c0:=aab c0 aA;have zX:=aac x0;have zW:=aac c0;clear aA)
          obtain⟨W6,az⟩:∃V,V=w5.alloc (.cells #[.bool false,.int .i64 0] 41):=⟨_,rfl⟩
          obtain⟨CB,aK⟩:∃CB,CB=w5.heap.size:=⟨_,rfl⟩
          have aR:Below w5.heap.size w5 W6:=by rw [az];exact bE
          have aQ:W6.heap[CB]?=some (.cells #[.bool false,.int .i64 0] 41 (0,0)):=by rw [az,aK];exact heap_alloc_new _ _
          rw [<-az,<-aK];obtain⟨k0,k1⟩:=(aad (cs:=[_,_]) aQ).get2;rw [Aab] at k1;have zC:=aac k0;have af:Below W4.heap.size W4 W6:=aS.out.trans (aR.mono aS.out.size);have au:adn w WB S W6 (.slice oa on oc) (.slice wa wn wc) xs s:=aN.out.later af;have ah:=hid au;have bu:=hid af;obtain⟨x0,x1,x2,x3,x4,x5,x6,x7⟩:=HX.out W6 af;have zX:=aac x0;obtain⟨c0,fz⟩:=au.get;have f0:=fz 0;have zW:=aac c0;have aL:Hid (WB+1<=W6.heap.size):=Aai aT.out af.size;have aB:=hid (bP.out W6 af);have aO:Hid (acs S W6 [.int .i64 19,.int .i64 yd,.bool ar,.int .i64 an,.bool br,.int .i64 bn,.int .i64 yf,.slice aa al ac] ⟨19,yd,⟨ar,an⟩,⟨br,bn⟩,yf,ag⟩):=aay.out _ _ _ _ _ _ (fun _ h=>h) ((aaS.below' bK.out).trans (aaS.below' af)) bG.out;clear az aK aR aQ af au fz;obtain⟨T8,aZ⟩:∃T8,T8=s.1.filter (fun w=>acb w.1 ⟨ar,an⟩):=⟨_,rfl⟩
          have bF:Hid (T8.length<=1048576):=by
           show _<=_;rw [aZ];exact Aai (Ack _ _) HT.out
          have aG := acM (WB + 1) wa wn wc (s.1.map abl) W6 ah.out.words (by rw [Aah]; exact bO.out.symm) (by have := HT.out; have := bO.out; omega) (fun cs bR => by
           obtain ⟨x, -, rfl⟩ := Aal.1 bR
           exact ⟨_, _, _, _, rfl⟩) (asW ⟨ar, an⟩) (.pointer (some ⟨IB, 0, none⟩)) (fun V hV b0 b1 b2 b3 hm => by
           obtain ⟨x, hx, e⟩ := Aal.1 hm
           injection e with e0 e; injection e with e1 e; injection e with e2 e; injection e with e3 e
           subst e0 e1 e2 e3
           have h := (aad (cs := [_, _, _, _, _, _, _, _]) ((hV.block IB (Aag.1 aB.out).1 aM.out.2.2).trans aB.out)).get8
           simp only [Aab] at h
           exact ag3 IB ar an V h.2.2.1 h.2.2.2.1 x.1.reg x.1.n x.2.reg x.2.n)
          rw [aeG,<-aZ] at aG;rw [<-aZ] at Hz;have bo:=hid aG;clear aZ aG;go_upto_region 17 with
           (go_at_call 37; refine bo.out.mono ?_; rintro e w7 ⟨m, hm, rfl, bB, aU⟩
            have aJ := ah.out.size
            have ak := ah.out.low
            have bk := (aU.block WB aJ (fun e => by have := (ak.2 WB e).1; omega)).trans ah.out.cell
            have c0 := (aad (cs := [_]) bk).get1
            have f0 := aaq bk 0
            have zW := aac c0
            have h7 := (aU.block IB (Aag.1 aB.out).1 aM.out.2.2).trans aB.out
            obtain ⟨x0, x1, x2, x3, x4, x5, x6, x7⟩ := (aad (cs := [_, _, _, _, _, _, _, _]) h7).get8
            rw [Aab] at x1 x2 x3 x4 x5 x6 x7
            have zX := aac x0
            have H7 := hid h7
            have Hm := hid hm
            have bQ := hid bB
            have bl := hid aU
            clear aJ ak bk h7 hm bB aU)
          have ax:(Value.slice wa m wc).ownBlock=(Value.slice wa wn wc).ownBlock:=by cases wa <;> rfl
          obtain⟨W8,a6⟩:∃V,V=w7.setCell ⟨WB,0,none⟩ (.slice wa m wc):=⟨_,rfl⟩
          rw [<-a6];have aE:adn w WB S W8 (.slice oa on oc) (.slice wa m wc) xs (T8,s.2):=by
           rw [a6];exact ah.out.del HS.out bl.out bQ.out (fun c hc=>by rw [<-ax];exact hc)
          have aV:Kp (fun c=>c≠WB) w7 W8:=by rw [a6];exact aaP w7 WB 0 _
          have bp:=(aV.block IB (Aag.1 H7.out).1 (by have:=aM.out.1;omega)).trans H7.out;obtain⟨x0,x1,x2,x3,x4,x5,x6,x7⟩:=(aad (cs:=[_,_,_,_,_,_,_,_]) bp).get8;rw [Aab] at x1 x2 x3 x4 x5 x6 x7;have zX:=aac x0;obtain⟨c0,fz⟩:=aE.get;have f0:=fz 0;have zW:=aac c0;have aY:(Value.slice wa m wc).ownBlock≠some IB:=by rw [ax];exact aM.out.2.2
          have aj:=hid aE;have bw:=hid bp;have aP:Hid (WB+1<=W8.heap.size):=Aai aL.out (Aai bl.out.size aV.size);have bt:Hid (acs S W8 [.int .i64 19,.int .i64 yd,.bool ar,.int .i64 an,.bool br,.int .i64 bn,.int .i64 yf,.slice aa al ac] ⟨19,yd,⟨ar,an⟩,⟨br,bn⟩,yf,ag⟩):=aay.out _ _ _ _ _ _ (fun _ h=>h) ((bl.out.stays fun c hc e=>by have h1:=HS.out c hc;have h2:=(ah.out.low.2 c e).1;have h3:=ah.out.wb;omega).trans (aV.stays fun c hc e=>by have h1:=HS.out c hc;have h3:=ah.out.wb;omega)) aO.out;have bx:m=T8.length:=by rw [Hm.out,Aah]
          have cf:=hid bx;clear a6 aE aV bp fz ax bx k0 k1 zC;go_upto_region 20 with
           (at_builtin; refine wpList_append_own_at _ rfl _ _ 71 rfl (WB + 1) 74 iw (.agg #[.bool false, .int .i64 0, .bool false, .int .i64 0]) 4 32 Tryz.underlying71 b8 bD bA bC rfl (by decide) (.slice wa m wc) (T8).length ((T8).map abl).flatten rfl (aao (by have h := aj.out.words.own; rw [Aah] at h; exact h) bE) ⟨W8.heap.size, 0, none⟩ 1 1 [.bool ar, .int .i64 an, .bool br, .int .i64 bn] rfl rfl (aaB W8 _ _ rfl) (by intro u hu; simp only [Aam, Aaq, or_false] at hu; rcases hu with rfl | rfl | rfl | rfl <;> rfl) (by have := bF.out; unfold maxLen; omega) (by have := bF.out; omega) (by have := aP.out; simp; omega) ?_
            intro v9 w9 ae ad _ ai
            obtain ⟨bg, bf, rfl⟩ := aap ae
            have ay : Below W8.heap.size W8 (W8.alloc (.cells #[.bool ar, .int .i64 an, .bool br, .int .i64 bn] 74)) := by exact bE
            have HP := hid (aj.out.push HS.out ay (x := (⟨ar, an⟩, ⟨br, bn⟩)) ae ad (by rcases ai with h | h; exact .inl h; exact .inr (by first | exact h | (rw [h]; simp))))
            have aW : Kp (fun c => (Value.slice wa m wc).ownBlock ≠ some c) W8 w9 := (Kp.of ay).trans ⟨ad.os, ad.tape, ad.output, ad.size, fun c hc hF => ad.block c hc fun e => hF e.symm⟩
            have bH := hid aW
            have aJ := aj.out.size
            have ak := aj.out.low
            have a1 := (aW.block WB aJ (fun e => by have := (ak.2 WB e).1; omega)).trans aj.out.cell
            have c0 := (aad (cs := [_]) a1).get1
            have f0 := aaq a1 0
            have zW := aac c0
            clear ae ad ai ay aW aJ ak a1)
          obtain⟨WZ,aI⟩:∃V,V=w9.setCell ⟨WB,0,none⟩ (.slice bg ((T8).length+1) bf):=⟨_,rfl⟩
          rw [<-aI] at HP ⊢;have aC:Kp (fun c=>(Value.slice wa m wc).ownBlock≠some c∧c≠WB) W8 WZ:=by
           rw [aI];exact (bH.out.less fun c h=>h.1).trans ((aaP w9 WB 0 _).less fun c h=>h.2)
          have bh:=(aC.block IB (Aag.1 bw.out).1 ⟨aY,fun e=>by have:=aM.out.1;omega⟩).trans bw.out;obtain⟨x0,x1,x2,x3,x4,x5,x6,x7⟩:=(aad (cs:=[_,_,_,_,_,_,_,_]) bh).get8;rw [Aab] at x1 x2 x3 x4 x5 x6 x7;have zX:=aac x0;have aw:=HP;have bq:Hid (WB+1<=WZ.heap.size):=Aai aP.out aC.size;have bm:Hid (acs S WZ [.int .i64 19,.int .i64 yd,.bool ar,.int .i64 an,.bool br,.int .i64 bn,.int .i64 yf,.slice aa al ac] ⟨19,yd,⟨ar,an⟩,⟨br,bn⟩,yf,ag⟩):=aay.out _ _ _ _ _ _ (fun _ h=>h) (aC.stays fun c hc=>⟨fun e=>by have h1:=HS.out c hc;have h2:=(aj.out.low.2 c e).1;have h3:=aj.out.wb;omega,fun e=>by have h1:=HS.out c hc;have h3:=aj.out.wb;omega⟩) bt.out;clear aI aC bh c0 f0 zW HP;go_wp2_with (at_builtin;refine wpList_append_own_at _ rfl _ _ 39 rfl (WB+1) 49 ii (.agg #[.int .i64 0,.int .i64 0,.bool false,.int .i64 0,.bool false,.int .i64 0,.int .i64 0,.slice none 0 0]) 8 80 Tryz.underlying39 bL a7 be a8 rfl (by decide) (.slice oa on oc) xs.length xs.flatten rfl (aao aw.out.out.row.own bE) ⟨WZ.heap.size,0,none⟩ 1 1 [.int .i64 19,.int .i64 yd,.bool ar,.int .i64 an,.bool br,.int .i64 bn,.int .i64 yf,.slice aa al ac] rfl rfl (aaB WZ _ _ rfl) (by intro u hu;simp only [Aam,Aaq,or_false] at hu;rcases hu with rfl | rfl | rfl | rfl | rfl | rfl | rfl | rfl <;> rfl) (by have:=bj.out;unfold maxLen;omega) (by have:=bj.out;omega) (by have:=bq.out;simp;omega) ?_);intro v9 w9 ae ad _ ai;obtain⟨bg,bf,rfl⟩:=aap ae;have ay:Below WZ.heap.size WZ (WZ.alloc (.cells #[.int .i64 19,.int .i64 yd,.bool ar,.int .i64 an,.bool br,.int .i64 bn,.int .i64 yf,.slice aa al ac] 49)):=by exact bE
          have aq:=aw.out.snoc HS.out ay rfl bm.out ae ad (by rcases ai with h | h;exact .inl h;exact .inr (by first | exact h | (rw [h];simp)));rw [<-Hz.out] at aq;have aF:=hid aq;clear ae ad ai ay aq;go_wp2_with fail;go_roundw
          case rel=>exact⟨k+1,_,_,_,rfl,by omega,by go_num,by rw [aH.out];exact aF.out⟩
          case measure=>simp [intOf];omega
      . have cH:(decide (yo<=19)&&decide (19<=yo))=false:=ac0 h19
        by_cases h20:yo=20
        . subst h20
          have Hz:Hid (aaX s ⟨20,yd,⟨ar,an⟩,⟨br,bn⟩,yf,ag⟩=([],s.2++[⟨20,yd,⟨ar,an⟩,⟨br,bn⟩,yf,ag⟩])):=by show _=_;unfold aaX;rw [if_neg (show ¬(20:Int)=18 by decide),if_neg (show ¬(20:Int)=19 by decide),if_pos rfl]
          clear h18 h19 ca cH;go_upto_region 20 with (fail)
          obtain⟨WZ,aI⟩:∃V,V=W4.setCell ⟨WB,0,none⟩ (.slice none 0 0):=⟨_,rfl⟩
          rw [<-aI];have b5:adn w WB S WZ (.slice oa on oc) (.slice none 0 0) xs ([],s.2):=by
           rw [aI];exact aN.out.put HS.out ⟨World.ownsRow_nil _ _ _ _,fun cs h=>by cases h⟩ (fun c hc=>by cases hc)
          have aC:Kp (fun c=>c≠WB) W4 WZ:=by rw [aI];exact aaP W4 WB 0 _
          have bI:∀(o:Nat) v,W4.cell? ⟨IB,o,none⟩=some v->WZ.cell? ⟨IB,o,none⟩=some v:=fun o v h=>aC.cell (show IB≠WB by have:=aM.out.1;omega) h;have x0:=bI _ _ x0;have x1:=bI _ _ x1;have x2:=bI _ _ x2;have x3:=bI _ _ x3;have x4:=bI _ _ x4;have x5:=bI _ _ x5;have x6:=bI _ _ x6;have x7:=bI _ _ x7;have zX:=aac x0;have bq:Hid (WB+1<=WZ.heap.size):=Aai aT.out aC.size;have aw:=hid b5;have bm:Hid (acs S WZ [.int .i64 20,.int .i64 yd,.bool ar,.int .i64 an,.bool br,.int .i64 bn,.int .i64 yf,.slice aa al ac] ⟨20,yd,⟨ar,an⟩,⟨br,bn⟩,yf,ag⟩):=aay.out _ _ _ _ _ _ (fun _ h=>h) ((aaS.below' bK.out).trans (aC.stays fun c hc e=>by have h1:=HS.out c hc;have h2:=aw.out.wb;omega)) bG.out;clear aI b5 aC bI c0 f0 zW;go_wp2_with (at_builtin;refine wpList_append_own_at _ rfl _ _ 39 rfl (WB+1) 49 ii (.agg #[.int .i64 0,.int .i64 0,.bool false,.int .i64 0,.bool false,.int .i64 0,.int .i64 0,.slice none 0 0]) 8 80 Tryz.underlying39 bL a7 be a8 rfl (by decide) (.slice oa on oc) xs.length xs.flatten rfl (aao aw.out.out.row.own bE) ⟨WZ.heap.size,0,none⟩ 1 1 [.int .i64 20,.int .i64 yd,.bool ar,.int .i64 an,.bool br,.int .i64 bn,.int .i64 yf,.slice aa al ac] rfl rfl (aaB WZ _ _ rfl) (by intro u hu;simp only [Aam,Aaq,or_false] at hu;rcases hu with rfl | rfl | rfl | rfl | rfl | rfl | rfl | rfl <;> rfl) (by have:=bj.out;unfold maxLen;omega) (by have:=bj.out;omega) (by have:=bq.out;simp;omega) ?_);intro v9 w9 ae ad _ ai;obtain⟨bg,bf,rfl⟩:=aap ae;have ay:Below WZ.heap.size WZ (WZ.alloc (.cells #[.int .i64 20,.int .i64 yd,.bool ar,.int .i64 an,.bool br,.int .i64 bn,.int .i64 yf,.slice aa al ac] 49)):=by exact bE
          have aq:=aw.out.snoc HS.out ay rfl bm.out ae ad (by rcases ai with h | h;exact .inl h;exact .inr (by first | exact h | (rw [h];simp)));rw [<-Hz.out] at aq;have aF:=hid aq;clear ae ad ai ay aq;go_wp2_with fail;go_roundw
          case rel=>exact⟨k+1,_,_,_,rfl,by omega,by go_num,by rw [aH.out];exact aF.out⟩
          case measure=>simp [intOf];omega
        . have cS:(decide (yo<=20)&&decide (20<=yo))=false:=ac0 h20
          have Hz:Hid (aaX s ⟨yo,yd,⟨ar,an⟩,⟨br,bn⟩,yf,ag⟩=(s.1,s.2++[⟨yo,yd,⟨ar,an⟩,⟨br,bn⟩,yf,ag⟩])):=by show _=_;unfold aaX;rw [if_neg h18,if_neg h19,if_neg h20]
          have aw:Hid (adn w WB S W4 (.slice oa on oc) (.slice wa wn wc) xs (s.1,s.2)):=aN.out;have bq:=aT;have bm:Hid (acs S W4 [.int .i64 yo,.int .i64 yd,.bool ar,.int .i64 an,.bool br,.int .i64 bn,.int .i64 yf,.slice aa al ac] ⟨yo,yd,⟨ar,an⟩,⟨br,bn⟩,yf,ag⟩):=aay.out _ _ _ _ _ _ (fun _ h=>h) (aaS.below' bK.out) bG.out;clear h18 h19 h20 c0 f0 zW;go_wp2_with (at_builtin;refine wpList_append_own_at _ rfl _ _ 39 rfl (WB+1) 49 ii (.agg #[.int .i64 0,.int .i64 0,.bool false,.int .i64 0,.bool false,.int .i64 0,.int .i64 0,.slice none 0 0]) 8 80 Tryz.underlying39 bL a7 be a8 rfl (by decide) (.slice oa on oc) xs.length xs.flatten rfl (aao aw.out.out.row.own bE) ⟨W4.heap.size,0,none⟩ 1 1 [.int .i64 yo,.int .i64 yd,.bool ar,.int .i64 an,.bool br,.int .i64 bn,.int .i64 yf,.slice aa al ac] rfl rfl (aaB W4 _ _ rfl) (by intro u hu;simp only [Aam,Aaq,or_false] at hu;rcases hu with rfl | rfl | rfl | rfl | rfl | rfl | rfl | rfl <;> rfl) (by have:=bj.out;unfold maxLen;omega) (by have:=bj.out;omega) (by have:=bq.out;simp;omega) ?_);intro v9 w9 ae ad _ ai;obtain⟨bg,bf,rfl⟩:=aap ae;have ay:Below W4.heap.size W4 (W4.alloc (.cells #[.int .i64 yo,.int .i64 yd,.bool ar,.int .i64 an,.bool br,.int .i64 bn,.int .i64 yf,.slice aa al ac] 49)):=by exact bE
          have aq:=aw.out.snoc HS.out ay rfl bm.out ae ad (by rcases ai with h | h;exact .inl h;exact .inr (by first | exact h | (rw [h];simp)));rw [<-Hz.out] at aq;have aF:=hid aq;clear ae ad ai ay aq;go_wp2_with fail;go_roundw
          case rel=>exact⟨k+1,_,_,_,rfl,by omega,by go_num,by rw [aH.out];exact aF.out⟩
          case measure=>simp [intOf];omega
  . have cJ:k=n:=by omega
    have bZ:l.take k=l:=Abr (by rw [cb.out];omega);rw [bZ] at bz;have bU:=hid bz;have cA:=hid bV;clear bz bV bZ;go_wp2_with fail;go_ret;exact⟨oa,on,oc,xs,rfl,cA.out,by rw [<-cC.out];exact bU.out.out,bU.out.below⟩
end Go.Proofs.YtpeejlpcikefcaaGreatDoor
