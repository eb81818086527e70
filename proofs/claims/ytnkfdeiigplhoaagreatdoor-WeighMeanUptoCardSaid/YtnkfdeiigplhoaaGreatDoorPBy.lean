import Derived.Test.YtnkfdeiigplhoaaGreatDoorPRunK
/- weigh.turn: a function with its blocks in another order. weigh.By: a unit with its blocks laid by counts. -/
set_option maxHeartbeats 8000000
set_option maxRecDepth 100000
namespace Go.Proofs.YtnkfdeiigplhoaaGreatDoor
section
open Go.RowKit
theorem amU.drew {W7 wi:World}{tv:Value}{tos:List Int}{ord:List Nat}{t:Nat}(h:amU W7 wi tv tos ord t):amU W7 wi.drew tv tos ord t :=
 ⟨⟨h.grow.os,h.grow.tape,h.grow.output,h.grow.size,h.grow.block⟩,h.size,h.cells,h.free⟩
theorem ab4.ints {a b:Nat}{w:World}{e:TypeId}{v:Value}{l:List Int}(h:ab4 a b w e 1 aaO v l):∀T,v.ownBlock=some T->(a<=T∧T<b)∧(∃c,v = .slice (some ⟨T,0,none⟩) l.length c)∧(∀j (hj:j<l.length),w.cell? ⟨T,j,none⟩=some (.int .i64 (l[j]'hj)))∧∀j,w.frozen? ⟨T,j,none⟩=false:=by
 intro T hT;have hs:=h.toSl aae (by decide);obtain⟨xss,h1,hb,-⟩:=h;rcases h1.2 with⟨rfl,-⟩ | ⟨g,cap,cur,rfl,hg,hgg,-⟩
 . cases hT
 . cases hT
   refine⟨⟨hg,hb g rfl⟩,⟨cap,rfl⟩,fun j hj=>?_,fun j=>by simp [World.frozen?,hgg]⟩;obtain⟨b',aW,a6,hc⟩:=abb hs hj;cases a6;rw [Aab] at hc;exact hc
theorem amU.next {W7 wi:World}{tv:Value}{tos:List Int}{ord:List Nat}{t T:Nat}(h:amU W7 wi tv tos ord t)(hT:tv.ownBlock=some T)(ht:t<tos.length){z:Int}(hz:z=((placeOf ord (tos[t]'ht).toNat:Nat):Int)) :
 amU W7 (wi.setCell ⟨T,t,none⟩ (.int .i64 z)) tv tos ord (t+1):=by
 have h0:=h.cells T hT t ht;refine⟨⟨h.grow.os,h.grow.tape,h.grow.output,by simp [World.setCell];rw [h.size];exact Aad _,fun b hb eW=>?_⟩,by rw [<-h.size];simp [World.setCell],fun T' cS j hj=>?_,fun T' j cS=>by simp;exact h.free T' j cS⟩
 . rw [Below.heap_setCell _ _ _ _ (fun e=>eW (by rw [hT];exact congrArg some e)),h.grow.block b hb eW]
 . rw [hT] at cS
   cases cS;rw [aap h0]
   by_cases hjt:j=t
   . subst hjt
     rw [if_pos rfl,if_pos (Abc _),hz]
   . rw [if_neg hjt,h.cells T hT j hj]
     by_cases cr:j<t
     . rw [if_pos cr,if_pos (by omega)]
     . rw [if_neg cr,if_neg (by omega)]
theorem apV {S:Nat->Prop}{w:World}{a:Option Addr}{n c:Nat}{l:List (List Int)}(h:SlAt S w 1 rRow (.slice a n c) l){t:Nat}(ht:t<l.length):∃b off ra rc,a=some ⟨b,off,none⟩∧w.cell? ⟨b,off+t,none⟩=some (.slice ra l[t].length rc)∧SlAt S w 1 aaO (.slice ra l[t].length rc) l[t]:=by
 obtain⟨b,off,cs,ha,-,⟨v,rfl,hv⟩,-,aF⟩:=h.get ht;have d:=aF.get1;rw [Aan] at d;obtain⟨ra,rc,rfl,-⟩:=hv.val;exact⟨b,off,ra,rc,ha,d,hv⟩
theorem ahj {S:Nat->Prop}(nm:ByteArray)(p r:Int)(ba:Option Addr)(bc:Nat)(bs:List aad)(n:Nat)(w:World)(hb:SlAt S w 6 aaJ (.slice ba n bc) bs)(aU:bs.length=n)(hn:n<=1048576)(aV:∀x∈bs,agG x) :
 Calls Tryz.prog 57 #[.agg #[.string nm,.int .i64 p,.int .i64 r,.slice ba n bc]] w fun e w' =>
  ∃bv,e = .returned (.agg #[.string nm,.int .i64 p,.int .i64 r,bv])∧ab4 (w.heap.size+2) w'.heap.size w' 59 6 aaJ bv bs∧Below w.heap.size w w':=by
 subst aU;exact afd nm p r ba bc bs w hb hn aV
theorem anV {S S' S'' : Nat -> Prop} (nm : ByteArray) (p r : Int) (ba : Option Addr) (bc : Nat) (bs : List aad) (aa : Option Addr) (ac : Nat) (oa : Option Addr) (oc : Nat) (ord : List Nat) (n : Nat) (w : World)
 (hb:SlAt S w 6 aaJ (.slice ba bs.length bc) bs) (hA:SlAt S' w 1 rRow (.slice aa (aheadF bs).length ac) (aheadF bs)) (ho:SlAt S'' w 1 aaO (.slice oa (ord.map (fun b:Nat=>(b:Int))).length oc) (ord.map (fun b:Nat=>(b:Int))))
 (gA:0<n) (hn:n<=40) (aU:bs.length=n) (ea:ord.length=n) (cr:∀x∈ord,x<n) (aC:∀z,z<n->z∈ord) (cn:∀i j (hi:i<ord.length) (hj:j<ord.length),ord[i]=ord[j]->i=j) (aV:∀x∈bs,agG x)
 (bj:∀(k:Nat) (x:aad),bs[k]?=some x->x.fin.to.length<=2∧∀t∈x.fin.to,0<=t∧t<(bs.length:Int)) (cy:∀(b:Nat) (x:aad),bs[b]?=some x->∀q∈x.phis,q.src.length=(aag bs 0 b).length) :
 Calls Tryz.prog 33 #[.agg #[.string nm,.int .i64 p,.int .i64 r,.slice ba n bc],.slice aa n ac,.slice oa n oc] w fun e w' =>
  ∃bv,e = .returned (.agg #[.string nm,.int .i64 p,.int .i64 r,bv])∧SlAt (iv w.heap.size w'.heap.size) w' 6 aaJ bv (aaV bs ord)∧Below w.heap.size w w':=by
 have dF:(aheadF bs).length=n:=by unfold aheadF;simp [aU]
 have cu:(ord.map (fun b:Nat=>(b:Int))).length=n:=by simp [ea]
 rw [dF] at hA;rw [cu] at ho;rw [aU] at hb;have Hb:=hid hb;have HA:=hid hA;have Ho:=hid ho;have bV:=hid aU;have aO:=hid ea;have eD:=hid cr;have ds:=hid cn;have aq:=hid aC;have bH:=hid aV;have cN:=hid bj;have dv:=hid cy;have ew:=hid dF;have eE:=hid cu;obtain⟨ob,gX,gD,-⟩:=abb ho (t:=0) (by omega);subst gD;obtain⟨bb,aP,hV,gp,-⟩:=hb.get (k:=0) (by omega);subst gp;obtain⟨fj,cp,cG,cH,cI⟩:=info_parts alS;have eU:=run_make_row' (P:=Tryz.prog) 26 3 (.int .i64 0) 8 Tryz.underlying26 ahr rfl .i64 .i64 n (by omega) (by omega);clear hb hA ho aU ea cr aC cn aV bj cy dF cu;go_enter Tryz.func33,Tryz.ntmps33;go_wp2_with fail;obtain⟨Wb,bp⟩:∃Wb,Wb=(w.alloc (.cells #[.string nm,.int .i64 p,.int .i64 r,.slice (some ⟨bb,aP,none⟩) n bc] 50)).alloc (.cells #[.string ⟨#[]⟩,.int .i64 0,.int .i64 0,.slice none 0 0] 50):=⟨_,rfl⟩
 obtain⟨W3,dH⟩:∃W3,W3=Wb.alloc (.cells (madeCells #[.int .i64 0] n) 3):=⟨_,rfl⟩
 have bq:Wb.heap.size=w.heap.size+2:=by rw [bp];simp
 have bx:Below w.heap.size w Wb:=by rw [bp];exact bE
 have B0:aaj Wb w.heap.size 0 [.string nm,.int .i64 p,.int .i64 r,.slice (some ⟨bb,aP,none⟩) n bc]:=by
  intro j u hj;rw [bp,Aab,World.cell?_alloc2_first];simpa using hj
 have B1:aaj Wb (w.heap.size+1) 0 [.string ⟨#[]⟩,.int .i64 0,.int .i64 0,.slice none 0 0]:=by
  intro j u hj;rw [bp,Aab,World.cell?_alloc2_new];simpa using hj
 have F1:∀j,Wb.frozen? ⟨w.heap.size+1,j,none⟩=false:=by intro j;rw [bp];simp
 have db:aol w Wb W3 (w.heap.size+2) n ord 0:=by
  rw [dH];refine⟨?_,?_,bE⟩
  . have h:=World.rowIs_made Wb (.int .i64 0) n 3
    rw [bq] at h;exact h.congr (fun y hy=>by simp [atF,abq])
  . exact bx.alloc (by omega) _
 rw [<-bp];have dA:=hid db;have bR:=hid bq;have ey:=hid B0;have fp:=hid B1;have fq:=hid F1;have fx:=hid bx
 (try rw [<-dH])
 obtain⟨H,hH⟩:∃H,H=w.heap.size+1+1:=⟨_,rfl⟩
 rw [<-hH];have dA:Hid (aol w Wb W3 H n ord 0):=by have h:=dA.out;rw [show w.heap.size+2=H by omega] at h;exact h
 have HH:=hid hH;clear dH bp bq bx B0 B1 F1 db hH eU;go_loopw [26] (fun i wr=>∃(k:Nat),k<=n∧i = .int .i64 k∧aol w Wb wr H n ord k) (fun i _=>n - (intOf i).toNat)
 case atStart=>exact⟨0,Aah _,rfl,dA.out⟩
 case round =>
  obtain⟨k,hk,rfl,hs⟩:=hrel;have Hs:=hid hs
  by_cases bd:k<n
  . have dX:k<ord.length:=by rw [aO.out];exact bd
    obtain⟨b',aW,a6,c1⟩:=abb (Ho.out.later aae hs.below) (t:=k) (by rw [eE.out];exact bd);cases a6;rw [List.getElem_map] at c1;obtain⟨x,hx⟩:∃x,ord[k]=x:=⟨_,rfl⟩
    have gT:x<n:=by rw [<-hx];exact eD.out _ (Aaf _)
    have cD:Hid (∀y,atF ord (k+1) y=if y=x then k else atF ord k y):=fun y=>by rw [<-hx];exact ahQ ds.out dX y
    rw [hx] at c1;have c2:=hs.at_.cell gT;have f2:=hs.at_.frozen x;have ic:ob<wr.heap.size:=aac c1;have h5:H<wr.heap.size:=hs.at_.lt;clear hs hx;go_wp2_with fail;go_roundw
    case rel=>exact⟨k+1,by omega,by go_num,Hs.out.next (by have:=HH.out;omega) (by have:=HH.out;have:=bR.out;omega) cD.out⟩
    case measure=>simp [intOf];omega
  . have av:k=n:=by omega
    obtain⟨W4,eK⟩:∃W4,W4=wr:=⟨_,rfl⟩
    rw [<-eK] at Hs ⊢;have aY:Hid (aol w Wb W4 H n ord n):=by have h:=Hs.out;rw [av] at h;exact h
    obtain⟨b0,b1,b2,b3⟩:=(ey.out.later aY.out.old).get4;simp only [Aab] at b1 b2 b3;have zw:w.heap.size<W4.heap.size:=aac b0;have zH:H<W4.heap.size:=aY.out.at_.lt;have a7:=aY.out.below;have dd:=hid (ey.out.later aY.out.old);have de:=hid (fp.out.later aY.out.old);have df:Hid (∀j,W4.frozen? ⟨w.heap.size+1,j,none⟩=false):=fun j=>(aY.out.old.frozen (p:=⟨w.heap.size+1,j,none⟩) (by have:=bR.out;dsimp only;omega)).trans (fq.out j);have dt:=hid av;clear hs Hs eK av hk;have aU:=bV.out;go_wp2_with fail;refine (ahj (S:=S) nm p r (some ⟨bb,aP,none⟩) bc bs n W4 (Hb.out.later aam a7) aU (by omega) bH.out).mono ?_;rintro e w5 ⟨bv,rfl,bh,dJ⟩;obtain⟨hD,aG,be,-⟩:=id bh;rw [aU] at aG;rcases aG.2 with⟨-,hbad⟩ | ⟨R,cap,cur5,rfl,hR1,hR2,hR3,hR4,hR5,-⟩
    . omega
    have bo:R<w5.heap.size:=be R rfl;clear bh aG be b0 b1 b2 b3;go_wp2_with fail;obtain⟨W6,au⟩:∃W6,W6=w5.alloc (.cells #[.string nm,.int .i64 p,.int .i64 r,.slice (some ⟨R,0,none⟩) n cap] 50):=⟨_,rfl⟩
    have cz:W6.heap.size=w5.heap.size+1:=by rw [au];simp
    have bw:Below W4.heap.size W4 W6:=by rw [au];exact bE1 dJ
    have aI:TSt w W6 W6 R cap bs ord 0:=by
     refine⟨a7.trans (bw.mono (by omega)),Aad _,fun _ _ _=>rfl,⟨cur5,?_,hR5⟩,fun j b hj=>by omega⟩;rw [au,Below.heap_alloc _ _ _ bo];exact hR2
    have BO:aaj W6 w5.heap.size 0 [.string nm,.int .i64 p,.int .i64 r,.slice (some ⟨R,0,none⟩) n cap]:=by
     intro j u hj;rw [au,Aab,World.cell?_alloc_new];simpa using hj
    have FO:∀j,W6.frozen? ⟨w5.heap.size,j,none⟩=false:=by intro j;rw [au];simp
    have fh:w5.heap.size≠R:=by omega
    have gW:W4.heap.size<=w5.heap.size:=dJ.size;have gg:W4.heap.size+2<=R:=hR1;rw [<-au];have bl:=hid aI;have ez:=hid BO;have hL:=hid FO;have aZ:=hid cz;have aj:=hid bw;have bQ:=hid hR3;have dg:Hid (cap<=9223372036854775807):=by have h:=hR4;unfold maxLen at h;exact h
    clear au aI BO FO cz bw dJ a7 hR1 hR2 hR3 hR4 hR5;go_loopw [40] (fun i wr=>∃(k:Nat),k<=n∧i = .int .i64 k∧TSt w W6 wr R cap bs ord k) (fun i _=>n - (intOf i).toNat)
    case atStart=>exact⟨0,Aah _,rfl,bl.out⟩
    case round =>
     obtain⟨k,hk,rfl,hs⟩:=hrel;have Hs:=hid hs;have dZ:w.heap.size≠R:=by omega
     have cw:w.heap.size+1≠R:=by have:=HH.out;omega
     have cx:H≠R:=by omega
     have z46:W4.heap.size<=W6.heap.size:=aj.out.size;have f3:wr.cell? ⟨w.heap.size,3,none⟩=some (.slice (some ⟨bb,aP,none⟩) n bc):=hs.cell (aab (by have h:=dd.out.get4.2.2.2;rw [Aab] at h;exact h) aj.out) dZ;have iu:w.heap.size<wr.heap.size:=aac f3
     by_cases bd:k<n
     . have dX:k<ord.length:=by rw [aO.out];exact bd
       obtain⟨b',aW,a6,c1⟩:=abb (Ho.out.later aae hs.below) (t:=k) (by rw [eE.out];exact bd);cases a6;rw [List.getElem_map] at c1;obtain⟨q,hq⟩:∃q,ord[k]=q:=⟨_,rfl⟩
       have ed:q<n:=by rw [<-hq];exact eD.out _ (Aaf _)
       rw [hq] at c1;have Hq:Hid (ord[k]?=some q):=by show _=_;rw [Aaa dX,hq]
       have ec:q<bs.length:=by rw [bV.out];exact ed
       obtain⟨b',aW,pa,pc,la,lc,ta,tc,a6,aF,hp,hl,ht,dO,dP⟩:=afy (Hb.out.later aam hs.below) ec;cases a6;obtain⟨y,hy⟩:∃y,y=bs[q]:=⟨_,rfl⟩
       rw [<-hy] at aF hp hl ht dO dP;obtain⟨d0,d1,d2,d3,d4,d5⟩:=aF.get6;have zb:bb<wr.heap.size:=aac d0;have zo:ob<wr.heap.size:=aac c1;have e8:agG y:=by rw [hy];exact bH.out _ (Aaf ec)
       have Hy:Hid (bs[q]?=some y):=by show _=_;rw [Aaa ec,hy]
       have bm:=hid e8;have Hp:=hid hp;have Hl:=hid hl;have Ht:=hid ht;have fB:=hid dO;have fC:=hid dP;have dr:=hid d0;clear hs hq aF hy e8 hp hl ht dO dP;go_wp2_with fail;refine (aeq (S:=S) y pa la ta pc lc tc wr Hp.out Hl.out Ht.out bm.out.phis bm.out.list bm.out.to bm.out.src bm.out.args).mono ?_;rintro e w2 ⟨pv,lv,tv,rfl,dL,cV⟩;obtain⟨⟨aX,ay,rfl⟩,⟨cJ,cK,rfl⟩,⟨aK,az,rfl⟩⟩:=dL.shape;obtain⟨W7,b8⟩:∃W7,W7=w2.alloc (.cells #[.slice aX y.phis.length ay,.slice cJ y.list.length cK,.int .i64 y.fin.kind,.bool y.fin.on.reg,.int .i64 y.fin.on.n,.slice aK y.fin.to.length az] 59):=⟨_,rfl⟩
       have XB:aaj W7 w2.heap.size 0 [.slice aX y.phis.length ay,.slice cJ y.list.length cK,.int .i64 y.fin.kind,.bool y.fin.on.reg,.int .i64 y.fin.on.n,.slice aK y.fin.to.length az]:=by
        intro j u hj;rw [b8,Aab,World.cell?_alloc_new];simpa using hj
       have e7:W7.heap.size=w2.heap.size+1:=by rw [b8];simp
       have bt:Below w2.heap.size w2 W7:=by rw [b8];exact bE
       have eu:wr.heap.size<=w2.heap.size:=cV.size;have cL:=hid dL;have hM:=hid cV;have dh:=hid XB;have hR:=hid e7;have bT:=hid bt;have x5:W7.cell? ⟨w2.heap.size,5,none⟩=some (.slice aK y.fin.to.length az):=by have h:=XB.get6.2.2.2.2.2;rw [Aab] at h;exact h
       have zx:w2.heap.size<W7.heap.size:=by omega
       have cb:Below wr.heap.size wr W7:=cV.trans (bt.mono eu);have ar:=hid cb;clear dL cV XB e7 bt d0 d1 d2 d3 d4 d5 c1 cb;go_wp2_with fail;rw [<-b8];clear b8 x5;obtain⟨wo,gS⟩:∃wo:World,wo=wr:=⟨_,rfl⟩
       subst gS;go_loopw [55] (fun i wi=>∃(t:Nat),t<=y.fin.to.length∧i = .int .i64 t∧amU W7 wi (.slice aK y.fin.to.length az) y.fin.to ord t) (fun i _=>y.fin.to.length - (intOf i).toNat)
       case atStart =>
        refine⟨0,Aah _,rfl,?_⟩;obtain⟨a1,b1,a2,b2,a3,b3,k1,k2,k3,-,-,-,o1,o2,o3⟩:=cL.out;have fk:=o3.kept (w':=W7) aae (fun b h1 h2=>bT.out.block b (by omega));exact⟨⟨rfl,rfl,rfl,Aad _,fun _ _ _=>rfl⟩,rfl,fun T hT j hj=>by rw [if_neg (Nat.not_lt_zero _)];exact (fk.ints T hT).2.2.1 j hj,fun T j hT=>(fk.ints T hT).2.2.2 j⟩
       case round =>
        obtain⟨t,iq,rfl,ao⟩:=hrel;have il:y.fin.to.length<=1048576:=bm.out.to;have hU:=hid ao;have bK:Hid (∀T,(Value.slice aK y.fin.to.length az).ownBlock=some T->wo.heap.size<=T∧T<w2.heap.size):=fun T hT=>by
         obtain⟨a1,b1,a2,b2,a3,b3,k1,k2,k3,-,-,-,o1,o2,o3⟩:=cL.out;have h:=(o3.ints T hT).1;omega
        have x5:wr.cell? ⟨w2.heap.size,5,none⟩=some (.slice aK y.fin.to.length az):=by
         rw [World.cell?_of_block (w:=W7) (a:=⟨w2.heap.size,5,none⟩) (ao.grow.block _ zx (fun e=>by have h9:=(bK.out _ e.symm).2;dsimp only at h9;omega))];have h:=dh.out.get6.2.2.2.2.2;rw [Aab] at h;exact h
        have iO:w2.heap.size<wr.heap.size:=aac x5
        by_cases htl:t<y.fin.to.length
        ·
         obtain⟨T,gQ⟩:∃T,aK=some ⟨T,0,none⟩:=by
          obtain⟨a1,b1,a2,b2,a3,b3,k1,k2,k3,-,-,-,o1,o2,o3⟩:=cL.out;obtain⟨xss,h1,-⟩:=o3;rcases h1.2 with⟨e,h0⟩ | ⟨g,cap,cur,e,-⟩
          . omega
          . cases e;exact⟨_,rfl⟩
         subst gQ;have hT:(Value.slice (some ⟨T,0,none⟩) y.fin.to.length az).ownBlock=some T:=rfl;obtain⟨ia,ib⟩:=bK.out T hT;have c1:=ao.cells T hT t htl;rw [if_neg (Abg t)] at c1;have f1:=ao.free T t hT;have hz:=(cN.out q y Hy.out).2 (y.fin.to[t]'htl) (Aaf htl);obtain⟨z,bF⟩:=Aas hz.1;have bG:z<n:=by have:=bV.out;omega
         have eJ:some H≠(Value.slice (some ⟨T,0,none⟩) y.fin.to.length az).ownBlock:=fun e=>by have e':H=T:=Option.some.inj e;have:=Hs.out.size;omega
         have c2:wr.cell? ⟨H,z,none⟩=some (.int .i64 ((placeOf ord z:Nat):Int)):=by
          have h1:=aY.out.at_.cell bG;rw [show atF ord n z=placeOf ord z by have h:=ahP (aq.out z bG);rw [aO.out] at h;exact h] at h1;have h2:=Hs.out.cell (aab h1 aj.out) cx;have h3:=aab h2 ar.out;rw [World.cell?_of_block (w:=W7) (a:=⟨H,z,none⟩) (ao.grow.block H (aac h3) eJ)];exact h3
         have aw:Hid (amU W7 (wr.setCell ⟨T,t,none⟩ (.int .i64 ((placeOf ord z:Nat):Int))) (.slice (some ⟨T,0,none⟩) y.fin.to.length az) y.fin.to ord (t+1)):=ao.next hT htl (by rw [bF,Aaj]);rw [bF] at c1;have zT:T<wr.heap.size:=aac c1;have iD:H<wr.heap.size:=aac c2;generalize placeOf ord z=pl at c2 aw;clear ao hz bF hT eJ;go_wp2_with fail;go_big_region
         all_goals
          go_wp2_with fail;go_roundw
          case rel=>exact⟨t+1,by omega,by go_num,by first | exact aw.out | exact aw.out.drew | exact aw.out.drewN _⟩
          case measure=>simp [intOf];omega
        . have cE:t=y.fin.to.length:=by omega
          have fS:=hid cE;clear cE;obtain⟨ab,b7,ra,rc,gj,c3,ax⟩:=apV (HA.out.later aax Hs.out.below) (t:=q) (by rw [ew.out];exact ed);subst gj;obtain⟨fr,bN⟩:∃fr,fr=(aheadF bs)[q]'(by rw [ew.out];exact ed):=⟨_,rfl⟩
          rw [<-bN] at c3 ax;have bk:=hid bN;have dy:=hid ax;have c4:wr.cell? ⟨ab,b7+q,none⟩=some (.slice ra fr.length rc):=by
           have h3:=aab c3 ar.out;rw [World.cell?_of_block (w:=W7) (a:=⟨ab,b7+q,none⟩) (ao.grow.block ab (aac h3) (fun e=>by have h9:=(bK.out _ e.symm).1;have h8:=aac c3;omega))];exact h3
          have iJ:ab<wr.heap.size:=aac c4;have x0:wr.cell? ⟨w2.heap.size,0,none⟩=some (.slice aX y.phis.length ay):=by
           rw [World.cell?_of_block (w:=W7) (a:=⟨w2.heap.size,0,none⟩) (ao.grow.block _ zx (fun e=>by have h9:=(bK.out _ e.symm).2;dsimp only at h9;omega))];have h:=dh.out.get6.1;exact h
          have aE : Below wo.heap.size wo wr := ⟨ao.grow.os.trans ar.out.os, ao.grow.tape.trans ar.out.tape, ao.grow.output.trans ar.out.output, by have := ao.size; have := ar.out.size; omega, fun b hb => by
           rw [ao.grow.block b (by omega) (fun e => by have h9 := (bK.out _ e.symm).1; omega), ar.out.block b hb]⟩
          have ae:=hid aE;have fe:aaj wr w2.heap.size 0 [.slice aX y.phis.length ay,.slice cJ y.list.length cK,.int .i64 y.fin.kind,.bool y.fin.on.reg,.int .i64 y.fin.on.n,.slice aK y.fin.to.length az]:=fun j u hj=>by
           rw [World.cell?_of_block (w:=W7) (a:=⟨w2.heap.size,0+j,none⟩) (ao.grow.block _ zx (fun e=>by have h9:=(bK.out _ e.symm).2;dsimp only at h9;omega))];exact dh.out j u hj
          have ft:=hid fe;have dE:ord.length<=40:=by rw [aO.out];omega
          obtain⟨a1,b1,b9,eZ,bP,cF⟩:=cL.out.turned bT.out (by have h:=ao;rw [fS.out] at h;exact h) dE;have bS:=hid b9;have bZ:=hid eZ;have du:=hid bP;have fT:=hid cF;clear ao bN ax c3 aE fe b9 eZ bP cF;go_wp2_with fail;obtain⟨W8,gh⟩:∃W8:World,W8=wr:=⟨_,rfl⟩
          subst gh;go_loopw [80] (fun i wi=>∃(p:Nat),p<=y.phis.length∧i = .int .i64 p∧akd W8 wi (.slice aX y.phis.length ay) y.phis ord fr p) (fun i _=>y.phis.length - (intOf i).toNat)
          case atStart=>exact⟨0,Aah _,rfl,akd.start (fun P j hP=>(bZ.out.row P hP).2.2 j)⟩
          case round =>
           obtain⟨pi,ik,rfl,ai⟩:=hrel;have ij:y.phis.length<=1048576:=bm.out.phis;have cM:=hid ai;have bJ:Hid (∀P,(Value.slice aX y.phis.length ay).ownBlock=some P->a1<=P∧P<b1∧P<w2.heap.size∧wo.heap.size<=P):=fun P hP=>by have h:=(bZ.out.row P hP).1;have h2:=bS.out;omega
           by_cases hpl:pi<y.phis.length
           ·
            obtain⟨P,cP,cs,gd,gb,eN,ef⟩:=bZ.out.at hpl;cases gd;obtain⟨qq,da⟩:∃qq,qq=y.phis[pi]'hpl:=⟨_,rfl⟩
            rw [<-da] at ef;obtain⟨fa,fc,rfl,cB,bC,gq⟩:=ef.opens;have cO:(Value.slice (some ⟨P,0,none⟩) y.phis.length ay).ownBlock=some P:=rfl;obtain⟨-,-,h6,h7⟩:=bJ.out P cO;have gV:W8.heap.size<=wr.heap.size:=ai.grow.size;have bD:w2.heap.size<W8.heap.size:=aac x0;obtain⟨ck,cl⟩:=eN.get2;have dw:=hid da;have fQ:=hid cB;have dq:=hid ck;have bX:=hid cl;have bM:qq.src.length=fr.length:=by
             have h:=dv.out q y Hy.out qq (by rw [da];exact Aaf hpl);rw [h,bk.out];simp [aheadF]
            have dQ:fr.length<=80:=by
             have h:=ac8 q bs 0 (fun x hx=>by obtain⟨i,hi,rfl⟩:=Aa1 hx;exact (cN.out i _ (Aaa hi)).1);have h2:fr=aag bs 0 q:=by rw [bk.out];simp [aheadF]
             rw [h2];have:=bV.out;omega
            have fE:Hid (∀a∈fr,0<=a∧a<(n:Int)):=fun a ha=>by
             have h2:fr=aag bs 0 q:=by rw [bk.out];simp [aheadF]
             rw [h2] at ha;have h:=abB ha;have:=bV.out;omega
            have fm:Hid (∀z,z<n->wo.cell? ⟨H,z,none⟩=some (.int .i64 ((placeOf ord z:Nat):Int))):=fun z bG=>by
             have h1:=aY.out.at_.cell bG;rw [show atF ord n z=placeOf ord z by have h:=ahP (aq.out z bG);rw [aO.out] at h;exact h] at h1;exact Hs.out.cell (aab h1 aj.out) cx
            have bU : Hid (Below wo.heap.size wo wr) := ⟨ai.grow.os.trans ae.out.os, ai.grow.tape.trans ae.out.tape, ai.grow.output.trans ae.out.output, by have := ai.grow.size; have := ae.out.size; omega, fun b hb => by
             rw [ai.grow.block b (by have := ae.out.size; omega) (fun e => by have h9 := (bJ.out _ e.symm).2.2.2; omega), ae.out.block b hb]⟩
            have fD:=hid bM;clear ai da eN ef cB ck cl bM;obtain⟨W9,bL⟩:∃W9:World,W9=wr:=⟨_,rfl⟩
            subst bL;obtain⟨et,eU,bf,ad⟩:=run_make_own (P:=Tryz.prog) W9 W9.heap.size 60 55 fj _ 2 Tryz.underlying60 cp cG cH .i64 .i64 fr.length (by rw [cI];omega) (by unfold maxLen;omega) (Aad _);have bg:Own W9.heap.size et 55 2 ady (.slice (some ⟨W9.heap.size,0,none⟩) 0 fr.length) []:=⟨[],bf,rfl,fun i cs h=>by simp at h,fun i cs x h=>by simp at h⟩
            have cf:Below W9.heap.size W9 et:=⟨ad.os,ad.tape,ad.output,ad.size,fun k hk=>ad.block k hk (by simp)⟩
            have dk:Hid (acI W9 et 55 2 ady (.slice (some ⟨W9.heap.size,0,none⟩) 0 fr.length) (aek ord fr qq.src 0)):=⟨bg,cf⟩
            clear bf ad bg cf;go_wp2_with fail;go_loopw [17,88] (fun er i wi=>∃(n':Nat) (v:Value),v=er∧n'<=n∧i = .int .i64 n'∧acI W9 wi 55 2 ady v (aek ord fr qq.src n')) (fun _ i _=>n - (intOf i).toNat)
            case atStart=>exact⟨0,_,rfl,Aah _,rfl,dk.out⟩
            case round =>
             obtain⟨n',v,rfl,ih,rfl,aT⟩:=hrel;have aL:=hid aT;clear aT
             by_cases hnl:n'<n
             . go_wp2_with fail
               go_loopw [17,93] (fun er i wi=>∃(j:Nat) (v:Value),v=er∧j<=fr.length∧i = .int .i64 j∧acI W9 wi 55 2 ady v (aek ord fr qq.src n'++acu ord n' fr qq.src j)) (fun _ i _=>fr.length - (intOf i).toNat)
               case atStart=>exact⟨0,_,rfl,Aah _,rfl,by have h:=aL.out;simpa [acu] using h⟩
               case round =>
                obtain⟨j,v2,rfl,hj,rfl,ch⟩:=hrel;have ak:=hid ch;clear ch
                by_cases bO:j<fr.length
                . have cX:Below wo.heap.size wo wr:=bU.out.trans (ak.out.old.mono bU.out.size)
                  have bW:=hid cX;obtain⟨rb,gY,gI,e1⟩:=abb (dy.out.later aae cX) bO;cases gI;have hz:=fE.out _ (Aaf bO);obtain⟨z,bF⟩:=Aas hz.1;have bG:z<n:=by omega
                  rw [bF] at e1;have e2:=aab (fm.out z bG) cX;have c9:placeOf ord (fr.getD j 0).toNat=placeOf ord z:=by
                   rw [Aac,Aaa bO,Abd,bF,Aaj]
                  have dV:j<qq.src.length:=by rw [fD.out];exact bO
                  have iN:rb<wr.heap.size:=aac e1;have iE:H<wr.heap.size:=aac e2;have eT:(aek ord fr qq.src n'++acu ord n' fr qq.src j).length+1<=2097152:=by
                   have h1:=anM ord fr qq.src n';have h2:=ait ord n' fr qq.src j;have h3:=Nat.mul_le_mul (show n'<=40 by omega) dQ;rw [Aai];omega
                  have fL:=hid eT;clear cX hz bF eT
                  by_cases hpe:placeOf ord z=n'
                  . have aw:Hid (aek ord fr qq.src n'++acu ord n' fr qq.src (j+1)=(aek ord fr qq.src n'++acu ord n' fr qq.src j)++[qq.src[j]]):=by
                     show _=_;rw [adN,ag2 (c9.trans hpe) dV,Abh]
                    clear c9;rw [hpe] at e2;obtain⟨b',aW,hY,hZ,gE,q0,q1,q2,-,-⟩:=aoc Hp.out hpl;cases gE;rw [<-dw.out] at q1 q2;obtain⟨sb,gZ,gL,s0,s1⟩:=apZ q2 dV;cases gL;have g3:=aab f3 bW.out;have g4:=aab dr.out bW.out;have g5:=aab q1 bW.out;have g6:=aab s0 bW.out;have g7:=aab s1 bW.out;have y3:=aac g3;have y4:=aac g4;have y5:=aac g5;have y6:=aac g6;obtain⟨-,-,hX,-,-,⟨-,cv,eV⟩,-⟩:=q2.get dV;have bY:Hid (-9223372036854775808<=(qq.src[j]).n∧(qq.src[j]).n<=9223372036854775807):=⟨cv,eV⟩
                    clear q0 q1 q2 s0 s1 hpe cv eV;go_wp2_with (at_builtin;refine abo rfl _ _ 60 rfl W9.heap.size 55 fj _ 2 16 Tryz.underlying60 cp cG cH cI rfl (by decide) aaw v2 (aek ord fr qq.src n'++acu ord n' fr qq.src j) rfl ?_ ⟨wr.heap.size,0,none⟩ 1 [.bool (qq.src[j]).reg,.int .i64 (qq.src[j]).n] (qq.src[j]) rfl rfl ?_ ?_ ?_ fL.out (by decide) ?_ ?_)
                    . exact ak.out.own.later aaw bE
                    . exact abd _ _ _ rfl
                    . intro u hu;simp at hu;rcases hu with rfl | rfl <;> rfl
                    . exact⟨rfl,bY.out.1,bY.out.2⟩
                    . have:=ak.out.old.size;simp;omega
                    . intro v3 w3 bA a8 g2 fW gR
                      have bu:Below W9.heap.size W9 w3:=by
                       refine Below.grown ?_ a8 (by have:=ak.out.old.size;simp;omega) (fun g hg=>(ak.out.own.lt g hg).1);have h:=ak.out.old;exact bE1 h
                      have dm:Hid (acI W9 w3 55 2 ady v3 (aek ord fr qq.src n'++acu ord n' fr qq.src (j+1))):=⟨by rw [aw.out];first | exact bA | (rw [Abh];exact bA),bu⟩
                      clear bA a8 bu gR;go_wp2_with fail;go_roundw
                      case rel=>exact⟨j+1,v3,rfl,by omega,by go_num,dm.out⟩
                      case measure=>simp [intOf];omega
                  ·
                   have aw:Hid (aek ord fr qq.src n'++acu ord n' fr qq.src (j+1)=aek ord fr qq.src n'++acu ord n' fr qq.src j):=by
                    show _=_;rw [adN,ais (by rw [c9];exact hpe),Abe]
                   clear c9;go_wp2_with fail;go_roundw
                   case rel=>exact⟨j+1,_,rfl,by omega,by go_num,by rw [aw.out];exact ak.out⟩
                   case measure=>simp [intOf];omega
                ·
                 have eR:j=fr.length:=by omega
                 have dn:Hid (acI W9 wr 55 2 ady v2 (aek ord fr qq.src (n'+1))):=by have h:=ak.out;rw [eR,<-aiA] at h;exact h
                 clear eR;go_wp2_with fail;go_roundw
                 case rel=>exact⟨n'+1,v2,rfl,by omega,by go_num,dn.out⟩
                 case measure=>simp [intOf];omega
             ·
              have eX:n'=ord.length:=by rw [aO.out];omega
              have cQ:=cM.out.later aL.out.old (fun P' h=>by have:=bJ.out P' h;omega);have bC:=aL.out.own.toSl aaw (by decide);rw [eX,dw.out] at bC;obtain⟨va,vc,rfl⟩:=aL.out.own.shape;have ff:W9.cell? ⟨w2.heap.size,0,none⟩=some (.slice (some ⟨P,0,none⟩) y.phis.length ay):=by
               rw [World.cell?_of_block (w:=W8) (a:=⟨w2.heap.size,0,none⟩) (cM.out.grow.block _ bD (fun e=>by have h9:=(bJ.out _ e.symm).2.2.1;dsimp only at h9;omega))];exact x0
              have el:=aab ff aL.out.old;have dM:=(cQ.old P cO (pi * 2+1) (by omega)).trans bX.out;have gu:=cQ.free P (pi * 2+1) cO;have zP:=aac dM;have hK:=aac el;have aw:Hid (akd W8 (wr.setCell ⟨P,pi * 2+1,none⟩ (.slice va (aek ord fr qq.src n').length vc)) (.slice (some ⟨P,0,none⟩) y.phis.length ay) y.phis ord fr (pi+1)) :=
               cQ.next hpl cO (by omega) (by have h:=dq.out;rw [dw.out] at h;exact h) bX.out (bC.mono aaw (fun b hb=>⟨by have:=hb.1;omega,hb.2⟩) (aav.refl _ _))
              clear cQ bC ff eX;go_wp2_with fail;go_roundw
              case rel=>exact⟨pi+1,by omega,by go_num,aw.out⟩
              case measure=>simp [intOf];omega
           . have gF:pi=y.phis.length:=by omega
             rw [gF] at cM;have ai:=cM.out
             have dj : Hid (Below wo.heap.size wo wr) := ⟨ai.grow.os.trans ae.out.os, ai.grow.tape.trans ae.out.tape, ai.grow.output.trans ae.out.output, by have := ai.grow.size; have := ae.out.size; omega, fun b hb => by
              rw [ai.grow.block b (by have := ae.out.size; omega) (fun e => by have h9 := (bJ.out _ e.symm).2.2.2; omega), ae.out.block b hb]⟩
             have bD:w2.heap.size<W8.heap.size:=aac x0;have fg:aaj wr w2.heap.size 0 [.slice aX y.phis.length ay,.slice cJ y.list.length cK,.int .i64 y.fin.kind,.bool y.fin.on.reg,.int .i64 y.fin.on.n,.slice aK y.fin.to.length az] :=
              ahV ft.out (ai.grow.block _ bD (fun e=>by have h9:=(bJ.out _ e.symm).2.2.1;omega))
             obtain⟨e0,e1,e2,e3,e4,e5⟩:=fg.get6;simp only [Aab] at e1 e2 e3 e4 e5;have gC:wr.cell? ⟨w5.heap.size,3,none⟩=some (.slice (some ⟨R,0,none⟩) n cap):=aab (Hs.out.cell (by have h:=ez.out.get4.2.2.2;rw [Aab] at h;exact h) fh) dj.out;have zO:w5.heap.size<wr.heap.size:=aac gC;have dG:R<wo.heap.size:=by have:=Hs.out.size;have:=aZ.out;omega
             have eG:=hid (Hs.out.later dj.out dG);obtain⟨fY,bB,gK⟩:=eG.out.row;have zR:R<wr.heap.size:=by have:=dj.out.size;omega
             have dW:k<cap:=by have:=bQ.out;omega
             have cR:∀j,j<6->∃u,wr.cell? ⟨R,k * 6+j,none⟩=some u:=fun j hj=>⟨_,(aaI bB).trans (Array.getElem?_eq_getElem (by omega))⟩
             have fR:∀j,wr.frozen? ⟨R,j,none⟩=false:=fun j=>by simp [World.frozen?,bB]
             have y0:=fR (k * 6);have y1:=fR (k * 6+1);have y2:=fR (k * 6+2);have y3:=fR (k * 6+3);have y4:=fR (k * 6+4);have y5:=fR (k * 6+5);obtain⟨g0,c0⟩:=cR 0 (by omega);obtain⟨g1,c1⟩:=cR 1 (by omega);obtain⟨g2,c2⟩:=cR 2 (by omega);obtain⟨g3,c3⟩:=cR 3 (by omega);obtain⟨g4,c4⟩:=cR 4 (by omega);obtain⟨g5,c5⟩:=cR 5 (by omega);rw [Aa2] at c0;have aw:Hid (TSt w W6 ((((((wr.setCell ⟨R,k * 6,none⟩ (.slice aX y.phis.length ay)).setCell ⟨R,k * 6+1,none⟩ (.slice cJ y.list.length cK)).setCell ⟨R,k * 6+2,none⟩ (.int .i64 y.fin.kind)).setCell ⟨R,k * 6+3,none⟩ (.bool y.fin.on.reg)).setCell ⟨R,k * 6+4,none⟩ (.int .i64 y.fin.on.n)).setCell ⟨R,k * 6+5,none⟩ (.slice aK y.fin.to.length az)) R cap bs ord (k+1)):=by
              refine eG.out.next (by omega) (by have:=aZ.out;omega) dW Hq.out _ _ _ _ _ _ ?_;have cY:bs.getD q aaM=y:=by rw [Aac,Hy.out];rfl
              have dR:fr=aag bs 0 q:=by rw [bk.out];simp [aheadF]
              have gN:W6.heap.size<=wo.heap.size:=Hs.out.size;have gM:wo.heap.size<=w2.heap.size:=eu;have gO:W8.heap.size<=wr.heap.size:=ai.grow.size;have a6:=bS.out;have eb:=ai.sl (C:=W6.heap.size) ((bZ.out.toSl aa0 (by decide)).mono aa0 (fun b hb=>⟨by have:=hb.1;omega,by have:=hb.2;omega⟩) (aav.refl _ _)) (fun P hP=>(bZ.out.row P hP).2.1) (by omega);have cC:aav (fun b=>wo.heap.size<=b∧b<w2.heap.size∧(Value.slice aX y.phis.length ay).ownBlock≠some b) W8 wr:=aba fun b hb _=>ai.grow.block b (by omega) (fun e=>hb.2.2 e.symm);have gz:=du.out.mono (S':=iv W6.heap.size wr.heap.size) aa6 (fun b hb=>⟨by have:=hb.1;omega,by have:=hb.2.1;omega⟩) cC;have gP:=fT.out.mono (S':=iv W6.heap.size wr.heap.size) aae (fun b hb=>⟨by have:=hb.1;omega,by have:=hb.2.1;omega⟩) cC;rw [cY,<-dR];exact⟨_,_,_,rfl,eb,gz,_,rfl,gP,fB.out,fC.out⟩
             clear ai fg bB gK cR fR;go_wp2_with fail;go_roundw
             case rel=>exact⟨k+1,by omega,by go_num,aw.out⟩
             case measure=>simp [intOf];omega
     . have av:k=n:=by omega
       have eI:Hid (TSt w W6 wr R cap bs ord ord.length):=by have h:=Hs.out;rw [av,<-aO.out] at h;exact h
       have eY:aaj wr w5.heap.size 0 [.string nm,.int .i64 p,.int .i64 r,.slice (some ⟨R,0,none⟩) n cap]:=ahV ez.out (hs.keep _ (by have:=aZ.out;omega) fh);have bB:aaj wr (w.heap.size+1) 0 [.string ⟨#[]⟩,.int .i64 0,.int .i64 0,.slice none 0 0]:=by
        have dc:w.heap.size+1<W4.heap.size:=by have:=HH.out;omega
        have h1:=de.out.later aj.out;exact ahV h1 (hs.keep _ (by have:=aj.out.size;omega) cw)
       have cm:∀j,wr.frozen? ⟨w.heap.size+1,j,none⟩=false:=fun j=>by
        have dc:w.heap.size+1<W4.heap.size:=by have:=HH.out;omega
        rw [World.frozen?_of_block (w:=W6) (a:=⟨w.heap.size+1,j,none⟩) (hs.keep _ (by have:=aj.out.size;dsimp only;omega) (by dsimp only;exact cw)),World.frozen?_of_block (w:=W4) (a:=⟨w.heap.size+1,j,none⟩) (aj.out.block _ (by dsimp only;exact dc))];exact df.out j
       obtain⟨e0,e1,e2,e3⟩:=eY.get4;obtain⟨o0,o1,o2,o3⟩:=bB.get4;simp only [Aab] at e1 e2 e3 o1 o2 o3;have y0:=cm 0;have y1:=cm 1;have y2:=cm 2;have y3:=cm 3;have zO:w5.heap.size<wr.heap.size:=aac e0;have z1:w.heap.size+1<wr.heap.size:=aac o0;have fN:=hid bB;have dt:=hid av;clear hs eY bB cm av;go_wp2_with fail;have bz:=ap4 (u0 := .string nm) (u1 := .int .i64 p) (u2 := .int .i64 r) (u3 := .slice (some ⟨R,0,none⟩) n cap) fN.out;obtain⟨h0,h1,h2,h3⟩:=bz.get4;simp only [Aab] at h1 h2 h3;obtain⟨W9,bL⟩:∃W9,W9=((((wr.setCell ⟨w.heap.size+1,0,none⟩ (.string nm)).setCell ⟨w.heap.size+1,1,none⟩ (.int .i64 p)).setCell ⟨w.heap.size+1,2,none⟩ (.int .i64 r)).setCell ⟨w.heap.size+1,3,none⟩ (.slice (some ⟨R,0,none⟩) n cap)):=⟨_,rfl⟩
       rw [<-bL] at h0 h1 h2 h3 ⊢;have hle:w.heap.size<=w.heap.size+1:=Aa3 _;have gn:Below w.heap.size w W9:=by
        rw [bL];exact (((eI.out.below.setCell (p:=⟨w.heap.size+1,0,none⟩) hle _).setCell (p:=⟨w.heap.size+1,1,none⟩) hle _).setCell (p:=⟨w.heap.size+1,2,none⟩) hle _).setCell (p:=⟨w.heap.size+1,3,none⟩) hle _
       have gJ:W9.heap.size=wr.heap.size:=by rw [bL];simp [World.setCell]
       have gy:∀b,b≠w.heap.size+1->W9.heap[b]?=wr.heap[b]?:=fun b hb=>by
        rw [bL]
        iterate 4 rw [Below.heap_setCell _ _ _ _ (by dsimp only;exact hb)]
       have bC:=eI.out.sl (c:=cap) (by rw [aO.out];exact bQ.out) dg.out (lo:=w.heap.size+2) (by have:=HH.out;omega) (by have:=aZ.out;omega);rw [aO.out] at bC;have eg:SlAt (iv w.heap.size W9.heap.size) W9 6 aaJ (.slice (some ⟨R,0,none⟩) n cap) (aaV bs ord) :=
        (bC.mono (S':=fun b=>w.heap.size+2<=b∧b<wr.heap.size) aam (fun b hb=>hb) (aba (w':=W9) fun b hb _=>gy b (by have:=hb.1;omega))).mono aam (fun b hb=>⟨by have:=hb.1;omega,by rw [gJ];exact hb.2⟩) (aav.refl _ _)
       refine bodyPost_ret (v := .agg #[.string nm,.int .i64 p,.int .i64 r,.slice (some ⟨R,0,none⟩) n cap]) ?_ rfl ⟨_,rfl,?_,gn⟩
       . simp [results,Tryz.results33,go_sem,h0,h1,h2,h3]
       . exact eg
end
section
open Go.RowKit
theorem ao6 {S S' S'' : Nat -> Prop} {fs : List aao} (f : aao) (C : List Int) (names : List ByteArray) (hh : ac1 names f = 0) (aT : abP fs f = 0) (aV : ajw f)
 (nm:ByteArray) (p r:Int) (n:Nat) (hn:f.blocks.length=n) (ba:Option Addr) (bc:Nat) (aa:Option Addr) (ac:Nat) (v:Value) (w:World)
 (hb:SlAt S w 6 aaJ (.slice ba n bc) f.blocks) (hA:SlAt S' w 1 rRow (.slice aa n ac) (aheadF f.blocks)) (ho:SlAt S'' w 1 aaO v ((afq f.blocks (aaB C)).map fun b:Nat=>(b:Int))) :
 Calls Tryz.prog 33 #[.agg #[.string nm,.int .i64 p,.int .i64 r,.slice ba n bc],.slice aa n ac,v] w fun e w' =>
  ∃a c,e = .returned (.agg #[.string nm,.int .i64 p,.int .i64 r,.slice a n c])∧SlAt (iv w.heap.size w'.heap.size) w' 6 aaJ (.slice a n c) (byF f C).blocks∧Below w.heap.size w w':=by
 subst hn;obtain⟨-,-,-,-,-,-,h1,dE,-⟩:=abH hh;obtain⟨hp,h0,hO⟩:=aez aT (by omega) (aaB C);have hf:=ado aT;have gl:(aheadF f.blocks).length=f.blocks.length:=by unfold aheadF;simp
 have cu:((afq f.blocks (aaB C)).map fun b:Nat=>(b:Int)).length=f.blocks.length:=by rw [Aal];exact hp.len
 obtain⟨oa,oc,rfl⟩:=aj6 ho;have hg:∀k (x:aad),f.blocks[k]?=some x->k<f.blocks.length∧f.blocks.getD k aaM=x:=fun k x hx=>by
  refine⟨(Aae.1 hx).1,?_⟩;rw [Aac,hx];rfl
 have bj:∀(k:Nat) (x:aad),f.blocks[k]?=some x->x.fin.to.length<=2∧∀t∈x.fin.to,0<=t∧t<(f.blocks.length:Int):=fun k x hx=>by
  obtain⟨hk,cY⟩:=hg k x hx;have he:=(abC.1 aT).1 k hk;unfold adk at he;rw [hx] at he;have gr:=acy.1 he;exact⟨by omega,fun t ht=>by have:=gr.2.2.1 t ht;omega⟩
 have h := anV (S := S) (S' := S') (S'' := S'') nm p r ba bc f.blocks aa ac oa oc (afq f.blocks (aaB C)) f.blocks.length w hb (by rw [gl]; exact hA) ho (by omega) dE rfl hp.len hp.lt hp.all
  (fun i j hi hj he => hO.inj (ae5 fun k x hx => (bj k x hx).2) hi hj he) aV.each bj (fun b x hx q hq => by
    obtain ⟨hk, cY⟩ := hg b x hx
    exact hf.phi b hk q (by rw [cY]; exact hq))
 rw [cu];refine h.mono ?_;rintro e w' ⟨bv,rfl,hv,gm⟩;obtain⟨a,c,rfl⟩:=aj6 hv;have hl:(aaV f.blocks (afq f.blocks (aaB C))).length=f.blocks.length:=by rw [aaL];exact hp.len
 rw [hl] at hv ⊢;exact⟨a,c,rfl,hv,gm⟩
theorem aeI {fn : Func} (gx : fn.results = #[.cell 4 25, .cell 5 31]) {tmps : Array Value} {b b' : Nat} (ht : tmps.getD 4 undef = .pointer (some ⟨b, 0, none⟩)) (e9 : tmps.getD 5 undef = .pointer (some ⟨b', 0, none⟩)) {g f : Value} {c a : Int} {W : World}
 (hg:W.cell? ⟨b,0,none⟩=some g) (hf:W.cell? ⟨b,1,none⟩=some f) (h0:W.cell? ⟨b',0,none⟩=some (.int .i64 c)) (h1:W.cell? ⟨b',1,none⟩=some (.int .i64 a)):(results fn tmps).run Tryz.prog W = .ok (.tuple #[.agg #[g,f],.agg #[.int .i64 c,.int .i64 a]]) W:=by
 simp only [Ab3] at ht e9;simp [results,gx,ht,e9,go_sem,hg,hf,h0,h1]
variable {w:World}{B C:Nat}
theorem apI{x0 x1 y0 y1:Value}(u0 u1 v0 v1:Value)(aJ:B≠C)(h0:w.cell? ⟨B,0,none⟩=some x0)(h1:w.cell? ⟨B,1,none⟩=some x1)(k0:w.cell? ⟨C,0,none⟩=some y0)(k1:w.cell? ⟨C,1,none⟩=some y1) :
 ((((w.setCell ⟨B,0,none⟩ u0).setCell ⟨B,1,none⟩ u1).setCell ⟨C,0,none⟩ v0).setCell ⟨C,1,none⟩ v1).cell? ⟨B,0,none⟩=some u0∧((((w.setCell ⟨B,0,none⟩ u0).setCell ⟨B,1,none⟩ u1).setCell ⟨C,0,none⟩ v0).setCell ⟨C,1,none⟩ v1).cell? ⟨B,1,none⟩=some u1∧((((w.setCell ⟨B,0,none⟩ u0).setCell ⟨B,1,none⟩ u1).setCell ⟨C,0,none⟩ v0).setCell ⟨C,1,none⟩ v1).cell? ⟨C,0,none⟩=some v0∧((((w.setCell ⟨B,0,none⟩ u0).setCell ⟨B,1,none⟩ u1).setCell ⟨C,0,none⟩ v0).setCell ⟨C,1,none⟩ v1).cell? ⟨C,1,none⟩=some v1:=by
 have a:=abj (u:=u0) (v:=u1) h0 h1;have c0:((w.setCell ⟨B,0,none⟩ u0).setCell ⟨B,1,none⟩ u1).cell? ⟨C,0,none⟩=some y0:=by rw [aaf _ (Ne.symm aJ),aaf _ (Ne.symm aJ)];exact k0
 have c1:((w.setCell ⟨B,0,none⟩ u0).setCell ⟨B,1,none⟩ u1).cell? ⟨C,1,none⟩=some y1:=by rw [aaf _ (Ne.symm aJ),aaf _ (Ne.symm aJ)];exact k1
 have b:=abj (u:=v0) (v:=v1) c0 c1;refine⟨?_,?_,b.1,b.2⟩
 . rw [aaf _ aJ,aaf _ aJ];exact a.1
 . rw [aaf _ aJ,aaf _ aJ];exact a.2
theorem am5{x0 x1 y0 y1:Value}(u0 u1 v0 v1:Value)(aJ:B≠C)(h0:w.cell? ⟨B,0,none⟩=some x0)(h1:w.cell? ⟨B,1,none⟩=some x1)(k0:w.cell? ⟨C,0,none⟩=some y0)(k1:w.cell? ⟨C,1,none⟩=some y1) :
 ((((w.setCell ⟨C,0,none⟩ v0).setCell ⟨C,1,none⟩ v1).setCell ⟨B,0,none⟩ u0).setCell ⟨B,1,none⟩ u1).cell? ⟨B,0,none⟩=some u0∧((((w.setCell ⟨C,0,none⟩ v0).setCell ⟨C,1,none⟩ v1).setCell ⟨B,0,none⟩ u0).setCell ⟨B,1,none⟩ u1).cell? ⟨B,1,none⟩=some u1∧((((w.setCell ⟨C,0,none⟩ v0).setCell ⟨C,1,none⟩ v1).setCell ⟨B,0,none⟩ u0).setCell ⟨B,1,none⟩ u1).cell? ⟨C,0,none⟩=some v0∧((((w.setCell ⟨C,0,none⟩ v0).setCell ⟨C,1,none⟩ v1).setCell ⟨B,0,none⟩ u0).setCell ⟨B,1,none⟩ u1).cell? ⟨C,1,none⟩=some v1:=by
 have h:=apI v0 v1 u0 u1 aJ.symm k0 k1 h0 h1;exact⟨h.2.2.1,h.2.2.2,h.1,h.2.1⟩
theorem aaR{w0:World}(h:Below w0.heap.size w0 w)(hB:w0.heap.size<=B)(hC:w0.heap.size<=C)(u0 u1 v0 v1:Value):Below w0.heap.size w0 ((((w.setCell ⟨B,0,none⟩ u0).setCell ⟨B,1,none⟩ u1).setCell ⟨C,0,none⟩ v0).setCell ⟨C,1,none⟩ v1) :=
 (((h.setCell (p:=⟨B,0,none⟩) hB _).setCell (p:=⟨B,1,none⟩) hB _).setCell (p:=⟨C,0,none⟩) hC _).setCell (p:=⟨C,1,none⟩) hC _
variable {T:World}{v:Value}
theorem adp{p:Addr}(h:T.cell? p=some v):T.drew.cell? p=some v:=h
theorem acx{w0:World}(h:Below w0.heap.size w0 T)(o:Obj):Below w0.heap.size w0 (T.alloc o):=h.alloc h.size o
theorem aaG{o:Obj}{b i:Nat}(h:T.cell? ⟨b,i,none⟩=some v):(T.alloc o).cell? ⟨b,i,none⟩=some v :=
 aab h (Below.alloc (Below.refl _ _) (Aad _) _)
theorem ahB{α:Type}{r:Rp α}(hr:r.Mono){lo base sz:Nat}{wr:World}{l:List α}(h:SlAt (iv lo wr.heap.size) wr sz r v l)(hB:B<lo)(hC:C<lo)(ig:base<=lo)(u0 u1 v0 v1:Value) :
 SlAt (iv base ((((wr.setCell ⟨B,0,none⟩ u0).setCell ⟨B,1,none⟩ u1).setCell ⟨C,0,none⟩ v0).setCell ⟨C,1,none⟩ v1).heap.size) ((((wr.setCell ⟨B,0,none⟩ u0).setCell ⟨B,1,none⟩ u1).setCell ⟨C,0,none⟩ v0).setCell ⟨C,1,none⟩ v1) sz r v l:=by
 have hs:((((wr.setCell ⟨B,0,none⟩ u0).setCell ⟨B,1,none⟩ u1).setCell ⟨C,0,none⟩ v0).setCell ⟨C,1,none⟩ v1).heap.size=wr.heap.size:=by simp [World.setCell]
 have db:aav (iv lo wr.heap.size) wr ((((wr.setCell ⟨B,0,none⟩ u0).setCell ⟨B,1,none⟩ u1).setCell ⟨C,0,none⟩ v0).setCell ⟨C,1,none⟩ v1):=aba fun b hb _=>by
  have:=hb.1
  iterate 4 rw [Below.heap_setCell _ _ _ _ (by dsimp only;omega)]
 exact h.mono hr (fun b hb=>⟨by have:=hb.1;omega,by rw [hs];exact hb.2⟩) db
def apn(w:World)(gs:List aas)(fs:List aao)(Cs:List (List Int))(e:Ending)(w':World):Prop :=
 Below w.heap.size w w' ∧
  ((∃ c d : Int, acs ⟨gs, fs⟩ Cs = (c, d) ∧ ¬ (c = 0 ∧ d = 0) ∧ e = .returned (.tuple #[.agg #[.slice none 0 0, .slice none 0 0], .agg #[.int .i64 c, .int .i64 d]])) ∨
   (acs ⟨gs, fs⟩ Cs = (0, 0) ∧ ∃ ga gc fa fc, e = .returned (.tuple #[.agg #[.slice ga gs.length gc, .slice fa fs.length fc], .agg #[.int .i64 0, .int .i64 0]]) ∧
    SlAt (iv w.heap.size w'.heap.size) w' 3 aaE (.slice ga gs.length gc) gs ∧ SlAt (iv w.heap.size w'.heap.size) w' 4 aaZ (.slice fa fs.length fc) (byL fs Cs)))
theorem an8 {S S' : Nat -> Prop} (ga : Option Addr) (gc : Nat) (fa : Option Addr) (fc : Nat) (gs : List aas) (fs : List aao) (ca : Option Addr) (cc : Nat) (Cs : List (List Int)) (w : World)
 (hg:SlAt S w 3 aaE (.slice ga gs.length gc) gs) (hf:SlAt S w 4 aaZ (.slice fa fs.length fc) fs) (hC:SlAt S' w 1 rRow (.slice ca Cs.length cc) Cs) (hw:abX w)
 (dT:gs.length<=1048576) (bM:fs.length<=1048576) (_hcl:Cs.length<=1048576) (aV:∀(k:Nat) (f:aao),fs[k]?=some f->aaT f.blocks<=1048576∧f.blocks.length<=1048576) (eM:∀C∈Cs,C.length<=1048576) :
 Calls Tryz.prog 9 #[.agg #[.slice ga gs.length gc,.slice fa fs.length fc],.slice ca Cs.length cc] w (apn w gs fs Cs):=by
 have Hg:=hid hg;have Hf:=hid hf;have HC:=hid hC;have Hw:=hid hw;have bH:=hid aV;have fy:=hid eM;clear hg hf hC hw aV eM;go_enter Tryz.func9,Tryz.ntmps9;obtain⟨W,hW⟩:∃W,W=((w.alloc (.cells #[.slice ga gs.length gc,.slice fa fs.length fc] 25)).alloc (.cells #[.slice none 0 0,.slice none 0 0] 25)).alloc (.cells #[.int .i64 0,.int .i64 0] 31):=⟨_,rfl⟩
 have cg:Below w.heap.size w W:=by rw [hW];exact bE
 have fu:=hid cg;have gi:W.heap.size=w.heap.size+3:=by rw [hW];simp
 have W0:Hid (aaj W w.heap.size 0 [.slice ga gs.length gc,.slice fa fs.length fc]):=by
  intro j u hj;rw [hW,Aab,World.cell?_alloc_past _ _ _ (by simp;omega),World.cell?_alloc2_first];simpa using hj
 have R0:Hid (aaj W (w.heap.size+1) 0 [.slice none 0 0,.slice none 0 0]):=by
  intro j u hj;rw [hW,Aab,World.cell?_alloc_past _ _ _ (by simp),World.cell?_alloc2_new];simpa using hj
 have E0:Hid (aaj W (w.heap.size+2) 0 [.int .i64 0,.int .i64 0]):=by
  intro j u hj;rw [hW,Aab,World.cell?_alloc_at _ _ _ _ (by simp)];simpa using hj
 have RF:Hid (∀j,W.frozen? ⟨w.heap.size+1,j,none⟩=false):=by intro j;rw [hW,World.frozen?_alloc_old _ _ _ (by simp),World.frozen?_alloc_at _ _ _ _ (by simp)]
 have EF:Hid (∀j,W.frozen? ⟨w.heap.size+2,j,none⟩=false):=by intro j;rw [hW,World.frozen?_alloc_at _ _ _ _ (by simp)]
 go_wp2_with fail;rw [<-hW];have ek:abX W:=abX.below Hw.out cg;refine (adr (S:=S) ga gc fa fc gs fs W (Hg.out.later aan cg) (Hf.out.later aak cg) ek dT bM bH.out).mono ?_;rintro e w1 ⟨rfl,aS⟩;have dc:=aS.size;have K0:=hid (W0.out.later aS);have K1:=hid (R0.out.later aS);have K2:=hid (E0.out.later aS);have KF:Hid (∀j,w1.frozen? ⟨w.heap.size+1,j,none⟩=false):=fun j=>(aS.frozen (p:=⟨w.heap.size+1,j,none⟩) (by dsimp only;omega)).trans (RF.out j);have LF:Hid (∀j,w1.frozen? ⟨w.heap.size+2,j,none⟩=false):=fun j=>(aS.frozen (p:=⟨w.heap.size+2,j,none⟩) (by dsimp only;omega)).trans (EF.out j);obtain⟨g0,g1⟩:=K0.out.get2;obtain⟨r0,r1⟩:=K1.out.get2;obtain⟨e0,e1⟩:=K2.out.get2;simp only [Aab] at g1 r1 e1;have f0:=KF.out 0;have f1:=KF.out 1;have f2:=LF.out 0;have f3:=LF.out 1;have z2:w.heap.size+2<w1.heap.size:=aac e0;have z1:w.heap.size+1<w1.heap.size:=by omega
 have z0:w.heap.size<w1.heap.size:=by omega
 obtain⟨c,hc⟩:∃c,c=(aal ⟨gs,fs⟩).1:=⟨_,rfl⟩
 obtain⟨d,hd⟩:∃d,d=(aal ⟨gs,fs⟩).2:=⟨_,rfl⟩
 have aM:Hid (aal ⟨gs,fs⟩=(c,d)):=by show _=_;rw [hc,hd]
 rw [<-hc,<-hd];have dB:Hid (Below w.heap.size w w1):=fu.out.trans (aS.mono (by omega));have b5:Hid (abX w1):=ek.below aS;clear aS hW cg hc hd ek dc gi
 by_cases hok:c=0∧d=0
 . obtain⟨rfl,rfl⟩:=hok
   by_cases hlen:Cs.length=fs.length
   . have hq:(decide (Cs.length<fs.length)||decide (fs.length<Cs.length))=false:=al5 hlen
     have aN:=hid hlen;clear hlen;go_wp2_with fail;obtain⟨W2,cT⟩:∃W2,W2=w1.alloc (.cells #[.int .i64 0,.int .i64 0] 31):=⟨_,rfl⟩
     have al:Below w1.heap.size w1 W2:=by rw [cT];exact bE
     have e6:W2.heap.size=w1.heap.size+1:=by rw [cT];simp
     rw [<-cT];have bI:Hid (Below w.heap.size w W2):=dB.out.trans (al.mono (by omega));have dC:Hid (abX W2):=b5.out.below al;have K0:=hid (K0.out.later al);have K1:=hid (K1.out.later al);have K2:=hid (K2.out.later al);have KF:Hid (∀j,W2.frozen? ⟨w.heap.size+1,j,none⟩=false):=fun j=>(al.frozen (p:=⟨w.heap.size+1,j,none⟩) z1).trans (KF.out j);have LF:Hid (∀j,W2.frozen? ⟨w.heap.size+2,j,none⟩=false):=fun j=>(al.frozen (p:=⟨w.heap.size+2,j,none⟩) z2).trans (LF.out j);clear g0 g1 r0 r1 e0 e1 f0 f1 f2 f3 cT al;obtain⟨g0,g1⟩:=K0.out.get2;obtain⟨r0,r1⟩:=K1.out.get2;obtain⟨e0,e1⟩:=K2.out.get2;simp only [Aab] at g1 r1 e1;have f0:=KF.out 0;have f1:=KF.out 1;have f2:=LF.out 0;have f3:=LF.out 1;have z2:w.heap.size+2<W2.heap.size:=aac e0;have z1:w.heap.size+1<W2.heap.size:=by omega
     have z0:w.heap.size<W2.heap.size:=by omega
     have hQ:=hid e6;clear e6;go_loop [31] (fun i=>∃k:Nat,k<=Cs.length∧i = .int .i64 k∧(∀j,j<k->alb fs Cs j=0)) (fun i=>Cs.length - (intOf i).toNat)
     case atStart=>exact⟨0,Aah _,rfl,fun j hj=>absurd hj (Nat.not_lt_zero _)⟩
     case round =>
      obtain⟨k,hk,rfl,aC⟩:=hrel;have aq:=hid aC;clear aC
      by_cases hkl:k<Cs.length
      . have c8:k<fs.length:=by have:=aN.out;omega
        obtain⟨b,off,ra,rc,rfl,d1,-⟩:=amh (HC.out.later aax bI.out) hkl;obtain⟨fb,dD,xa,xc,rfl,aF,-,-,-⟩:=acF (Hf.out.later aak bI.out) c8;obtain⟨-,-,-,d2⟩:=aF.get4;have zb:b<W2.heap.size:=aac d1;have zf:fb<W2.heap.size:=aac d2;have ie:Cs[k].length<=1048576:=fy.out _ (Aaf hkl);have ir:fs[k].blocks.length<=1048576:=(bH.out k _ (Aaa c8)).2;clear aF
        by_cases he:Cs[k].length=fs[k].blocks.length
        . have gG:(decide (Cs[k].length<fs[k].blocks.length)||decide (fs[k].blocks.length<Cs[k].length))=false:=al5 he
          have Hr:Hid (alb fs Cs k=0):=(adA c8 hkl).2 he;clear he;go_wp2_with fail;go_round
          case rel=>exact⟨k+1,by omega,by go_num,abL aq.out Hr.out⟩
          case measure=>simp [intOf];omega
        . have gG:(decide (Cs[k].length<fs[k].blocks.length)||decide (fs[k].blocks.length<Cs[k].length))=true:=al6 he
          have Hr:Hid (acs ⟨gs,fs⟩ Cs=(9,((k:Nat):Int))):=alw aM.out aN.out hkl aq.out (fun e=>he ((adA c8 hkl).1 e));clear he;go_wp2_with fail;have q:=apI (.slice none 0 0) (.slice none 0 0) (.int .i64 9) (.int .i64 ((k:Nat):Int)) (B:=w.heap.size+1) (C:=w.heap.size+1+1) (by omega) r0 r1 e0 e1;have q':=am5 (.slice none 0 0) (.slice none 0 0) (.int .i64 9) (.int .i64 ((k:Nat):Int)) (B:=w.heap.size+1) (C:=w.heap.size+1+1) (by omega) r0 r1 e0 e1;refine bodyPost_ret (aeI rfl rfl rfl (c:=9) (a:=((k:Nat):Int)) (g := .slice none 0 0) (f := .slice none 0 0) ?_ ?_ ?_ ?_) rfl ⟨?_,.inl ⟨9,((k:Nat):Int),Hr.out,by omega,rfl⟩⟩
          . first | with_reducible exact q.1 | with_reducible exact aaG q.1 | with_reducible exact q'.1 | with_reducible exact aaG q'.1
          . first | with_reducible exact q.2.1 | with_reducible exact aaG q.2.1 | with_reducible exact q'.2.1 | with_reducible exact aaG q'.2.1
          . first | with_reducible exact q.2.2.1 | with_reducible exact aaG q.2.2.1 | with_reducible exact q'.2.2.1 | with_reducible exact aaG q'.2.2.1
          . first | with_reducible exact q.2.2.2 | with_reducible exact aaG q.2.2.2 | with_reducible exact q'.2.2.2 | with_reducible exact aaG q'.2.2.2
          . have h:=bI.out;first | with_reducible exact aaR h (Aa3 _) (by omega) _ _ _ _ | with_reducible exact acx (aaR h (Aa3 _) (by omega) _ _ _ _) _ | with_reducible exact aaR h (by omega) (Aa3 _) _ _ _ _ | with_reducible exact acx (aaR h (by omega) (Aa3 _) _ _ _ _) _
      . obtain rfl:k=Cs.length:=by omega
        have Hr:Hid (acs ⟨gs,fs⟩ Cs=(0,0)):=afz aM.out aN.out aq.out;obtain⟨fO,eH⟩:=adq (u:=⟨gs,fs⟩) aM.out;go_wp2_with fail;refine (am3 (S:=S) _ _ _ _ gs fs _ (Hg.out.later aan bI.out) (Hf.out.later aak bI.out) dT bM fO eH).mono ?_;rintro e w3 ⟨gv,fv,A,rfl,fZ,h4,dU,dS,bu⟩;have gA:0<fs.length:=agN (u:=⟨gs,fs⟩) aM.out;obtain⟨xss,ax,cq,-⟩:=id dS;rcases ax.2 with⟨-,hbad⟩ | ⟨R,cap,cur,rfl,hR1,hR2,hR3,hR4,hR5,-⟩
        . omega
        have bo:R<w3.heap.size:=cq R rfl;obtain⟨aQ,aR,rfl⟩:=dU.shape;have fI:=hid dU;have hN:=hid dS;have q1:=aab g1 bu;have iy:w.heap.size<w3.heap.size:=aac q1;clear ax cq dU dS;go_wp2_with fail;obtain⟨W6,au⟩:∃W6,W6=w3.alloc (.cells #[.slice aQ gs.length aR,.slice (some ⟨R,0,none⟩) fs.length cap] 25):=⟨_,rfl⟩
        have cz:W6.heap.size=w3.heap.size+1:=by rw [au];simp
        have br:Below W2.heap.size W2 W6:=by rw [au];exact bE1 bu
        have BU:aaj W6 w3.heap.size 0 [.slice aQ gs.length aR,.slice (some ⟨R,0,none⟩) fs.length cap]:=by
         intro j u hj;rw [au,Aab,World.cell?_alloc_new];simpa using hj
        have aI:RSt w W6 W6 R cap (fun j=>byF (fs.getD j abM) (Cs.getD j [])) 0:=by
         refine⟨bI.out.trans (br.mono (by omega)),Aad _,fun _ _ _=>rfl,⟨cur,?_,hR5⟩,fun j hj=>absurd hj (Nat.not_lt_zero _)⟩;rw [au,Below.heap_alloc _ _ _ bo];exact hR2
        have eS:∀b,b<w3.heap.size->W6.heap[b]?=w3.heap[b]?:=fun b hb=>by rw [au,Below.heap_alloc _ _ _ hb]
        have gU:W2.heap.size<=w3.heap.size:=bu.size;have fi:w3.heap.size≠R:=by omega
        have gg:W2.heap.size+3<=R:=by omega
        have bQ:=hid hR3;have dg:Hid (cap<=9223372036854775807):=by have h:=hR4;unfold maxLen at h;exact h
        have fG:Hid (SlAt (iv (W2.heap.size+3) A) W6 3 aaE (.slice aQ gs.length aR) gs):=(fI.out.kept (w':=W6) aan (fun b h1 h2=>eS b (by omega))).toSl aan (by decide);have fl:Hid (A<=R):=hR1;rw [<-au];have bl:=hid aI;have eA:=hid BU;have aZ:=hid cz;have ag:=hid br;clear au aI BU cz br bu hR1 hR2 hR3 hR4 hR5 eS fZ g0 g1 r0 r1 e0 e1 f0 f1 f2 f3 q1;go_loopw [55] (fun i wr=>∃(k:Nat),k<=fs.length∧i = .int .i64 k∧RSt w W6 wr R cap (fun j=>byF (fs.getD j abM) (Cs.getD j [])) k) (fun i _=>fs.length - (intOf i).toNat)
        case atStart=>exact⟨0,Aah _,rfl,bl.out⟩
        case round =>
         obtain⟨k,hk,rfl,hs⟩:=hrel;have Hs:=hid hs;have iz:W2.heap.size<=W6.heap.size:=ag.out.size;have g0:wr.cell? ⟨w.heap.size,0,none⟩=some (.slice ga gs.length gc):=hs.cell (aab K0.out.get2.1 ag.out) (by omega);have g1:wr.cell? ⟨w.heap.size,1,none⟩=some (.slice fa fs.length fc):=hs.cell (aab (by have h:=K0.out.get2.2;rw [Aab] at h;exact h) ag.out) (by omega);have u0:wr.cell? ⟨w3.heap.size,0,none⟩=some (.slice aQ gs.length aR):=hs.cell eA.out.get2.1 fi;have u1:wr.cell? ⟨w3.heap.size,1,none⟩=some (.slice (some ⟨R,0,none⟩) fs.length cap):=hs.cell (by have h:=eA.out.get2.2;rw [Aab] at h;exact h) fi;have hJ:w.heap.size<wr.heap.size:=aac g0;have iM:w3.heap.size<wr.heap.size:=aac u0
         by_cases hkl:k<fs.length
         . have c7:k<Cs.length:=by have:=aN.out;omega
           obtain⟨b,off,ra,rc,rfl,d1,aH⟩:=amh (HC.out.later aax hs.below) c7;obtain⟨fb,dD,xa,xc,rfl,aF,en,eP,eQ⟩:=acF (Hf.out.later aak hs.below) hkl;obtain⟨c0,c1,c2,c3⟩:=aF.get4;have zb:b<wr.heap.size:=aac d1;have zf:fb<wr.heap.size:=aac c0;have dY:Cs[k].length=fs[k].blocks.length:=(adA hkl c7).1 (aq.out k c7);obtain⟨hh,aT⟩:=abv (u:=⟨gs,fs⟩) aM.out (Aaa hkl);have cA:=eH _ (Aaf hkl);obtain⟨n,hn⟩:∃n,fs[k].blocks.length=n:=⟨_,rfl⟩
           have eC:Hid (Cs[k].length=n):=by show _=_;rw [dY,hn]
           have cv:0<n:=by have h:=abH hh;omega
           have gB:n<=40:=by have h:=abH hh;omega
           rw [dY,hn] at d1 aH;rw [hn] at c3 en;have Hn:=hid hn;have fV:=hid en;have b4:=hid aH;have Hh:=hid hh;have aL:=hid aT;have dz:=hid cA;have fJ:=hid eP;have fK:=hid eQ;clear hs aF en aH hn dY hh aT cA eP eQ;go_wp2_with fail;obtain⟨WA,cU⟩:∃WA,WA=wr.alloc (.cells #[.string fs[k].name,.int .i64 fs[k].params,.int .i64 fs[k].regs,.slice xa n xc] 50):=⟨_,rfl⟩
           have cW:Below wr.heap.size wr WA:=by rw [cU];exact bE
           have dN:aaj WA wr.heap.size 0 [.string fs[k].name,.int .i64 fs[k].params,.int .i64 fs[k].regs,.slice xa n xc]:=by
            intro j u hj;rw [cU,Aab,World.cell?_alloc_new];simpa using hj
           have ej:Below w.heap.size w WA:=Hs.out.below.trans (cW.mono Hs.out.below.size)
           try rw [<-cU]
           refine (ajt (S:=S) _ _ _ _ gs fs k WA (Hg.out.later aan ej) (Hf.out.later aak ej) (Hw.out.below ej) dT bM bH.out aM.out hkl).mono ?_;rintro e w4 ⟨aa,ac,rfl,ei,a7⟩;rw [Hn.out] at ei ⊢;have aD:Below wr.heap.size wr w4:=cW.trans (a7.mono cW.size);have a0:=dN.later a7;have zA:wr.heap.size<WA.heap.size:=aac dN.get4.1;have iA:WA.heap.size<=w4.heap.size:=a7.size;have fU:=hid ei;obtain⟨m0,m1,m2,m3⟩:=a0.get4;simp only [Aab] at m1 m2 m3;have p0:=aab u0 aD;have p1:=aab u1 aD;have p2:=aab d1 aD;have hI:b<w4.heap.size:=aac p2;have hG:w3.heap.size<w4.heap.size:=aac p0;have hE:wr.heap.size<w4.heap.size:=aac m0;have ev:=hid aD;clear aD cW dN cU a0 ei a7 g0 g1 u0 u1 c0 c1 c2 c3 d1;go_wp2_with fail;obtain⟨W5,dI⟩:∃W5,W5=w4.alloc (.cells #[.int .i64 0,.int .i64 0] 31):=⟨_,rfl⟩
           have af:Below w4.heap.size w4 W5:=by rw [dI];exact bE
           try rw [<-dI]
           have n0:=aab m0 af;have n1:=aab m1 af;have n2:=aab m2 af;have n3:=aab m3 af;have v0:=aab p0 af;have v1:=aab p1 af;have v2:=aab p2 af;have iK:b<W5.heap.size:=aac v2;have iG:w3.heap.size<W5.heap.size:=aac v0;have iB:wr.heap.size<W5.heap.size:=aac n0;have aA:Hid (Below wr.heap.size wr W5):=ev.out.trans (af.mono ev.out.size);have di:=hid af;have dG:R<wr.heap.size:=by have:=Hs.out.size;have:=aZ.out;omega
           clear dI af m0 m1 m2 m3 p0 p1 p2 hI hG hE;have bj:∀(i:Nat) (x:aad),fs[k].blocks[i]?=some x->∀t∈x.fin.to,0<=t∧t<(fs[k].blocks.length:Int):=fun i x hx t ht=>by
            have he:=(abC.1 aL.out).1 i (Aae.1 hx).1;unfold adk at he;rw [hx] at he;have:=(acy.1 he).2.2.1 t ht;omega
           have cN:=hid bj;have b6:Hid (SlAt S W5 6 aaJ (.slice xa n xc) fs[k].blocks):=fV.out.later aam aA.out;have dx:Hid (SlAt S' W5 1 aaO (.slice ra n rc) Cs[k]):=b4.out.later aae aA.out;have fH:Hid (byF (fs.getD k abM) (Cs.getD k [])=byF fs[k] Cs[k]):=by
            show _=_;rw [Aac,Aac,Aaa hkl,Aaa c7];rfl
           clear bj
           go_region_law
            (first
              | (go_simp; go_at_call 34; refine (ano (S := S) (S' := S') _ _ _ xa xc fs[k].blocks ra rc Cs[k] n W5.drew (by rw [Hn.out]; exact b6.out.later aam (Below.refl _ _).drew) (by rw [eC.out]; exact dx.out.later aae (Below.refl _ _).drew) cv (by omega) Hn.out eC.out cN.out).mono ?_; rintro e w7 ⟨lv, rfl, bP, eL⟩
                 have an : Below W5.heap.size W5 w7 := (Below.refl W5.heap.size W5).drew.trans eL
                 have aB := hid an
                 have du := hid bP
                 obtain ⟨iw, ix, ct⟩ := aj6 bP
                 rw [Aal, (aez aL.out (by rw [Hn.out]; exact cv) (aaB Cs[k])).1.len, Hn.out] at ct
                 subst ct
                 have s0 := aab n0 an
                 have s1 := aab n1 an
                 have s2 := aab n2 an
                 have s3 := aab n3 an
                 have t0 := aab v0 an
                 have t1 := aab v1 an
                 have iH : w3.heap.size < w7.heap.size := aac t0
                 have iC : wr.heap.size < w7.heap.size := aac s0
                 clear an bP eL)
              | (go_simp; go_at_call 33; refine (ao6 (S := S) (fs := fs) fs[k] Cs[k] _ Hh.out aL.out dz.out _ _ _ n Hn.out xa xc aa ac _ w7 (b6.out.later aam aB.out) ((fU.out.later aax di.out).later aax aB.out) du.out).mono ?_; rintro e w8 ⟨ta, tc, rfl, cF, dK⟩
                 have aE : Below wr.heap.size wr w8 := aA.out.trans ((aB.out.trans (dK.mono aB.out.size)).mono aA.out.size)
                 have eF := hid (Hs.out.later aE dG)
                 have r1 := aab t1 dK
                 have iI : w3.heap.size < w8.heap.size := aac r1
                 obtain ⟨fX, ee, eh⟩ := eF.out.row
                 have dW : k < cap := by have := bQ.out; omega
                 have cR : ∀ j, j < 4 -> ∃ u, w8.cell? ⟨R, k * 4 + j, none⟩ = some u := fun j hj => ⟨_, (aaI ee).trans (Array.getElem?_eq_getElem (by omega))⟩
                 have fR : ∀ j, w8.frozen? ⟨R, j, none⟩ = false := fun j => by simp [World.frozen?, ee]
                 have y0 := fR (k * 4)
                 have y1 := fR (k * 4 + 1)
                 have y2 := fR (k * 4 + 2)
                 have y3 := fR (k * 4 + 3)
                 obtain ⟨o0, c0⟩ := cR 0 (by omega)
                 obtain ⟨o1, c1⟩ := cR 1 (by omega)
                 obtain ⟨o2, c2⟩ := cR 2 (by omega)
                 obtain ⟨o3, c3⟩ := cR 3 (by omega)
                 rw [Aa2] at c0
                 have iF : R < w8.heap.size := aac c0
                 have aw : Hid (RSt w W6 ((((w8.setCell ⟨R, k * 4, none⟩ (.string fs[k].name)).setCell ⟨R, k * 4 + 1, none⟩ (.int .i64 fs[k].params)).setCell ⟨R, k * 4 + 2, none⟩ (.int .i64 fs[k].regs)).setCell ⟨R, k * 4 + 3, none⟩ (.slice ta n tc)) R cap (fun j => byF (fs.getD j abM) (Cs.getD j [])) (k + 1)) := by
                  refine eF.out.next (by omega) (by have := aZ.out; omega) dW _ _ _ _ ?_
                  show aaZ _ _ _ (byF (fs.getD k abM) (Cs.getD k []))
                  rw [fH.out]
                  exact ⟨_, rfl, cF.mono aam (fun b hb => ⟨by have := hb.1; have := aB.out.size; have := aA.out.size; have := Hs.out.size; omega, hb.2⟩) (aav.refl _ _), fJ.out, fK.out⟩
                 clear s0 s1 s2 s3 t0 t1 cR fR ee eh aE dK cF))
           all_goals
            go_wp2_with fail;go_roundw
            case rel=>exact⟨k+1,by omega,by go_num,aw.out⟩
            case measure=>simp [intOf];omega
         . have bd:k=fs.length:=by omega
           have fP:Hid (RSt w W6 wr R cap (fun j=>byF (fs.getD j abM) (Cs.getD j [])) fs.length):=by have h:=Hs.out;rw [bd] at h;exact h
           have eo:w.heap.size+1≠R:=by omega
           have ep:w.heap.size+2≠R:=by omega
           have cZ:=hs.keep (w.heap.size+1) (by omega) eo;have c6:=hs.keep (w.heap.size+2) (by omega) ep;have KR:=ahV (K1.out.later ag.out) cZ;have KE:=ahV (K2.out.later ag.out) c6;have f0:wr.frozen? ⟨w.heap.size+1,0,none⟩=false:=by
            rw [World.frozen?_of_block (w:=W6) (a:=⟨w.heap.size+1,0,none⟩) cZ,ag.out.frozen (p:=⟨w.heap.size+1,0,none⟩) z1];exact KF.out 0
           have f1:wr.frozen? ⟨w.heap.size+1,1,none⟩=false:=by
            rw [World.frozen?_of_block (w:=W6) (a:=⟨w.heap.size+1,1,none⟩) cZ,ag.out.frozen (p:=⟨w.heap.size+1,1,none⟩) z1];exact KF.out 1
           have f2:wr.frozen? ⟨w.heap.size+2,0,none⟩=false:=by
            rw [World.frozen?_of_block (w:=W6) (a:=⟨w.heap.size+2,0,none⟩) c6,ag.out.frozen (p:=⟨w.heap.size+2,0,none⟩) z2];exact LF.out 0
           have f3:wr.frozen? ⟨w.heap.size+2,1,none⟩=false:=by
            rw [World.frozen?_of_block (w:=W6) (a:=⟨w.heap.size+2,1,none⟩) c6,ag.out.frozen (p:=⟨w.heap.size+2,1,none⟩) z2];exact LF.out 1
           obtain⟨r0,r1⟩:=KR.get2;obtain⟨e0,e1⟩:=KE.get2;simp only [Aab] at r1 e1;have iL:w.heap.size+1<wr.heap.size:=aac r0;have eu:w.heap.size+2<wr.heap.size:=aac e0;have eO:SlAt (iv (w.heap.size+3) wr.heap.size) wr 3 aaE (.slice aQ gs.length aR) gs:=by
            have hz:=hs.size;have hA:=fl.out;refine fG.out.mono aan (fun b hb=>⟨by have:=hb.1;omega,by have:=hb.2;omega⟩) (aba fun b hb _=>hs.keep b (by have:=hb.2;omega) (by have:=hb.2;omega))
           have bN:SlAt (iv (w.heap.size+3) wr.heap.size) wr 4 aaZ (.slice (some ⟨R,0,none⟩) fs.length cap) (byL fs Cs) :=
            fP.out.sl bQ.out dg.out (by omega) (by have := aZ.out; omega) (ach fs Cs) (fun j f hj => by
             have bO : j < fs.length := by rw [<- ach fs Cs]; exact (Aae.1 hj).1
             unfold byL at hj
             rw [Aak, Aa4 bO] at hj
             exact (Option.some.inj hj).symm)
           have eB:=hid eO;have bk:=hid bN;have cj:Below w.heap.size w wr:=hs.below;have dp:=hid cj;clear hs KR KE cZ c6 eO bN cj bd g0 g1 hJ;go_wp2_with fail;have q:=apI (.slice aQ gs.length aR) (.slice (some ⟨R,0,none⟩) fs.length cap) (.int .i64 0) (.int .i64 0) (B:=w.heap.size+1) (C:=w.heap.size+1+1) (by omega) r0 r1 e0 e1;have q':=am5 (.slice aQ gs.length aR) (.slice (some ⟨R,0,none⟩) fs.length cap) (.int .i64 0) (.int .i64 0) (B:=w.heap.size+1) (C:=w.heap.size+1+1) (by omega) r0 r1 e0 e1;have p:=fun u0 u1 v0 v1=>ahB (base:=w.heap.size) (B:=w.heap.size+1) (C:=w.heap.size+1+1) aan eB.out (by omega) (by omega) (by omega) u0 u1 v0 v1;have p':=fun u0 u1 v0 v1=>ahB (base:=w.heap.size) (C:=w.heap.size+1) (B:=w.heap.size+1+1) aan eB.out (by omega) (by omega) (by omega) u0 u1 v0 v1;have t:=fun u0 u1 v0 v1=>ahB (base:=w.heap.size) (B:=w.heap.size+1) (C:=w.heap.size+1+1) aak bk.out (by omega) (by omega) (by omega) u0 u1 v0 v1;have t':=fun u0 u1 v0 v1=>ahB (base:=w.heap.size) (C:=w.heap.size+1) (B:=w.heap.size+1+1) aak bk.out (by omega) (by omega) (by omega) u0 u1 v0 v1;refine bodyPost_ret (aeI rfl rfl rfl (c:=0) (a:=0) (g := .slice aQ gs.length aR) (f := .slice (some ⟨R,0,none⟩) fs.length cap) ?_ ?_ ?_ ?_) rfl ⟨?_,.inr ⟨Hr.out,aQ,aR,_,cap,rfl,?_,?_⟩⟩
           . first | with_reducible exact q.1 | with_reducible exact aaG q.1 | with_reducible exact q'.1 | with_reducible exact aaG q'.1
           . first | with_reducible exact q.2.1 | with_reducible exact aaG q.2.1 | with_reducible exact q'.2.1 | with_reducible exact aaG q'.2.1
           . first | with_reducible exact q.2.2.1 | with_reducible exact aaG q.2.2.1 | with_reducible exact q'.2.2.1 | with_reducible exact aaG q'.2.2.1
           . first | with_reducible exact q.2.2.2 | with_reducible exact aaG q.2.2.2 | with_reducible exact q'.2.2.2 | with_reducible exact aaG q'.2.2.2
           . have h:=dp.out;first | with_reducible exact aaR h (Aa3 _) (by omega) _ _ _ _ | with_reducible exact acx (aaR h (Aa3 _) (by omega) _ _ _ _) _ | with_reducible exact aaR h (by omega) (Aa3 _) _ _ _ _ | with_reducible exact acx (aaR h (by omega) (Aa3 _) _ _ _ _) _
           . first | with_reducible exact p _ _ _ _ | with_reducible exact sl_al aan (p _ _ _ _) _ | with_reducible exact p' _ _ _ _ | with_reducible exact sl_al aan (p' _ _ _ _) _
           . first | with_reducible exact t _ _ _ _ | with_reducible exact sl_al aak (t _ _ _ _) _ | with_reducible exact t' _ _ _ _ | with_reducible exact sl_al aak (t' _ _ _ _) _
   . have hq:(decide (Cs.length<fs.length)||decide (fs.length<Cs.length))=true:=al6 hlen
     have Hr:Hid (acs ⟨gs,fs⟩ Cs=(9,-1)):=akw aM.out hlen;clear hlen;go_wp2_with fail;have q:=apI (.slice none 0 0) (.slice none 0 0) (.int .i64 9) (.int .i64 (-1)) (B:=w.heap.size+1) (C:=w.heap.size+1+1) (by omega) r0 r1 e0 e1;have q':=am5 (.slice none 0 0) (.slice none 0 0) (.int .i64 9) (.int .i64 (-1)) (B:=w.heap.size+1) (C:=w.heap.size+1+1) (by omega) r0 r1 e0 e1;refine bodyPost_ret (aeI rfl rfl rfl (c:=9) (a:=(-1)) (g := .slice none 0 0) (f := .slice none 0 0) ?_ ?_ ?_ ?_) rfl ⟨?_,.inl ⟨9,(-1),Hr.out,by omega,rfl⟩⟩
     . first | with_reducible exact q.1 | with_reducible exact aaG q.1 | with_reducible exact q'.1 | with_reducible exact aaG q'.1
     . first | with_reducible exact q.2.1 | with_reducible exact aaG q.2.1 | with_reducible exact q'.2.1 | with_reducible exact aaG q'.2.1
     . first | with_reducible exact q.2.2.1 | with_reducible exact aaG q.2.2.1 | with_reducible exact q'.2.2.1 | with_reducible exact aaG q'.2.2.1
     . first | with_reducible exact q.2.2.2 | with_reducible exact aaG q.2.2.2 | with_reducible exact q'.2.2.2 | with_reducible exact aaG q'.2.2.2
     . have h:=dB.out;first | with_reducible exact aaR h (Aa3 _) (by omega) _ _ _ _ | with_reducible exact acx (aaR h (Aa3 _) (by omega) _ _ _ _) _ | with_reducible exact aaR h (by omega) (Aa3 _) _ _ _ _ | with_reducible exact acx (aaR h (by omega) (Aa3 _) _ _ _ _) _
 . have hq:((decide (c<0)||decide (0<c))||(decide (d<0)||decide (0<d)))=true:=by
    rw [Aa0];simp;omega
   have Hr:Hid (acs ⟨gs,fs⟩ Cs=(c,d)):=by show _=_;rw [ai3 (fun e=>hok (by rw [aM.out] at e;exact⟨congrArg Prod.fst e,congrArg Prod.snd e⟩)),aM.out]
   have fM:=hid hok;clear hok;go_wp2_with fail;go_big_region
   all_goals go_wp2_with fail
   all_goals (
    have q := apI (.slice none 0 0) (.slice none 0 0) (.int .i64 c) (.int .i64 d) (B := w.heap.size + 1) (C := w.heap.size + 1 + 1) (by omega) r0 r1 e0 e1
    have q' := am5 (.slice none 0 0) (.slice none 0 0) (.int .i64 c) (.int .i64 d) (B := w.heap.size + 1) (C := w.heap.size + 1 + 1) (by omega) r0 r1 e0 e1
    refine bodyPost_ret (aeI rfl rfl rfl (c := c) (a := d) (g := .slice none 0 0) (f := .slice none 0 0) ?_ ?_ ?_ ?_) rfl ⟨?_, .inl ⟨c, d, Hr.out, fM.out, rfl⟩⟩
    . first | with_reducible exact adp (aaG q.1) | with_reducible exact adp (aaG q'.1)
    . first | with_reducible exact adp (aaG q.2.1) | with_reducible exact adp (aaG q'.2.1)
    . first | with_reducible exact adp (aaG q.2.2.1) | with_reducible exact adp (aaG q'.2.2.1)
    . first | with_reducible exact adp (aaG q.2.2.2) | with_reducible exact adp (aaG q'.2.2.2)
    . have h := dB.out; first | with_reducible exact (acx (aaR h (Aa3 _) (by omega) _ _ _ _) _).drew | with_reducible exact (acx (aaR h (by omega) (Aa3 _) _ _ _ _) _).drew)
end
end Go.Proofs.YtnkfdeiigplhoaaGreatDoor
