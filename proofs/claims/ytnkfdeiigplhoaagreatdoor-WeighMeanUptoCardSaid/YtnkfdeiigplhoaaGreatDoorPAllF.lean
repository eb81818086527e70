import Derived.Test.YtnkfdeiigplhoaaGreatDoorPLoop1
import Derived.Test.YtnkfdeiigplhoaaGreatDoorPRunN
/- A world in which one row alone is turned. graph.places and graph.BackOf. loops.AllOf. -/
set_option maxHeartbeats 4000000
set_option maxRecDepth 100000
namespace Go.Proofs.YtnkfdeiigplhoaaGreatDoor
section
open Go.RowKit
structure acV (w0 W:World)(XB:Nat)(e:TypeId)(cs:List Value):Prop where
 size:w0.heap.size<=W.heap.size
 keep:∀b,b<w0.heap.size->b≠XB->W.heap[b]?=w0.heap[b]?
 env:W.os=w0.os∧W.tape=w0.tape∧W.output=w0.output
 row:W.heap[XB]?=some (.cells cs.toArray e (0,0))
section
variable {w0 W W' : World} {XB : Nat} {e : TypeId} {cs : List Value}
theorem acV.cellOf(h:acV w0 W XB e cs){b o:Nat}{u:Value}(hc:w0.cell? ⟨b,o,none⟩=some u)(h2:b≠XB):W.cell? ⟨b,o,none⟩=some u:=by
 rw [World.cell?_of_block (w:=w0) (a:=⟨b,o,none⟩) (h.keep b (aac hc) h2)];exact hc
theorem acV.at(h:acV w0 W XB e cs){i:Nat}{u:Value}(hi:cs[i]?=some u):W.cell? ⟨XB,i,none⟩=some u:=by
 rw [aaI h.row,List.getElem?_toArray];exact hi
theorem acV.fz(h:acV w0 W XB e cs)(i:Nat):W.frozen? ⟨XB,i,none⟩=false:=by simp [World.frozen?,h.row]
theorem acV.set(h:acV w0 W XB e cs)(i:Nat)(u:Value):acV w0 (W.setCell ⟨XB,i,none⟩ u) XB e (cs.set i u) :=
 ⟨by simpa [World.setCell] using h.size,fun b h1 h2=>by rw [Below.heap_setCell _ _ _ _ (by dsimp only;exact h2)];exact h.keep b h1 h2,h.env,by rw [aay h.row];simp⟩
theorem acV.below {w:World}(h:acV w0 W XB e cs)(hb:Below w.heap.size w w0)(h1:w.heap.size<=XB):Below w.heap.size w W:=by
 have hz:=hb.size;exact⟨h.env.1.trans hb.os,h.env.2.1.trans hb.tape,h.env.2.2.trans hb.output,Aag hz h.size,fun k hk=>(h.keep k (by omega) (by omega)).trans (hb.block k hk)⟩
theorem acV.sl {α:Type}{r:Rp α}(hr:r.Mono){S:Nat->Prop}{sz:Nat}{v:Value}{l:List α}(h:acV w0 W XB e cs)(hS:∀b,S b->b≠XB)(hs:SlAt S w0 sz r v l):SlAt S W sz r v l :=
 hs.mono hr (fun _ h=>h) (aba fun b hb hl=>h.keep b hl (hS b hb))
end
theorem anE {W:World}{base XB n:Nat}{L:List Int}(hL:L.length=n)(hn:n<=1048576)(h:W.heap[XB]?=some (.cells (L.map (Value.int .i64)).toArray 3 (0,0)))(hb:base<=XB)(hi:∀x∈L,I64 x):aaz base W (.slice (some ⟨XB,0,none⟩) n n) L:=by
 subst hL;exact⟨⟨by simp,.inr ⟨XB,L.length,_,rfl,hb,h,Aad _,by unfold maxLen;omega,by simp,by rw [Nat.mul_one,show L.length=(L.map (Value.int .i64)).length by simp];exact Aay⟩⟩,hi⟩
end
section
open Go.RowKit
theorem akQ {S:Nat->Prop}(n m:Nat)(oa:Option Addr)(oc:Nat)(l:List Int)(w:World)(h:SlAt S w 1 aaO (.slice oa m oc) l)(hS:∀b,S b->b<w.heap.size)(hm:l.length=m)(gq:m<=1048576)(hn:n<=1048576)(aY:∀x∈l,0<=x∧x<(n:Int)) :
 Calls Tryz.prog 144 #[.int .i64 (n:Int),.slice oa m oc] w fun e w' =>
  ∃g,e = .returned (.slice (some ⟨g,0,none⟩) n n)∧w.heap.size<=g∧w'.heap[g]?=some (.cells (acC l n m).toArray 3 (0,0))∧Below w.heap.size w w':=by
 have H:=hid h;have HS:=hid hS;have cY:=hid aY;have Hm:=hid hm;clear h aY hm hS;go_enter Tryz.func144,Tryz.ntmps144;go_wp2_with fail;refine (ad4 _ _ (-1) n hn _ (abd _ [.int .i64 (-1)] 3 rfl 0 _ rfl)).mono ?_;rintro e w2 ⟨g,rfl,hg,ak,a8⟩;have e8:Below w.heap.size w w2:=by exact bE1 a8
 have gn:w.heap.size+1<=g:=by simpa using hg
 have aO:acV w2 w2 g 3 (acC l n 0):=⟨Aad _,fun _ _ _=>rfl,⟨rfl,rfl,rfl⟩,by rw [ajh];exact ak⟩
 have cZ:=hid aO;have dL:=hid e8;clear a8 ak aO e8 hg;go_wp2_with fail;go_loopw [13] (fun i wr=>∃k:Nat,k<=m∧i = .int .i64 (k:Int)∧acV w2 wr g 3 (acC l n k)) (fun i _=>m - (intOf i).toNat)
 case atStart=>exact⟨0,Aah _,rfl,cZ.out⟩
 case round =>
  obtain⟨k,hk,rfl,aO⟩:=hrel;have eG:=hid aO
  by_cases hkm:k<m
  . have aN:k<l.length:=by rw [Hm.out];exact hkm
    obtain⟨b,hb⟩:∃b,b=l[k]:=⟨_,rfl⟩
    have bd:=cY.out l[k] (Aaf aN);rw [<-hb] at bd;obtain⟨ob,fY,rfl,c0⟩:=abb (aO.sl aae (fun b hb=>by have:=HS.out b hb;omega) (H.out.later aae dL.out)) aN;rw [<-hb] at c0;obtain⟨q,rfl⟩:=Aas bd.1;have cK:q<n:=by omega
    have c1:=aO.at (adx l n k cK)
    have f1:=aO.fz q;have bV:=aO.set q (.int .i64 (k:Int));rw [ajg l n k q aN hb.symm] at bV;have dE:=hid bV;have z0:ob<wr.heap.size:=aac c0;have z1:g<wr.heap.size:=aac c1;clear aO hb bd bV;go_wp2_with fail;go_roundw
    case rel=>exact⟨k+1,by omega,by go_num,dE.out⟩
    case measure=>simp [intOf];omega
  . obtain rfl:k=m:=by omega
    have z:=dL.out.size;go_wp2_with fail;go_ret;exact⟨g,rfl,by omega,eG.out.row,eG.out.below dL.out (by omega)⟩
theorem acq {α : Type} {P : Program} {w : World} {ops : Array Oper} {rest : List Oper} {o : Oper} {a : Act} {Q : Exit -> Act -> World -> Prop} (fD : o.guard = none) (s x : Operand) (t : TypeId)
 (ho:o.op = .call { callee := .builtin .append,args:=#[s,x],argTypes:=#[t,t] })
 (base:Nat) (e:TypeId) (i:TypeInfo) (z:Value) (size bytes:Nat) (ht:P.underlying t=some (.slice e)) (hi:P.info? e=some i) (hz:i.zero=some z)
 (cP:i.size=size) (fC:i.bytes=bytes) (fX:z.cells.size=size) (el:0<size)
 {r:Rp α} (hr:r.Mono) (v:Value) (l:List α) (hs:a.eval s=v) (af:Own base w e size r v l)
 (ad:Addr) (c:Nat) (cs:List Value) (y:α) (hx:a.eval x = .slice (some ad) 1 c) (hl:cs.length=size) (cC:∀(j:Nat) u,cs[j]?=some u->w.cell? (ad.add j)=some u) (h1:∀u∈cs,u.oneCell'=true) (hy:r (amP base w v) w cs y)
 (hn:l.length+1<=4194304) (bN:bytes<=4096) (cv:base<=w.heap.size)
 (h:∀v' w',Own base w' e size r v' (l++[y])->w.grownBy w' v.ownBlock->(v'.ownBlock=v.ownBlock∨v'.ownBlock=some w.heap.size)->wpList P ops Q rest (a.put o.dst v') w') :
 wpList P ops Q (o :: rest) a w:=by
 have cH:=af;obtain⟨xss,p1,p2,p3,p4⟩:=af;have hb:(l.length+1) * bytes<=140737488355328:=by
  have:=Nat.mul_le_mul hn bN;omega
 refine wpList_append_own_at w fD s x t ho base e i z size bytes ht hi hz cP fC fX el v l.length xss.flatten hs p1 ad 1 c cs hx (by rw [hl];omega) cC h1 (by unfold maxLen;omega) hb cv ?_;intro v' w' cG ag cD aK;exact h v' w' (cH.snoc hr p1 p2 p3 p4 hl hy cG ag aK) ag aK
theorem akh {S:Nat->Prop}(nm:ByteArray)(p r:Int)(ba:Option Addr)(n bc:Nat)(bs:List aad)(w:World)(hb:SlAt S w 6 aaJ (.slice ba n bc) bs)(hS:∀b,S b->b<w.heap.size)(aL:bs.length=n)(hn:n<=1048576)(aP:adH bs) :
 Calls Tryz.prog 121 #[.agg #[.string nm,.int .i64 p,.int .i64 r,.slice ba n bc]] w fun e w' =>
  ∃v,e = .returned v∧SlAt (fun b=>w.heap.size<=b∧b<w'.heap.size) w' 2 aix v (adn bs)∧Below w.heap.size w w':=by
 have Hb:=hid hb;have ai:=hid aL;have a7:=hid aP;have HS:=hid hS;obtain⟨ip,fE,dY,dZ,ea⟩:=info_parts ang;obtain⟨L,hL⟩:∃L,L=(af8 bs).length:=⟨_,rfl⟩
 have gm:L<=n:=by rw [hL,acB,<-aL];exact af9 aP
 have cF:∀x∈af8 bs,0<=x∧x<(n:Int):=fun x hx=>by rw [<-aL];exact (acd aP).1 x (List.mem_reverse.1 hx)
 have dx:=hid cF;have HL:=hid hL;have bA:=aeP aP;have cc:=hid bA;clear hb aL aP hS hL cF bA;go_enter Tryz.func121,Tryz.ntmps121;obtain⟨W,hW⟩:∃W,W=w.alloc (.cells #[.string nm,.int .i64 p,.int .i64 r,.slice ba n bc] 50):=⟨_,rfl⟩
 have bL:Below w.heap.size w W:=by rw [hW];exact bE
 have v0:W.cell? ⟨w.heap.size,0,none⟩=some (.string nm):=by rw [hW];simp
 have v1:W.cell? ⟨w.heap.size,1,none⟩=some (.int .i64 p):=by rw [hW];simp
 have v2:W.cell? ⟨w.heap.size,2,none⟩=some (.int .i64 r):=by rw [hW];simp
 have v3:W.cell? ⟨w.heap.size,3,none⟩=some (.slice ba n bc):=by rw [hW];simp
 have eN:W.heap.size=w.heap.size+1:=by rw [hW];simp
 go_upto_region 1 with (fail)
 rw [<-hW];have bt:Hid (∀w',Below W.heap.size W w'->w'.cell? ⟨w.heap.size,0,none⟩=some (.string nm)∧w'.cell? ⟨w.heap.size,1,none⟩=some (.int .i64 p)∧w'.cell? ⟨w.heap.size,2,none⟩=some (.int .i64 r)∧w'.cell? ⟨w.heap.size,3,none⟩=some (.slice ba n bc)) :=
  fun w' h=>⟨aab v0 h,aab v1 h,aab v2 h,aab v3 h⟩
 have br:=hid bL;have zW:w.heap.size<W.heap.size:=by omega
 clear hW bL
 go_region_held3 (fun w' => w'.cell? ⟨w.heap.size, 0, none⟩ = some (.string nm) ∧ w'.cell? ⟨w.heap.size, 1, none⟩ = some (.int .i64 p) ∧ w'.cell? ⟨w.heap.size, 2, none⟩ = some (.int .i64 r) ∧ w'.cell? ⟨w.heap.size, 3, none⟩ = some (.slice ba n bc))
  (exact bt.out _ (by first | exact (Below.refl _ _).drew | exact c5 | exact cn))
  ((first
    | (go_at_call 99; refine (aga (S := S) nm p r ba n bc bs _ (Hb.out.later aam (br.out.trans ((Below.refl W.heap.size W).drew.mono (by omega)))) (fun b hb => by have := HS.out b hb; simp; omega) ai.out hn a7.out).mono ?_; rintro e w8 ⟨v, rfl, hv, fy⟩
       obtain ⟨oa, oc, fJ⟩ := hv.shape
       subst fJ
       have c5 : Below W.heap.size W w8 := (Below.refl W.heap.size W).drew.trans fy
       rw [<- HL.out] at hv ⊢
       have Hv := hid hv)
    | (go_at_call 144; refine (akQ (S := iv W.heap.size w8.heap.size) n L oa oc (af8 bs) _ (by have h := Hv.out.sl; simpa using h) (fun b hb => hb.2) HL.out.symm (by omega) hn dx.out).mono ?_; rintro e w9 ⟨g, rfl, hg, ak, eS⟩
       have cn : Below W.heap.size W w9 := c5.trans (eS.mono c5.size))))
 have dK:Hid (Below w.heap.size w w9):=br.out.trans (cn.mono (by omega));have aJ:=hid ak;have ez:=hid cn;obtain⟨f0,f1,f2,f3⟩:=bt.out _ cn;have zf:w.heap.size<w9.heap.size:=aac f0;clear hv c5 Hv hg ak eS cn v0 v1 v2 v3;go_wp2_with fail;clear f0 f1 f2 f3;go_loopw [4,19] (fun s4 s19 wr=>∃(k:Nat) (v:Value),v=s4∧k<=n∧s19 = .int .i64 (k:Int)∧acI w9 wr 188 2 aix v (acg bs k)) (fun _ s19 _=>n - (intOf s19).toNat)
 case atStart=>exact⟨0,_,rfl,Aah _,rfl,acI.start w9 188 2 aix⟩
 case round =>
  obtain⟨k,v,rfl,hk,rfl,b0⟩:=hrel;have b9:=hid b0;have bM:Below w.heap.size w wr:=dK.out.trans (b0.old.mono dK.out.size);have ca:=hid bM
  by_cases hkn:k<n
  . have aN:k<bs.length:=by rw [ai.out];exact hkn
    obtain⟨b,off,cs,rfl,eL,hx,-,bz⟩:=Hb.out.get aN;obtain⟨pa,pc,la,lc,ta,tc,rfl,-,-,et,e2,cA,e7,-,-⟩:=hx.opens;obtain⟨d0,d1,d2,d3,d4,d5⟩:=(bz.later bM).get6;obtain⟨x,dm⟩:∃x,x=bs[k]:=⟨_,rfl⟩
    rw [<-dm] at d0 d1 d2 d3 d4 d5 et e2 cA e7;have eo:=a7.out.tgt k x (by rw [dm];exact Aaa aN);have dJ:Hid (ab6 bs k=x.fin.to):=by show _=_;rw [anR aN,<-dm]
    obtain⟨tn,b2⟩:∃tn,tn=x.fin.to.length:=⟨_,rfl⟩
    obtain⟨pn,b1⟩:∃pn,pn=x.phis.length:=⟨_,rfl⟩
    obtain⟨ln,bO⟩:∃ln,ln=x.list.length:=⟨_,rfl⟩
    obtain⟨ek,eV⟩:∃ek,ek=x.fin.kind:=⟨_,rfl⟩
    obtain⟨er,eX⟩:∃er,er=x.fin.on.reg:=⟨_,rfl⟩
    obtain⟨en,eW⟩:∃en,en=x.fin.on.n:=⟨_,rfl⟩
    rw [<-b1] at d0;rw [<-bO] at d1;rw [<-eV] at d2;rw [<-eX] at d3;rw [<-eW] at d4;have ep:tn<=2:=by rw [b2];exact eo.1
    have eH:=hid et;have cm:Hid (∀t∈adl x.fin.to,0<=t∧t<(n:Int)):=fun t ht=>by rw [<-ai.out];exact eo.2 t (agl.1 ht)
    rw [<-b2] at d5 eH;have c4:=hid b2;have zb:b<wr.heap.size:=aac d0;have c3:=(bt.out wr (ez.out.trans (b0.old.mono ez.out.size)))
    obtain⟨c0,c1,c2,c3⟩:=c3;have zc:w.heap.size<wr.heap.size:=aac c0;clear b0 bz hx et e2 cA e7 eo b2 b1 bO eV eX eW dm bM;obtain⟨wo,ev⟩:∃wo:World,wo=wr:=⟨_,rfl⟩
    subst ev
    go_wp2_with (first
     | (go_at_call 146; refine ((callsIn_wide (n := 6)).1 (amG Fence.wide 6 trivial rfl ta tn tc _)).mono ?_; rintro e w' ⟨rfl, rfl⟩)
     | (go_at_call 145; go_must (refine (akX _ ta tc x.fin.to _ (by have := c4.out; omega) ?_ ?_).mono ?_)))
    . rw [<-c4.out]
      refine (eH.out.mono aae (fun b hb=>?_) (aav.refl _ _)).later aae ?_
      . have:=HS.out b hb;have:=ca.out.size;simp;omega
      . have h:=ca.out;exact bE1 h
    . rw [<-c4.out];simp
    obtain⟨W2,bx⟩:∃W2,W2=(wo.alloc (.cells #[.slice pa pn pc,.slice la ln lc,.int .i64 ek,.bool er,.int .i64 en,.slice ta tn tc] 59)).alloc (.cells #[.slice ta tn tc] 26):=⟨_,rfl⟩
    have a8:Below wo.heap.size wo W2:=by rw [bx];exact bE
    rw [<-bx];rintro e w6 ⟨v6,rfl,cE,eQ⟩;obtain⟨sa,sc,rfl⟩:=cE.shape;obtain⟨SL,db⟩:∃SL,SL=adl x.fin.to:=⟨_,rfl⟩
    rw [<-db] at cE cm ⊢;have ej:SL.length<=2:=by rw [db,agk,<-c4.out];exact ep
    have dI:Hid (acg bs (k+1)=acg bs k++acK (ahy bs) k SL):=by show _=_;rw [afN,dJ.out,<-db]
    obtain⟨sn,ei⟩:∃sn,sn=SL.length:=⟨_,rfl⟩
    rw [<-ei] at ej cE ⊢;have dF:=hid ei;have bX:=hid cE.sl;have cX:Hid (Below wo.heap.size wo w6):=a8.trans (eQ.mono a8.size);have b3:=a8.size;have cN:=cX.out.block g (by have:=(Aax.1 aJ.out).1;have:=b9.out.old.size;omega);have gi:=hid cX.out.size;have fl:=hid b3;clear bx a8 eQ cE db ei b3 cN c0 c1 c2 c3 d0 d1 d2 d3 d4 d5;go_wp2_with fail
    go_loopw [4, 31] (fun s4 s31 wi => ∃ (j : Nat) (v2 : Value), v2 = s4 ∧ j <= sn ∧ s31 = .int .i64 (j : Int) ∧ acI w9 wi 188 2 aix v2 (acg bs k ++ acK (ahy bs) k (SL.take j)) ∧
     (∀ q, v2.ownBlock = some q -> q < wo.heap.size ∨ w6.heap.size <= q) ∧ w6.heap.size <= wi.heap.size ∧ (∀ q, wo.heap.size <= q -> q < w6.heap.size -> wi.heap[q]? = w6.heap[q]?)) (fun _ s31 _ => sn - (intOf s31).toNat)
    case atStart =>
     refine⟨0,_,rfl,Aah _,rfl,⟨?_,?_⟩,fun q hq => .inl (b9.out.own.lt q hq).2,Aad _,fun _ _ _=>rfl⟩
     . have h:=b9.out.own.later abE cX.out
       have e:acK (ahy bs) k (SL.take 0)=[]:=by simp [acK]
       rw [e,Abe];exact h
     . exact b9.out.old.trans (cX.out.mono b9.out.old.size)
    case round =>
     obtain⟨wi,fT⟩:∃wi:World,wi=wr:=⟨_,rfl⟩
     subst fT;obtain⟨j,v2,rfl,hj,rfl,aE,bZ,hz,dg⟩:=hrel;have aA:=hid aE;have cW:=hid bZ;have du:=hid dg
     by_cases hjs:j<sn
     . have bo:j<SL.length:=by rw [<-dF.out];exact hjs
       have e6:=cm.out SL[j] (Aaf bo);obtain⟨t,ht⟩:=Aas e6.1;have b2:t<n:=by omega
       obtain⟨lb,cT,fG,l0⟩:=abb bX.out bo;subst fG;rw [ht] at l0;have dX:wo.heap.size<=lb∧lb<w6.heap.size:=by
        refine⟨?_,aac l0⟩;obtain⟨_,_,_,e,h5,-⟩:=bX.out.get bo;cases e;have:=h5.1;have:=fl.out;omega
       have e0:wi.cell? ⟨lb,cT+j,none⟩=some (.int .i64 (t:Int)):=by
        rw [World.cell?_of_block (w:=w6) (a:=⟨lb,cT+j,none⟩) (dg lb dX.1 dX.2)];exact l0
       have ef:wi.heap[g]?=some (.cells (acC (af8 bs) n L).toArray 3 (0,0)):=(aE.old.block g (Aax.1 aJ.out).1).trans aJ.out;have p0:wi.cell? ⟨g,k,none⟩=some (.int .i64 (ahy bs k)):=by
        rw [aaI ef,List.getElem?_toArray,adx _ _ _ hkn,HL.out];rfl
       have p1:wi.cell? ⟨g,t,none⟩=some (.int .i64 (ahy bs t)):=by
        rw [aaI ef,List.getElem?_toArray,adx _ _ _ b2,HL.out];rfl
       have aj:=akg (ahy bs) k SL j bo;rw [ht,Aaj] at aj;have bB:(acg bs k++acK (ahy bs) k (SL.take j)).length<=2 * k+2:=by
        have h1:=cc.out k;have h2:=ahR (ahy bs) k (SL.take j);rw [Aai];rw [Aar] at h2;have:=dF.out;omega
       obtain⟨x,hx⟩:∃x,x=ahy bs k:=⟨_,rfl⟩
       obtain⟨y,hy⟩:∃y,y=ahy bs t:=⟨_,rfl⟩
       rw [<-hx] at p0 aj;rw [<-hy] at p1 aj;have zg:g<wi.heap.size:=aac p0;have zl:lb<wi.heap.size:=aac e0;have fe:=hid bB;have ae:=hid aj;have gx:=aE.old.size;clear aE bZ dg hx hy e6 ht l0 ef aj bB dX
       by_cases hc:0<=x∧y<=x
       . have q1:decide (0<=x)=true:=decide_eq_true hc.1
         have q2:decide (y<=x)=true:=decide_eq_true hc.2;have au:Hid (acK (ahy bs) k (SL.take (j+1))=acK (ahy bs) k (SL.take j)++[((k:Int),(t:Int))]):=by show _=_;rw [ae.out,if_pos hc]
         clear hc ae;go_wp2_with fail;go_quiet (fail);go_wp2_with (at_builtin;refine acq rfl _ _ 186 rfl w9.heap.size 188 ip _ 2 16 Tryz.underlying186 fE dY dZ ea rfl (by decide) abE v2 (acg bs k++acK (ahy bs) k (SL.take j)) rfl ?_ ⟨wi.heap.size,0,none⟩ 1 [.int .i64 (k:Int),.int .i64 (t:Int)] ((k:Int),(t:Int)) rfl rfl ?_ ?_ ?_ ?_ (by decide) ?_ ?_)
         . exact aA.out.own.later abE bE
         . exact abd _ _ _ (by simp)
         . intro u hu;simp at hu;rcases hu with rfl | rfl <;> rfl
         . rfl
         . have:=fe.out;omega
         . simp;omega
         . intro v3 w7 af ag aK
           have eR:Below w9.heap.size w9 w7:=by
            refine Below.grown ?_ ag (by simp;omega) (fun q hq=>(aA.out.own.lt q hq).1);have h:=aA.out.old;exact bE1 h
           first | rw [Abh,<-au.out] at af | rw [<-au.out] at af
           have el:=ag.size;have gv:wi.heap.size+1<=w7.heap.size:=by simpa using el
           have ds:Hid (acI w9 w7 188 2 aix v3 (acg bs k++acK (ahy bs) k (SL.take (j+1)))):=⟨af,eR⟩
           have aQ:Hid (∀q,v3.ownBlock=some q->q<wo.heap.size∨w6.heap.size<=q):=fun q hq=>by
            rcases aK with h | h
            . exact cW.out q (h.symm.trans hq)
            . rw [h] at hq
              cases hq;right
              first | omega | (simp;omega)
           have dv:Hid (∀q,wo.heap.size<=q->q<w6.heap.size->w7.heap[q]?=w6.heap[q]?):=fun q h1 h2=>by
            rw [ag.block q (by simp;omega) (fun e=>by rcases cW.out q e.symm with h | h <;> omega),Below.heap_alloc _ _ _ (by simp;omega)];simpa using du.out q h1 h2
           clear af ag eR aK;go_wp2_with fail;go_roundw
           case rel=>exact⟨j+1,v3,rfl,by omega,by go_num,ds.out,aQ.out,by omega,dv.out⟩
           case measure=>simp [intOf];omega
       . have au:Hid (acK (ahy bs) k (SL.take (j+1))=acK (ahy bs) k (SL.take j)):=by show _=_;rw [ae.out,if_neg hc]
         by_cases hc1:0<=x
         . have q1:decide (0<=x)=true:=decide_eq_true hc1
           have q2:decide (y<=x)=false:=decide_eq_false (fun h=>hc ⟨hc1,h⟩);clear hc ae hc1;go_wp2_with fail;go_quiet (fail);go_wp2_with fail;go_roundw
           case rel=>exact⟨j+1,v2,rfl,by omega,by go_num,by rw [au.out];exact⟨aA.out.own.drewN abE nq,by have h:=aA.out.old;exact bE1 h⟩,cW.out,by simpa using hz,fun q h1 h2=>by simpa using du.out q h1 h2⟩
           case measure=>simp [intOf];omega
         . have q1:decide (0<=x)=false:=decide_eq_false hc1
           clear hc ae hc1;go_wp2_with fail;go_quiet (fail);go_wp2_with fail;go_roundw
           case rel=>exact⟨j+1,v2,rfl,by omega,by go_num,by rw [au.out];exact⟨aA.out.own.drewN abE nq,by have h:=aA.out.old;exact bE1 h⟩,cW.out,by simpa using hz,fun q h1 h2=>by simpa using du.out q h1 h2⟩
           case measure=>simp [intOf];omega
     . have cy:j=sn:=by omega
       have dr:Hid (acI w9 wi 188 2 aix v2 (acg bs (k+1))):=by
        show acI _ _ _ _ _ _ _;rw [dI.out];rw [cy,dF.out,Aay] at aE;exact aE
       clear aE bZ dg cy;go_wp2_with fail;go_roundw
       case rel=>exact⟨k+1,v2,rfl,by omega,by go_num,dr.out⟩
       case measure=>simp [intOf];omega
  . have cz:k=n:=by omega
    have bW:=b0.own.toSl abE (by decide);rw [cz,<-ai.out] at bW;have bX:=hid bW;have z9:=dK.out.size;clear b0 bW cz;go_wp2_with fail;go_ret;exact⟨_,rfl,bX.out.mono abE (fun b hb=>⟨by have:=hb.1;omega,hb.2⟩) (aav.refl _ _),ca.out⟩
end
section
open Go.RowKit
structure adV (V0 W:World)(O n:Nat)(V V':Nat->Value)(R:Nat->List Int):Prop where
 size:V0.heap.size<=W.heap.size
 keep:∀b,b<V0.heap.size->b≠O->W.heap[b]?=V0.heap[b]?
 env:W.os=V0.os∧W.tape=V0.tape∧W.output=V0.output
 lt:O<V0.heap.size
 row:W.rowIs O 26 n V
 fam:Fam W V0.heap.size 3 n V' (fun t=>(R t).map (Value.int .i64))
section
variable {V0 W W' : World} {O n : Nat} {V V' : Nat -> Value} {R : Nat -> List Int}
theorem adV.cellOf(h:adV V0 W O n V V' R){b o:Nat}{u:Value}(hc:V0.cell? ⟨b,o,none⟩=some u)(h2:b≠O):W.cell? ⟨b,o,none⟩=some u:=by
 rw [World.cell?_of_block (w:=V0) (a:=⟨b,o,none⟩) (h.keep b (aac hc) h2)];exact hc
theorem adV.sl {α:Type}{r:Rp α}(hr:r.Mono){S:Nat->Prop}{sz:Nat}{v:Value}{l:List α}(h:adV V0 W O n V V' R)(hS:∀b,S b->b≠O)(hs:SlAt S V0 sz r v l):SlAt S W sz r v l :=
 hs.mono hr (fun _ h=>h) (aba fun b hb hl=>h.keep b hl (hS b hb))
theorem adV.off(h:adV V0 W O n V V' R){row:Option Nat}(hg:W.grownBy W' row)(h1:∀k,row=some k->V0.heap.size<=k)(hr:∀t,t<n->∀k,(V' t).ownBlock=some k->row≠some k):adV V0 W' O n V V' R:=by
 have hz:=h.size;have hl:=h.lt;refine⟨Aag hz hg.size,fun b h2 h3=>?_,⟨hg.os.trans h.env.1,hg.tape.trans h.env.2.1,hg.output.trans h.env.2.2⟩,hl,h.row.of_block (hg.block O (by omega) (fun e=>by have:=h1 O e.symm;omega)),h.fam.off hg hr⟩;rw [hg.block b (by omega) (fun e=>by have:=h1 b e.symm;omega)];exact h.keep b h2 h3
theorem adV.later(h:adV V0 W O n V V' R)(hb:Below W.heap.size W W'):adV V0 W' O n V V' R :=
 h.off (row:=none) ⟨hb.os,hb.tape,hb.output,hb.size,fun k hk _=>hb.block k hk⟩ (fun _ e=>by cases e) (fun _ _ _ _ e=>by cases e)
theorem adV.put(h:adV V0 W O n V V' R){t:Nat}(ht:t<n){v':Value}{l:List Int}(ho:W'.ownsRow V0.heap.size 3 1 v' l.length (l.map (Value.int .i64)))(hg:W.grownBy W' (V' t).ownBlock)(hb:∀k,v'.ownBlock=some k->(V' t).ownBlock=some k∨W.heap.size<=k) :
 adV V0 W' O n V (fun u=>if u=t then v' else V' u) (fun u=>if u=t then l else R u):=by
 have hz:=h.size;have hl:=h.lt;have h1:∀k,(V' t).ownBlock=some k->V0.heap.size<=k:=fun k e=>((h.fam.own t ht).lt k e).1;have hf:=h.fam.put ht (v':=v') (xs:=l.map (Value.int .i64)) (by rw [Aal];exact ho) hg hb;refine⟨Aag hz hg.size,fun b h2 h3=>?_,⟨hg.os.trans h.env.1,hg.tape.trans h.env.2.1,hg.output.trans h.env.2.2⟩,hl,h.row.of_block (hg.block O (by omega) (fun e=>by have:=h1 O e.symm;omega)),?_⟩
 . rw [hg.block b (by omega) (fun e=>by have:=h1 b e.symm;omega)]
   exact h.keep b h2 h3
 . refine⟨fun u hu=>?_,hf.apart⟩
   have h5:=hf.own u hu
   by_cases hut:u=t
   . simpa only [if_pos hut] using h5
   . simpa only [if_neg hut] using h5
theorem adV.store(h:adV V0 W O n V V' R){t:Nat}(hV:∀u,u≠t->V' u=V u):adV V0 (W.setCell ⟨O,t,none⟩ (V' t)) O n V' V' R:=by
 have hr:=h.row.set t (V' t);have e:(fun u=>if u=t then V' t else V u)=V':=by
  funext u
  by_cases hu:u=t
  . rw [if_pos hu,hu]
  . rw [if_neg hu,hV u hu]
 rw [e] at hr;refine⟨by simpa [World.setCell] using h.size,fun b h1 h2=>?_,h.env,h.lt,hr,h.fam.setBelow (a:=⟨O,t,none⟩) h.lt _⟩;rw [Below.heap_setCell _ _ _ _ (by dsimp only;exact h2)];exact h.keep b h1 h2
theorem adV.congr {R':Nat->List Int}(h:adV V0 W O n V V' R)(hr:∀t,t<n->R t=R' t):adV V0 W O n V V' R' :=
 ⟨h.size,h.keep,h.env,h.lt,h.row,⟨fun t ht=>by rw [<-hr t ht];exact h.fam.own t ht,h.fam.apart⟩⟩
theorem adV.get(h:adV V0 W O n V V' R){t:Nat}(ht:t<n):W.ownsRow V0.heap.size 3 1 (V' t) (R t).length ((R t).map (Value.int .i64)):=by
 have:=h.fam.own t ht;rw [Aal] at this;exact this
end
theorem acJ(bs:List aad):(aheadF bs).length=bs.length:=by unfold aheadF;simp
def ahK(n:Nat)(V':Nat->Value)(q:Value):Prop:=∀t,t<n->∀k,(V' t).ownBlock=some k->q.ownBlock≠some k
structure ap5 (bs:List aad)(V0 W:World)(OB n:Nat)(V:Nat->Value)(R:Nat->List Int)(hd:Nat)(G:List Int)(g:Nat)(iv rv:Value)(row inn:List Int)(V':Nat->Value):Prop where
 st:adV V0 W OB n V V' (fun u=>if u=hd then inn else R u)
 iv:V' hd=iv
 off:∀u,u≠hd->V' u=V u
 que:afo V0.heap.size W rv row
 apart:ahK n V' rv
 ga:acf (ake bs) (hd:Int) n (2 * n) G g row inn
 many:g<=aky n
theorem adV.shape {V0 W:World}{O n:Nat}{V V':Nat->Value}{R:Nat->List Int}(h:adV V0 W O n V V' R){t:Nat}(ht:t<n):∃a c,V' t = .slice a (R t).length c:=by
 rcases (h.get ht).2 with⟨h1,h2⟩ | ⟨g,cap,cur,h1,-⟩
 . exact⟨none,0,by rw [h1,h2]⟩
 . exact⟨_,_,h1⟩
theorem adV.done {V0 W:World}{O n lo:Nat}{V:Nat->Value}{R:Nat->List Int}(h:adV V0 W O n V V R)(_hn:n<=1048576)(fI:lo<=O)(hR:∀t,t<n->∀x∈R t,I64 x) :
 SlAt (fun b=>lo<=b∧b<W.heap.size) W 1 rRow (.slice (some ⟨O,0,none⟩) n n) ((List.range n).map R):=by
 have gp:=h.lt;have hz:=h.size;refine⟨_,n,by simp,by simp,by omega,fun _=>⟨O,0,rfl,⟨fI,by omega⟩,fun i x hx=>?_⟩⟩;rw [Aak] at hx;have hi:i<n:=by
  rcases Nat.lt_or_ge i n with h1 | h1
  . exact h1
  . rw [Aa8 (by simpa using h1)] at hx;cases hx
 rw [Aa4 hi] at hx;cases hx;refine⟨[V i],⟨V i,rfl,?_⟩,rfl,.cons ?_ (.nil _ _ _)⟩
 . exact ((afG (h.get hi) (hR i hi)).live (by decide) (fun _ _ h=>h)).mono aae (fun b hb=>⟨by have:=hb.1;omega,hb.2⟩) (aav.refl _ _)
 . have:=h.row.cell hi
   rw [Aab,Aan];exact this
section
variable {bs : List aad} {V0 W W1 W2 : World} {OB n : Nat} {V V' : Nat -> Value} {R : Nat -> List Int} {hd : Nat} {G : List Int} {g : Nat} {iv rv : Value} {row inn : List Int}
theorem ap5.push (h : ap5 bs V0 W OB n V R hd G g iv rv row inn V') (dU : hd < n) (aW : Below W.heap.size W W1) {v' : Value} {l : List Int} (ho : W2.ownsRow V0.heap.size 3 1 v' l.length (l.map (Value.int .i64))) (hg : W1.grownBy W2 iv.ownBlock)
 (aK:∀k,v'.ownBlock=some k->iv.ownBlock=some k∨W1.heap.size<=k) :
 adV V0 W2 OB n V (fun u=>if u=hd then v' else V' u) (fun u=>if u=hd then l else R u)∧afo V0.heap.size W2 rv row∧ahK n (fun u=>if u=hd then v' else V' u) rv∧(∀u,u≠hd->(if u=hd then v' else V' u)=V u):=by
 have cS:=aW.size;refine⟨?_,?_,fun t ht k hk=>?_,fun u hu=>by rw [if_neg hu];exact h.off u hu⟩
 . have h1:=(h.st.later aW).put dU (v':=v') (l:=l) ho (by rw [h.iv];exact hg) (by rw [h.iv];exact aK)
   exact h1.congr fun t _=>by
    by_cases e:t=hd
    . rw [if_pos e,if_pos e]
    . rw [if_neg e,if_neg e,if_neg e]
 . refine h.que.kept fun q hq=>?_
   have hl:=(h.que.lt q hq).2;rw [hg.block q (by omega) (fun e=>h.apart hd dU q (by rw [h.iv];exact e.symm) hq),aW.block q hl]
 . dsimp only at hk
   by_cases e:t=hd
   . rw [if_pos e] at hk
     intro hq;have hl:=(h.que.lt k hq).2;rcases aK k hk with h1 | h1
     . exact h.apart hd dU k (by rw [h.iv];exact h1) hq
     . omega
   . rw [if_neg e] at hk
     exact h.apart t ht k hk
theorem aoe (aO : adV V0 W OB n V V' R) (hq : afo V0.heap.size W rv row) (bZ : ahK n V' rv) (aW : Below W.heap.size W W1) (hg : W1.grownBy W2 rv.ownBlock) {fa : Value}
 (aK:∀k,fa.ownBlock=some k->rv.ownBlock=some k∨W1.heap.size<=k):adV V0 W2 OB n V V' R∧ahK n V' fa:=by
 have cS:=aW.size;refine⟨(aO.later aW).off hg (fun k hk=>(hq.lt k hk).1) bZ,fun t ht k hk fL=>?_⟩;rcases aK k fL with h1 | h1
 . exact bZ t ht k hk h1
 . have:=((aO.fam.own t ht).lt k hk).2;omega
end
theorem ali {S:Nat->Prop}(nm:ByteArray)(p r:Int)(ba:Option Addr)(n bc:Nat)(bs:List aad)(w:World)(hb:SlAt S w 6 aaJ (.slice ba n bc) bs)(hS:∀b,S b->b<w.heap.size)(aL:bs.length=n)(hn:n<=1048576)(aP:adH bs) :
 Calls Tryz.prog 91 #[.agg #[.string nm,.int .i64 p,.int .i64 r,.slice ba n bc]] w fun e w' =>
  ∃g,e = .returned (.slice (some ⟨g,0,none⟩) n n)∧SlAt (fun b=>w.heap.size<=b∧b<w'.heap.size) w' 1 rRow (.slice (some ⟨g,0,none⟩) n n) (adX bs)∧Below w.heap.size w w':=by
 have HT : Hid (∀ V, Below w.heap.size w V -> Calls Tryz.prog 102 #[.agg #[.string nm, .int .i64 p, .int .i64 r, .slice ba n bc]] V fun e w' =>
  ∃ g, e = .returned (.slice (some ⟨g, 0, none⟩) n n) ∧ V.heap.size <= g ∧ SlAt (fun b => b = g) w' 1 aaO (.slice (some ⟨g, 0, none⟩) n n) (aei bs) ∧ Below V.heap.size V w') :=
  fun V hV=>ak1 (S:=S) nm p r ba n bc bs V (hb.later aam hV) (fun b hb=>Aap (hS b hb) hV.size) aL hn aP
 have HA : Hid (∀ V, Below w.heap.size w V -> Calls Tryz.prog 120 #[.agg #[.string nm, .int .i64 p, .int .i64 r, .slice ba n bc]] V fun e w' =>
  ∃ a c, e = .returned (.slice a n c) ∧ SlAt (fun b => V.heap.size <= b ∧ b < w'.heap.size) w' 1 rRow (.slice a n c) (aheadF bs) ∧ Below V.heap.size V w') := fun V hV => by
  have h:=agU (S:=S) nm p r ba bc bs V (by rw [aL];exact hb.later aam hV) (by omega) aP.tgt;rw [aL] at h;refine h.mono ?_;rintro e w' ⟨v,rfl,h1,h2⟩;obtain⟨a,c,rfl,-⟩:=h1.val;rw [acJ,aL] at h1 ⊢;exact⟨a,c,rfl,h1.live (by decide) afD,h2⟩
 have HB : Hid (∀ V, Below w.heap.size w V -> Calls Tryz.prog 121 #[.agg #[.string nm, .int .i64 p, .int .i64 r, .slice ba n bc]] V fun e w' =>
  ∃ v, e = .returned v ∧ SlAt (fun b => V.heap.size <= b ∧ b < w'.heap.size) w' 2 aix v (adn bs) ∧ Below V.heap.size V w') :=
  fun V hV=>akh (S:=S) nm p r ba n bc bs V (hb.later aam hV) (fun b hb=>Aap (hS b hb) hV.size) aL hn aP
 have ai:=hid aL;have a7:=hid aP;have eY:0<n:=by rw [<-aL];exact aP.pos
 have gr:=run_make_row' (P:=Tryz.prog) 27 26 (.slice none 0 0) 24 Tryz.underlying27 afB rfl .i64 .i64 n (by omega) (by omega);obtain⟨i0,hi,cR,cS,b3⟩:=info_parts ahs;obtain⟨W,hW⟩:∃W,W=w.alloc (.cells #[.string nm,.int .i64 p,.int .i64 r,.slice ba n bc] 50):=⟨_,rfl⟩
 have bL:Below w.heap.size w W:=by rw [hW];exact bE
 have v0:W.cell? ⟨w.heap.size,0,none⟩=some (.string nm):=by rw [hW];simp
 have v1:W.cell? ⟨w.heap.size,1,none⟩=some (.int .i64 p):=by rw [hW];simp
 have v2:W.cell? ⟨w.heap.size,2,none⟩=some (.int .i64 r):=by rw [hW];simp
 have v3:W.cell? ⟨w.heap.size,3,none⟩=some (.slice ba n bc):=by rw [hW];simp
 have eN:W.heap.size=w.heap.size+1:=by rw [hW];simp
 have bt:Hid (∀w',Below W.heap.size W w'->w'.cell? ⟨w.heap.size,0,none⟩=some (.string nm)∧w'.cell? ⟨w.heap.size,1,none⟩=some (.int .i64 p)∧w'.cell? ⟨w.heap.size,2,none⟩=some (.int .i64 r)∧w'.cell? ⟨w.heap.size,3,none⟩=some (.slice ba n bc)) :=
  fun w' h=>⟨aab v0 h,aab v1 h,aab v2 h,aab v3 h⟩
 have bH:Hid (∀V,Below W.heap.size W V->Below w.heap.size w V):=fun V hV=>bL.trans (hV.mono bL.size);have br:=hid bL;have HW:=hid hW;clear hb aL aP hS bL hW v0 v1 v2 v3;go_enter Tryz.func91,Tryz.ntmps91;go_upto_region 1 with (fail)
 rw [<-HW.out];have zW:w.heap.size<W.heap.size:=by omega
 clear eN;obtain⟨BX,dN⟩:∃BX,BX=w.heap.size:=⟨_,rfl⟩
 rw [<-dN] at bt zW ⊢;have gd:=hid dN;clear dN
 go_region_held3 (fun w' => w'.cell? ⟨BX, 0, none⟩ = some (.string nm) ∧ w'.cell? ⟨BX, 1, none⟩ = some (.int .i64 p) ∧ w'.cell? ⟨BX, 2, none⟩ = some (.int .i64 r) ∧ w'.cell? ⟨BX, 3, none⟩ = some (.slice ba n bc))
  (exact bt.out _ (by first | exact c6 | exact bY | exact (Below.refl _ _).drew))
  ((first
    | (go_at_call 102; refine (HT.out _ (bH.out _ ?_)).mono ?_; exact (Below.refl _ _).drew; rintro e wT ⟨UP, rfl, eM, eh, eT⟩; have bY : Below W.heap.size W wT := (Below.refl W.heap.size W).drew.trans eT)
    | (go_at_call 120; refine (HA.out _ (bH.out _ ?_)).mono ?_; exact bY; rintro e wA ⟨aa, ac, rfl, e5, dd⟩; have c6 : Below W.heap.size W wA := bY.trans (dd.mono bY.size))))
 have b7:=hid c6
 have fu : w.heap.size <= UP := by have := br.out.size; have : W.heap.size <= UP := (by simpa using eM); omega
 have eF:=hid (eh.later aae dd);have fv:UP<wT.heap.size:=by
  have h:=eh.live (by decide) (fun _ _ h=>h);obtain⟨_,_,_,e,h5,-⟩:=h.get (k:=0) (by rw [adD,ai.out];exact eY);cases e;exact h5.2
 have ft:UP<wA.heap.size:=by have:=dd.size;omega
 have cO:SlAt (fun b=>w.heap.size<=b∧b<wA.heap.size) wA 1 rRow (.slice aa n ac) (aheadF bs):=e5.mono aax (fun b hb=>⟨by have:=hb.1;have:=bY.size;have:=br.out.size;omega,hb.2⟩) (aav.refl _ _);have fj:=hid cO;obtain⟨g0,g1,g2,g3⟩:=bt.out _ c6;have zf:BX<wA.heap.size:=aac g0;clear bY c6 e5 dd eh eT eM fv cO;obtain⟨OB,da⟩:∃OB,OB=wA.heap.size:=⟨_,rfl⟩
 obtain⟨W3,ct⟩:∃W3,W3=wA.alloc (.cells (madeCells #[.slice none 0 0] n) 26):=⟨_,rfl⟩
 have dR:Below wA.heap.size wA W3:=by rw [ct];exact bE
 have cj:Hid (W3.rowIs OB 26 n (fun _ => .slice none 0 0)):=by rw [ct,da];exact World.rowIs_made _ _ _ _
 have eI:W3.heap.size=OB+1:=by rw [ct,da];simp
 have ey:Hid (Below W.heap.size W W3):=b7.out.trans (dR.mono b7.out.size);have eB:=hid dR;have fb:=hid ct;have dn:=hid da;have dM:=hid eI;clear dR ct da eI;go_upto_region 3 with (fail)
 rw [<-fb.out,<-dn.out];obtain⟨g0,g1,g2,g3⟩:=bt.out _ ey.out;have gb:BX<W3.heap.size:=aac g0;go_wp2_with (go_at_call 121;refine (HB.out _ (bH.out _ ey.out)).mono ?_;rintro e V0 ⟨bv,rfl,dk,de⟩;obtain⟨gj,gl,fB,-⟩:=id dk.val;subst fB);have fp:(adn bs).length<=2 * n:=by have:=aeP a7.out bs.length;rw [ai.out] at this;unfold adn;rw [ai.out];exact this
 obtain⟨K,hK⟩:∃K,K=(adn bs).length:=⟨_,rfl⟩
 rw [<-hK] at dk fp ⊢;have HK:=hid hK;have fk:=hid dk;have eJ:OB<V0.heap.size:=by have:=de.size;have:=dM.out;omega
 have cQ:adV V0 V0 OB n (fun _ => .slice none 0 0) (fun _ => .slice none 0 0) (adj bs 0) :=
  ⟨Aad _,fun _ _ _=>rfl,⟨rfl,rfl,rfl⟩,eJ,cj.out.of_block (de.block OB (by have:=dM.out;omega)),⟨fun t ht=>by simpa [adj] using World.ownsRow_nil _ _ _ _,fun t u k _ _ _ hk=>by cases hk⟩⟩
 have dG:=hid cQ;have dq:Hid (Below wA.heap.size wA V0):=eB.out.trans (de.mono eB.out.size);have cl:=hid (eF.out.later aae dq.out);have ck:=hid (fj.out.later aax dq.out);have ew:Hid (Below W.heap.size W V0):=b7.out.trans (dq.out.mono b7.out.size);have cU:Hid (UP≠OB∧w.heap.size<=OB):=by
  have h1:=eF.out.live (by decide) (fun _ _ h=>h);obtain⟨_,_,_,e,h5,-⟩:=h1.get (k:=0) (by rw [adD,ai.out];exact eY);cases e;have h2:=h5.2;have h3:=b7.out.size;have h4:=br.out.size;have h6:=dn.out;exact⟨by omega,by omega⟩
 clear dk hK cQ de g0 g1 g2 g3 zf gb eJ;go_loopw [26] (fun s26 wr=>∃(k:Nat) (V:Nat->Value),k<=K∧s26 = .int .i64 (k:Int)∧adV V0 wr OB n V V (adj bs k)) (fun s26 _=>K - (intOf s26).toNat)
 case atStart=>exact⟨0,_,Aah _,rfl,dG.out⟩
 case round =>
  obtain⟨wo,ev⟩:∃wo:World,wo=wr:=⟨_,rfl⟩
  subst ev;obtain⟨k,V,hk,rfl,be⟩:=hrel;have dw:=hid be
  by_cases hkK:k<K
  . have aN:k<(adn bs).length:=by rw [<-HK.out];exact hkK
    obtain⟨⟨pt,ph⟩,dh⟩:∃pr,pr=(adn bs)[k]:=⟨_,rfl⟩
    have aY:=ajB a7.out _ (Aaf aN);rw [<-dh,ai.out] at aY;dsimp only at aY;obtain⟨bb,fm,cs,dS,eL,e4,-,bz⟩:=(be.sl abE (fun b hb=>by have:=hb.1;have:=dM.out;omega) fk.out).get aN;subst dS;have ee:cs=[.int .i64 pt,.int .i64 ph]:=by
     have h:cs=[.int .i64 ((adn bs)[k]).1,.int .i64 ((adn bs)[k]).2]:=e4;rw [<-dh] at h;exact h
    subst ee;obtain⟨l0,l1⟩:=bz.get2;obtain⟨tl,rfl⟩:=Aas aY.1.1;obtain⟨hd,rfl⟩:=Aas aY.2.1;have fR:tl<n:=by omega
    have aF:hd<n:=by omega
    have ae:Hid (adj bs (k+1)=aeO bs (adj bs k) ((tl:Int),(hd:Int))):=by show _=_;rw [agH bs k aN,<-dh]
    have dC:Hid (∀V,Below wo.heap.size wo V->Calls Tryz.prog 122 #[.slice (some ⟨UP,0,none⟩) n n,.int .i64 (hd:Int),.int .i64 (tl:Int)] V fun e w'=>e = .returned (.bool (ab2 (aei bs) (hd:Int) (psF bs tl+1) (tl:Int)))∧V=w'):=fun V hV=>by
     have h:=ami (S:=fun b=>b=UP) (some ⟨UP,0,none⟩) n n (aei bs) (psF bs) (hd:Int) (tl:Int) V ((dw.out.sl aae (fun b hb=>by have:=cU.out.1;omega) cl.out).later aae hV) (by rw [adD,ai.out]) hn (anU a7.out) (by omega);rw [Aaj] at h;exact h.mono fun _ _ ⟨h1,h2⟩=>⟨h1,h2.symm⟩
    obtain⟨q,hq⟩:∃q,q=ab2 (aei bs) (hd:Int) (psF bs tl+1) (tl:Int):=⟨_,rfl⟩
    rw [<-hq] at dC;have Hq:=hid hq;have zb:bb<wo.heap.size:=aac l0;clear be dh aY e4 bz eL aN hq;go_wp2_with fail;go_quiet (fail);obtain⟨W1,dO⟩:∃W1,W1=(wo.alloc (.cells #[.int .i64 (tl:Int),.int .i64 (hd:Int)] 188)).drewN nq:=⟨_,rfl⟩
    have aW:Below wo.heap.size wo W1:=by rw [dO];exact bE
    rw [<-dO];have bq:=dw.out.later aW;have bh:=hid bq;have al:=hid (dC.out W1 aW);have gg:=hid aW;clear l0 l1 zb dO aW dC;cases q with
    | false =>
      go_wp2_with (go_at_call 122;refine al.out.mono ?_;rintro e w' ⟨rfl,rfl⟩);go_roundw
      case rel =>
       refine⟨k+1,V,by omega,by go_num,bh.out.congr fun t _=>?_⟩;rw [ae.out];unfold aeO;rw [if_neg (by rw [Aaj,<-Hq.out];simp)]
      case measure=>simp [intOf];omega
    | true =>
      obtain⟨va,vc,hv⟩:=bq.shape aF;have c0:=bq.row.cell aF;rw [hv] at c0;have cr:=afw a7.out k (by rw [<-HK.out];exact hk) hd;have bm:=alA (bs:=bs) (tail:=(tl:Int)) (head:=(hd:Int)) (by rw [ai.out];omega) (by rw [ai.out];omega) cr;have aT:Hid (adj bs (k+1)=fun h=>if h=hd then adl (ana bs (tl:Int) (hd:Int) (adj bs k hd)) else adj bs k h):=by
       show _=_;rw [ae.out];unfold aeO;rw [if_pos (by rw [Aaj,<-Hq.out])]
       funext h
       dsimp only;rw [Aaj]
       by_cases e:h=hd
       . rw [if_pos e,if_pos e,e]
       . rw [if_neg e,if_neg e]
      rw [ai.out] at bm;obtain⟨G,hG⟩:∃G,G=ana bs (tl:Int) (hd:Int) (adj bs k hd):=⟨_,rfl⟩
      rw [<-hG] at bm aT;have dt:=hid bm;have Hv:=hid hv;obtain⟨rn,ed⟩:∃rn,rn=(adj bs k hd).length:=⟨_,rfl⟩
      rw [<-ed] at c0;have fh:=hid ed;clear bq hv cr bm hG ae dw ed;go_wp2_with (go_at_call 122;refine al.out.mono ?_;rintro e w' ⟨rfl,rfl⟩);obtain⟨W2,bx⟩:∃W2,W2=W1.alloc (.cells #[.int .i64 (hd:Int),.int .i64 (tl:Int)] 3):=⟨_,rfl⟩
      rw [<-bx];have a8:Below W1.heap.size W1 W2:=by rw [bx];exact bE
      have hX:W2.heap[W1.heap.size]?=some (.cells #[.int .i64 (hd:Int),.int .i64 (tl:Int)] 3 (0,0)):=by rw [bx];exact heap_alloc_new _ _
      have HX:=hid hX;have dH:=hid (bh.out.later a8);clear bx a8 hX c0
      go_loopg [10, 11] (aky n) (fun g s10 s11 wr => ∃ (row inn : List Int) (V' : Nat -> Value) (ia : Option Addr) (ic qg qo qc : Nat), s10 = .slice ia inn.length ic ∧ s11 = .slice (some ⟨qg, qo, none⟩) row.length qc ∧
       ap5 bs V0 wr OB n V (adj bs k) hd G g (.slice ia inn.length ic) (.slice (some ⟨qg, qo, none⟩) row.length qc) row inn V')
      case atStart =>
       refine⟨[(hd:Int),(tl:Int)],adj bs k hd,V,va,vc,W1.heap.size,0,2,by rw [fh.out],rfl,⟨dH.out.congr (fun t _=>?_),Hv.out,fun _ _=>rfl,⟨W1.heap.size,0,2,_,rfl,?_,HX.out,Aad _,by unfold maxLen;decide,Aad _,fun i x hx=>?_⟩,fun t ht kk ax e=>?_,dt.out,Aad _⟩⟩
       . by_cases e:t=hd
         . rw [if_pos e,e]
         . rw [if_neg e]
       . have:=bh.out.size;exact this
       . match i,hx with
         | 0,hx=>cases hx;rfl
         | 1,hx=>cases hx;rfl
         | i+2,hx=>simp at hx
       . cases e
         have:=((bh.out.fam.own t ht).lt _ ax).2;dsimp only at this;omega
      case round =>
       obtain⟨wm,fV⟩:∃wm:World,wm=wr:=⟨_,rfl⟩
       subst fV;obtain⟨row,inn,V',ia,ic,qg,qo,qc,rfl,rfl,aq⟩:=hrel;have ao:=hid aq;cases row with
       | nil =>
         have dV:inn=G:=aq.ga.done;subst dV;have bp:=aq.ga.ok;have af:aaz V0.heap.size wm (.slice ia inn.length ic) inn:=by
          have h:=aq.st.get aF;rw [aq.iv] at h;simp only [if_pos] at h;exact⟨h,fun x hx=>by have:=bp.have_ x hx;unfold I64;omega⟩
         have df:=bp.many;have bw:=hid (aj7 af (by omega));have cZ:=hid (fun (X:World) (v':Value) (l:List Int)=>aq.push (W2:=X) (v':=v') (l:=l) aF (Below.refl _ _));obtain⟨il,ar⟩:∃il,il=inn.length:=⟨_,rfl⟩
         rw [<-ar] at bw cZ ⊢;have aG:=hid ar;have gh:Hid (V' hd = .slice ia il ic):=by show _=_;rw [ar];exact aq.iv
         have aJ:=hid aq.st.row;clear aq bp af df ar
         go_wp2_with (go_at_call 124; refine bw.out.mono ?_; rintro e w7 ⟨rfl, eZ, dT⟩
                      obtain ⟨az, -, -, ay⟩ := cZ.out w7 (.slice ia il ic) (adl inn) eZ.1 dT (fun _ h => .inl h)
                      have c7 := az.row.cell aF
                      have f7 := az.row.frozen hd
                      have eg := az.store (t := hd) ay
                      rw [if_pos rfl] at eg
                      have fi := hid eg
                      have z7 : OB < w7.heap.size := aac c7
                      clear eZ dT az ay eg)
         go_roundw
         case rel =>
          refine⟨k+1,_,by omega,by go_num,fi.out.congr fun t _=>?_⟩;rw [aT.out]
         case measure=>simp [intOf];omega
       | cons b row' =>
         have bp:=aq.ga.ok;have bM:=bp.wait b (Aa7 ..);obtain⟨bk,rfl⟩:=Aas bM.1;have aX:bk<n:=by omega
         have fK:=aq.que.head;have di:=aq.que.tail;obtain⟨g9,o9,c9,eb,-,fN,fP,gu⟩:=aq.que.opens;cases eb;have af:=aq.st.get aF;rw [aq.iv] at af;simp only [if_pos] at af;have bW:=afG af (fun x hx=>by have:=bp.have_ x hx;unfold I64;omega);have df:=bp.many;have av:=afU ia inn.length ic inn (bk:Int) wm bW rfl (by omega);rw [akB] at av;obtain⟨il,ar⟩:∃il,il=inn.length:=⟨_,rfl⟩
         obtain⟨rl,bT⟩:∃rl,rl=((bk:Int) :: row').length:=⟨_,rfl⟩
         have fQ:0<rl:=by rw [bT];simp
         have bU:row'.length=rl - 1:=by rw [bT];simp
         rw [<-ar] at av af df ⊢;rw [<-bT] at di fP ⊢;have aG:=hid ar;have bg:=hid bT;have al:=hid bU;have fg:=hid di;have cg:=hid (fun hc=>aq.que.tail0 (cap:=qc) hc);rw [<-bT] at cg;have dy:=hid (af.alloc (.cells #[.int .i64 (bk:Int)] 3))
         by_cases bd:(bk:Int)∈inn
         . obtain⟨m',bC,aw⟩:=aq.ga.skip bd
           rw [decide_eq_true bd] at av;have bG:=hid av;have aB:=hid aw;clear aq bp bM di af bW df av ar bT bU bd aw;go_wp2_with (go_at_call 123;refine bG.out.mono ?_;rintro e w' ⟨rfl,rfl⟩)
           . rename_i h
             go_roundg m'
             case measure=>exact bC
             case rel=>exact⟨row',inn,V',ia,ic,qg,qo,0,by rw [aG.out],by rw [al.out],⟨ao.out.st,ao.out.iv,ao.out.off,by rw [al.out];exact cg.out h,fun t ht kk ax e=>ao.out.apart t ht kk ax e,aB.out,by have:=ao.out.many;omega⟩⟩
           . go_roundg m'
             case measure=>exact bC
             case rel=>exact⟨row',inn,V',ia,ic,qg,qo+1,qc - 1,by rw [aG.out],by rw [al.out],⟨ao.out.st,ao.out.iv,ao.out.off,by rw [al.out];exact fg.out,fun t ht kk ax e=>ao.out.apart t ht kk ax e,aB.out,by have:=ao.out.many;omega⟩⟩
         . rw [decide_eq_false bd] at av
           have bG:=hid av;have eC:=hid bd;clear aq bp bM di af bW av ar bT bU bd
           go_wp2_with (first
            | (go_at_call 123; refine bG.out.mono ?_; rintro e w' ⟨rfl, rfl⟩)
            | (at_builtin; refine wpList_append_own_at _ rfl _ _ 26 rfl V0.heap.size 3 i0 (.int .i64 0) 1 8 Tryz.underlying26 hi cR cS b3 rfl (by decide) _ il _ rfl dy.out ⟨wm.heap.size, 0, none⟩ 1 1 [.int .i64 (bk : Int)] rfl rfl (cell_one_new _ _ _) ?_ ?_ ?_ ?_ ?_))
           . intro u hu;simp at hu;subst hu;rfl
           . unfold maxLen;omega
           . omega
           . have:=ao.out.st.size;simp;omega
           . intro v7 w7 aZ ag cD aK
             obtain⟨g7,aC,rfl,-,dT⟩:=acm aZ;have eU:Below wm.heap.size wm (wm.alloc (.cells #[.int .i64 (bk:Int)] 3)):=by exact bE
             obtain ⟨az, bP, bl, ay⟩ := ao.out.push aF eU (v' := .slice (some ⟨g7, 0, none⟩) (il + 1) aC) (l := inn ++ [(bk : Int)]) (by rw [Aai, Aa5, Aav, <- aG.out]; exact aZ) (by rw [<- aG.out]; exact ag)
              (fun kk ax => by
                rcases aK with h | h
                . rw [<- aG.out]; exact .inl (h.symm.trans ax)
                . rw [h] at ax; cases ax; exact .inr (by simp))
             obtain⟨V7,dc⟩:∃V7:Nat->Value,V7=fun u=>if u=hd then .slice (some ⟨g7,0,none⟩) (il+1) aC else V' u:=⟨_,rfl⟩
             have cV:Hid (V7 hd = .slice (some ⟨g7,0,none⟩) (il+1) aC):=by show _=_;rw [dc];exact if_pos rfl
             have aH:Hid (∀u,u≠hd->V7 u=V u):=by rw [dc];exact ay
             rw [<-dc] at az bl;rw [<-bg.out] at bP bl;have bj:=hid az;have ff:=hid bP;have aQ:=hid bl;have cJ:=bP.lt qg rfl;have cI:=bP.head;have cL:=bP.tail;have dA:=hid cL;have ch:=hid (fun hc=>bP.tail0 (cap:=qc) hc);have z7:=cJ.2;clear aZ ag cD aK eU az bP bl ay dc fK cL cJ fN
             by_cases hbh:bk=hd
             . obtain⟨m',bC,aw⟩:=ao.out.ga.atHead eC.out (by rw [hbh])
               have aB:=hid aw;have q1:(decide ((bk:Int)<=(hd:Int))&&decide ((hd:Int)<=(bk:Int)))=true:=aia (by rw [hbh]);have q2:(decide (bk<=hd)&&decide (hd<=bk))=true:=aoy hbh;clear aw hbh cI;go_wp2_with fail
               . rename_i h
                 go_roundg m'
                 case measure=>exact bC
                 case rel=>exact⟨row',inn++[(bk:Int)],V7,some ⟨g7,0,none⟩,aC,qg,qo,0,by rw [Aai,Aa5,<-aG.out],by rw [al.out],⟨bj.out,by rw [Aai,Aa5,<-aG.out];exact cV.out,aH.out,by rw [al.out];exact ch.out h,fun t ht kk ax e=>aQ.out t ht kk ax e,aB.out,by have:=ao.out.many;omega⟩⟩
               . go_roundg m'
                 case measure=>exact bC
                 case rel=>exact⟨row',inn++[(bk:Int)],V7,some ⟨g7,0,none⟩,aC,qg,qo+1,qc - 1,by rw [Aai,Aa5,<-aG.out],by rw [al.out],⟨bj.out,by rw [Aai,Aa5,<-aG.out];exact cV.out,aH.out,by rw [al.out];exact dA.out,fun t ht kk ax e=>aQ.out t ht kk ax e,aB.out,by have:=ao.out.many;omega⟩⟩
             . obtain⟨m',bC,aw⟩:=ao.out.ga.take eC.out (by omega) (fun x hx=>by rw [<-ai.out];exact alg bs _ x hx) (by rw [<-ai.out];exact ajy a7.out _)
               have aB:=hid aw;have q1:(decide ((bk:Int)<=(hd:Int))&&decide ((hd:Int)<=(bk:Int)))=false:=ahl (by omega);have q2:(decide (bk<=hd)&&decide (hd<=bk))=false:=apH hbh;clear aw hbh cI;have eK:∀b,w.heap.size<=b∧b<wA.heap.size->b≠OB:=fun b hb=>by have:=dn.out;omega
               obtain⟨rb,fZ,cs,fx,-,⟨rv,rfl,ak⟩,-,bz⟩:=ck.out.get (k:=bk) (by rw [acJ,ai.out];exact aX);subst fx;have hP:(aheadF bs)[bk]'(by rw [acJ,ai.out];exact aX)=aag bs 0 bk:=by
                have h:=abA (bs:=bs) (k:=bk) (by rw [ai.out];exact aX);rw [Aac,Aaa (by rw [acJ,ai.out];exact aX)] at h;exact h
               rw [hP] at ak;have dj:=bz.get1;rw [Aan] at dj;obtain⟨P,cp⟩:∃P,P=aag bs 0 bk:=⟨_,rfl⟩
               have fq:P.length<=2 * n:=by rw [cp,<-ai.out];exact afh a7.out bk
               have cq:∀x∈P,0<=x∧x<(n:Int):=by rw [cp,<-ai.out];exact fun x hx=>by have:=abB hx;omega
               rw [<-cp] at ak;obtain⟨pa,pc,rfl,-⟩:=ak.val;obtain⟨pn,b1⟩:∃pn,pn=P.length:=⟨_,rfl⟩
               rw [<-b1] at dj ak fq;have aJ:=hid ak;have eD:=hid b1;have dp:=hid cq;have eA:=hid eK
               have r0 := bj.out.cellOf dj (by
                have h := ck.out.live (by decide) afD
                obtain ⟨_, _, _, e, h5, -⟩ := h.get (k := bk) (by rw [acJ, ai.out]; exact aX)
                cases e
                exact eA.out _ h5.1)
               have zr:rb<w7.heap.size:=aac r0;have fc:Hid (ake bs ((bk:Int)).toNat=P.filter (abD bs)):=by show _=_;rw [Aaj,cp];rfl
               have cM:((bk:Int) :: row').length+pn<=17592186044415:=by
                have h1:=ao.out.ga.left;have h2:=ao.out.many;unfold aky at h2;have h3:n * (2 * n+1)<=1048576 * (2 * 1048576+1):=Nat.mul_le_mul hn (by omega);omega
               have dD:=hid cM;clear dj ak cp b1 cq hP bz eK cM;go_wp2_with fail
               go_loopw [11, 69] (fun s11 s69 wj => ∃ (j qg qo qc : Nat), j <= pn ∧ s69 = .int .i64 (j : Int) ∧ s11 = .slice (some ⟨qg, qo, none⟩) ((bk : Int) :: row' ++ (P.take j).filter (abD bs)).length qc ∧
                adV V0 wj OB n V V7 (fun u => if u = hd then inn ++ [(bk : Int)] else adj bs k u) ∧ afo V0.heap.size wj (.slice (some ⟨qg, qo, none⟩) ((bk : Int) :: row' ++ (P.take j).filter (abD bs)).length qc) ((bk : Int) :: row' ++ (P.take j).filter (abD bs)) ∧
                ahK n V7 (.slice (some ⟨qg, qo, none⟩) ((bk : Int) :: row' ++ (P.take j).filter (abD bs)).length qc)) (fun _ s69 _ => pn - (intOf s69).toNat)
               case atStart =>
                have e:(bk:Int) :: row'++(P.take 0).filter (abD bs)=(bk:Int) :: row':=by simp
                refine⟨0,qg,qo,qc,Aah _,rfl,?_,bj.out,?_,?_⟩
                . rw [e,<-bg.out]
                . rw [e,<-bg.out];exact ff.out
                . rw [e,<-bg.out];exact aQ.out
               case round =>
                obtain⟨wj,fU⟩:∃wj:World,wj=wr:=⟨_,rfl⟩
                subst fU;obtain⟨j,b5,b6,b4,hj,rfl,rfl,aM,bD,aD⟩:=hrel;have aS:=hid aM;have bI:=hid bD;have aR:=hid aD
                by_cases hjp:j<pn
                . have bo:j<P.length:=by rw [<-eD.out];exact hjp
                  have eP:=dp.out P[j] (Aaf bo);obtain⟨an,dP⟩:=Aas eP.1;have dQ:an<n:=by omega
                  obtain⟨xb,xo,fW,e0⟩:=abb (aM.sl aae eA.out aJ.out) bo;subst fW;rw [dP] at e0;have bK:an<(aei bs).length:=by rw [adD,ai.out];exact dQ
                  obtain⟨ub,uo,fS,u0⟩:=abb (aM.sl aae (fun b hb=>by have:=cU.out.1;omega) cl.out) bK;cases fS;rw [Aab] at u0;obtain⟨x,hx⟩:∃x,x=(aei bs)[an]:=⟨_,rfl⟩
                  rw [<-hx] at u0;have aY:abD bs (an:Int)=(decide ((an:Int)=0)||decide (0<=x)):=by
                   unfold abD;rw [Aaj,Aac,Aaa bK,hx];rfl
                  have aj:(P.take (j+1)).filter (abD bs)=(P.take j).filter (abD bs)++(if abD bs (an:Int)=true then [(an:Int)] else []):=by
                   rw [Aat bo,List.filter_append,dP]
                   congr 1
                   by_cases h:abD bs (an:Int)=true
                   . rw [if_pos h,Abs h];rfl
                   . rw [if_neg h,Abl h];rfl
                  have zx:xb<wj.heap.size:=aac e0;have zu:UP<wj.heap.size:=aac u0;have bF:((bk:Int) :: row'++(P.take j).filter (abD bs)).length+1<=17592186044416:=by
                   have h1:=List.length_filter_le (abD bs) (P.take j);rw [Aar] at h1;rw [Aai];have:=dD.out;omega
                  obtain⟨ql,bR⟩:∃ql,ql=((bk:Int) :: row'++(P.take j).filter (abD bs)):=⟨_,rfl⟩
                  rw [<-bR] at bI aR bF ⊢;have eE:=hid bR;obtain⟨qn,cK⟩:∃qn,qn=ql.length:=⟨_,rfl⟩
                  rw [<-cK] at bI aR bF ⊢;have cf:=hid cK;have cY:=hid aY;have ae:=hid aj;have hz:=aM.size;clear aM bD aD eP dP hx aY aj bR cK bK bo r0
                  by_cases hc:an=0∨0<=x
                  . have au:Hid ((bk:Int) :: row'++(P.take (j+1)).filter (abD bs)=ql++[(an:Int)]):=by
                     show _=_;rw [ae.out,if_pos (by rw [cY.out];rcases hc with h | h <;> simp [h]),eE.out,Abh]
                    have cu:∀(wq:World),Below wj.heap.size wj wq->afo V0.heap.size wq (.slice (some ⟨b5,b6,none⟩) qn b4) ql:=fun wq hb=>bI.out.kept (fun g hg=>hb.block g (bI.out.lt g hg).2);have b8:=hid cu;clear cu
                    by_cases eO:an=0
                    . subst eO
                      have e1:wj.cell? ⟨xb,xo+j,none⟩=some (.int .i64 0):=e0;have au:Hid ((bk:Int) :: row'++(P.take (j+1)).filter (abD bs)=ql++[0]):=au.out;clear hc e0;go_upto_region 20 with (fail)
                      go_wp2_with (at_builtin;refine adF rfl _ _ 26 rfl i0 Tryz.underlying26 hi cR cS b3 V0.heap.size ?_ (.slice (some ⟨b5,b6,none⟩) qn b4) ql rfl ?_ ⟨wj.heap.size,0,none⟩ 1 0 rfl ?_ ?_ ?_)
                      . simp;omega
                      . exact b8.out _ bE
                      . exact abd wj [.int .i64 0] 3 rfl 0 _ rfl
                      . have:=cf.out;omega
                      . intro v8 w8 bQ cx aV
                        obtain⟨g8,o8,c8,eu,-,-,-,-⟩:=bQ.opens;have cw:Below wj.heap.size wj (wj.alloc (.cells #[.int .i64 0] 3)):=by exact bE
                        obtain⟨a6,aU⟩:=aoe aS.out bI.out aR.out cw cx (fun k hk=>by have h:=aV k hk;simpa using h);subst eu;have bJ:=hid a6;have aI:=hid aU;have dz:=hid bQ;clear bQ cx aV cw a6 aU;go_wp2_with fail;go_roundw
                        case rel =>
                         refine⟨j+1,g8,o8,c8,by omega,by go_num,?_,bJ.out,?_,?_⟩
                         . rw [au.out]
                         . rw [au.out];exact dz.out
                         . rw [au.out];exact aI.out
                        case measure=>simp [intOf];omega
                    . have q3:(decide ((an:Int)<=0)&&decide ((0:Int)<=(an:Int)))=false:=ahl (by omega)
                      have q4:decide (0<=x)=true:=decide_eq_true (by omega);clear hc;go_upto_region 20 with (fail)
                      go_wp2_with (at_builtin;refine adF rfl _ _ 26 rfl i0 Tryz.underlying26 hi cR cS b3 V0.heap.size ?_ (.slice (some ⟨b5,b6,none⟩) qn b4) ql rfl ?_ ⟨wj.heap.size,0,none⟩ 1 (an:Int) rfl ?_ ?_ ?_)
                      . simp;omega
                      . exact b8.out _ bE
                      . exact abd wj [.int .i64 (an:Int)] 3 rfl 0 _ rfl
                      . have:=cf.out;omega
                      . intro v8 w8 bQ cx aV
                        obtain⟨g8,o8,c8,eu,-,-,-,-⟩:=bQ.opens;have cw:Below wj.heap.size wj (wj.alloc (.cells #[.int .i64 (an:Int)] 3)):=by exact bE
                        obtain⟨a6,aU⟩:=aoe aS.out bI.out aR.out cw cx (fun k hk=>by have h:=aV k hk;simpa using h);subst eu;have bJ:=hid a6;have aI:=hid aU;have dz:=hid bQ;clear bQ cx aV cw a6 aU;go_wp2_with fail;go_roundw
                        case rel =>
                         refine⟨j+1,g8,o8,c8,by omega,by go_num,?_,bJ.out,?_,?_⟩
                         . rw [au.out]
                         . rw [au.out];exact dz.out
                         . rw [au.out];exact aI.out
                        case measure=>simp [intOf];omega
                  . have eO:¬an=0:=fun h=>hc (.inl h)
                    have q3:(decide ((an:Int)<=0)&&decide ((0:Int)<=(an:Int)))=false:=ahl (by omega);have q4:decide (0<=x)=false:=decide_eq_false (fun h=>hc (.inr h));have au:Hid ((bk:Int) :: row'++(P.take (j+1)).filter (abD bs)=ql):=by
                     show _=_
                     rw [ae.out, if_neg (by
                      rw [cY.out]
                      have h1 : decide ((an : Int) = 0) = false := decide_eq_false (by omega)
                      rw [h1, q4]; simp), Abe, eE.out]
                    clear hc;go_wp2_with fail;go_roundw
                    case rel =>
                     refine⟨j+1,b5,b6,b4,by omega,by go_num,?_,aS.out,?_,?_⟩
                     . rw [au.out,<-cf.out]
                     . rw [au.out,<-cf.out];exact bI.out
                     . rw [au.out,<-cf.out];exact aR.out
                    case measure=>simp [intOf];omega
                . have cy:j=pn:=by omega
                  have hF:(P.take j).filter (abD bs)=ake bs ((bk:Int)).toNat:=by rw [cy,eD.out,Aay];exact fc.out.symm
                  rw [hF] at bD aD ⊢;obtain⟨rest,a1⟩:∃rest,rest=row'++ake bs ((bk:Int)).toNat:=⟨_,rfl⟩
                  have e3:(bk:Int) :: row'++ake bs ((bk:Int)).toNat=(bk:Int) :: rest:=by rw [a1];rfl
                  rw [e3] at bD aD ⊢;have bS:=bD.tail;have bu:=hid (fun hc=>bD.tail0 (cap:=b4) hc);obtain⟨g9,o9,c9,eb,-,fO,ec,fM⟩:=bD.opens;cases eb;obtain⟨ln,bO⟩:∃ln,ln=((bk:Int) :: rest).length:=⟨_,rfl⟩
                  have fH:0<ln:=by rw [bO];simp
                  have cB:rest.length=ln - 1:=by rw [bO];simp
                  rw [<-bO] at bS bu ec aD ⊢;have dB:=hid bS;have aI:=hid aD;have bf:=hid cB;have cb:Hid (acf (ake bs) (hd:Int) n (2 * n) G m' rest (inn++[(bk:Int)])):=by rw [a1];exact aB.out
                  clear aM bD aD hF a1 e3 bS bO cB cy;go_wp2_with fail
                  . rename_i h
                    go_roundg m'
                    case measure=>exact bC
                    case rel=>exact⟨rest,inn++[(bk:Int)],V7,some ⟨g7,0,none⟩,aC,b5,b6,0,by rw [Aai,Aa5,<-aG.out],by rw [bf.out],⟨aS.out,by rw [Aai,Aa5,<-aG.out];exact cV.out,aH.out,by rw [bf.out];exact bu.out h,fun t ht kk ax e=>aI.out t ht kk ax e,cb.out,by have:=ao.out.many;omega⟩⟩
                  . go_roundg m'
                    case measure=>exact bC
                    case rel=>exact⟨rest,inn++[(bk:Int)],V7,some ⟨g7,0,none⟩,aC,b5,b6+1,b4 - 1,by rw [Aai,Aa5,<-aG.out],by rw [bf.out],⟨aS.out,by rw [Aai,Aa5,<-aG.out];exact cV.out,aH.out,by rw [bf.out];exact dB.out,fun t ht kk ax e=>aI.out t ht kk ax e,cb.out,by have:=ao.out.many;omega⟩⟩
  . have dW:k=K:=by omega
    subst dW;have hz:=be.size;have e9:=br.out.size;have cR:=ew.out.size;have bX:Hid (SlAt (fun b=>w.heap.size<=b∧b<wo.heap.size) wo 1 rRow (.slice (some ⟨OB,0,none⟩) n n) (adX bs)):=by
     have h:=be.done (lo:=w.heap.size) hn cU.out.2 (fun t ht x hx=>by have:=(afw a7.out k (by rw [<-HK.out];exact Aad _) t).have_ x hx;rw [ai.out] at this;unfold I64;omega);unfold adX apt;rw [ai.out,<-HK.out];exact h
    have ca:Hid (Below w.heap.size w wo):=by
     have h:=br.out.trans (ew.out.mono e9);exact⟨be.env.1.trans h.os,be.env.2.1.trans h.tape,be.env.2.2.trans h.output,by omega,fun b hb=>(be.keep b (by omega) (by have:=cU.out.2;omega)).trans (h.block b hb)⟩
    clear be hz e9 cR;go_wp2_with fail;go_ret;exact⟨OB,rfl,bX.out,ca.out⟩
end
end Go.Proofs.YtnkfdeiigplhoaaGreatDoor
