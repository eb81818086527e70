import Derived.Test.YtpeejlpcikefcaaGreatDoorPPost
/- tidy, plain: the first Keep does not mind how blocks are numbered; so tidy does not mind how weigh laid them. tidy, plain: done twice is done once. still.Do, plain: what is still is gone behind it; done twice it is done once. turnerylaw6.many: how many instructions of a kind. -/
namespace Go.Proofs.YtpeejlpcikefcaaGreatDoor
section
theorem aku {l m:List (Int×aaA)}(hp:m.Perm l)(hs:m.Pairwise fun x y=>x.1<=y.1)(bz:(l.map Prod.fst).Nodup):m=l.mergeSort leF:=by
 refine List.Perm.eq_of_pairwise (le:=fun x y=>x.1<=y.1) ?_ hs ?_ (hp.trans (List.mergeSort_perm _ _).symm)
 . intro a b ha hb h1 h2
   have bn:a∈l:=hp.mem_iff.1 ha;have bG:b∈l:=(List.mergeSort_perm l leF).mem_iff.1 hb;have he:a.1=b.1:=by omega
   obtain⟨i,hi,rfl⟩:=Aav bn;obtain⟨j,hj,rfl⟩:=Aav bG;have hp:=Acp.1 bz;rcases Nat.lt_trichotomy i j with h | h | h
   . exact absurd (by rw [Acc,Acc];exact he) (hp i j (by simpa using hi) (by simpa using hj) h)
   . subst h;rfl
   . exact absurd (by rw [Acc,Acc];exact he.symm) (hp j i (by simpa using hj) (by simpa using hi) h)
 . have h:=List.pairwise_mergeSort (le:=leF) (fun a b c h1 h2=>by simp [leF] at *;omega) (fun a b=>by simp [leF];omega) l
   exact h.imp fun h=>by simpa [leF] using h
theorem alG {bs:List DBlock}(h:aem bs){i:Nat}(hi:(i:Int)∈aaT bs):i<bs.length:=by
 obtain⟨p1,-,-,-⟩:=abb h;have:=p1 _ hi;omega
theorem akv {bs:List DBlock}(h:aem bs):((0:Nat):Int)∈aaT bs:=by
 obtain⟨-,-,-,A,hA⟩:=abb h;rw [hA];simp
theorem aqS(at_:Nat->Int)(A:List Int)(x:DBlock):afl at_ A x=⟨x.phis.map (ae3 at_ A),x.list,⟨x.fin.kind,x.fin.on,x.fin.to.map fun t=>at_ t.toNat⟩⟩:=rfl
end
section
inductive Rch (bs : List DBlock) : Nat -> Prop
 | zero:Rch bs 0
 | step {c u:Nat}:Rch bs c->c<bs.length->(u:Int)∈(blkOf bs c).fin.to->Rch bs u
structure aoW (bs:List DBlock):Prop where
 one:∀x∈bs,∀t∈x.fin.to,1<=t
 all:∀c,c<bs.length->(blkOf bs c).fin.to≠[]->Rch bs c
section
variable {bs : List DBlock} {b : Nat}
theorem aoW.merge(h:aoW bs)(ad:ae4 bs)(hb:b<bs.length)(hm:acd bs b=true):aoW (aaJ bs b):=by
 obtain⟨h1,h2,h3,h4,h5,h6⟩:=aba ad hb hm;have ao:=aeI hb h5;have hto:∀c,c≠toJ bs b->c≠b->(blkOf (aaJ bs b) c).fin.to=(blkOf bs c).fin.to:=fun c n1 n2=>by
  rw [ao,if_neg n1,if_neg n2,(aaN ad.ok h5 c).1]
 have aX:(blkOf (aaJ bs b) b).fin.to=(blkOf bs (toJ bs b)).fin.to:=by
  rw [ao,if_neg (fun e=>h2 e.symm),if_pos rfl];rfl
 have ar:(blkOf (aaJ bs b) (toJ bs b)).fin.to=[]:=by
  rw [ao,if_pos rfl];rfl
 have bP:1<=toJ bs b:=by
  have:=h.one _ (aar hb) ((toJ bs b:Nat):Int) (by rw [h4];exact Aax.2 rfl);omega
 have aK:∀c,Rch bs c->(c≠toJ bs b->Rch (aaJ bs b) c)∧(c=toJ bs b->Rch (aaJ bs b) b):=fun c hc=>by
  induction hc with
  | zero=>exact⟨fun _ => .zero,fun e=>by omega⟩
  | @step c u _ hcl hu ih =>
    by_cases hct:c=toJ bs b
    . have aW:=ih.2 hct
      have bD:(u:Int)∈(blkOf (aaJ bs b) b).fin.to:=by rw [aX,<-hct];exact hu
      refine⟨fun _=>aW.step (by rw [aaQ];exact hb) bD,fun e=>aW⟩
    . have aZ:=ih.1 hct
      refine⟨fun al=>?_,fun e=>?_⟩
      . by_cases ag:c=b
        . subst ag
          rw [h4,Aax] at hu;omega
        . exact aZ.step (by rw [aaQ];exact hcl) (by rw [hto c hct ag];exact hu)
      . have:=h6 c hcl (by rw [<-e];exact hu)
        subst this;exact aZ
 refine⟨fun x hx t ht=>?_,fun c hc al=>?_⟩
 . obtain⟨c,hc,rfl⟩:=abS hx
   rw [aaQ] at hc
   by_cases n1:c=toJ bs b
   . rw [n1,ar] at ht;cases ht
   . by_cases n2:c=b
     . rw [n2,aX] at ht;exact h.one _ (aar h5) t ht
     . rw [hto c n1 n2] at ht;exact h.one _ (aar hc) t ht
 . rw [aaQ] at hc
   by_cases n1:c=toJ bs b
   . rw [n1,ar] at al;exact absurd rfl al
   . refine (aK c ?_).1 n1
     by_cases n2:c=b
     . subst n2;exact h.all c hb (by rw [h4];simp)
     . rw [hto c n1 n2] at al;exact h.all c hc al
theorem anr(ad:ae4 bs)(hb:b<bs.length)(hm:acd bs b=true){c:Nat}(hc:c<bs.length)(ag:c≠b)(h:acd (aaJ bs b) c=true):acd bs c=true:=by
 obtain⟨h1,h2,h3,h4,h5,h6⟩:=aba ad hb hm;have ah:=adg ad hb hm;have ao:=aeI hb h5;obtain⟨g1,g2,g3,g4,g5,g6⟩:=aba ah (by rw [aaQ];exact hc) h;rw [aaQ] at g5;have n1:c≠toJ bs b:=fun e=>by
  rw [ao,if_pos e] at g1;exact absurd g1 (by decide)
 have av:(blkOf (aaJ bs b) c).fin=(blkOf bs c).fin:=by rw [ao,if_neg n1,if_neg ag,(aaN ad.ok h5 c).1]
 have aQ:toJ (aaJ bs b) c=toJ bs c:=by unfold toJ;rw [av]
 rw [aQ] at g2 g3 g4 g5;rw [av] at g1 g4;have n2:toJ bs c≠toJ bs b:=fun e=>ag (h6 c hc (by rw [g4,e];exact Aax.2 rfl));have bo:(blkOf bs (toJ bs c)).phis.length=0:=by
  have h7:(blkOf (aaJ bs b) (toJ bs c)).phis.length=(blkOf bs (toJ bs c)).phis.length:=by
   rw [ao,if_neg n2]
   by_cases n3:toJ bs c=b
   . rw [if_pos n3]
     show (blkOf (ac7 bs (toJ bs b) b) b).phis.length=_;rw [(aaN ad.ok h5 b).2.2,n3]
   . rw [if_neg n3,(aaN ad.ok h5 _).2.2]
  rw [<-h7,g3];rfl
 have bq:=ahW ad hb hm n2 ah.ok.toNd;unfold acd at h;simp only [Ab0,decide_eq_true_eq] at h;rw [aQ] at h;unfold acd;simp only [Ab0,decide_eq_true_eq];exact⟨⟨⟨g1,g2⟩,bo⟩,by rw [<-bq];exact h.2⟩
theorem ahM : ∀ (f : Nat) (bs : List DBlock), ae4 bs -> b < bs.length -> jN bs <= f -> acd (abL f bs b) b = false
 | 0,bs,ad,hb,hf=>by
   show acd bs b=false
   by_cases hm:acd bs b=true
   . have:=ag4 ad hb hm;omega
   . simpa using hm
 | f+1,bs,ad,hb,hf=>by
   unfold abL
   by_cases hm:acd bs b=true
   . rw [if_pos hm]
     have:=ag4 ad hb hm;exact ahM f _ (adg ad hb hm) (by rw [aaQ];exact hb) (by omega)
   . rw [if_neg hm];simpa using hm
theorem agG {c : Nat} (ag : c ≠ b) : ∀ (f : Nat) (bs : List DBlock), ae4 bs -> b < bs.length -> c < bs.length -> acd bs c = false -> acd (abL f bs b) c = false
 | 0,_,_,_,_,h=>h
 | f+1,bs,ad,hb,hc,h=>by
   unfold abL
   by_cases hm:acd bs b=true
   . rw [if_pos hm]
     refine agG ag f _ (adg ad hb hm) (by rw [aaQ];exact hb) (by rw [aaQ];exact hc) ?_
     by_cases h9:acd (aaJ bs b) c=true
     . rw [anr ad hb hm hc ag h9] at h;exact absurd h (by decide)
     . simpa using h9
   . rw [if_neg hm];exact h
theorem afR (ad : ae4 bs) : ∀ k, k <= bs.length -> ∀ c, c < k -> acd (abD bs k) c = false
 | 0,_,c,h=>by omega
 | k+1,hk,c,h=>by
   obtain⟨h1,h2⟩:=acD ad k (by omega);rw [abr]
   by_cases e:c=k
   . subst e
     exact ahM _ _ h1 (by omega) (Aac _)
   . exact agG e _ _ h1 (by omega) (by omega) (afR ad k (by omega) c (by omega))
theorem afS (h : ∀ c, c < bs.length -> acd bs c = false) : ∀ k, k <= bs.length -> abD bs k = bs
 | 0,_=>rfl
 | k+1,hk=>by rw [abr,afS h k (by omega),acV (h k (by omega))]
theorem aoW.chains(h:aoW bs)(ad:ae4 bs):aoW (acm bs):=abI (P:=aoW) (fun _ _ ad hb hm h=>h.merge ad hb hm) ad h _ (Aac _)
theorem Rch.post(h:aem bs){c:Nat}(hc:Rch bs c):(c:Int)∈aaT bs:=by
 induction hc with
 | zero=>exact akv h
 | @step c u _ hcl hu ih=>exact aed h _ ih _ (by rw [Aan,acp hcl];exact hu)
theorem akw(_hok:acC bs)(ht:aem bs)(h1:∀x∈bs,∀t∈x.fin.to,1<=t):aoW (aa1 bs (ordL bs)):=by
 have ho:=aef ht;have bk:∀b∈ordL bs,b.toNat<bs.length:=fun b hb=>by have:=ho.inn b hb;omega
 have hlen:(abj bs).length=(ordL bs).length:=by unfold abj;rw [Aah]
 have ax:∀j (hj:j<(ordL bs).length),(ordL bs)[j]?=some (((abj bs)[j]'(by omega):Nat):Int):=fun j hj=>by
  have:=ho.inn _ (Aas hj);rw [Aaa hj];unfold abj;rw [Acc,Abf this.1]
 refine⟨fun x hx t ar=>?_,fun c hc al=>?_⟩
 . obtain⟨b,hb,rfl⟩:=ab1 hx
   obtain⟨t0,h0,rfl⟩:=Aal.1 (show t∈List.map _ _ from ar);obtain⟨i,g1,g2,g3⟩:=afw ho hb h0;have g4:=h1 _ (aar (bk b hb)) t0 h0;have:i≠0:=fun e=>by
    subst e;have:=ho.head.symm.trans g1;injection this with this;omega
   omega
 . rw [abg] at hc
   clear al
   induction c using Nat.strongRecOn with
   | _ c ih =>
     by_cases h0:c=0
     . subst h0;exact .zero
     . obtain⟨y,hy,j',bL,bH,rfl⟩:=al1 ht (j:=c) (by omega) (by omega)
       have aA:j'<(ordL bs).length:=by omega
       refine (ih j' bH aA).step (by rw [abg];exact aA) ?_;rw [acY (ax j' aA),Aan];show _∈List.map _ _;have hm:(abj bs)[c]'(by omega)<bs.length:=ah8 ht (Aas _);unfold aeo at hy;obtain⟨z,hz,ez⟩:=Aal.1 hy;obtain⟨i,w,k1,k2,k3⟩:=ab5.1 hz;have ei:i=(abj bs)[j']'(by omega):=by omega
       refine Aal.2 ⟨(((abj bs)[c]'(by omega):Nat):Int),?_,?_⟩
       . rw [<-ei,aaZ k1];exact k2
       . rw [Aan]
         exact adK ho.nd (ax c hc)
end
def abx(n:Nat):List Int:=(List.range n).map fun (i:Nat)=>(i:Int)
theorem aeF {n k:Nat}(h:k<n):(abx n)[k]?=some (k:Int):=by unfold abx;rw [Aak,Ab9 h];rfl
theorem ahN(n:Nat):(abx n).Nodup:=List.pairwise_map.2 ((List.nodup_range (n:=n)).imp fun h e=>h (by omega))
variable {bs:List DBlock}
theorem akx{bs':List DBlock}(h:aem bs)(h':bs'.map (·.fin.to)=bs.map (·.fin.to)):ordL bs'=ordL bs:=by
 have hl:bs'.length=bs.length:=by simpa using congrArg List.length h'
 have aJ:∀i,i<bs.length->acn bs' i=acn bs i:=fun i hi=>by
  have e:(bs'.map (·.fin.to))[i]?=(bs.map (·.fin.to))[i]?:=by rw [h']
  rw [Aak,Aak,aan bs hi,aan bs' (by omega)] at e;rw [acp hi,acp (by omega)];injection e
 have he:Eqv bs bs' (fun i=>i) fun i=>i<bs.length:=by
  refine⟨fun i hi=>hi,fun i hi=>by omega,fun i j _ _ e=>e,fun i hi t ht=>?_,fun i hi=>?_⟩
  . rw [acp hi] at ht
    have:=(h.tgt i _ (aan bs hi)).2 t ht;omega
  . rw [aJ i hi]
    conv=>lhs;rw [<-List.map_id (acn bs i)]
    refine Abx fun t ht=>?_;rw [acp hi] at ht;have:=(h.tgt i _ (aan bs hi)).2 t ht;show t=_;omega
 have e:=amR he h.pos rfl;unfold ordL;rw [e]
 congr 1
 conv=>rhs;rw [<-List.map_id (aaT bs)]
 refine Abx fun t ht=>?_;obtain⟨p1,-,-,-⟩:=abb h;have:=p1 t ht;show _=t;omega
theorem aoX(ht:aem bs):ordL (aa1 bs (ordL bs))=abx (aa1 bs (ordL bs)).length:=by
 have ho:=aef ht;have af:∀i:Nat,(i:Int)∈aaT bs->∃k:Nat,(ordL bs)[k]?=some (i:Int)∧aa8 (ordL bs) i=(k:Int)∧k<(ordL bs).length:=fun i hi=>by
  obtain⟨k,hk,e⟩:=Aav (show (i:Int)∈ordL bs from Abs.2 hi);have e1:(ordL bs)[k]?=some (i:Int):=by rw [Aaa hk,e]
  exact⟨k,e1,adK ho.nd e1,hk⟩
 have he:Eqv bs (aa1 bs (ordL bs)) (fun i=>(aa8 (ordL bs) i).toNat) fun i=>(i:Int)∈aaT bs:=by
  refine⟨fun i hi=>alG ht hi,fun i hi=>?_,fun i j hi hj e=>?_,fun i hi t h=>?_,fun i hi=>?_⟩
  . obtain⟨k,-,e,hk⟩:=af i hi
    rw [abg,e];omega
  . obtain⟨k,-,e1,-⟩:=af i hi
    obtain⟨m,-,e2,-⟩:=af j hj;exact ajo (ord:=ordL bs) (by omega) (by omega)
  . have h1:=aed ht _ hi t (by rw [Aan];exact h)
    obtain⟨p1,-,-,-⟩:=abb ht;have:=p1 t h1;rw [Abf this.1];exact h1
  . obtain⟨k,e1,e2,hk⟩:=af i hi
    rw [e2,Aan,acp (by rw [abg];exact hk),acp (alG ht hi),acY e1,Aan];show List.map _ _=_;refine Abx fun t ar=>?_;have h1:=aed ht _ hi t (by rw [Aan,acp (alG ht hi)];exact ar);obtain⟨p1,-,-,-⟩:=abb ht;have:=p1 t h1;obtain⟨m,-,e3,-⟩:=af t.toNat (by rw [Abf this.1];exact h1);rw [e3];simp
 have hz:aa8 (ordL bs) 0=0:=adK (k:=0) (x:=0) ho.nd ho.head;have e:=amR he (akv ht) (by rw [hz];rfl);have e2:ordL (aa1 bs (ordL bs))=(ordL bs).map fun t=>((aa8 (ordL bs) t.toNat).toNat:Int):=by
  show (aaT _).reverse=(aaT bs).reverse.map _;rw [e,List.map_reverse]
 rw [e2,abg];apply Aao;intro k
 by_cases hk:k<(ordL bs).length
 . rw [Aak,aeF hk,Aaa hk,Aaw]
   have hi:=ho.inn _ (Aas hk);have e3:(ordL bs)[k]?=some (((ordL bs)[k].toNat:Nat):Int):=by rw [Aaa hk,Abf hi.1]
   rw [adK ho.nd e3];simp
 . rw [Aap (by rw [Aah];omega),Aap (by unfold abx;simp;omega)]
theorem alH(ad:acC bs):aa1 bs (abx bs.length)=bs:=by
 have hp:∀i,i<bs.length->aa8 (abx bs.length) i=(i:Int):=fun i hi=>adK (ahN _) (aeF hi);apply Aao;intro k
 by_cases hk:k<bs.length
 . rw [af9 (aeF hk),aan bs hk,Aan]
   congr 1
   have hx:=aar hk;have hto:(blkOf bs k).fin.to.map (fun t=>aa8 (abx bs.length) t.toNat)=(blkOf bs k).fin.to:=by
    conv=>rhs;rw [<-List.map_id (blkOf bs k).fin.to]
    refine Abx fun t ht=>?_;have:=ad.toIn _ hx t ht;rw [hp t.toNat (by omega)];show _=t;omega
   have bm:(blkOf bs k).phis.map (ae3 (aa8 (abx bs.length)) (aaf bs 0 k))=(blkOf bs k).phis:=by
    conv=>rhs;rw [<-List.map_id (blkOf bs k).phis]
    refine Abx fun q hq=>?_;have hs:=ad.src k hk q hq;have hz:ac1 (aa8 (abx bs.length)) (aaf bs 0 k) q.src=(aaf bs 0 k).zip q.src:=by
     unfold ac1;have e:∀l:List (Int×aaA),(∀x∈l,0<=x.1∧x.1.toNat<bs.length)->l.flatMap (acB (aa8 (abx bs.length)))=l:=fun l=>by
      induction l with
      | nil=>intro _;rfl
      | cons x l ih =>
        intro h;have hx:=h x (Aa3 ..);rw [List.flatMap_cons,ih fun y hy=>h y (Aa2 _ hy)];have:acB (aa8 (abx bs.length)) x=[x]:=by
         unfold acB;rw [hp _ hx.2,if_pos (by omega)]
         congr 1
         refine Prod.ext ?_ rfl;show ((x.1.toNat:Nat):Int)=x.1;omega
        rw [this];rfl
     refine e _ fun x hx=>?_;have:=abu (List.of_mem_zip (show (x.1,x.2)∈_ from hx)).1;omega
    have aj:=acK (t:=k) bs 0 ad.toNd;have au:((aaf bs 0 k).zip q.src).map Prod.fst=aaf bs 0 k:=List.map_fst_zip (by omega)
    have hm := aku (l := (aaf bs 0 k).zip q.src) (List.Perm.refl _) (by
     have h := aj.1
     rw [<- au] at h
     exact (List.pairwise_map.1 h).imp fun h => Int.le_of_lt h) (by rw [au]; exact aj.1.imp fun h e => by omega)
    unfold ae3;rw [hz,<-hm,List.map_snd_zip (by omega)];rfl
   rw [aqS,hto,bm]
 . rw [Aap (by rw [abg];unfold abx;simp;omega),Aap (by omega)]
theorem aoY(ad:ae4 bs)(ht:aem bs)(hr:aoW bs)(hn:∀c,c<bs.length->acd bs c=false)(ah:ae4 (aa1 bs (ordL bs))):∀c,c<(aa1 bs (ordL bs)).length->acd (aa1 bs (ordL bs)) c=false:=by
 intro c hc
 by_cases hm:acd (aa1 bs (ordL bs)) c=true
 . exfalso
   obtain⟨g1,g2,g3,g4,g5,g6⟩:=aba ah hc hm;have ho:=aef ht;rw [abg] at hc g5;obtain⟨b,hb⟩:∃b,(ordL bs)[c]?=some b:=⟨_,Aaa hc⟩
   have aY:=Aae hb;have bO:=ho.inn b aY;rw [acY hb] at g1 g4;have hk:(blkOf bs b.toNat).fin.kind=2:=g1;have hl:=ad.jump _ (aar (bs:=bs) (c:=b.toNat) (by omega)) hk;obtain⟨t,aF⟩:∃t,(blkOf bs b.toNat).fin.to=[t]:=by
    match hh:(blkOf bs b.toNat).fin.to,hl with
    | [u],_=>exact⟨u,rfl⟩
   have bl:t∈(blkOf bs b.toNat).fin.to:=by rw [aF];exact Aax.2 rfl
   obtain⟨i,i1,i2,i3⟩:=afw ho aY bl;have bB:=ho.inn t (Aae i1);have bw:toJ bs b.toNat=t.toNat:=by unfold toJ;rw [aF];rfl
   have bu:toJ (aa1 bs (ordL bs)) c=i:=by
    have:((toJ (aa1 bs (ordL bs)) c:Nat):Int)=(i:Int):=by
     have e:(afl (aa8 (ordL bs)) (aaf bs 0 b.toNat) (blkOf bs b.toNat)).fin.to=[(i:Int)]:=by
      show List.map _ _=_;rw [aF,List.map_singleton,i2]
     rw [e] at g4;injection g4 with g4;exact g4.symm
    omega
   rw [bu] at g2 g3 g6;rw [acY i1] at g3;have aT:acd bs b.toNat=false:=hn _ (by omega);have:acd bs b.toNat=true:=by
    unfold acd;simp only [Ab0,decide_eq_true_eq];rw [bw];refine⟨⟨⟨hk,fun e=>g2 ?_⟩,?_⟩,?_⟩
    . have e2:t=b:=by omega
      subst e2
      exact af5 ho.nd i3 hc (by
       have a1 := Aaa i3
       have a2 := Aaa hc
       rw [i1] at a1
       rw [hb] at a2
       exact Option.some.inj (a1.symm.trans a2))
    . have:(List.map (ae3 (aa8 (ordL bs)) (aaf bs 0 t.toNat)) (blkOf bs t.toNat).phis)=[]:=g3
      rw [List.map_eq_nil_iff] at this;rw [this];rfl
    . match hh:aaf bs 0 t.toNat with
      | []=>exact Aaj _
      | [x]=>exact Aac _
      | x :: y :: l =>
        exfalso;have hs:=(acK (t:=t.toNat) bs 0 ad.ok.toNd).1;rw [hh] at hs;have bK:=(List.pairwise_cons.1 hs).1 y (Aa3 ..);have aV:∀z∈aaf bs 0 t.toNat,∃m:Nat,(ordL bs)[m]?=some z∧m=c:=fun z hz=>by
         obtain⟨k,w,k1,k2,k3⟩:=ab5.1 hz;have aq:=(Aad.1 k1).1;have bg:=(hr.all k aq (by rw [aaZ k1];intro e;rw [e] at k2;cases k2)).post ht;obtain⟨m,hm,e⟩:=Aav (show (k:Int)∈ordL bs from Abs.2 bg);have e1:(ordL bs)[m]?=some (k:Int):=by rw [Aaa hm,e]
         refine⟨m,by rw [e1,k3];simp,?_⟩;refine g6 m (by rw [abg];exact hm) ?_;rw [acY e1,Aan,aaZ k1];show (i:Int)∈List.map _ _;exact Aal.2 ⟨t,by rw [Abf bB.1] at k2;exact k2,i2⟩
        obtain⟨m,m1,m2⟩:=aV x (by rw [hh];simp);obtain⟨m',m3,m4⟩:=aV y (by rw [hh];simp);rw [m2] at m1;rw [m4] at m3;have:=Option.some.inj (m1.symm.trans m3);omega
   rw [this] at aT;exact absurd aT (by decide)
 . simpa using hm
theorem aqT{f:Int->Int}(c:Nat)(hc:c<bs.length)(hto:∀x∈bs,∀t∈x.fin.to,0<=t∧t<(bs.length:Int))(h:acd (bs.map (afB f)) c=true):acd bs c=true:=by
 have hb:∀b,b<bs.length->blkOf (bs.map (afB f)) b=afB f (blkOf bs b):=fun b hb=>aaZ (by rw [Aak,aan bs hb];rfl);have e:toJ (bs.map (afB f)) c=toJ bs c:=by unfold toJ;rw [hb c hc];rfl
 have hp:∀u,aaf (bs.map (afB f)) 0 u=aaf bs 0 u:=fun u=>acH _ _ 0 u (by rw [Abb];rfl);unfold acd at h ⊢;simp only [Ab0,decide_eq_true_eq] at h ⊢;rw [e,hb c hc,hp] at h;obtain⟨⟨⟨h1,h2⟩,h3⟩,h4⟩:=h;refine⟨⟨⟨h1,h2⟩,?_⟩,h4⟩;have bI:=aar hc;have aG:toJ bs c<bs.length:=by
  have hx:=hto _ bI;unfold toJ;cases hh:(blkOf bs c).fin.to with
  | nil=>show (0:Int).toNat<_;simp;omega
  | cons a l=>have:=hx a (by rw [hh];simp);show a.toNat<_;omega
 rw [hb _ aG] at h3;have h5:(List.map (akq f) (blkOf bs (toJ bs c)).phis).length=0:=h3;rw [Aah] at h5;exact h5
end
section
open Go.RowKit
structure arT (bs:List DBlock):Prop where
 ord:ordL bs=abx bs.length
 none:∀c,c<bs.length->acd bs c=false
variable {bs:List DBlock}
theorem aqU{p n:Nat}(h:aen n bs)(h1:∀x∈bs,∀t∈x.fin.to,1<=t)(hp:p<=n)(_hn:n<=1048576):arT (doB p n bs):=by
 have hk:=h.kept;have ae:=h.pre;have ai:aoW (amT bs):=(akw h.ok h.tok h1).chains h.keep.ch;have ay:∀c,c<(amT bs).length->acd (amT bs) c=false:=fun c hc=>by
  have hl:=(acD h.keep.ch _ (Aac _)).2;have:(amT bs).length=(aa1 bs (ordL bs)).length:=hl;exact afR h.keep.ch _ (Aac _) c (by omega)
 have bF:=aoY ae.ch ae.tok ai ay hk.ch;obtain⟨eB,-,-⟩:=adT hp hk.reg;have aH:doB p n bs=(ac3 bs).map (afB (adE (aeD p n (ac3 bs)))):=eB;have hlen:(doB p n bs).length=(ac3 bs).length:=by rw [aH,Aah]
 refine⟨?_,fun c hc=>?_⟩
 . rw [hlen,akx hk.tok (bs':=doB p n bs) (by rw [aH,Abb];rfl)]
   exact aoX ae.tok
 . by_cases hm:acd (doB p n bs) c=true
   . rw [aH] at hm
     have:=aqT c (by omega) hk.ok.toIn hm;have h9:acd (ac3 bs) c=false:=bF c (by show c<(ac3 bs).length;omega);rw [h9] at this;exact absurd this (by decide)
   . simpa using hm
theorem arT.lists(h:arT bs)(ht:aem bs){g:DBlock->DBlock}(hg:∀x,(g x).fin=x.fin∧(g x).phis=x.phis):arT (bs.map g):=by
 have hto:(bs.map g).map (·.fin.to)=bs.map (·.fin.to):=by
  rw [Abb];exact Abx fun x _=>by show (g x).fin.to=_;rw [(hg x).1]
 have hb:∀b,b<bs.length->blkOf (bs.map g) b=g (blkOf bs b):=fun b hb=>aaZ (by rw [Aak,aan bs hb];rfl);refine⟨by rw [Aah,akx ht hto,h.ord],fun c hc=>?_⟩;rw [Aah] at hc;have hn:=h.none c hc
 by_cases hm:acd (bs.map g) c=true
 . have e:toJ (bs.map g) c=toJ bs c:=by unfold toJ;rw [hb c hc,(hg _).1]
   have hp:∀u,aaf (bs.map g) 0 u=aaf bs 0 u:=fun u=>acH _ _ 0 u hto;have:acd bs c=true:=by
    unfold acd at hm ⊢;simp only [Ab0,decide_eq_true_eq] at hm ⊢;rw [e,hb c hc,hp,(hg _).1] at hm;obtain⟨⟨⟨h1,h2⟩,h3⟩,h4⟩:=hm;have aG:toJ bs c<bs.length:=by
     have hx:=(ht.tgt c _ (aan bs hc)).2;unfold toJ;cases hh:(blkOf bs c).fin.to with
     | nil=>show (0:Int).toNat<_;simp;omega
     | cons a l=>have:=hx a (by rw [hh];simp);show a.toNat<_;omega
    rw [hb _ aG,(hg _).2] at h3;exact⟨⟨⟨h1,h2⟩,h3⟩,h4⟩
   rw [this] at hn;exact absurd hn (by decide)
 . simpa using hm
theorem arT.kept(h:arT bs)(ad:acC bs):ac3 bs=bs:=by
 have e1:aa1 bs (ordL bs)=bs:=by rw [h.ord];exact alH ad
 have e2:amT bs=bs:=by
  unfold amT;rw [e1];exact afS h.none _ (Aac _)
 unfold ac3;rw [e2,e1]
section
variable {gs : List aaG} {fs : List aav}
theorem adb(f:aav):(abi f).blocks=doB f.params.toNat f.regs.toNat f.blocks:=rfl
theorem afT(f:aav):(abi f).params=f.params:=rfl
theorem alI(f:aav):(abi f).regs=doN f.params.toNat f.regs.toNat f.blocks:=rfl
def manyO(op:Int)(fs:List aav):Nat:=(ajU fs).countP fun y=>decide (y.op=op)
theorem amB(op:Int)(fs:List aav):manyO op fs=(fs.map fun f=>(f.blocks.map fun x=>x.list.countP fun y=>decide (y.op=op)).sum).sum:=by
 unfold manyO ajU ar1;rw [List.countP_flatMap]
 congr 1
 refine Abx fun f _=>?_;show List.countP _ (List.flatMap _ _)=_;rw [List.countP_flatMap];rfl
end
end
section
open Go.RowKit
def alg(op:Int)(l:List aaK):Nat:=l.countP fun y=>decide (y.op=op)
theorem aoZ(op:Int)(l:List aaK)(y:aaK):alg op (l++[y])=alg op l+if y.op=op then 1 else 0:=by
 unfold alg;rw [List.countP_append,List.countP_cons,List.countP_nil]
 by_cases h:y.op=op <;> simp [h]
theorem aqV {op:Int}{l l':List aaK}(h:l <+: l'):alg op l<=alg op l':=h.sublist.countP_le
theorem aqW {α:Type}(l:List α)(k:Nat):l.take k <+: l:=List.take_prefix k l
theorem aqX(fs:List aav)(k:Nat):ajU (fs.take k) <+: ajU fs:=by
 refine⟨(fs.drop k).flatMap ar1,?_⟩;unfold ajU;rw [<-List.flatMap_append,List.take_append_drop]
theorem aqY(bs:List DBlock)(b:Nat):insB bs b <+: insB bs bs.length:=by
 refine⟨(bs.drop b).flatMap (·.list),?_⟩;unfold insB;rw [<-List.flatMap_append,List.take_append_drop,Aa0]
set_option maxRecDepth 100000 in
set_option maxHeartbeats 4000000 in
theorem amC {S : Nat -> Prop} (ga fa : Option Addr) (gn gc n fc : Nat) (fs : List aav) (op : Int) (w : World) (hf : SlAt S w 4 abC (.slice fa n fc) fs) (hn : fs.length = n)
 (bN:fs.length<=1048576) (aO:∀f∈fs,f.blocks.length<=1048576∧∀x∈f.blocks,x.list.length<=1048576) (hm:manyO op fs<=1048576) :
 Calls Tryz.prog 13 #[.agg #[.slice ga gn gc,.slice fa n fc],.int .i64 op] w fun e w'=>e = .returned (.int .i64 ((manyO op fs:Nat):Int))∧Below w.heap.size w w':=by
 subst hn;have ae:∀l,l <+: ajU fs->alg op l<=1048576:=fun l h=>Aai (aqV h) hm;have aC:=hid ae;have ai:manyO op fs=alg op (ajU (fs.take fs.length)):=by rw [Aa0];rfl
 rw [ai];have Hf:=hid hf;have a6:=hid aO;clear hf aO ae hm ai;go_enter Tryz.func13,Tryz.ntmps13;go_wp2_with fail;obtain⟨W,hW⟩:∃W,W=w.alloc (.cells #[.slice ga gn gc,.slice fa fs.length fc] 25):=⟨_,rfl⟩
 have aI:Below w.heap.size w W:=by rw [hW];exact bE
 have a8:aal W w.heap.size 0 [.slice ga gn gc,.slice fa fs.length fc]:=by
  intro j u hj;rw [hW,Aab,World.cell?_alloc_new];simpa using hj
 rw [<-hW];have bx:=hid aI;obtain⟨-,g1⟩:=a8.get2;rw [Aab] at g1;have z0:w.heap.size<W.heap.size:=aac g1;have bC:Hid (SlAt S W 4 abC (.slice fa fs.length fc) fs):=Hf.out.later aaE aI;clear hW aI a8;go_loop [5,6] (fun s i=>∃k:Nat,k<=fs.length∧i = .int .i64 k∧s = .int .i64 ((alg op (ajU (fs.take k)):Nat):Int)) (fun _ i=>fs.length - (intOf i).toNat)
 case atStart=>exact⟨0,Aaj _,rfl,rfl⟩
 case round =>
  obtain⟨k,hk,rfl,rfl⟩:=hrel
  by_cases aq:k<fs.length
  . obtain⟨fb,bp,xa,xc,rfl,ak,aN,-,-⟩:=alu bC.out aq
    obtain⟨-,-,-,c3⟩:=ak.get4;have zf:fb<W.heap.size:=aac c3;have bt:=(a6.out _ (Aas aq)).1;have aP:=hid aN;have aB:Hid (ajU (fs.take (k+1))=ajU (fs.take k)++ar1 fs[k]):=aps aq;have aS:Hid (∀x∈fs[k].blocks,x.list.length<=1048576):=(a6.out _ (Aas aq)).2;obtain⟨bs,aD⟩:∃bs,bs=fs[k].blocks:=⟨_,rfl⟩
    have aw:Hid (ar1 fs[k]=insB bs bs.length):=by show _=_;rw [aD,arb]
    have aU:Hid (ajU (fs.take k)++insB bs bs.length <+: ajU fs):=by
     show _ <+: _;rw [<-aw.out,<-aB.out];exact aqX fs (k+1)
    rw [<-aD] at c3 bt aP aS;obtain⟨l0,aR⟩:∃l0,l0=ajU (fs.take k):=⟨_,rfl⟩
    rw [<-aR] at aB aU ⊢;clear ak aN aD aR;go_wp2_with fail;go_loop [5,7] (fun s i=>∃b:Nat,b<=bs.length∧i = .int .i64 b∧s = .int .i64 ((alg op (l0++insB bs b):Nat):Int)) (fun _ i=>bs.length - (intOf i).toNat)
    case atStart=>exact⟨0,Aaj _,rfl,by simp [insB]⟩
    case round =>
     obtain⟨b,hb,rfl,rfl⟩:=hrel
     by_cases hbl2:b<bs.length
     . obtain⟨xb,bj,pa,pc,la,lc,ta,tc,rfl,ak,-,hl,-,-,-⟩:=ame aP.out hbl2
       obtain⟨-,d1,-⟩:=ak.get6;have zx:xb<W.heap.size:=aac d1;have br:=aS.out _ (Aas hbl2);have an:Hid (insB bs (b+1)=insB bs b++bs[b].list):=apt hbl2;obtain⟨ys,aL⟩:∃ys,ys=bs[b].list:=⟨_,rfl⟩
       rw [<-aL] at d1 hl br an;have a7:Hid (l0++insB bs b++ys <+: ajU fs):=by
        show _ <+: _;rw [Abh,<-an.out];exact List.IsPrefix.trans ((List.prefix_append_right_inj l0).2 (aqY bs (b+1))) aU.out
       have Hl:=hid hl;obtain⟨l1,aE⟩:∃l1,l1=l0++insB bs b:=⟨_,rfl⟩
       rw [<-aE] at a7 ⊢;have bA:=hid aE;clear ak hl aL aE;go_wp2_with fail;go_loop [5,9] (fun s i=>∃m:Nat,m<=ys.length∧i = .int .i64 m∧s = .int .i64 ((alg op (l1++ys.take m):Nat):Int)) (fun _ i=>ys.length - (intOf i).toNat)
       case atStart=>exact⟨0,Aaj _,rfl,by simp⟩
       case round =>
        obtain⟨m,hm,rfl,rfl⟩:=hrel
        by_cases hml:m<ys.length
        . obtain⟨lb,bf,bM,bJ,rfl,ak,-,-⟩:=an9 Hl.out hml
          obtain⟨e0,-,-,-,-,-,-,-⟩:=ak.get8;have zl:lb<W.heap.size:=aac e0;obtain⟨y,hy⟩:∃y,y=ys[m]:=⟨_,rfl⟩
          rw [<-hy] at e0;have az:Hid (alg op (l1++ys.take (m+1))=alg op (l1++ys.take m)+if y.op=op then 1 else 0):=by show _=_;rw [Abp hml,<-hy,<-Abh,aoZ]
          have ag:alg op (l1++ys.take m)<=1048576:=aC.out _ (List.IsPrefix.trans ((List.prefix_append_right_inj l1).2 (aqW ys m)) a7.out);obtain⟨c,hc⟩:∃c,c=alg op (l1++ys.take m):=⟨_,rfl⟩
          rw [<-hc] at az ag ⊢;obtain⟨yo,aM⟩:∃yo,y.op=yo:=⟨_,rfl⟩
          rw [aM] at e0 az;clear ak hy hc aM
          by_cases ho:yo=op
          . have q0:(decide (yo<=op)&&decide (op<=yo))=true:=aml ho
            have Hr:Hid (alg op (l1++ys.take (m+1))=c+1):=by show _=_;rw [az.out,if_pos ho]
            clear ho;go_wp2_with fail;go_round
            case rel=>exact⟨m+1,by omega,by go_num,by rw [Hr.out];go_num⟩
            case measure=>simp [intOf];omega
          . have q0:(decide (yo<=op)&&decide (op<=yo))=false:=ac0 ho
            have Hr:Hid (alg op (l1++ys.take (m+1))=c):=by show _=_;rw [az.out,if_neg ho,Nat.add_zero]
            clear ho;go_wp2_with fail;go_round
            case rel=>exact⟨m+1,by omega,by go_num,by rw [Hr.out]⟩
            case measure=>simp [intOf];omega
        . have bh:m=ys.length:=by omega
          have Hr:Hid (l1++ys.take m=l0++insB bs (b+1)):=by show _=_;rw [bh,Aa0,bA.out,an.out,Abh]
          go_wp2_with fail;go_round
          case rel=>exact⟨b+1,by omega,by go_num,by rw [Hr.out]⟩
          case measure=>simp [intOf];omega
     . have bd:b=bs.length:=by omega
       have Hr:Hid (l0++insB bs b=ajU (fs.take (k+1))):=by show _=_;rw [bd,aB.out,aw.out]
       go_wp2_with fail;go_round
       case rel=>exact⟨k+1,by omega,by go_num,by rw [Hr.out]⟩
       case measure=>simp [intOf];omega
  . have be:k=fs.length:=by omega
    subst be;go_wp2_with fail;go_ret;exact⟨rfl,bx.out⟩
end
end Go.Proofs.YtpeejlpcikefcaaGreatDoor
