import Derived.Test.YtpeejlpcikefcaaGreatDoorPPost
/- tidy, plain: the first Keep does not mind how blocks are numbered; so tidy does not mind how weigh laid them. tidy, plain: done twice is done once. still.Do, plain: what is still is gone behind it; done twice it is done once. turnerylaw6.many: how many instructions of a kind. -/
namespace Go.Proofs.YtpeejlpcikefcaaGreatDoor
section
theorem akt {l m:List (Int×aay)}(hp:m.Perm l)(hs:m.Pairwise fun x y=>x.1<=y.1)(aY:(l.map Prod.fst).Nodup):m=l.mergeSort leF:=by
 refine List.Perm.eq_of_pairwise (le:=fun x y=>x.1<=y.1) ?_ hs ?_ (hp.trans (List.mergeSort_perm _ _).symm)
 . intro a b ha hb h1 h2
   have aW:a∈l:=hp.mem_iff.1 ha;have aJ:b∈l:=(List.mergeSort_perm l leF).mem_iff.1 hb;have he:a.1=b.1:=by omega
   obtain⟨i,hi,rfl⟩:=Aav aW;obtain⟨j,hj,rfl⟩:=Aav aJ;have hp:=Acn.1 aY;rcases Nat.lt_trichotomy i j with h | h | h
   . exact absurd (by rw [List.getElem_map,List.getElem_map];exact he) (hp i j (by simpa using hi) (by simpa using hj) h)
   . subst h;rfl
   . exact absurd (by rw [List.getElem_map,List.getElem_map];exact he.symm) (hp j i (by simpa using hj) (by simpa using hi) h)
 . have h:=List.pairwise_mergeSort (le:=leF) (fun a b c h1 h2=>by simp [leF] at *;omega) (fun a b=>by simp [leF];omega) l
   exact h.imp fun h=>by simpa [leF] using h
theorem alF {bs:List DBlock}(h:aeX bs){i:Nat}(hi:(i:Int)∈aaZ bs):i<bs.length:=by
 obtain⟨p1,-,-,-⟩:=aa9 h;have:=p1 _ hi;omega
theorem aku {bs:List DBlock}(h:aeX bs):((0:Nat):Int)∈aaZ bs:=by
 obtain⟨-,-,-,A,hA⟩:=aa9 h;rw [hA];simp
theorem aqM(at_:Nat->Int)(A:List Int)(x:DBlock):afi at_ A x=⟨x.phis.map (ae2 at_ A),x.list,⟨x.fin.kind,x.fin.on,x.fin.to.map fun t=>at_ t.toNat⟩⟩:=rfl
end
section
inductive Rch (bs : List DBlock) : Nat -> Prop
 | zero:Rch bs 0
 | step {c u:Nat}:Rch bs c->c<bs.length->(u:Int)∈(blkOf bs c).fin.to->Rch bs u
structure ap2 (bs:List DBlock):Prop where
 one:∀x∈bs,∀t∈x.fin.to,1<=t
 all:∀c,c<bs.length->(blkOf bs c).fin.to≠[]->Rch bs c
section
variable {bs : List DBlock} {b : Nat}
theorem ap2.merge(h:ap2 bs)(ad:afA bs)(hb:b<bs.length)(hm:aca bs b=true):ap2 (aaL bs b):=by
 obtain⟨h1,h2,h3,h4,h5,h6⟩:=abh ad hb hm;have ak:=afV hb h5;have hto:∀c,c≠toJ bs b->c≠b->(blkOf (aaL bs b) c).fin.to=(blkOf bs c).fin.to:=fun c n1 n2=>by
  rw [ak,if_neg n1,if_neg n2,(aaR ad.ok h5 c).1]
 have aC:(blkOf (aaL bs b) b).fin.to=(blkOf bs (toJ bs b)).fin.to:=by
  rw [ak,if_neg (fun e=>h2 e.symm),if_pos rfl];rfl
 have al:(blkOf (aaL bs b) (toJ bs b)).fin.to=[]:=by
  rw [ak,if_pos rfl];rfl
 have a8:1<=toJ bs b:=by
  have:=h.one _ (aas hb) ((toJ bs b:Nat):Int) (by rw [h4];exact Aax.2 rfl);omega
 have ay:∀c,Rch bs c->(c≠toJ bs b->Rch (aaL bs b) c)∧(c=toJ bs b->Rch (aaL bs b) b):=fun c hc=>by
  induction hc with
  | zero=>exact⟨fun _ => .zero,fun e=>by omega⟩
  | @step c u _ hcl hu ih =>
    by_cases hct:c=toJ bs b
    . have aB:=ih.2 hct
      have aK:(u:Int)∈(blkOf (aaL bs b) b).fin.to:=by rw [aC,<-hct];exact hu
      refine⟨fun _=>aB.step (by rw [aaV];exact hb) aK,fun e=>aB⟩
    . have aE:=ih.1 hct
      refine⟨fun aj=>?_,fun e=>?_⟩
      . by_cases ah:c=b
        . subst ah
          rw [h4,Aax] at hu;omega
        . exact aE.step (by rw [aaV];exact hcl) (by rw [hto c hct ah];exact hu)
      . have:=h6 c hcl (by rw [<-e];exact hu)
        subst this;exact aE
 refine⟨fun x hx t ht=>?_,fun c hc aj=>?_⟩
 . obtain⟨c,hc,rfl⟩:=abR hx
   rw [aaV] at hc
   by_cases n1:c=toJ bs b
   . rw [n1,al] at ht;cases ht
   . by_cases n2:c=b
     . rw [n2,aC] at ht;exact h.one _ (aas h5) t ht
     . rw [hto c n1 n2] at ht;exact h.one _ (aas hc) t ht
 . rw [aaV] at hc
   by_cases n1:c=toJ bs b
   . rw [n1,al] at aj;exact absurd rfl aj
   . refine (ay c ?_).1 n1
     by_cases n2:c=b
     . subst n2;exact h.all c hb (by rw [h4];simp)
     . rw [hto c n1 n2] at aj;exact h.all c hc aj
theorem ant(ad:afA bs)(hb:b<bs.length)(hm:aca bs b=true){c:Nat}(hc:c<bs.length)(ah:c≠b)(h:aca (aaL bs b) c=true):aca bs c=true:=by
 obtain⟨h1,h2,h3,h4,h5,h6⟩:=abh ad hb hm;have af:=ac9 ad hb hm;have ak:=afV hb h5;obtain⟨g1,g2,g3,g4,g5,g6⟩:=abh af (by rw [aaV];exact hc) h;rw [aaV] at g5;have n1:c≠toJ bs b:=fun e=>by
  rw [ak,if_pos e] at g1;exact absurd g1 (by decide)
 have ao:(blkOf (aaL bs b) c).fin=(blkOf bs c).fin:=by rw [ak,if_neg n1,if_neg ah,(aaR ad.ok h5 c).1]
 have aD:toJ (aaL bs b) c=toJ bs c:=by unfold toJ;rw [ao]
 rw [aD] at g2 g3 g4 g5;rw [ao] at g1 g4;have n2:toJ bs c≠toJ bs b:=fun e=>ah (h6 c hc (by rw [g4,e];exact Aax.2 rfl));have aI:(blkOf bs (toJ bs c)).phis.length=0:=by
  have h7:(blkOf (aaL bs b) (toJ bs c)).phis.length=(blkOf bs (toJ bs c)).phis.length:=by
   rw [ak,if_neg n2]
   by_cases n3:toJ bs c=b
   . rw [if_pos n3]
     show (blkOf (adF bs (toJ bs b) b) b).phis.length=_;rw [(aaR ad.ok h5 b).2.2,n3]
   . rw [if_neg n3,(aaR ad.ok h5 _).2.2]
  rw [<-h7,g3];rfl
 have aL:=ahZ ad hb hm n2 af.ok.toNd;unfold aca at h;simp only [Abg,decide_eq_true_eq] at h;rw [aD] at h;unfold aca;simp only [Abg,decide_eq_true_eq];exact⟨⟨⟨g1,g2⟩,aI⟩,by rw [<-aL];exact h.2⟩
theorem ahO : ∀ (f : Nat) (bs : List DBlock), afA bs -> b < bs.length -> jN bs <= f -> aca (abL f bs b) b = false
 | 0,bs,ad,hb,hf=>by
   show aca bs b=false
   by_cases hm:aca bs b=true
   . have:=ag7 ad hb hm;omega
   . simpa using hm
 | f+1,bs,ad,hb,hf=>by
   unfold abL
   by_cases hm:aca bs b=true
   . rw [if_pos hm]
     have:=ag7 ad hb hm;exact ahO f _ (ac9 ad hb hm) (by rw [aaV];exact hb) (by omega)
   . rw [if_neg hm];simpa using hm
theorem agF {c : Nat} (ah : c ≠ b) : ∀ (f : Nat) (bs : List DBlock), afA bs -> b < bs.length -> c < bs.length -> aca bs c = false -> aca (abL f bs b) c = false
 | 0,_,_,_,_,h=>h
 | f+1,bs,ad,hb,hc,h=>by
   unfold abL
   by_cases hm:aca bs b=true
   . rw [if_pos hm]
     refine agF ah f _ (ac9 ad hb hm) (by rw [aaV];exact hb) (by rw [aaV];exact hc) ?_
     by_cases h9:aca (aaL bs b) c=true
     . rw [ant ad hb hm hc ah h9] at h;exact absurd h (by decide)
     . simpa using h9
   . rw [if_neg hm];exact h
theorem afQ (ad : afA bs) : ∀ k, k <= bs.length -> ∀ c, c < k -> aca (abA bs k) c = false
 | 0,_,c,h=>by omega
 | k+1,hk,c,h=>by
   obtain⟨h1,h2⟩:=acD ad k (by omega);rw [abn]
   by_cases e:c=k
   . subst e
     exact ahO _ _ h1 (by omega) (Aac _)
   . exact agF e _ _ h1 (by omega) (by omega) (afQ ad k (by omega) c (by omega))
theorem afR (h : ∀ c, c < bs.length -> aca bs c = false) : ∀ k, k <= bs.length -> abA bs k = bs
 | 0,_=>rfl
 | k+1,hk=>by rw [abn,afR h k (by omega),acW (h k (by omega))]
theorem ap2.chains(h:ap2 bs)(ad:afA bs):ap2 (acC bs):=acM (P:=ap2) (fun _ _ ad hb hm h=>h.merge ad hb hm) ad h _ (Aac _)
theorem Rch.post(h:aeX bs){c:Nat}(hc:Rch bs c):(c:Int)∈aaZ bs:=by
 induction hc with
 | zero=>exact aku h
 | @step c u _ hcl hu ih=>exact aee h _ ih _ (by rw [Aan,ack hcl];exact hu)
theorem aoX(_hok:acU bs)(ht:aeX bs)(h1:∀x∈bs,∀t∈x.fin.to,1<=t):ap2 (aa7 bs (ordL bs)):=by
 have ho:=agv ht;have aX:∀b∈ordL bs,b.toNat<bs.length:=fun b hb=>by have:=ho.inn b hb;omega
 have hlen:(abj bs).length=(ordL bs).length:=by unfold abj;rw [Aah]
 have aq:∀j (hj:j<(ordL bs).length),(ordL bs)[j]?=some (((abj bs)[j]'(by omega):Nat):Int):=fun j hj=>by
  have:=ho.inn _ (Aaq hj);rw [Aaa hj];unfold abj;rw [List.getElem_map,Abi this.1]
 refine⟨fun x hx t al=>?_,fun c hc aj=>?_⟩
 . obtain⟨b,hb,rfl⟩:=ab0 hx
   obtain⟨t0,h0,rfl⟩:=Aal.1 (show t∈List.map _ _ from al);obtain⟨i,g1,g2,g3⟩:=afv ho hb h0;have g4:=h1 _ (aas (aX b hb)) t0 h0;have:i≠0:=fun e=>by
    subst e;have:=ho.head.symm.trans g1;injection this with this;omega
   omega
 . rw [abp] at hc
   clear aj
   induction c using Nat.strongRecOn with
   | _ c ih =>
     by_cases h0:c=0
     . subst h0;exact .zero
     . obtain⟨y,hy,j',a6,aV,rfl⟩:=apL ht (j:=c) (by omega) (by omega)
       have ax:j'<(ordL bs).length:=by omega
       refine (ih j' aV ax).step (by rw [abp];exact ax) ?_;rw [adi (aq j' ax),Aan];show _∈List.map _ _;have hm:(abj bs)[c]'(by omega)<bs.length:=aib ht (Aaq _);unfold aeK at hy;obtain⟨z,hz,ez⟩:=Aal.1 hy;obtain⟨i,w,k1,k2,k3⟩:=acB.1 hz;have ei:i=(abj bs)[j']'(by omega):=by omega
       refine Aal.2 ⟨(((abj bs)[c]'(by omega):Nat):Int),?_,?_⟩
       . rw [<-ei,aa2 k1];exact k2
       . rw [Aan]
         exact aef ho.nd (aq c hc)
end
def adt(n:Nat):List Int:=(List.range n).map fun (i:Nat)=>(i:Int)
theorem ahP {n k:Nat}(h:k<n):(adt n)[k]?=some (k:Int):=by unfold adt;rw [Aak,Ab8 h];rfl
theorem aoY(n:Nat):(adt n).Nodup:=List.pairwise_map.2 ((List.nodup_range (n:=n)).imp fun h e=>h (by omega))
variable {bs:List DBlock}
theorem akv{bs':List DBlock}(h:aeX bs)(h':bs'.map (·.fin.to)=bs.map (·.fin.to)):ordL bs'=ordL bs:=by
 have hl:bs'.length=bs.length:=by simpa using congrArg List.length h'
 have aw:∀i,i<bs.length->aci bs' i=aci bs i:=fun i hi=>by
  have e:(bs'.map (·.fin.to))[i]?=(bs.map (·.fin.to))[i]?:=by rw [h']
  rw [Aak,Aak,aap bs hi,aap bs' (by omega)] at e;rw [ack hi,ack (by omega)];injection e
 have he:Eqv bs bs' (fun i=>i) fun i=>i<bs.length:=by
  refine⟨fun i hi=>hi,fun i hi=>by omega,fun i j _ _ e=>e,fun i hi t ht=>?_,fun i hi=>?_⟩
  . rw [ack hi] at ht
    have:=(h.tgt i _ (aap bs hi)).2 t ht;omega
  . rw [aw i hi]
    conv=>lhs;rw [<-List.map_id (aci bs i)]
    refine Acj fun t ht=>?_;rw [ack hi] at ht;have:=(h.tgt i _ (aap bs hi)).2 t ht;show t=_;omega
 have e:=amT he h.pos rfl;unfold ordL;rw [e]
 congr 1
 conv=>rhs;rw [<-List.map_id (aaZ bs)]
 refine Acj fun t ht=>?_;obtain⟨p1,-,-,-⟩:=aa9 h;have:=p1 t ht;show _=t;omega
theorem aoZ(ht:aeX bs):ordL (aa7 bs (ordL bs))=adt (aa7 bs (ordL bs)).length:=by
 have ho:=agv ht;have ae:∀i:Nat,(i:Int)∈aaZ bs->∃k:Nat,(ordL bs)[k]?=some (i:Int)∧aa8 (ordL bs) i=(k:Int)∧k<(ordL bs).length:=fun i hi=>by
  obtain⟨k,hk,e⟩:=Aav (show (i:Int)∈ordL bs from Abw.2 hi);have e1:(ordL bs)[k]?=some (i:Int):=by rw [Aaa hk,e]
  exact⟨k,e1,aef ho.nd e1,hk⟩
 have he:Eqv bs (aa7 bs (ordL bs)) (fun i=>(aa8 (ordL bs) i).toNat) fun i=>(i:Int)∈aaZ bs:=by
  refine⟨fun i hi=>alF ht hi,fun i hi=>?_,fun i j hi hj e=>?_,fun i hi t h=>?_,fun i hi=>?_⟩
  . obtain⟨k,-,e,hk⟩:=ae i hi
    rw [abp,e];omega
  . obtain⟨k,-,e1,-⟩:=ae i hi
    obtain⟨m,-,e2,-⟩:=ae j hj;exact aju (ord:=ordL bs) (by omega) (by omega)
  . have h1:=aee ht _ hi t (by rw [Aan];exact h)
    obtain⟨p1,-,-,-⟩:=aa9 ht;have:=p1 t h1;rw [Abi this.1];exact h1
  . obtain⟨k,e1,e2,hk⟩:=ae i hi
    rw [e2,Aan,ack (by rw [abp];exact hk),ack (alF ht hi),adi e1,Aan];show List.map _ _=_;refine Acj fun t al=>?_;have h1:=aee ht _ hi t (by rw [Aan,ack (alF ht hi)];exact al);obtain⟨p1,-,-,-⟩:=aa9 ht;have:=p1 t h1;obtain⟨m,-,e3,-⟩:=ae t.toNat (by rw [Abi this.1];exact h1);rw [e3];simp
 have hz:aa8 (ordL bs) 0=0:=aef (k:=0) (x:=0) ho.nd ho.head;have e:=amT he (aku ht) (by rw [hz];rfl);have e2:ordL (aa7 bs (ordL bs))=(ordL bs).map fun t=>((aa8 (ordL bs) t.toNat).toNat:Int):=by
  show (aaZ _).reverse=(aaZ bs).reverse.map _;rw [e,List.map_reverse]
 rw [e2,abp];apply Aap;intro k
 by_cases hk:k<(ordL bs).length
 . rw [Aak,ahP hk,Aaa hk,Aaw]
   have hi:=ho.inn _ (Aaq hk);have e3:(ordL bs)[k]?=some (((ordL bs)[k].toNat:Nat):Int):=by rw [Aaa hk,Abi hi.1]
   rw [aef ho.nd e3];simp
 . rw [Aas (by rw [Aah];omega),Aas (by unfold adt;simp;omega)]
theorem alG(ad:acU bs):aa7 bs (adt bs.length)=bs:=by
 have hp:∀i,i<bs.length->aa8 (adt bs.length) i=(i:Int):=fun i hi=>aef (aoY _) (ahP hi);apply Aap;intro k
 by_cases hk:k<bs.length
 . rw [af5 (ahP hk),aap bs hk,Aan]
   congr 1
   have hx:=aas hk;have hto:(blkOf bs k).fin.to.map (fun t=>aa8 (adt bs.length) t.toNat)=(blkOf bs k).fin.to:=by
    conv=>rhs;rw [<-List.map_id (blkOf bs k).fin.to]
    refine Acj fun t ht=>?_;have:=ad.toIn _ hx t ht;rw [hp t.toNat (by omega)];show _=t;omega
   have aQ:(blkOf bs k).phis.map (ae2 (aa8 (adt bs.length)) (aaf bs 0 k))=(blkOf bs k).phis:=by
    conv=>rhs;rw [<-List.map_id (blkOf bs k).phis]
    refine Acj fun q hq=>?_;have hs:=ad.src k hk q hq;have hz:ac0 (aa8 (adt bs.length)) (aaf bs 0 k) q.src=(aaf bs 0 k).zip q.src:=by
     unfold ac0;have e:∀l:List (Int×aay),(∀x∈l,0<=x.1∧x.1.toNat<bs.length)->l.flatMap (acz (aa8 (adt bs.length)))=l:=fun l=>by
      induction l with
      | nil=>intro _;rfl
      | cons x l ih =>
        intro h;have hx:=h x (Aa2 ..);rw [List.flatMap_cons,ih fun y hy=>h y (Aa0 _ hy)];have:acz (aa8 (adt bs.length)) x=[x]:=by
         unfold acz;rw [hp _ hx.2,if_pos (by omega)]
         congr 1
         refine Prod.ext ?_ rfl;show ((x.1.toNat:Nat):Int)=x.1;omega
        rw [this];rfl
     refine e _ fun x hx=>?_;have:=abr (List.of_mem_zip (show (x.1,x.2)∈_ from hx)).1;omega
    have ag:=acK (t:=k) bs 0 ad.toNd;have an:((aaf bs 0 k).zip q.src).map Prod.fst=aaf bs 0 k:=List.map_fst_zip (by omega)
    have hm := akt (l := (aaf bs 0 k).zip q.src) (List.Perm.refl _) (by
     have h := ag.1
     rw [<- an] at h
     exact (List.pairwise_map.1 h).imp fun h => Int.le_of_lt h) (by rw [an]; exact ag.1.imp fun h e => by omega)
    unfold ae2;rw [hz,<-hm,List.map_snd_zip (by omega)];rfl
   rw [aqM,hto,aQ]
 . rw [Aas (by rw [abp];unfold adt;simp;omega),Aas (by omega)]
theorem ao0(ad:afA bs)(ht:aeX bs)(hr:ap2 bs)(hn:∀c,c<bs.length->aca bs c=false)(af:afA (aa7 bs (ordL bs))):∀c,c<(aa7 bs (ordL bs)).length->aca (aa7 bs (ordL bs)) c=false:=by
 intro c hc
 by_cases hm:aca (aa7 bs (ordL bs)) c=true
 . exfalso
   obtain⟨g1,g2,g3,g4,g5,g6⟩:=abh af hc hm;have ho:=agv ht;rw [abp] at hc g5;obtain⟨b,hb⟩:∃b,(ordL bs)[c]?=some b:=⟨_,Aaa hc⟩
   have aF:=Aae hb;have aZ:=ho.inn b aF;rw [adi hb] at g1 g4;have hk:(blkOf bs b.toNat).fin.kind=2:=g1;have hl:=ad.jump _ (aas (bs:=bs) (c:=b.toNat) (by omega)) hk;obtain⟨t,av⟩:∃t,(blkOf bs b.toNat).fin.to=[t]:=by
    match hh:(blkOf bs b.toNat).fin.to,hl with
    | [u],_=>exact⟨u,rfl⟩
   have aT:t∈(blkOf bs b.toNat).fin.to:=by rw [av];exact Aax.2 rfl
   obtain⟨i,i1,i2,i3⟩:=afv ho aF aT;have aM:=ho.inn t (Aae i1);have aO:toJ bs b.toNat=t.toNat:=by unfold toJ;rw [av];rfl
   have aP:toJ (aa7 bs (ordL bs)) c=i:=by
    have:((toJ (aa7 bs (ordL bs)) c:Nat):Int)=(i:Int):=by
     have e:(afi (aa8 (ordL bs)) (aaf bs 0 b.toNat) (blkOf bs b.toNat)).fin.to=[(i:Int)]:=by
      show List.map _ _=_;rw [av,List.map_singleton,i2]
     rw [e] at g4;injection g4 with g4;exact g4.symm
    omega
   rw [aP] at g2 g3 g6;rw [adi i1] at g3;have aH:aca bs b.toNat=false:=hn _ (by omega);have:aca bs b.toNat=true:=by
    unfold aca;simp only [Abg,decide_eq_true_eq];rw [aO];refine⟨⟨⟨hk,fun e=>g2 ?_⟩,?_⟩,?_⟩
    . have e2:t=b:=by omega
      subst e2
      exact af1 ho.nd i3 hc (by
       have a1 := Aaa i3
       have a2 := Aaa hc
       rw [i1] at a1
       rw [hb] at a2
       exact Option.some.inj (a1.symm.trans a2))
    . have:(List.map (ae2 (aa8 (ordL bs)) (aaf bs 0 t.toNat)) (blkOf bs t.toNat).phis)=[]:=g3
      rw [List.map_eq_nil_iff] at this;rw [this];rfl
    . match hh:aaf bs 0 t.toNat with
      | []=>exact Aaj _
      | [x]=>exact Aac _
      | x :: y :: l =>
        exfalso;have hs:=(acK (t:=t.toNat) bs 0 ad.ok.toNd).1;rw [hh] at hs;have a7:=(List.pairwise_cons.1 hs).1 y (Aa2 ..);have aG:∀z∈aaf bs 0 t.toNat,∃m:Nat,(ordL bs)[m]?=some z∧m=c:=fun z hz=>by
         obtain⟨k,w,k1,k2,k3⟩:=acB.1 hz;have aS:=(Aad.1 k1).1;have aU:=(hr.all k aS (by rw [aa2 k1];intro e;rw [e] at k2;cases k2)).post ht;obtain⟨m,hm,e⟩:=Aav (show (k:Int)∈ordL bs from Abw.2 aU);have e1:(ordL bs)[m]?=some (k:Int):=by rw [Aaa hm,e]
         refine⟨m,by rw [e1,k3];simp,?_⟩;refine g6 m (by rw [abp];exact hm) ?_;rw [adi e1,Aan,aa2 k1];show (i:Int)∈List.map _ _;exact Aal.2 ⟨t,by rw [Abi aM.1] at k2;exact k2,i2⟩
        obtain⟨m,m1,m2⟩:=aG x (by rw [hh];simp);obtain⟨m',m3,m4⟩:=aG y (by rw [hh];simp);rw [m2] at m1;rw [m4] at m3;have:=Option.some.inj (m1.symm.trans m3);omega
   rw [this] at aH;exact absurd aH (by decide)
 . simpa using hm
theorem aqN{f:Int->Int}(c:Nat)(hc:c<bs.length)(hto:∀x∈bs,∀t∈x.fin.to,0<=t∧t<(bs.length:Int))(h:aca (bs.map (agE f)) c=true):aca bs c=true:=by
 have hb:∀b,b<bs.length->blkOf (bs.map (agE f)) b=agE f (blkOf bs b):=fun b hb=>aa2 (by rw [Aak,aap bs hb];rfl);have e:toJ (bs.map (agE f)) c=toJ bs c:=by unfold toJ;rw [hb c hc];rfl
 have hp:∀u,aaf (bs.map (agE f)) 0 u=aaf bs 0 u:=fun u=>acH _ _ 0 u (by rw [Abl];rfl);unfold aca at h ⊢;simp only [Abg,decide_eq_true_eq] at h ⊢;rw [e,hb c hc,hp] at h;obtain⟨⟨⟨h1,h2⟩,h3⟩,h4⟩:=h;refine⟨⟨⟨h1,h2⟩,?_⟩,h4⟩;have aR:=aas hc;have aA:toJ bs c<bs.length:=by
  have hx:=hto _ aR;unfold toJ;cases hh:(blkOf bs c).fin.to with
  | nil=>show (0:Int).toNat<_;simp;omega
  | cons a l=>have:=hx a (by rw [hh];simp);show a.toNat<_;omega
 rw [hb _ aA] at h3;have h5:(List.map (akq f) (blkOf bs (toJ bs c)).phis).length=0:=h3;rw [Aah] at h5;exact h5
end
section
open Go.RowKit
structure arJ (bs:List DBlock):Prop where
 ord:ordL bs=adt bs.length
 none:∀c,c<bs.length->aca bs c=false
variable {bs:List DBlock}
theorem aqO{p n:Nat}(h:aen n bs)(h1:∀x∈bs,∀t∈x.fin.to,1<=t)(hp:p<=n)(_hn:n<=1048576):arJ (doB p n bs):=by
 have hk:=h.kept;have ai:=h.pre;have az:ap2 (apS bs):=(aoX h.ok h.tok h1).chains h.keep.ch;have ar:∀c,c<(apS bs).length->aca (apS bs) c=false:=fun c hc=>by
  have hl:=(acD h.keep.ch _ (Aac _)).2;have:(apS bs).length=(aa7 bs (ordL bs)).length:=hl;exact afQ h.keep.ch _ (Aac _) c (by omega)
 have aN:=ao0 ai.ch ai.tok az ar hk.ch;obtain⟨eB,-,-⟩:=adR hp hk.reg;have au:doB p n bs=(adn bs).map (agE (ac1 (ach p n (adn bs)))):=eB;have hlen:(doB p n bs).length=(adn bs).length:=by rw [au,Aah]
 refine⟨?_,fun c hc=>?_⟩
 . rw [hlen,akv hk.tok (bs':=doB p n bs) (by rw [au,Abl];rfl)]
   exact aoZ ai.tok
 . by_cases hm:aca (doB p n bs) c=true
   . rw [au] at hm
     have:=aqN c (by omega) hk.ok.toIn hm;have h9:aca (adn bs) c=false:=aN c (by show c<(adn bs).length;omega);rw [h9] at this;exact absurd this (by decide)
   . simpa using hm
theorem arJ.lists(h:arJ bs)(ht:aeX bs){g:DBlock->DBlock}(hg:∀x,(g x).fin=x.fin∧(g x).phis=x.phis):arJ (bs.map g):=by
 have hto:(bs.map g).map (·.fin.to)=bs.map (·.fin.to):=by
  rw [Abl];exact Acj fun x _=>by show (g x).fin.to=_;rw [(hg x).1]
 have hb:∀b,b<bs.length->blkOf (bs.map g) b=g (blkOf bs b):=fun b hb=>aa2 (by rw [Aak,aap bs hb];rfl);refine⟨by rw [Aah,akv ht hto,h.ord],fun c hc=>?_⟩;rw [Aah] at hc;have hn:=h.none c hc
 by_cases hm:aca (bs.map g) c=true
 . have e:toJ (bs.map g) c=toJ bs c:=by unfold toJ;rw [hb c hc,(hg _).1]
   have hp:∀u,aaf (bs.map g) 0 u=aaf bs 0 u:=fun u=>acH _ _ 0 u hto;have:aca bs c=true:=by
    unfold aca at hm ⊢;simp only [Abg,decide_eq_true_eq] at hm ⊢;rw [e,hb c hc,hp,(hg _).1] at hm;obtain⟨⟨⟨h1,h2⟩,h3⟩,h4⟩:=hm;have aA:toJ bs c<bs.length:=by
     have hx:=(ht.tgt c _ (aap bs hc)).2;unfold toJ;cases hh:(blkOf bs c).fin.to with
     | nil=>show (0:Int).toNat<_;simp;omega
     | cons a l=>have:=hx a (by rw [hh];simp);show a.toNat<_;omega
    rw [hb _ aA,(hg _).2] at h3;exact⟨⟨⟨h1,h2⟩,h3⟩,h4⟩
   rw [this] at hn;exact absurd hn (by decide)
 . simpa using hm
theorem arJ.kept(h:arJ bs)(ad:acU bs):adn bs=bs:=by
 have e1:aa7 bs (ordL bs)=bs:=by rw [h.ord];exact alG ad
 have e2:apS bs=bs:=by
  unfold apS;rw [e1];exact afR h.none _ (Aac _)
 unfold adn;rw [e2,e1]
section
variable {gs : List aaF} {fs : List aaz}
theorem ad7(f:aaz):(abx f).blocks=doB f.params.toNat f.regs.toNat f.blocks:=rfl
theorem afS(f:aaz):(abx f).params=f.params:=rfl
theorem alH(f:aaz):(abx f).regs=doN f.params.toNat f.regs.toNat f.blocks:=rfl
end
end
section
open Go.RowKit
end
end Go.Proofs.YtpeejlpcikefcaaGreatDoor
