import Derived.Test.YtnkfdeiigplhoaaGreatDoorPReach0
import Derived.Test.YtnkfdeiigplhoaaGreatDoorPMeet
import Derived.Test.YtnkfdeiigplhoaaGreatDoorPKnown
/- dom.TreeOf, in plain Lean: the order of a search in depth is fit for the tree; the rounds end, and what holds then. The loops of a function, in plain Lean: the blocks of a loop are gathered from its tail on. -/
namespace Go.Proofs.YtnkfdeiigplhoaaGreatDoor
section
open Go.RowKit
variable {i:Nat}
theorem anc{tg:List Int}{t:Nat}(h:(t:Int)∈tg):(i:Int)∈adU tg t i:=by
 unfold adU;exact Aau.2 ⟨_,Abp.2 ⟨h,by simp⟩,rfl⟩
theorem aji {l:List aad}{t:Nat}:∀{s i:Nat} {x:aad},l[i]?=some x->(t:Int)∈x.fin.to->((s+i:Nat):Int)∈aag l s t:=by
 induction l with
 | nil=>intro s i x h;simp at h
 | cons b l ih =>
   intro s i x h ht;simp only [aag,Aaz];cases i with
   | zero =>
     rw [Abu] at h;cases h;exact .inl (anc ht)
   | succ i =>
     rw [Abv] at h;have:=ih (s:=s+1) h ht;rw [show s+1+i=s+(i+1) by omega] at this;exact .inr this
def af8(bs:List aad):List Int:=(aa3 bs).reverse
def aa5(bs:List aad):List Nat:=(af8 bs).map Int.toNat
def psF(bs:List aad):Nat->Nat:=atF (aa5 bs) (aa5 bs).length
def adI(bs:List aad)(x:Nat):List Nat:=(aag bs 0 x).map Int.toNat
structure adH (bs:List aad):Prop where
 pos:0<bs.length
 tgt:∀(k:Nat) (x:aad),bs[k]?=some x->x.fin.to.length<=2∧∀t∈x.fin.to,0<=t∧t<(bs.length:Int)
variable {bs:List aad}
theorem adH.tos(h:adH bs):∀b,∀t∈ab6 bs b,0<=t:=by
 intro b t ht;unfold ab6 at ht;cases e:bs[b]? with
 | none=>rw [e] at ht;cases ht
 | some x=>rw [e] at ht;exact ((h.tgt b x e).2 t ht).1
theorem acd(h:adH bs):(∀x∈aa3 bs,0<=x∧x<(bs.length:Int))∧(aa3 bs).Nodup∧ad9 bs (aa3 bs) [0]∧(∃A,aa3 bs=A++[0]):=by
 have hp:=h.pos;obtain⟨A,h1,h2⟩:=ak6 bs h.tos bs.length 0 (List.replicate bs.length false,[]) (by dsimp only;rw [List.getElem?_replicate,if_pos hp]) (by dsimp only;rw [List.count_replicate_self];exact Aad _);have e:aa3 bs=A:=by
  unfold aa3;have:=h1.left;rw [Abf] at this;exact this
 refine⟨fun x hx=>?_,by rw [e];exact h1.nodup,by rw [e];exact h2,?_⟩
 . rw [e] at hx
   have:=h1.fresh x hx;dsimp only at this;rw [Aa6] at this;exact⟨this.1,this.2.1⟩
 . obtain⟨n,hn⟩:∃n,bs.length=n+1:=⟨bs.length - 1,by omega⟩
   unfold aa3;rw [hn,adb];exact⟨_,rfl⟩
variable {j:Nat}
theorem aip{α:Type}{l:List α}(h:l.Nodup)(hi:i<l.length)(hj:j<l.length)(e:l[i]=l[j]):i=j:=by
 have h2:=List.pairwise_iff_getElem.1 h;rcases Nat.lt_trichotomy i j with h3 | h3 | h3
 . exact absurd e (h2 i j hi hj h3)
 . exact h3
 . exact absurd e.symm (h2 j i hj hi h3)
theorem anu {α:Type}{l:List α}(h:∀i j (hi:i<l.length) (hj:j<l.length),l[i]=l[j]->i=j):l.Nodup :=
 List.pairwise_iff_getElem.2 fun i j hi hj al e=>by have:=h i j hi hj e;omega
theorem aeC(hj:j<(aa5 bs).length):∃h:(aa3 bs).length - 1 - j<(aa3 bs).length,(aa5 bs)[j]=((aa3 bs)[(aa3 bs).length - 1 - j]).toNat:=by
 have e:(aa5 bs).length=(aa3 bs).length:=by unfold aa5 af8;simp
 have h:(aa3 bs).length - 1 - j<(aa3 bs).length:=by omega
 refine⟨h,?_⟩;have h2:(aa5 bs)[j]?=some ((aa3 bs)[(aa3 bs).length - 1 - j]).toNat:=by
  unfold aa5 af8;rw [Aak,List.getElem?_reverse (by omega),Aaa h];rfl
 rw [Aaa hj] at h2;exact Option.some.inj h2
theorem afF(bs:List aad):(aa5 bs).length=(aa3 bs).length:=by unfold aa5 af8;simp
theorem afE(h:adH bs)(hi:i<(aa5 bs).length)(hj:j<(aa5 bs).length)(e:(aa5 bs)[i]=(aa5 bs)[j]):i=j:=by
 obtain⟨h1,h2,-,-⟩:=acd h;obtain⟨a,ea⟩:=aeC hi;obtain⟨b,eb⟩:=aeC hj;rw [ea,eb] at e;have p1:=h1 _ (Aaf a);have p2:=h1 _ (Aaf b);have e2:(aa3 bs)[(aa3 bs).length - 1 - i]=(aa3 bs)[(aa3 bs).length - 1 - j]:=by omega
 have:=aip h2 _ _ e2;have:=afF bs;omega
theorem ahx(h:adH bs){x:Nat}(hx:x∈aa5 bs):x<bs.length:=by
 obtain⟨h1,-,-,-⟩:=acd h;unfold aa5 af8 at hx;obtain⟨y,hy,rfl⟩:=Aau.1 hx;have:=h1 y (List.mem_reverse.1 hy);omega
theorem aiq {n:Nat}:∀(l:List Nat),l.Nodup->(∀x∈l,x<n)->l.length<=n:=by
 intro l h1 h2;have:=List.Nodup.length_le_of_subset (l₁:=l) (l₂:=List.range n) h1 (fun x hx=>List.mem_range.2 (h2 x hx));simpa using this
theorem af9(h:adH bs):(aa5 bs).length<=bs.length:=by
 refine aiq _ (anu fun i j hi hj e=>afE h hi hj e) (fun x hx=>ahx h hx)
theorem aeD(h:adH bs):0<(aa5 bs).length∧∀(k:0<(aa5 bs).length),(aa5 bs)[0]=0:=by
 obtain⟨-,-,-,A,hA⟩:=acd h;have e:(aa3 bs).length=A.length+1:=by rw [hA];simp
 have hl:0<(aa5 bs).length:=by rw [afF,e];omega
 refine⟨hl,fun k=>?_⟩;obtain⟨a,ea⟩:=aeC k;rw [ea];have:(aa3 bs)[(aa3 bs).length - 1 - 0]?=some 0:=by rw [hA];simp
 rw [Aaa a] at this;injection this with this;rw [this];rfl
theorem aod(h:adH bs)(hj:j<(aa5 bs).length):psF bs (aa5 bs)[j]=j:=by
 have hm:(aa5 bs)[j]∈aa5 bs:=Aaf _;have hl:(aa5 bs).idxOf (aa5 bs)[j]<(aa5 bs).length:=List.idxOf_lt_length_iff.2 hm;unfold psF atF;rw [Aay,if_pos (aeu.2 hm)];exact afE h hl hj (List.getElem_idxOf hl)
theorem ajV(h:adH bs):psF bs 0=0:=by
 obtain⟨h1,h2⟩:=aeD h;have:=aod h h1;rw [h2 h1] at this;exact this
theorem aoM(h:adH bs)(hj:j<(aa5 bs).length)(h1:1<=j):∃y,y∈adI bs (aa5 bs)[j]∧∃j',∃h':j'<(aa5 bs).length,j'<j∧(aa5 bs)[j']=y:=by
 obtain⟨p1,p2,p3,A,hA⟩:=acd h;have el:=afF bs;obtain⟨a,ea⟩:=aeC hj;have e:(aa3 bs).length=A.length+1:=by rw [hA];simp
 rcases p3 _ a with⟨k,hk,al,hto⟩ | h0
 . have ag:(aa3 bs).length - 1 - k<(aa5 bs).length:=by omega
   obtain⟨b,eb⟩:=aeC ag;have aj:(aa3 bs).length - 1 - ((aa3 bs).length - 1 - k)=k:=by omega
   refine⟨_,?_,(aa3 bs).length - 1 - k,ag,by omega,rfl⟩;rw [eb,ea];have q:=p1 _ (Aaf a);have af:(((aa3 bs)[(aa3 bs).length - 1 - j].toNat:Nat):Int)∈ab6 bs ((aa3 bs)[k]).toNat:=by
    rw [Int.toNat_of_nonneg q.1];exact hto
   unfold ab6 at af;cases e5:bs[((aa3 bs)[k]).toNat]? with
   | none=>rw [e5] at af;cases af
   | some x =>
     rw [e5] at af;have:=aji (s:=0) e5 af;unfold adI;refine Aau.2 ⟨_,this,?_⟩;simp only [aj,Aab,Aaj]
 . exfalso
   rw [Aaq] at h0;have hl:(aa3 bs)[(aa3 bs).length - 1]?=some 0:=by rw [hA];simp
   have ak:(aa3 bs).length - 1<(aa3 bs).length:=by omega
   rw [Aaa ak] at hl;injection hl with hl;have:=aip p2 _ _ (h0.trans hl.symm);omega
open Classical in
noncomputable def fpF (bs:List aad) (x:Nat):Nat:=if h:∃y,y∈adI bs x∧∃j j',∃(h:j<(aa5 bs).length) (h':j'<(aa5 bs).length),(aa5 bs)[j]=x∧j'<j∧(aa5 bs)[j']=y then Classical.choose h else 0
theorem apJ(h:adH bs)(hj:j<(aa5 bs).length)(h1:1<=j):fpF bs (aa5 bs)[j]∈adI bs (aa5 bs)[j]∧∃j',∃h':j'<(aa5 bs).length,j'<j∧(aa5 bs)[j']=fpF bs (aa5 bs)[j]:=by
 obtain⟨y,h2,j',h3,h4,h5⟩:=aoM h hj h1;have hex:∃y,y∈adI bs (aa5 bs)[j]∧∃j2 j',∃(h:j2<(aa5 bs).length) (h':j'<(aa5 bs).length),(aa5 bs)[j2]=(aa5 bs)[j]∧j'<j2∧(aa5 bs)[j']=y:=⟨y,h2,j,j',hj,h3,rfl,h4,h5⟩
 have hc:=Classical.choose_spec hex;have e:fpF bs (aa5 bs)[j]=Classical.choose hex:=by unfold fpF;rw [dif_pos hex]
 rw [e];obtain⟨c1,k,k',c2,c3,c4,c5,c6⟩:=hc;have:=afE h c2 hj c4;exact⟨c1,k',c3,by omega,c6⟩
theorem afI(h:adH bs):Rpo bs.length (aa5 bs) (psF bs) (adI bs) (fpF bs) :=
 ⟨(aeD h).1,af9 h,fun _ hx=>ahx h hx,fun _ hj=>aod h hj,(aeD h).2,fun _ hj h1=>apJ h hj h1⟩
section
variable {n : Nat} {ord : List Nat} {ps : Nat -> Nat} {ad : Nat -> List Nat} {fp : Nat -> Nat}
theorem aml {s:(Nat->Int)×Bool}{b:Nat}(h:∀x,-1<=s.1 x)(hb : -1<=abu ps s.1 (-1) (ad b)):∀x,-1<=(adB ps ad s b).1 x:=by
 intro x;unfold adB
 by_cases ae:s.1 b≠abu ps s.1 (-1) (ad b)
 . rw [if_pos ae]
   dsimp only
   by_cases hx:x=b
   . rw [hx,aa1];exact hb
   . rw [abl _ _ hx];exact h x
 . rw [if_neg ae];exact h x
structure PSt (n:Nat)(ord:List Nat)(ps:Nat->Nat)(ad:Nat->List Nat)(fp:Nat->Nat)(u0:Nat->Int)(i:Nat)(s:(Nat->Int)×Bool):Prop where
 d:DSt n ord ps ad fp i s.1
 low:∀x,-1<=s.1 x
 le:muF n ps s.1<=muF n ps u0
 lt:s.2=true->muF n ps s.1<muF n ps u0
 same:s.2=false->s.1=u0∧∀j (h:j<ord.length),1<=j->j<i->u0 ord[j]=abu ps u0 (-1) (ad ord[j])
theorem PSt.next(ho:Rpo n ord ps ad fp){u0:Nat->Int}{i:Nat}{s:(Nat->Int)×Bool}(h:PSt n ord ps ad fp u0 i s)(h1:1<=i)(hi:i<ord.length):PSt n ord ps ad fp u0 (i+1) (adB ps ad s ord[i]):=by
 obtain⟨g1,g2,g3⟩:=ao1 ho h.d h1 hi;obtain⟨an,-,-,-⟩:=h.d.turn ho h1 hi;refine⟨g1,aml h.low (by omega),Aag g2 h.le,fun hs=>?_,fun hs=>?_⟩
 . by_cases ae:s.1 ord[i]≠abu ps s.1 (-1) (ad ord[i])
   . exact Aap (g3 ae) h.le
   . unfold adB at hs ⊢
     rw [if_neg ae] at hs ⊢;exact h.lt hs
 . by_cases ae:s.1 ord[i]≠abu ps s.1 (-1) (ad ord[i])
   . unfold adB at hs
     rw [if_pos ae] at hs;cases hs
   . have he:s.1 ord[i]=abu ps s.1 (-1) (ad ord[i]):=Classical.not_not.1 ae
     unfold adB at hs ⊢;rw [if_neg ae] at hs ⊢;obtain⟨k1,k2⟩:=h.same hs;refine⟨k1,fun j hj h2 h3=>?_⟩
     by_cases hji:j=i
     . subst hji;rw [<-k1];exact he
     . exact k2 j hj h2 (by omega)
theorem aoN(ho:Rpo n ord ps ad fp){u0:Nat->Int}:∀(m i:Nat) (s:(Nat->Int)×Bool),PSt n ord ps ad fp u0 i s->1<=i->i+m=ord.length->PSt n ord ps ad fp u0 ord.length (agc ps ad (ord.drop i) s):=by
 intro m
 induction m with
 | zero =>
   intro i s h h1 he;rw [List.drop_of_length_le (by omega),show ord.length=i by omega];exact h
 | succ m ih =>
   intro i s h h1 he;rw [List.drop_eq_getElem_cons (by omega)];exact ih (i+1) _ (h.next ho h1 (by omega)) (by omega) (by omega)
structure Rest (n:Nat)(ord:List Nat)(ps:Nat->Nat)(ad:Nat->List Nat)(fp:Nat->Nat)(up:Nat->Int):Prop where
 d:DSt n ord ps ad fp 1 up
 low:∀x,-1<=up x
 fix:∀j (h:j<ord.length),1<=j->up ord[j]=abu ps up (-1) (ad ord[j])
theorem PSt.zero {up:Nat->Int}(h:DSt n ord ps ad fp 1 up)(hl:∀x,-1<=up x):PSt n ord ps ad fp up 1 (up,false) :=
 ⟨h,hl,Aad _,fun h=>(by cases h),fun _=>⟨rfl,fun j hj h1 h2=>by omega⟩⟩
theorem ak3(ho:Rpo n ord ps ad fp):∀(f:Nat) (up:Nat->Int),DSt n ord ps ad fp 1 up->(∀x,-1<=up x)->muF n ps up<f->Rest n ord ps ad fp (ak2 ps ad ord.tail f up):=by
 intro f
 induction f with
 | zero=>intro up _ _ h;omega
 | succ f ih =>
   intro up hd hl hf;have hp:=aoN ho (ord.length - 1) 1 (up,false) (PSt.zero hd hl) (Aad _) (by have:=ho.pos;omega);rw [List.drop_one] at hp;rw [ak2]
   by_cases hc:(agc ps ad ord.tail (up,false)).2=true
   . rw [if_pos hc]
     exact ih _ (hp.d.again ho) hp.low (by have:=hp.lt hc;omega)
   . rw [if_neg hc]
     have ai:(agc ps ad ord.tail (up,false)).2=false:=by simpa using hc
     obtain⟨k1,k2⟩:=hp.same ai;rw [k1];exact⟨hd,hl,fun j hj h1=>k2 j hj h1 hj⟩
end
def aiy(bs:List aad):Nat->Int:=ak2 (psF bs) (adI bs) (aa5 bs).tail (muF bs.length (psF bs) up0+1) up0
theorem amg {bs:List aad}(h:adH bs):Rest bs.length (aa5 bs) (psF bs) (adI bs) (fpF bs) (aiy bs) :=
 ak3 (afI h) _ _ (DSt.start (afI h) (ajV h)) (fun x=>by unfold up0;split <;> omega) (Abc _)
def aei(bs:List aad):List Int:=(List.range bs.length).map (aeL (aiy bs) 0 (-1))
theorem adD(bs:List aad):(aei bs).length=bs.length:=by unfold aei;simp
theorem anT {bs:List aad}{k:Nat}(hk:k<bs.length):(aei bs).getD k 0=if k=0 then -1 else aiy bs k:=by
 unfold aei;rw [Aac,Aak,Aa4 hk];rfl
theorem anU {bs:List aad}(h:adH bs):an6 (aei bs) (psF bs):=by
 have hr:=amg h;refine⟨fun k hk=>?_⟩;rw [adD] at hk ⊢;rw [anT hk]
 by_cases h0:k=0
 . rw [if_pos h0];exact .inl rfl
 . rw [if_neg h0]
   by_cases hn:aiy bs k<0
   . have:=hr.low k;exact .inl (by omega)
   . refine .inr ⟨(aiy bs k).toNat,by omega,?_,?_⟩
     . exact hr.d.tree.lt _ (hr.d.tree.next k (by omega))
     . exact hr.d.tree.less k (by omega) h0
end
section
open Go.RowKit
def ac0 (ad : Nat -> List Int) (head : Int) : Nat -> List Int -> List Int -> List Int
 | 0,_,inn=>inn
 | _+1,[],inn=>inn
 | m+1,b :: row,inn =>
   if b∈inn then ac0 ad head m row inn
   else if b=head then ac0 ad head m row (inn++[b])
   else ac0 ad head m (row++ad b.toNat) (inn++[b])
theorem akz (ad : Nat -> List Int) (head : Int) : ∀ (m : Nat) (inn : List Int), ac0 ad head m [] inn = inn
 | 0,_=>rfl
 | _+1,_=>rfl
structure ab8 (n:Nat)(row inn:List Int):Prop where
 wait:∀x∈row,0<=x∧x<(n:Int)
 have_:∀x∈inn,0<=x∧x<(n:Int)
 nodup:inn.Nodup
theorem ab8.many {n:Nat}{row inn:List Int}(h:ab8 n row inn):inn.length<=n:=by
 have h1:(inn.map Int.toNat).Nodup:=by
  refine List.pairwise_map.2 (List.Pairwise.imp_of_mem (fun {x y} hx hy ae e=>ae ?_) h.nodup);have a:=(h.have_ x hx).1;have b:=(h.have_ y hy).1;have e':x.toNat=y.toNat:=e;omega
 have h2:=aiq (n:=n) (inn.map Int.toNat) h1 fun x hx=>by
  obtain⟨y,hy,rfl⟩:=Aau.1 hx;obtain⟨a,b⟩:=h.have_ y hy;omega
 simpa using h2
theorem ab8.skip {n:Nat}{b:Int}{row inn:List Int}(h:ab8 n (b :: row) inn):ab8 n row inn:=⟨fun x hx=>h.wait x (Abb _ hx),h.have_,h.nodup⟩
theorem ab8.take {n:Nat}{b:Int}{row inn l:List Int}(h:ab8 n (b :: row) inn)(hb:b ∉ inn)(hl:∀x∈l,0<=x∧x<(n:Int)):ab8 n (row++l) (inn++[b]):=by
 refine⟨fun x hx=>?_,fun x hx=>?_,?_⟩
 . rcases Aaz.1 hx with hx | hx
   . exact h.wait x (Abb _ hx)
   . exact hl x hx
 . rcases Aaz.1 hx with hx | hx
   . exact h.have_ x hx
   . rw [Aaq] at hx;subst hx;exact h.wait _ (Aa7 ..)
 . rw [List.nodup_append]
   refine⟨h.nodup,by simp,fun x hx y hy e=>?_⟩;rw [Aaq] at hy;subst hy;subst e;exact hb hx
structure acf (ad:Nat->List Int)(head:Int)(n K:Nat)(R:List Int)(m:Nat)(row inn:List Int):Prop where
 ok:ab8 n row inn
 left:(n - inn.length) * (K+1)+row.length<=m
 res:ac0 ad head m row inn=R
section
variable {ad : Nat -> List Int} {hd : Int} {n K : Nat} {R : List Int} {m : Nat} {b : Int} {row inn : List Int}
theorem acf.done(h:acf ad hd n K R m [] inn):inn=R:=by rw [<-h.res,akz]
theorem acf.skip(h:acf ad hd n K R m (b :: row) inn)(hb:b∈inn):∃m',m'<m∧acf ad hd n K R m' row inn:=by
 obtain⟨ok,left,res⟩:=h;rw [Aao] at left;obtain⟨m',rfl⟩:∃m',m=m'+1:=⟨m - 1,by omega⟩
 refine⟨m',by omega,ok.skip,by omega,?_⟩;rw [ac0,if_pos hb] at res;exact res
theorem acf.atHead(h:acf ad hd n K R m (b :: row) inn)(hb:b ∉ inn)(he:b=hd):∃m',m'<m∧acf ad hd n K R m' row (inn++[b]):=by
 obtain⟨ok,left,res⟩:=h;rw [Aao] at left;obtain⟨m',rfl⟩:∃m',m=m'+1:=⟨m - 1,by omega⟩
 have hk:=ok.take (l:=[]) hb (by simp);rw [Abe] at hk;have hm:=hk.many;rw [Aai,Aa5] at hm;refine⟨m',by omega,hk,?_,?_⟩
 . rw [Aai,Aa5]
   have:(n - (inn.length+1)) * (K+1)<=(n - inn.length) * (K+1):=Nat.mul_le_mul_right _ (by omega);omega
 . rw [ac0,if_neg hb,if_pos he] at res
   exact res
theorem acf.take(h:acf ad hd n K R m (b :: row) inn)(hb:b ∉ inn)(he:b≠hd)(hl:∀x∈ad b.toNat,0<=x∧x<(n:Int))(hK:(ad b.toNat).length<=K):∃m',m'<m∧acf ad hd n K R m' (row++ad b.toNat) (inn++[b]):=by
 obtain⟨ok,left,res⟩:=h;rw [Aao] at left;obtain⟨m',rfl⟩:∃m',m=m'+1:=⟨m - 1,by omega⟩
 have hk:=ok.take hb hl;have hm:=hk.many;rw [Aai,Aa5] at hm;refine⟨m',by omega,hk,?_,?_⟩
 . rw [Aai,Aa5,Aai]
   have e:(n - inn.length) * (K+1)=(n - (inn.length+1)) * (K+1)+(K+1):=by
    rw [show n - inn.length=(n - (inn.length+1))+1 by omega,Nat.succ_mul]
   omega
 . rw [ac0,if_neg hb,if_neg he] at res
   exact res
end
end
end Go.Proofs.YtnkfdeiigplhoaaGreatDoor
