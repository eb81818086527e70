import Derived.Test.YtnkfdeiigplhoaaGreatDoorPSortI
/- Where things stand in a list. The loops of a function, in plain Lean: the pairs that go back, the loops' blocks, in how many loops each block is, the guess. -/
namespace Go.Proofs.YtnkfdeiigplhoaaGreatDoor
section
def apk (l : List Int) : Nat -> Nat -> Int
 | 0,_ => -1
 | k+1,x=>if l.getD k 0=(x:Int) then (k:Int) else apk l k x
def acC(l:List Int)(n k:Nat):List Value:=(List.range n).map fun x=>Value.int .i64 (apk l k x)
theorem ae1(l:List Int)(n k:Nat):(acC l n k).length=n:=by simp [acC]
theorem adx(l:List Int)(n k:Nat){x:Nat}(h:x<n):(acC l n k)[x]?=some (.int .i64 (apk l k x)):=by
 unfold acC;rw [Aak,Aa4 h];rfl
theorem ajh(l:List Int)(n:Nat):acC l n 0=List.replicate n (.int .i64 (-1)):=by
 unfold acC;rw [show (fun x=>Value.int .i64 (apk l 0 x))=fun _=>Value.int .i64 (-1) from rfl,List.map_const'];simp
theorem ajg(l:List Int)(n k q:Nat)(hk:k<l.length)(hq:l[k]=(q:Int)):(acC l n k).set q (.int .i64 (k:Int))=acC l n (k+1):=by
 apply Abk;intro i;rw [List.getElem?_set,ae1];have hg:l.getD k 0=(q:Int):=by rw [Aac,Aaa hk,<-hq];rfl
 by_cases hi:i<n
 . rw [adx l n _ hi,adx l n _ hi,apk,hg]
   by_cases e:q=i
   . subst e;rw [if_pos rfl,if_pos hi,if_pos rfl]
   . rw [if_neg e,if_neg (by omega)]
 . rw [Aa8 (l:=acC l n (k+1)) (by rw [ae1];omega),Aa8 (l:=acC l n k) (by rw [ae1];omega)]
   split
   . rw [if_neg (by omega)]
   . rfl
end
section
open Go.RowKit
def ahy(bs:List aad)(x:Nat):Int:=apk (af8 bs) (af8 bs).length x
def acK(at_:Nat->Int)(b:Nat)(tg:List Int):List (Int×Int):=(tg.filter fun t=>decide (0<=at_ b)&&decide (at_ t.toNat<=at_ b)).map fun t=>((b:Int),t)
theorem akg(at_:Nat->Int)(b:Nat)(tg:List Int)(j:Nat)(h:j<tg.length):acK at_ b (tg.take (j+1))=if 0<=at_ b∧at_ tg[j].toNat<=at_ b then acK at_ b (tg.take j)++[((b:Int),tg[j])] else acK at_ b (tg.take j):=by
 unfold acK;rw [Aat h,List.filter_append,Aav]
 by_cases h1:0<=at_ b∧at_ tg[j].toNat<=at_ b
 . rw [if_pos h1];simp [h1.1,h1.2]
 . rw [if_neg h1]
   have:(decide (0<=at_ b)&&decide (at_ tg[j].toNat<=at_ b))=false:=by
    rw [Bool.eq_false_iff];intro e;rw [Bool.and_eq_true] at e;exact h1 ⟨of_decide_eq_true e.1,of_decide_eq_true e.2⟩
   simp [this]
theorem ahR(at_:Nat->Int)(b:Nat)(tg:List Int):(acK at_ b tg).length<=tg.length:=by
 unfold acK;rw [Aal];exact List.length_filter_le _ _
variable {l:List Int}
theorem agl{x:Int}:x∈adl l↔x∈l:=by unfold adl;exact List.mem_mergeSort
def acg(bs:List aad)(k:Nat):List (Int×Int):=(List.range k).flatMap fun b=>acK (ahy bs) b (adl (ab6 bs b))
def adn(bs:List aad):List (Int×Int):=acg bs bs.length
theorem afN(bs:List aad)(k:Nat):acg bs (k+1)=acg bs k++acK (ahy bs) k (adl (ab6 bs k)):=by
 unfold acg;rw [Abo,List.flatMap_append];simp
variable {bs:List aad}{k:Nat}
theorem anR(h:k<bs.length):ab6 bs k=bs[k].fin.to:=by unfold ab6;rw [Aaa h]
theorem amt(h:adH bs)(k:Nat):(ab6 bs k).length<=2:=by
 unfold ab6;cases e:bs[k]? with
 | none=>simp
 | some x=>exact (h.tgt k x e).1
theorem anS(h:adH bs)(k:Nat):∀t∈ab6 bs k,0<=t∧t<(bs.length:Int):=by
 unfold ab6;cases e:bs[k]? with
 | none=>simp
 | some x=>exact (h.tgt k x e).2
theorem aeP(h : adH bs) : ∀ k, (acg bs k).length <= 2 * k
 | 0=>by simp [acg]
 | k+1=>by
   have h1:=aeP h k;have h2:=ahR (ahy bs) k (adl (ab6 bs k));have h3:=agk (ab6 bs k);have h4:=amt h k;rw [afN,Aai];omega
theorem ajB(h:adH bs):∀p∈adn bs,(0<=p.1∧p.1<(bs.length:Int))∧(0<=p.2∧p.2<(bs.length:Int)):=by
 intro p hp;unfold adn acg at hp;obtain⟨b,hb,hp⟩:=List.mem_flatMap.1 hp;have hb:=List.mem_range.1 hb;unfold acK at hp;obtain⟨t,ht,rfl⟩:=Aau.1 hp;have h2:=anS h b t (agl.1 (Abp.1 ht).1);exact⟨by dsimp only;omega,h2⟩
def abD(bs:List aad)(a:Int):Bool:=decide (a=0)||decide (0<=(aei bs).getD a.toNat 0)
def ake(bs:List aad)(b:Nat):List Int:=(aag bs 0 b).filter (abD bs)
theorem alg(bs:List aad)(b:Nat):∀x∈ake bs b,0<=x∧x<(bs.length:Int):=by
 intro x hx;unfold ake at hx;have:=abB (Abp.1 hx).1;omega
theorem afh(h:adH bs)(b:Nat):(aag bs 0 b).length<=2 * bs.length:=by
 have h2:=ae2 bs 2 (fun i x hx=>(h.tgt i x hx).1) bs.length 0 b;rw [Aay] at h2;exact h2
theorem ajy(h:adH bs)(b:Nat):(ake bs b).length<=2 * bs.length:=by
 unfold ake;exact Aag (List.length_filter_le _ _) (afh h b)
def aky(n:Nat):Nat:=n * (2 * n+1)+2
def ana(bs:List aad)(tail head:Int)(inn:List Int):List Int:=ac0 (ake bs) head (aky bs.length) [head,tail] inn
theorem alA{tail head:Int}{inn:List Int}(h1:0<=tail∧tail<(bs.length:Int))(h2:0<=head∧head<(bs.length:Int))(hi:ab8 bs.length [] inn) :
 acf (ake bs) head bs.length (2 * bs.length) (ana bs tail head inn) (aky bs.length) [head,tail] inn:=by
 refine⟨⟨fun x hx=>?_,hi.have_,hi.nodup⟩,?_,rfl⟩
 . simp only [Aaw,List.not_mem_nil,or_false] at hx
   rcases hx with rfl | rfl
   . exact h2
   . exact h1
 . unfold aky
   have:(bs.length - inn.length) * (2 * bs.length+1)<=bs.length * (2 * bs.length+1):=Nat.mul_le_mul_right _ (Nat.sub_le _ _);simp only [Aao,Abn];omega
theorem ahn(h : adH bs) : ∀ {m : Nat} {head : Int} {R row inn : List Int}, acf (ake bs) head bs.length (2 * bs.length) R m row inn -> ab8 bs.length [] R
 | m,head,R,[],inn,g=>by
   have e:=g.done;subst e;exact⟨fun x hx=>absurd hx (List.not_mem_nil),g.ok.have_,g.ok.nodup⟩
 | m,head,R,b :: row,inn,g=>by
   by_cases hb:b∈inn
   . obtain⟨m',hm,g'⟩:=g.skip hb
     exact ahn h g'
   . by_cases he:b=head
     . obtain⟨m',hm,g'⟩:=g.atHead hb he
       exact ahn h g'
     . obtain⟨m',hm,g'⟩:=g.take hb he (alg bs _) (ajy h _)
       exact ahn h g'
 termination_by m=>m
theorem ab8.sort{n:Nat}(h:ab8 n [] l):ab8 n [] (adl l) :=
 ⟨fun _ hx=>absurd hx (List.not_mem_nil),fun x hx=>h.have_ x (agl.1 hx),(List.mergeSort_perm l _).nodup_iff.2 h.nodup⟩
def aeO(bs:List aad)(out:Nat->List Int)(p:Int×Int):Nat->List Int :=
 if ab2 (aei bs) p.2 (psF bs p.1.toNat+1) p.1=true then fun h=>if h=p.2.toNat then adl (ana bs p.1 p.2 (out h)) else out h else out
def adj(bs:List aad)(k:Nat):Nat->List Int:=((adn bs).take k).foldl (aeO bs) fun _=>[]
theorem agH(bs:List aad)(k:Nat)(h:k<(adn bs).length):adj bs (k+1)=aeO bs (adj bs k) (adn bs)[k]:=by
 unfold adj;rw [Aat h,List.foldl_append];rfl
theorem afw(h : adH bs) : ∀ k, k <= (adn bs).length -> ∀ x, ab8 bs.length [] (adj bs k x)
 | 0,_,x=>⟨fun y hy=>absurd hy (List.not_mem_nil),fun y hy=>absurd hy (List.not_mem_nil),List.nodup_nil⟩
 | k+1,hk,x=>by
   have ih:=afw h k (by omega);rw [agH bs k (by omega)];have hp:=ajB h _ (Aaf (by omega:k<(adn bs).length));unfold aeO;split
   . dsimp only
     split
     . exact (ahn h (alA hp.1 hp.2 (ih x))).sort
     . exact ih x
   . exact ih x
def apt(bs:List aad):Nat->List Int:=adj bs (adn bs).length
def adX(bs:List aad):List (List Int):=(List.range bs.length).map (apt bs)
theorem alh(h:adH bs)(x:Nat):ab8 bs.length [] (apt bs x):=afw h _ (Aad _) x
theorem ahc(bs:List aad):(adX bs).length=bs.length:=by unfold adX;simp
theorem aoo(h:k<(adX bs).length):(adX bs)[k]=apt bs k:=by
 have hk:k<bs.length:=by rw [<-ahc bs];exact h
 have h2:(adX bs)[k]?=some (apt bs k):=by unfold adX;rw [Aak,Aa4 hk];rfl
 rw [Aaa h] at h2;exact Option.some.inj h2
def deepTo(bs:List aad)(k j b:Nat):Nat:=(((adX bs).take k).flatten++((adX bs).getD k []).take j).count (b:Int)
def aeS(bs:List aad):List Int:=(List.range bs.length).map fun b=>(deepTo bs bs.length 0 b:Int)
theorem aiW(h:k<(adX bs).length)(b:Nat):deepTo bs (k+1) 0 b=deepTo bs k (adX bs)[k].length b:=by
 unfold deepTo;rw [Aat h,Aac,Aac,Aaa h,List.flatten_append,List.take_zero,Abe];simp
theorem aiX{j:Nat}(h:k<(adX bs).length)(hj:j<(adX bs)[k].length)(b:Nat):deepTo bs k (j+1) b=deepTo bs k j b+if (adX bs)[k][j]=(b:Int) then 1 else 0:=by
 unfold deepTo;rw [Aac,Aaa h];simp only [Abd];rw [Aat hj,<-Abh,List.count_append]
 congr 1
 simp [List.count_cons,List.count_nil]
theorem adY(h:l.Nodup)(b:Int):l.count b<=1:=List.nodup_iff_count.1 h b
theorem akx {L:List (List Int)}(h:∀l∈L,l.Nodup)(b:Int):L.flatten.count b<=L.length:=by
 induction L with
 | nil=>simp
 | cons l L ih =>
   have h1:=adY (h l (Aa7 ..)) b;have h2:=ih fun l hl=>h l (Abb _ hl);rw [Abm,List.count_append,Aao];omega
theorem ah6(h:adH bs)(k j b:Nat)(hk:k<=bs.length):deepTo bs k j b<=bs.length+1:=by
 unfold deepTo;rw [List.count_append];have hm:∀l∈adX bs,l.Nodup:=fun l hl=>by
  unfold adX at hl;obtain⟨i,-,rfl⟩:=Aau.1 hl;exact (alh h i).nodup
 have h1:=akx (L:=(adX bs).take k) (fun l hl=>hm l (List.mem_of_mem_take hl)) (b:Int);rw [Aar,ahc] at h1;have h2:(((adX bs).getD k []).take j).count (b:Int)<=1:=by
  refine adY (List.Nodup.sublist (List.take_sublist _ _) ?_) _;rw [Aac];cases e:(adX bs)[k]? with
  | none=>exact List.nodup_nil
  | some l=>exact hm l (Aam e)
 omega
theorem aer(bs:List aad):(aeS bs).length=bs.length:=by unfold aeS;simp
theorem ah2(h:adH bs):∀x∈aeS bs,0<=x∧x<=(bs.length:Int)+1:=by
 intro x hx;unfold aeS at hx;obtain⟨b,-,rfl⟩:=Aau.1 hx;have:=ah6 h bs.length 0 b (Aad _);omega
def aet(d:Int):Int:=((10 ^ (min d 8).toNat:Nat):Int)
def abh(l:List Int):List Int:=l.map aet
theorem aeZ(l:List Int):(abh l).length=l.length:=by unfold abh;simp
theorem alB(d:Int):1<=aet d∧aet d<=100000000:=by
 unfold aet;have h1:(min d 8).toNat<=8:=by omega
 have h2:10 ^ (min d 8).toNat<=10 ^ 8:=Nat.pow_le_pow_right (by decide) h1;have h3:0<10 ^ (min d 8).toNat:=Nat.pow_pos (by decide);omega
theorem alC(l:List Int):∀x∈abh l,1<=x∧x<=100000000:=by
 intro x hx;unfold abh at hx;obtain⟨d,-,rfl⟩:=Aau.1 hx;exact alB d
end
end Go.Proofs.YtnkfdeiigplhoaaGreatDoor
