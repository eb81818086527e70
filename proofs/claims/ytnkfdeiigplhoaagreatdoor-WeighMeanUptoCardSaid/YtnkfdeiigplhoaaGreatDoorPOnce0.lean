import Derived.Test.YtnkfdeiigplhoaaGreatDoorPEq
/- Heaps, plainly: an array as a function; sifting down. The order of blocks, plainly. The order of blocks, plainly: each block once, the first one first, and each behind the best one. -/
namespace Go.Proofs.YtnkfdeiigplhoaaGreatDoor
section
open Go.RowKit
def aa7(c:Nat->Int)(x y:Nat):Bool:=decide (c y<c x)||(decide (c x=c y)&&decide (x<y))
theorem ab0(c:Nat->Int)(x:Nat):aa7 c x x=false:=by simp [aa7]
variable {c:Nat->Int}{x y:Nat}
theorem ad0{z:Nat}(h1:aa7 c y x=false)(h2:aa7 c z y=false):aa7 c z x=false:=by
 simp only [aa7,Abj,Ab2,decide_eq_false_iff_not] at *;omega
theorem af6(h:aa7 c x y=true):aa7 c y x=false:=by
 simp only [aa7,Bool.or_eq_true,Bool.and_eq_true,decide_eq_true_eq,Abj,Ab2,decide_eq_false_iff_not] at *;omega
theorem al1(h1:aa7 c x y=false)(h2:aa7 c y x=false):x=y:=by
 simp only [aa7,Abj,Ab2,decide_eq_false_iff_not] at *;omega
def swp(a:Nat->Nat)(i j:Nat):Nat->Nat:=fun k=>if k=i then a j else if k=j then a i else a k
def kid(c:Nat->Int)(a:Nat->Nat)(n i:Nat):Nat:=if 2 * i+2<n∧aa7 c (a (2 * i+2)) (a (2 * i+1))=true then 2 * i+2 else 2 * i+1
def acX (c : Nat -> Int) (n : Nat) : Nat -> (Nat -> Nat) -> Nat -> (Nat -> Nat)
 | 0,a,_=>a
 | fuel+1,a,i =>
   if n<=2 * i+1 then a
   else if aa7 c (a (kid c a n i)) (a i)=true then acX c n fuel (swp a i (kid c a n i)) (kid c a n i)
   else a
structure ab3 (m:Nat)(a b:Nat->Nat):Prop where
 img:∀x,(∃k,k<m∧a k=x)↔(∃k,k<m∧b k=x)
 inj:(∀i j,i<m->j<m->a i=a j->i=j)->(∀i j,i<m->j<m->b i=b j->i=j)
 out:∀k,m<=k->b k=a k
theorem ab3.refl(m:Nat)(a:Nat->Nat):ab3 m a a:=⟨fun _=>Iff.rfl,id,fun _ _=>rfl⟩
variable {a:Nat->Nat}
theorem ab3.trans{m:Nat}{b d:Nat->Nat}(h:ab3 m a b)(k:ab3 m b d):ab3 m a d :=
 ⟨fun x=>(h.img x).trans (k.img x),fun hi=>k.inj (h.inj hi),fun i hi=>(k.out i hi).trans (h.out i hi)⟩
theorem ab3.swp {m:Nat}(a:Nat->Nat){i j:Nat}(hi:i<m)(hj:j<m):ab3 m a (swp a i j):=by
 refine⟨fun x=>⟨?_,?_⟩,fun h u v hu hv e=>?_,fun k hk=>?_⟩
 . rintro⟨k,hk,rfl⟩
   by_cases h1:k=i
   . subst h1
     by_cases h2:j=k
     . subst h2;exact⟨j,hj,by simp [Go.Proofs.YtnkfdeiigplhoaaGreatDoor.swp]⟩
     . exact⟨j,hj,by simp [Go.Proofs.YtnkfdeiigplhoaaGreatDoor.swp,h2]⟩
   . by_cases h2:k=j
     . subst h2;exact⟨i,hi,by simp [Go.Proofs.YtnkfdeiigplhoaaGreatDoor.swp]⟩
     . exact⟨k,hk,by simp [Go.Proofs.YtnkfdeiigplhoaaGreatDoor.swp,h1,h2]⟩
 . rintro⟨k,hk,rfl⟩
   unfold Go.Proofs.YtnkfdeiigplhoaaGreatDoor.swp;split
   . exact⟨j,hj,rfl⟩
   . split
     . exact⟨i,hi,rfl⟩
     . exact⟨k,hk,rfl⟩
 . have hs:∀k,Go.Proofs.YtnkfdeiigplhoaaGreatDoor.swp a i j k=a (if k=i then j else if k=j then i else k):=fun k=>by
    unfold Go.Proofs.YtnkfdeiigplhoaaGreatDoor.swp
    by_cases h1:k=i
    . rw [if_pos h1,if_pos h1]
    . rw [if_neg h1,if_neg h1]
      by_cases h2:k=j
      . rw [if_pos h2,if_pos h2]
      . rw [if_neg h2,if_neg h2]
   rw [hs,hs] at e;have:=h _ _ (by split <;> (try split) <;> omega) (by split <;> (try split) <;> omega) e
   by_cases h1:u=i <;> by_cases h2:u=j <;> by_cases h3:v=i <;> by_cases h4:v=j <;> simp only [h1,h2,h3,h4,if_true,if_false] at this <;> first | omega | (simp at this;omega) | (split at this <;> omega)
 . unfold Go.Proofs.YtnkfdeiigplhoaaGreatDoor.swp
   rw [if_neg (by omega),if_neg (by omega)]
variable {n:Nat}
theorem alX{i:Nat}(h:2 * i+1<n):kid c a n i<n∧i<kid c a n i:=by
 unfold kid;split <;> omega
theorem acY(c:Nat->Int)(n m:Nat)(hm:n<=m):∀(fuel:Nat) (a:Nat->Nat) (i:Nat),ab3 m a (acX c n fuel a i):=by
 intro fuel
 induction fuel with
 | zero=>exact fun a i=>ab3.refl _ _
 | succ fuel ih =>
   intro a i;unfold acX;split
   . exact ab3.refl _ _
   . split
     . have:=alX (c:=c) (a:=a) (n:=n) (i:=i) (by omega)
       exact (ab3.swp a (by omega) (by omega)).trans (ih _ _)
     . exact ab3.refl _ _
theorem alo(c:Nat->Int)(n:Nat)(fuel:Nat)(a:Nat->Nat)(i k:Nat)(hk:n<=k):acX c n fuel a i k=a k :=
 (acY c n n (Aad _) fuel a i).out k hk
def acv(c:Nat->Int)(a:Nat->Nat)(n i:Nat):Prop:=∀k,0<k->k<n->i<=(k - 1) / 2->aa7 c (a k) (a ((k - 1) / 2))=false
theorem agP(c:Nat->Int)(n i0:Nat):∀(fuel:Nat) (a:Nat->Nat) (i:Nat),n<=i+fuel->i0<=i ->
 (∀k,0<k->k<n->i0<=(k - 1) / 2->(k - 1) / 2≠i->aa7 c (a k) (a ((k - 1) / 2))=false) ->
 (∀k,0<i->i0<=(i - 1) / 2->k<n->(k - 1) / 2=i->0<k->aa7 c (a k) (a ((i - 1) / 2))=false) ->
 acv c (acX c n fuel a i) n i0:=by
 intro fuel
 induction fuel with
 | zero =>
   intro a i hn hi h1 _ k ad ae ai
   by_cases he:(k - 1) / 2=i
   . omega
   . exact h1 k ad ae ai he
 | succ fuel ih =>
   intro a i hn hi h1 h2;unfold acX;split
   . intro k ad ae ai
     by_cases he:(k - 1) / 2=i
     . omega
     . exact h1 k ad ae ai he
   . rename_i ak
     have hj:=alX (c:=c) (a:=a) (n:=n) (i:=i) (by omega);obtain⟨j,aw⟩:∃j,j=kid c a n i:=⟨_,rfl⟩
     have az:(j - 1) / 2=i∧0<j:=by rw [aw];unfold kid;split <;> omega
     have aq:∀k,k<n->0<k->(k - 1) / 2=i->aa7 c (a k) (a j)=false:=by
      intro k hk ad aA;have ar:k=2 * i+1∨k=2 * i+2:=by omega
      rw [aw];unfold kid;split
      . rename_i hc
        rcases ar with rfl | rfl
        . exact af6 hc.2
        . exact ab0 _ _
      . rename_i hc
        rcases ar with rfl | rfl
        . exact ab0 _ _
        . cases hl:aa7 c (a (2 * i+2)) (a (2 * i+1)) with
          | true=>exact absurd ⟨hk,hl⟩ hc
          | false=>rfl
     rw [<-aw] at hj ⊢;split
     . rename_i hl
       refine ih _ j (by omega) (by omega) ?_ ?_
       . intro k ad ae ai aC
         unfold swp
         by_cases hki2:k=i
         . rw [if_pos hki2,if_neg (by omega),if_neg (by omega)]
           subst hki2;exact h2 j (by omega) ai (by omega) az.1 az.2
         . rw [if_neg hki2]
           by_cases hkj2:k=j
           . rw [if_pos hkj2,if_pos (by omega)]
             exact af6 hl
           . rw [if_neg hkj2]
             by_cases hp:(k - 1) / 2=i
             . rw [if_pos hp];exact aq k ae ad hp
             . rw [if_neg hp,if_neg aC];exact h1 k ad ae ai hp
       . intro k aG aH ae aA ad
         unfold swp;rw [if_neg (by omega),if_neg (by omega),if_pos (by omega)];have:=h1 k ad ae (by omega) (by omega);rw [aA] at this;exact this
     . rename_i hl
       intro k ad ae ai
       by_cases he:(k - 1) / 2=i
       . rw [he]
         have aD:aa7 c (a j) (a i)=false:=by simpa using hl
         exact ad0 aD (aq k ae ad he)
       . exact h1 k ad ae ai he
theorem alI(h:acv c a n 0):∀k,k<n->aa7 c (a k) (a 0)=false:=by
 intro k
 induction k using Nat.strongRecOn with
 | _ k ih =>
   intro hk
   by_cases h0:k=0
   . subst h0;exact ab0 _ _
   . exact ad0 (ih ((k - 1) / 2) (by omega) (by omega)) (h k (by omega) hk (by omega))
def ai8 (c : Nat -> Int) (n : Nat) : Nat -> (Nat -> Nat) -> (Nat -> Nat)
 | 0,a=>a
 | i+1,a=>ai8 c n i (acX c n n a i)
theorem ai9(c:Nat->Int)(n:Nat):∀(i:Nat) (a:Nat->Nat),ab3 n a (ai8 c n i a):=by
 intro i
 induction i with
 | zero=>exact fun a=>ab3.refl _ _
 | succ i ih=>exact fun a=>(acY c n n (Aad _) n a i).trans (ih _)
theorem akF(c:Nat->Int)(n:Nat):∀(i:Nat) (a:Nat->Nat),acv c a n i->acv c (ai8 c n i a) n 0:=by
 intro i
 induction i with
 | zero=>exact fun a h=>h
 | succ i ih =>
   intro a h;refine ih _ (agP c n i n a i (by omega) (Aad _) ?_ ?_)
   . intro k ad ae ai ay;exact h k ad ae (by omega)
   . intro k aF ai;omega
theorem aho(c:Nat->Int)(a:Nat->Nat)(n:Nat):acv c a n (n / 2):=by
 intro k ad ae ai;omega
def amQ(c:Nat->Int)(n:Nat)(a:Nat->Nat):Nat->Nat:=acX c (n - 1) (n - 1) (swp a 0 (n - 1)) 0
theorem aiu(h:acv c a n 0):acv c (amQ c n a) (n - 1) 0:=by
 refine agP c (n - 1) 0 (n - 1) _ 0 (by omega) (Aad _) ?_ ?_
 . intro k ad ae _ ay
   unfold swp;rw [if_neg (by omega),if_neg (by omega),if_neg (by omega),if_neg (by omega)];exact h k ad (by omega) (by omega)
 . intro k h0;omega
theorem aiv(c:Nat->Int)(a:Nat->Nat)(_hn:0<n):amQ c n a (n - 1)=a 0:=by
 unfold amQ;rw [alo _ _ _ _ _ _ (Aad _)];unfold swp
 by_cases h:n - 1=0
 . simp [h]
 . rw [if_neg h,if_pos rfl]
theorem akR(c:Nat->Int)(a:Nat->Nat)(hn:0<n):ab3 n a (amQ c n a) :=
 (ab3.swp a hn (by omega)).trans (acY c (n - 1) n (by omega) (n - 1) _ 0)
end
section
open Go.RowKit
theorem aeA {α:Type}{p:List α->Prop}(h0:p [])(h1:∀l t,p l->p (l++[t])):∀l,p l:=by
 intro l;rw [<-List.reverse_reverse l]
 induction l.reverse with
 | nil=>exact h0
 | cons a l ih=>rw [Abt];exact h1 _ _ ih
def aeB:Option Nat->Int | none => -1 | some b=>b
def aaN(c:Nat->Int)(had:Nat->Bool)(au:Option Nat)(t:Nat):Option Nat :=
 match au with
 | none=>if had t=true then none else some t
 | some b=>if had t=false∧c b<c t then some t else some b
def pick(c:Nat->Int)(had:Nat->Bool)(l:List Nat):Option Nat:=l.foldl (aaN c had) none
def abq(out:List Nat)(b:Nat):Bool:=out.contains b
def aaX(bs:List aad)(b:Nat):List Nat:=match bs[b]? with | some x=>x.fin.to.map Int.toNat | none=>[]
def aa4(bs:List aad)(c:Nat->Int)(out:List Nat):Option Nat :=
 match pick c (abq out) (aaX bs (out.getLastD 0)) with
 | some b=>some b
 | none=>pick c (abq out) (List.range bs.length)
def adv (bs : List aad) (c : Nat -> Int) : Nat -> List Nat -> List Nat
 | 0,out=>out
 | f+1,out=>match aa4 bs c out with | none=>out | some b=>adv bs c f (out++[b])
def afq(bs:List aad)(c:Nat->Int):List Nat:=adv bs c bs.length [0]
theorem aco(c:Nat->Int)(had:Nat->Bool)(l:List Nat)(t:Nat):pick c had (l++[t])=aaN c had (pick c had l) t:=by simp [pick]
theorem al9(c:Nat->Int)(had:Nat->Bool)(l:List Nat)(k:Nat)(h:k<l.length):pick c had (l.take (k+1))=aaN c had (pick c had (l.take k)) l[k]:=by
 rw [Aat h,aco]
theorem ac5(c:Nat->Int)(had:Nat->Bool)(l:List Nat):∀b,pick c had l=some b->b∈l∧had b=false:=by
 refine aeA (p:=fun l=>∀b,pick c had l=some b->b∈l∧had b=false) ?_ ?_ l
 . intro b h;simp [pick] at h
 . intro l t ih b h
   rw [aco] at h;cases hp:pick c had l with
   | none =>
     rw [hp] at h;simp only [aaN] at h;split at h
     . cases h
     . cases h;rename_i hh;exact⟨by simp,by simpa using hh⟩
   | some d =>
     rw [hp] at h;simp only [aaN] at h;split at h
     . cases h;rename_i hh;exact⟨by simp,hh.1⟩
     . cases h;have:=ih _ hp;exact⟨by simp [this.1],this.2⟩
theorem acn(c:Nat->Int)(had:Nat->Bool)(l:List Nat):pick c had l=none↔∀b∈l,had b=true:=by
 refine aeA (p:=fun l=>pick c had l=none↔∀b∈l,had b=true) ?_ ?_ l
 . simp [pick]
 . intro l t ih
   rw [aco];cases hp:pick c had l with
   | none =>
     have:=ih.1 hp;simp only [aaN];constructor
     . intro h b hb
       rcases Aaz.1 hb with h' | h'
       . exact this b h'
       . rw [Aaq] at h';subst h'
         by_cases ht:had b=true
         . exact ht
         . rw [if_neg ht] at h;cases h
     . intro h;rw [if_pos (h t (by simp))]
   | some d =>
     have hm:=ac5 c had l d hp;simp only [aaN];constructor
     . intro h;split at h <;> cases h
     . intro h;have:=h d (by simp [hm.1]);rw [hm.2] at this;cases this
theorem ag3(c:Nat->Int)(had:Nat->Bool)(n x:Nat)(hx:x<n)(hh:had x=false)(ax:∀y,y<n->had y=false->aa7 c y x=false):pick c had (List.range n)=some x:=by
 have key:∀j,j<=n->∀b,pick c had (List.range j)=some b->b<j∧had b=false∧∀y,y<j->had y=false->aa7 c y b=false:=by
  intro j
  induction j with
  | zero=>intro _ b h;simp [pick] at h
  | succ j ih =>
    intro hj b h;rw [Abo,aco] at h;cases hp:pick c had (List.range j) with
    | none =>
      have af:=(acn c had (List.range j)).1 hp;rw [hp] at h;simp only [aaN] at h;split at h
      . cases h
      . cases h
        rename_i ht;refine⟨by omega,by simpa using ht,fun y hy ag=>?_⟩
        by_cases hyj:y=j
        . subst hyj;exact ab0 _ _
        . have:=af y (by simp;omega);rw [ag] at this;cases this
    | some d =>
      obtain⟨h1,h2,h3⟩:=ih (by omega) d hp;rw [hp] at h;simp only [aaN] at h;split at h
      . cases h
        rename_i ht;refine⟨by omega,ht.1,fun y hy ag=>?_⟩
        by_cases hyj:y=j
        . subst hyj;exact ab0 _ _
        . have:=h3 y (by omega) ag
          simp only [aa7,Abj,Ab2,decide_eq_false_iff_not] at *;omega
      . cases h
        rename_i ht;refine⟨by omega,h2,fun y hy ag=>?_⟩
        by_cases hyj:y=j
        . subst hyj
          have:¬c b<c y:=fun e=>ht ⟨ag,e⟩;simp only [aa7,Abj,Ab2,decide_eq_false_iff_not];omega
        . exact h3 y (by omega) ag
 cases hp:pick c had (List.range n) with
 | none=>have:=(acn c had _).1 hp x (by simpa using hx);rw [hh] at this;cases this
 | some b =>
   obtain⟨h1,h2,h3⟩:=key n (Aad _) b hp;rw [al1 (ax b h1 h2) (h3 x hx hh)]
def cnt (p : Nat -> Bool) : Nat -> Nat
 | 0=>0
 | n+1=>cnt p n+if p n=true then 1 else 0
variable {n:Nat}
theorem apz{p q:Nat->Bool}(h:∀x,x<n->q x=true->p x=true):cnt q n<=cnt p n:=by
 induction n with
 | zero=>exact Aad _
 | succ n ih =>
   have:=ih (fun x hx=>h x (by omega));simp only [cnt]
   by_cases hq:q n=true
   . rw [if_pos hq,if_pos (h n (by omega) hq)];omega
   . rw [if_neg hq];split <;> omega
variable {b:Nat}
theorem apA{p q:Nat->Bool}(h:∀x,x<n->q x=true->p x=true)(hb:b<n)(hp:p b=true)(hq:q b=false):cnt q n<cnt p n:=by
 induction n with
 | zero=>omega
 | succ n ih =>
   simp only [cnt];rcases Nat.lt_succ_iff_lt_or_eq.1 hb with h1 | h1
   . have:=ih (fun x hx=>h x (by omega)) h1
     by_cases hqn:q n=true
     . rw [if_pos hqn,if_pos (h n (by omega) hqn)];omega
     . rw [if_neg hqn];split <;> omega
   . subst h1
     have:=apz (p:=p) (q:=q) (n:=b) (fun x hx=>h x (by omega));rw [if_neg (by rw [hq];simp),if_pos hp];omega
theorem afT(p:Nat->Bool)(n:Nat):cnt p n<=n:=by
 induction n with
 | zero=>exact Aad _
 | succ n ih=>simp only [cnt];split <;> omega
def left(out:List Nat)(n:Nat):Nat:=cnt (fun b=>!abq out b) n
theorem acQ(out:List Nat)(b x:Nat):abq (out++[b]) x=(abq out x||x == b):=by
 rw [Aa0];simp [abq]
variable {out:List Nat}
theorem af5(hb:b<n)(hh:abq out b=false):left (out++[b]) n<left out n :=
 apA (fun x _ h=>by simp only [acQ,Bool.not_eq_true',Abj] at h ⊢;exact h.1) hb (by simp [hh]) (by simp [acQ])
variable {c:Nat->Int}
theorem aee{bs:List aad}{f:Nat}(h:aa4 bs c out=none):adv bs c f out=out:=by
 cases f with
 | zero=>rfl
 | succ f=>rw [adv,h]
theorem aef{bs:List aad}{f:Nat}(h:aa4 bs c out=some b):adv bs c (f+1) out=adv bs c f (out++[b]):=by
 rw [adv,h]
structure ae8 (c:Nat->Int)(n m:Nat)(a:Nat->Nat)(had:Nat->Bool):Prop where
 heap:acv c a m 0
 inj:∀i j,i<m->j<m->a i=a j->i=j
 lt:∀k,k<m->a k<n
 all:∀b,b<n->had b=false->∃k,k<m∧a k=b
theorem ae8.pop{m:Nat}{a:Nat->Nat}{had:Nat->Bool}(h:ae8 c n m a had)(hm:0<m) :
 (had (a 0)=true->ae8 c n (m - 1) (amQ c m a) had) ∧
 (had (a 0)=false->pick c had (List.range n)=some (a 0)∧ae8 c n (m - 1) (amQ c m a) (fun b=>had b||b == a 0)):=by
 have av:=akR c a hm;have ao:=aiv c a hm;have an:=av.inj h.inj;have al:∀b,(∃k,k<m∧a k=b)->b≠a 0->∃k,k<m - 1∧amQ c m a k=b:=by
  intro b hb ay;obtain⟨k,hk,he⟩:=(av.img b).1 hb;refine⟨k,?_,he⟩;rcases Nat.lt_or_ge k (m - 1) with h1 | h1
  . exact h1
  . have:k=m - 1:=by omega
    subst this;exact absurd (he.symm.trans ao) ay
 have ak:∀k,k<m - 1->amQ c m a k<n:=fun k hk=>by
  obtain⟨k',ar,he⟩:=(av.img _).2 ⟨k,by omega,rfl⟩;rw [<-he];exact h.lt k' ar
 refine⟨fun hh=>⟨aiu h.heap,fun i j hi hj=>an i j (by omega) (by omega),ak,fun b hb aj=>al b (h.all b hb aj) (fun e=>by rw [e,hh] at aj;cases aj)⟩,fun hh=>⟨?_,?_⟩⟩
 . refine ag3 c had n (a 0) (h.lt 0 hm) hh (fun y hy ag=>?_)
   obtain⟨k,hk,he⟩:=h.all y hy ag;rw [<-he];exact alI h.heap k hk
 . refine⟨aiu h.heap,fun i j hi hj=>an i j (by omega) (by omega),ak,fun b hb aj=>?_⟩
   simp only [Abj,beq_eq_false_iff_ne] at aj;exact al b (h.all b hb aj.1) aj.2
end
section
open Go.RowKit
theorem am2 {p q:Nat->Bool}{b:Nat}:∀n,(∀x,x<n->x≠b->q x=p x)->cnt p n<=cnt q n+if b<n then 1 else 0:=by
 intro n
 induction n with
 | zero=>intro _;exact Aah _
 | succ n ih =>
   intro h;have h1:=ih (fun x hx=>h x (by omega));simp only [cnt]
   by_cases hb:n=b
   . subst hb
     rw [if_neg (Abg _)] at h1;rw [if_pos (Abc _)];split <;> split <;> omega
   . rw [h n (by omega) hb]
     by_cases hbn:b<n
     . rw [if_pos hbn] at h1
       have e:(if b<n+1 then 1 else 0)=1:=if_pos (by omega);rw [e];omega
     . rw [if_neg hbn] at h1
       have e:(if b<n+1 then 1 else 0)=0:=if_neg (by omega);rw [e];omega
theorem al0(out:List Nat)(b n:Nat):left out n<=left (out++[b]) n+1:=by
 have h:=am2 (p:=fun x=>!abq out x) (q:=fun x=>!abq (out++[b]) x) (b:=b) n (fun x _ hx=>by simp only [acQ];simp [hx]);unfold left;split at h <;> omega
theorem ajN(n:Nat):left [] n=n:=by
 unfold left
 induction n with
 | zero=>rfl
 | succ n ih=>simp only [cnt];rw [ih];simp [abq]
theorem anq(n:Nat)(out:List Nat):n<=out.length+left out n :=
 aeA (p:=fun out=>n<=out.length+left out n) (by simp [ajN]) (fun l t h=>by have:=al0 l t n;simp only [Aai,Aa5];omega) out
theorem anp {out:List Nat}{n:Nat}(h:∀b,b<n->abq out b=true):left out n=0:=by
 have key:∀m,m<=n->cnt (fun b=>!abq out b) m=0:=by
  intro m
  induction m with
  | zero=>intro _;rfl
  | succ m ih=>intro hm;simp only [cnt];rw [ih (by omega)];simp [h m (by omega)]
 exact key n (Aad _)
structure adR (bs:List aad)(c:Nat->Int)(r:List Nat):Prop where
 head:r[0]?=some 0
 lt:∀x∈r,x<bs.length
 next:∀i,i+1<r.length->aa4 bs c (r.take (i+1))=r[i+1]?
variable {bs:List aad}
theorem ae5(aE:∀(k:Nat) (x:aad),bs[k]?=some x->∀t∈x.fin.to,0<=t∧t<(bs.length:Int))(b:Nat):∀y∈aaX bs b,y<bs.length:=by
 intro y hy;unfold aaX at hy;split at hy
 . rename_i x hx
   obtain⟨t,ht,rfl⟩:=Aau.1 hy;have:=aE b x hx t ht;omega
 . cases hy
variable {c:Nat->Int}
theorem adL{out:List Nat}{y:Nat}(hT:∀b,∀y∈aaX bs b,y<bs.length)(h:aa4 bs c out=some y):y<bs.length∧abq out y=false:=by
 unfold aa4 at h;split at h
 . rename_i b hb
   cases h;have:=ac5 _ _ _ _ hb;exact⟨hT _ _ this.1,this.2⟩
 . have:=ac5 _ _ _ _ h
   exact⟨by simpa using this.1,this.2⟩
variable {r:List Nat}
theorem adR.snoc{y:Nat}(h:adR bs c r)(hT:∀b,∀y∈aaX bs b,y<bs.length)(hy:aa4 bs c r=some y):adR bs c (r++[y]):=by
 have h0:0<r.length:=(Aae.1 h.head).1;refine⟨?_,?_,?_⟩
 . rw [Abi h0];exact h.head
 . intro x hx
   rcases Aaz.1 hx with hx | hx
   . exact h.lt x hx
   . rw [Aaq] at hx;subst hx;exact (adL hT hy).1
 . intro i hi
   rw [Aai,Aa5] at hi
   by_cases ak:i+1<r.length
   . rw [List.take_append_of_le_length (by omega),Abi ak];exact h.next i ak
   . have he:i+1=r.length:=by omega
     rw [he,List.take_left,List.getElem?_concat_length];exact hy
theorem akH(hT:∀b,∀y∈aaX bs b,y<bs.length):∀f out,adR bs c out->left out bs.length<=f->adR bs c (adv bs c f out)∧aa4 bs c (adv bs c f out)=none:=by
 intro f
 induction f with
 | zero =>
   intro out ho hf;refine⟨ho,?_⟩;cases h:aa4 bs c out with
   | none=>exact h
   | some y =>
     have h1:=adL hT h;have:=af5 h1.1 h1.2;omega
 | succ f ih =>
   intro out ho hf;cases h:aa4 bs c out with
   | none=>rw [aee h];exact⟨ho,h⟩
   | some y =>
     rw [aef h];have h1:=adL hT h;have:=af5 h1.1 h1.2;exact ih _ (ho.snoc hT h) (by omega)
theorem ann(hn:0<bs.length)(hT:∀b,∀y∈aaX bs b,y<bs.length):adR bs c (afq bs c)∧aa4 bs c (afq bs c)=none:=by
 refine akH hT _ _ ⟨rfl,fun x hx=>?_,fun i hi=>?_⟩ (afT _ _)
 . rw [Aaq] at hx;omega
 . simp at hi
theorem adR.fresh(h:adR bs c r)(hT:∀b,∀y∈aaX bs b,y<bs.length){i:Nat}(hi:i<r.length):abq (r.take i) r[i]=false:=by
 cases i with
 | zero=>simp [abq]
 | succ i=>exact (adL hT ((h.next i hi).trans (Aaa hi))).2
theorem adR.count(h:adR bs c r)(hT:∀b,∀y∈aaX bs b,y<bs.length):∀i,i<=r.length->i+left (r.take i) bs.length<=bs.length:=by
 intro i
 induction i with
 | zero=>intro _;rw [List.take_zero,ajN];omega
 | succ i ih =>
   intro hi;have h1:=ih (by omega);rw [Aat hi];have:=af5 (out:=r.take i) (n:=bs.length) (h.lt r[i] (Aaf _)) (h.fresh hT hi);omega
theorem alY(hn:0<bs.length)(hT:∀b,∀y∈aaX bs b,y<bs.length):adR bs c (afq bs c)∧(afq bs c).length=bs.length∧∀b,b<bs.length->abq (afq bs c) b=true:=by
 obtain⟨h1,h2⟩:=ann (c:=c) hn hT;have af:∀b,b<bs.length->abq (afq bs c) b=true:=by
  intro b hb;unfold aa4 at h2;split at h2
  . cases h2
  . exact (acn _ _ _).1 h2 b (by simpa using hb)
 have h3:=anp af;have h4:=h1.count hT _ (Aad _);rw [Aay,h3] at h4;have h5:=anq bs.length (afq bs c);exact⟨h1,by omega,af⟩
theorem adR.inj(h:adR bs c r)(hT:∀b,∀y∈aaX bs b,y<bs.length){i j:Nat}(hi:i<r.length)(hj:j<r.length)(he:r[i]=r[j]):i=j:=by
 have key:∀i j (hi:i<r.length) (hj:j<r.length),r[i]=r[j]->¬i<j:=by
  intro i j hi hj he ak;have h1:=h.fresh hT hj;have h2:r[i]∈r.take j:=by
   rw [List.mem_iff_getElem];exact⟨i,by rw [Aar];omega,by rw [List.getElem_take]⟩
  rw [<-he] at h1;unfold abq at h1;rw [List.contains_iff_mem.2 h2] at h1;cases h1
 have:=key i j hi hj he;have:=key j i hj hi he.symm;omega
theorem anz(c:Nat->Int)(had:Nat->Bool)(l:List Nat):∀b,pick c had l=some b->∀y∈l,had y=false->c y<=c b:=by
 refine aeA (p:=fun l=>∀b,pick c had l=some b->∀y∈l,had y=false->c y<=c b) ?_ ?_ l
 . intro b h;simp [pick] at h
 . intro l t ih b h y hy ag
   rw [aco] at h;cases hp:pick c had l with
   | none =>
     have af:=(acn c had l).1 hp;rw [hp] at h;simp only [aaN] at h;split at h
     . cases h
     . cases h
       rcases Aaz.1 hy with h' | h'
       . have:=af y h';rw [ag] at this;cases this
       . rw [Aaq] at h';subst h';exact Int.le_refl _
   | some d =>
     rw [hp] at h;simp only [aaN] at h;have aB:=ih d hp;split at h
     . rename_i hh
       obtain rfl:=Option.some.inj h;rcases Aaz.1 hy with h' | h'
       . have:=aB y h' ag;omega
       . rw [Aaq] at h';subst h';exact Int.le_refl _
     . rename_i hh
       have e:=Option.some.inj h;rw [<-e];rcases Aaz.1 hy with h' | h'
       . exact aB y h' ag
       . rw [Aaq] at h';subst h'
         by_cases hc:c d<c y
         . exact absurd ⟨ag,hc⟩ hh
         . omega
def atF(r:List Nat)(k:Nat)(x:Nat):Nat:=if abq (r.take k) x=true then r.idxOf x else 0
theorem aeu {l:List Nat}{x:Nat}:abq l x=true↔x∈l:=by unfold abq;exact List.contains_iff_mem
end
end Go.Proofs.YtnkfdeiigplhoaaGreatDoor
