import Derived.Test.YtnkfdeiigplhoaaGreatDoorPQuietO
/- The tree of the blocks that rule others, plainly: what its rounds keep, and that they end. No program in sight. dom.meet: where two ways up meet. -/
namespace Go.Proofs.YtnkfdeiigplhoaaGreatDoor
section
open Go.RowKit
inductive Anc (up : Nat -> Int) : Nat -> Nat -> Prop
 | refl (x:Nat):Anc up x x
 | step {x v:Nat}:x≠0->Anc up (up x).toNat v->Anc up x v
structure ahI (n:Nat)(ps:Nat->Nat)(up:Nat->Int):Prop where
 zero:up 0=0
 root:ps 0=0
 lt:∀x,0<=up x->x<n
 next:∀x,0<=up x->0<=up (up x).toNat
 less:∀x,0<=up x->x≠0->ps (up x).toNat<ps x
 inj:∀x y,0<=up x->0<=up y->ps x=ps y->x=y
section
variable {n : Nat} {ps : Nat -> Nat} {up : Nat -> Int} {x y v w : Nat}
theorem Anc.pr(ht:ahI n ps up)(h:Anc up x v):0<=up x->0<=up v∧ps v<=ps x∧(v≠x->ps v<ps x):=by
 induction h with
 | refl x=>exact fun hx=>⟨hx,Aad _,fun h=>absurd rfl h⟩
 | step h0 h ih =>
   intro hx;obtain⟨a,b,c⟩:=ih (ht.next _ hx);have:=ht.less _ hx h0;exact⟨a,by omega,fun _=>by omega⟩
theorem Anc.trans(h:Anc up x y):Anc up y v->Anc up x v:=by
 induction h with
 | refl x=>exact fun h=>h
 | step h0 h ih=>exact fun k => .step h0 (ih k)
theorem Anc.above(h:Anc up x v)(aj:v≠x):x≠0∧Anc up (up x).toNat v:=by
 cases h with
 | refl=>exact absurd rfl aj
 | step h0 h=>exact⟨h0,h⟩
end
def ac4 (ps : Nat -> Nat) (up : Nat -> Int) : Nat -> Nat -> Nat -> Nat
 | 0,a,_=>a
 | f+1,a,b=>if a=b then a else if ps a<ps b then ac4 ps up f (up b).toNat a else ac4 ps up f (up a).toNat b
theorem agZ {n:Nat}{ps:Nat->Nat}{up:Nat->Int}(ht:ahI n ps up):∀f a b,0<=up a->0<=up b->ps a+ps b<f ->
 Anc up a (ac4 ps up f a b)∧Anc up b (ac4 ps up f a b)∧∀v,Anc up a v->Anc up b v->Anc up (ac4 ps up f a b) v:=by
 intro f
 induction f with
 | zero=>intro a b _ _ h;omega
 | succ f ih =>
   intro a b ha hb hf;rw [ac4]
   by_cases hab:a=b
   . subst hab
     rw [if_pos rfl];exact⟨.refl _,.refl _,fun v h _=>h⟩
   . rw [if_neg hab]
     by_cases ai:ps a<ps b
     . rw [if_pos ai]
       have an:b≠0:=fun e=>by rw [e,ht.root] at ai;omega
       have hl:=ht.less b hb an;obtain⟨h1,h2,h3⟩:=ih (up b).toNat a (ht.next b hb) ha (by omega);refine⟨h2,.step an h1,fun v k1 k2=>h3 v ?_ k1⟩;refine (k2.above fun e=>?_).2;have:=(k1.pr ht ha).2.1;rw [e] at this;omega
     . rw [if_neg ai]
       have aj:ps a≠ps b:=fun e=>hab (ht.inj a b ha hb e);have aY:a≠0:=fun e=>by rw [e,ht.root] at ai aj;omega
       have hl:=ht.less a ha aY;obtain⟨h1,h2,h3⟩:=ih (up a).toNat b (ht.next a ha) hb (by omega);refine⟨.step aY h1,h2,fun v k1 k2=>h3 v ?_ k2⟩;refine (k1.above fun e=>?_).2;have:=(k2.pr ht hb).2.1;rw [e] at this;omega
def mtF(ps:Nat->Nat)(up:Nat->Int)(a b:Nat):Nat:=ac4 ps up (ps a+ps b+1) a b
def aiK(ps:Nat->Nat)(up:Nat->Int)(ad:Int)(p:Nat):Int:=if up p<0 then ad else if ad<0 then (p:Int) else ((mtF ps up ad.toNat p:Nat):Int)
def abu(ps:Nat->Nat)(up:Nat->Int)(ad:Int)(l:List Nat):Int:=l.foldl (aiK ps up) ad
theorem akj {n:Nat}{ps:Nat->Nat}{up:Nat->Int}(ht:ahI n ps up):∀(l:List Nat) (ad:Int),(0<=ad->0<=up ad.toNat)->(0<=ad∨∃p∈l,0<=up p) ->
 0<=abu ps up ad l∧0<=up (abu ps up ad l).toNat∧∀v,Anc up (abu ps up ad l).toNat v↔(0<=ad->Anc up ad.toNat v)∧∀p∈l,0<=up p->Anc up p v:=by
 intro l
 induction l with
 | nil =>
   intro ad hb h;have h0:0<=ad:=by
    rcases h with h | ⟨p,hp,-⟩
    . exact h
    . cases hp
   exact⟨h0,hb h0,fun v=>⟨fun h=>⟨fun _=>h,fun p hp=>by cases hp⟩,fun h=>h.1 h0⟩⟩
 | cons p l ih =>
   intro ad hb h;show 0<=abu ps up (aiK ps up ad p) l∧_;have bt:abu ps up ad (p :: l)=abu ps up (aiK ps up ad p) l:=rfl;rw [bt]
   by_cases hp:up p<0
   . have e:aiK ps up ad p=ad:=by unfold aiK;rw [if_pos hp]
     rw [e]
     obtain ⟨h1, h2, h3⟩ := ih ad hb (by
      rcases h with h | ⟨q, hq, av⟩
      . exact .inl h
      . rcases Aaw.1 hq with rfl | hq
        . omega
        . exact .inr ⟨q, hq, av⟩)
     refine⟨h1,h2,fun v=>(h3 v).trans ⟨fun h=>⟨h.1,fun q hq av=>?_⟩,fun h=>⟨h.1,fun q hq=>h.2 q (by simp [hq])⟩⟩⟩;rcases Aaw.1 hq with rfl | hq
     . omega
     . exact h.2 q hq av
   . by_cases an:ad<0
     . have e:aiK ps up ad p=(p:Int):=by unfold aiK;rw [if_neg hp,if_pos an]
       rw [e];obtain⟨h1,h2,h3⟩:=ih (p:Int) (fun _=>by rw [Aaj];omega) (.inl (by omega));refine⟨h1,h2,fun v=>(h3 v).trans ?_⟩;rw [Aaj];refine⟨fun h=>⟨fun h'=>by omega,fun q hq av=>?_⟩,fun h=>⟨fun _=>h.2 p (by simp) (by omega),fun q hq=>h.2 q (by simp [hq])⟩⟩;rcases Aaw.1 hq with rfl | hq
       . exact h.1 (by omega)
       . exact h.2 q hq av
     . have e:aiK ps up ad p=((mtF ps up ad.toNat p:Nat):Int):=by unfold aiK;rw [if_neg hp,if_neg an]
       rw [e];obtain⟨m1,m2,m3⟩:=agZ ht _ ad.toNat p (hb (by omega)) (by omega) (Abc _);have bx:ac4 ps up (ps ad.toNat+ps p).succ ad.toNat p=mtF ps up ad.toNat p:=rfl;rw [bx] at m1 m2 m3;obtain⟨h1,h2,h3⟩:=ih ((mtF ps up ad.toNat p:Nat):Int) (fun _=>by rw [Aaj];exact (m1.pr ht (hb (by omega))).1) (.inl (by omega));refine⟨h1,h2,fun v=>(h3 v).trans ?_⟩;rw [Aaj];refine⟨fun h=>⟨fun _=>m1.trans (h.1 (by omega)),fun q hq av=>?_⟩,fun h=>⟨fun _=>m3 v (h.1 (by omega)) (h.2 p (by simp) (by omega)),fun q hq=>h.2 q (by simp [hq])⟩⟩;rcases Aaw.1 hq with rfl | hq
       . exact m2.trans (h.1 (by omega))
       . exact h.2 q hq av
structure Rpo (n:Nat)(ord:List Nat)(ps:Nat->Nat)(ae:Nat->List Nat)(fp:Nat->Nat):Prop where
 pos:0<ord.length
 len:ord.length<=n
 lt:∀x∈ord,x<n
 at_:∀j (h:j<ord.length),ps ord[j]=j
 head:∀(h:0<ord.length),ord[0]=0
 fore:∀j (h:j<ord.length),1<=j->fp ord[j]∈ae ord[j]∧∃j',∃h':j'<ord.length,j'<j∧ord[j']=fp ord[j]
structure DSt (n:Nat)(ord:List Nat)(ps:Nat->Nat)(ae:Nat->List Nat)(fp:Nat->Nat)(i:Nat)(up:Nat->Int):Prop where
 tree:ahI n ps up
 done:∀j (h:j<ord.length),j<i->0<=up ord[j]
 only:∀x,0<=up x->∃j,∃h:j<ord.length,ord[j]=x
 fpd:∀x,0<=up x->x≠0->0<=up (fp x)
 g:∀x,0<=up x->i<ps x->∀c,i<=ps c->Anc up x c->c≠x->Anc up (fp x) c
 h:∀x,0<=up x->x≠0->ps x<i->∀c,Anc up x c->c≠x->Anc up (fp x) c
 inv:∀x,0<=up x->x≠0->∀v,(∀p∈ae x,0<=up p->Anc up p v)->Anc up x v
def aeL(up:Nat->Int)(c:Nat)(b:Int):Nat->Int:=fun x=>if x=c then b else up x
section
variable {n : Nat} {ps : Nat -> Nat} {up : Nat -> Int} {c : Nat} {b : Int} {x v : Nat}
theorem aa1(up:Nat->Int)(c:Nat)(b:Int):aeL up c b c=b:=if_pos rfl
theorem abl(up:Nat->Int){c:Nat}(b:Int){x:Nat}(h:x≠c):aeL up c b x=up x:=if_neg h
theorem ahe(h:Anc up x v):¬Anc up x c->Anc (aeL up c b) x v:=by
 induction h with
 | refl x=>exact fun _ => .refl _
 | @step x v h0 h ih =>
   intro hn;have af:x≠c:=fun e=>hn (by rw [e];exact .refl _);refine .step h0 ?_;rw [abl _ _ af];exact ih fun k=>hn (.step h0 k)
theorem alj(h:Anc (aeL up c b) x v):¬Anc up x c->Anc up x v:=by
 induction h with
 | refl x=>exact fun _ => .refl _
 | @step x v h0 h ih =>
   intro hn;have af:x≠c:=fun e=>hn (by rw [e];exact .refl _);rw [abl _ _ af] at ih;exact .step h0 (ih fun k=>hn (.step h0 k))
theorem apu(h:Anc up x c):Anc (aeL up c b) x c:=by
 induction h with
 | refl x=>exact .refl _
 | @step x v h0 h ih =>
   by_cases af:x=v
   . rw [af];exact .refl _
   . refine .step h0 ?_
     rw [abl _ _ af];exact ih
theorem ahM(ht:ahI n ps up)(h:Anc up x c):0<=up x->Anc (aeL up c b) x v->(Anc up x v∧ps c<=ps v)∨Anc (aeL up c b) c v:=by
 induction h with
 | refl x=>exact fun _ h => .inr h
 | @step x c h0 h ih =>
   intro hx hv
   by_cases af:x=c
   . subst af;exact .inr hv
   . have hle:=((Anc.step h0 h).pr ht hx).2.1
     by_cases hvx:v=x
     . subst hvx;exact .inl ⟨.refl _,hle⟩
     . have h2:=(hv.above hvx).2
       rw [abl _ _ af] at h2;rcases ih (ht.next _ hx) h2 with⟨h3,h4⟩ | h3
       . exact .inl ⟨.step h0 h3,h4⟩
       . exact .inr h3
theorem ajz(ht:ahI n ps up)(h:Anc up x v):0<=up x->ps c<=ps v->Anc (aeL up c b) x v:=by
 induction h with
 | refl x=>exact fun _ _ => .refl _
 | @step x v h0 h ih =>
   intro hx hle;have hl:=ht.less _ hx h0;have hp:=(h.pr ht (ht.next _ hx)).2.1;have af:x≠c:=fun e=>by rw [<-e] at hle;omega
   refine .step h0 ?_;rw [abl _ _ af];exact ih (ht.next _ hx) hle
end
variable {n:Nat}{ord:List Nat}{ps fp:Nat->Nat}{ae:Nat->List Nat}
theorem DSt.turn{i:Nat}{up:Nat->Int}(ho:Rpo n ord ps ae fp)(hs:DSt n ord ps ae fp i up)(h1:1<=i)(hi:i<ord.length) :
 0<=abu ps up (-1) (ae ord[i])∧(abu ps up (-1) (ae ord[i])).toNat<n∧DSt n ord ps ae fp (i+1) (aeL up ord[i] (abu ps up (-1) (ae ord[i]))) ∧
   (up ord[i]≠abu ps up (-1) (ae ord[i])->up ord[i]<0∨ps (abu ps up (-1) (ae ord[i])).toNat<ps (up ord[i]).toNat):=by
 have ht:=hs.tree;obtain⟨c,hc⟩:∃c,c=ord[i]:=⟨_,rfl⟩
 have bz:ps c=i:=by rw [hc];exact ho.at_ i hi
 have aZ:c≠0:=fun e=>by rw [e,ht.root] at bz;omega
 have aO:c<n:=by rw [hc];exact ho.lt _ (Aaf _)
 obtain⟨aD,j',a8,ax,aP⟩:=ho.fore i hi h1;rw [<-hc] at aD aP ⊢;have al:0<=up (fp c):=by rw [<-aP];exact hs.done j' a8 ax
 have aT:ps (fp c)<i:=by rw [<-aP,ho.at_ j' a8];exact ax
 obtain⟨an,ar,hb⟩:=akj ht (ae c) (-1) (fun h=>by omega) (.inr ⟨_,aD,al⟩);obtain⟨ad,ao⟩:∃ad,ad=abu ps up (-1) (ae c):=⟨_,rfl⟩
 rw [<-ao] at an ar hb ⊢;obtain⟨b,rfl⟩:=Aas an;rw [Aaj] at ar hb ⊢;have hb:∀v,Anc up b v↔∀p∈ae c,0<=up p->Anc up p v:=fun v=>(hb v).trans ⟨fun h=>h.2,fun h=>⟨fun h=>by omega,h⟩⟩;clear ao an;have aN:Anc up (fp c) b:=(hb b).1 (.refl _) _ aD al;have aS:ps b<i:=by have:=(aN.pr ht al).2.1;omega
 have br:b≠c:=fun e=>by rw [e] at aS;omega
 -- ways that do not go through c
 have off:∀x,0<=up x->ps x<i->¬Anc up x c:=fun x hx ai h=>by have:=(h.pr ht hx).2.1;omega
 have aw:∀v,Anc (aeL up c b) c v->v=c∨Anc up b v:=fun v h=>by
  by_cases hv:v=c
  . exact .inl hv
  . have h2:=(h.above hv).2
    rw [aa1,Aaj] at h2;exact .inr (alj h2 (off b ar aS))
 have aW:0<=up c->Anc up c b:=fun bu=>hs.inv c bu aZ b ((hb b).1 (.refl _));have sub:∀x,0<=up x->∀v,Anc (aeL up c b) x v->Anc up x v:=fun x hx v h=>by
  by_cases af:Anc up x c
  . rcases ahM ht af hx h with h2 | h2
    . exact h2.1
    . rcases aw v h2 with rfl | h3
      . exact af
      . exact af.trans ((aW (af.pr ht hx).1).trans h3)
  . exact alj h af
 have pr:∀x,0<=aeL up c b x->x=c∨0<=up x:=fun x h=>by
  by_cases hx:x=c
  . exact .inl hx
  . rw [abl _ _ hx] at h;exact .inr h
 have aq:∀x,0<=up x->0<=aeL up c b x:=fun x h=>by
  by_cases hx:x=c
  . rw [hx,aa1];omega
  . rw [abl _ _ hx];exact h
 have ak:∀x,0<=aeL up c b x->∃j,∃h:j<ord.length,ord[j]=x:=fun x hx=>by
  rcases pr x hx with rfl | hx
  . exact⟨i,hi,hc.symm⟩
  . exact hs.only x hx
 have aB:∀x y,0<=aeL up c b x->0<=aeL up c b y->ps x=ps y->x=y:=fun x y hx hy he=>by
  obtain⟨j1,k1,rfl⟩:=ak x hx;obtain⟨j2,k2,rfl⟩:=ak y hy;rw [ho.at_ j1 k1,ho.at_ j2 k2] at he;subst he;rfl
 have aX:∀x,0<=aeL up c b x->x≠0->fp x∈ae x∧ps (fp x)<ps x:=fun x hx ag=>by
  obtain⟨j,hj,rfl⟩:=ak x hx;have bw:1<=j:=by
   rcases Nat.eq_zero_or_pos j with rfl | h
   . exact absurd (ho.head ho.pos) ag
   . exact h
  obtain⟨g1,j2,g2,g3,g4⟩:=ho.fore j hj bw;exact⟨g1,by rw [<-g4,ho.at_ j2 g2,ho.at_ j hj];exact g3⟩
 refine⟨by omega,ht.lt b ar,⟨⟨?_,ht.root,?_,?_,?_,aB⟩,?_,ak,?_,?_,?_,?_⟩,?_⟩
 . rw [abl _ _ (Ne.symm aZ)];exact ht.zero
 . intro x hx
   rcases pr x hx with rfl | hx
   . exact aO
   . exact ht.lt x hx
 . intro x hx
   by_cases af:x=c
   . rw [af,aa1,Aaj];exact aq b ar
   . rw [abl _ _ af] at hx ⊢
     exact aq _ (ht.next x hx)
 . intro x hx ag
   by_cases af:x=c
   . rw [af,aa1,Aaj];omega
   . rw [abl _ _ af] at hx ⊢
     exact ht.less x hx ag
 . intro j hj bD
   by_cases hje:j=i
   . subst hje;rw [<-hc,aa1];omega
   . exact aq _ (hs.done j hj (by omega))
 . intro x hx ag
   rcases pr x hx with rfl | hx
   . exact aq _ al
   . exact aq _ (hs.fpd x hx ag)
 . intro x hx a7 d hid hd aC
   have af:x≠c:=fun e=>by rw [e] at a7;omega
   rw [abl _ _ af] at hx;have ag:x≠0:=fun e=>by rw [e,ht.root] at a7;omega
   have h2:=hs.g x hx (by omega) d (by omega) (sub x hx d hd) aC;exact ajz ht h2 (hs.fpd x hx ag) (by omega)
 . intro x hx ag bF d hd aC
   by_cases af:x=c
   . subst af
     rcases aw d hd with rfl | h2
     . exact absurd rfl aC
     . exact ahe ((hb d).1 h2 _ aD al) (off _ al aT)
   . have aK:=hx
     rw [abl _ _ af] at hx;have ai:ps x<i:=by
      rcases Nat.lt_or_ge (ps x) i with h | h
      . exact h
      . exact absurd (aB x c aK (by rw [aa1];omega) (by omega)) af
     have h2:=hs.h x hx ag ai d (alj hd (off x hx ai)) aC;exact ahe h2 (off _ (hs.fpd x hx ag) (by have:=(aX x aK ag).2;omega))
 . intro x hx ag v hv
   by_cases af:x=c
   . subst af
     have h2:Anc up b v:=(hb v).2 fun p hp ay=>sub p ay v (hv p hp (aq p ay));refine .step ag ?_;rw [aa1,Aaj];exact ahe h2 (off b ar aS)
   . have aK:=hx
     rw [abl _ _ af] at hx;have bh:Anc up x v:=hs.inv x hx ag v fun p hp ay=>sub p ay v (hv p hp (aq p ay))
     by_cases hxc2:Anc up x c
     . have ai:i<ps x:=by have:=(hxc2.pr ht hx).2.2 (Ne.symm af);omega
       have h3:=hs.g x hx ai c (by omega) hxc2 (Ne.symm af);have a1:=hs.fpd x hx ag;rcases ahM ht h3 a1 (hv _ (aX x aK ag).1 (aq _ a1)) with h4 | h4
       . exact ajz ht bh hx h4.2
       . exact (apu hxc2).trans h4
     . exact ahe bh hxc2
 . intro aj
   by_cases ai:up c<0
   . exact .inl ai
   . refine .inr ?_
     have a6:0<=up c:=by omega
     have h2:=((aW a6).above br).2;refine (h2.pr ht (ht.next c a6)).2.2 fun e=>aj ?_;rw [e];omega
theorem DSt.again{up:Nat->Int}(ho:Rpo n ord ps ae fp)(hs:DSt n ord ps ae fp ord.length up):DSt n ord ps ae fp 1 up:=by
 have hp:=ho.pos;have ai:∀x,0<=up x->ps x<ord.length:=fun x hx=>by
  obtain⟨j,hj,rfl⟩:=hs.only x hx;rw [ho.at_ j hj];exact hj
 refine⟨hs.tree,fun j h hj=>hs.done j h h,hs.only,hs.fpd,fun x hx h1 c _ h2 h3=>?_,fun x hx h0 h1=>?_,hs.inv⟩
 . exact hs.h x hx (fun e=>by rw [e,hs.tree.root] at h1;omega) (ai x hx) c h2 h3
 . exact absurd (hs.tree.inj x 0 hx (by rw [hs.tree.zero];omega) (by rw [hs.tree.root];omega)) h0
def up0:Nat->Int:=fun x=>if x=0 then 0 else -1
theorem DSt.start(ho:Rpo n ord ps ae fp)(hr:ps 0=0):DSt n ord ps ae fp 1 up0:=by
 have h0:∀x,0<=up0 x->x=0:=fun x hx=>by
  unfold up0 at hx;split at hx
  . assumption
  . omega
 have hn:=ho.lt _ (Aaf ho.pos);refine⟨⟨rfl,hr,fun x hx=>?_,fun x hx=>?_,fun x hx ag=>absurd (h0 x hx) ag,fun x y hx hy _=>(h0 x hx).trans (h0 y hy).symm⟩,fun j h hj=>?_,fun x hx=>?_,fun x hx ag=>absurd (h0 x hx) ag,fun x hx h1=>?_,fun x hx ag=>absurd (h0 x hx) ag,fun x hx ag=>absurd (h0 x hx) ag⟩
 . rw [h0 x hx];omega
 . rw [h0 x hx];decide
 . obtain rfl:j=0:=by omega
   rw [ho.head h];decide
 . rw [h0 x hx];exact⟨0,ho.pos,ho.head ho.pos⟩
 . rw [h0 x hx,hr] at h1;omega
def aej(n:Nat)(ps:Nat->Nat)(up:Nat->Int):Nat->Nat:=fun x=>if up x<0 then n else ps (up x).toNat
def apm (f : Nat -> Nat) : Nat -> Nat
 | 0=>0
 | k+1=>apm f k+f k
theorem ahE {f g : Nat -> Nat} : ∀ k, (∀ x, x < k -> f x <= g x) -> apm f k <= apm g k
 | 0,_=>Aad _
 | k+1,h=>Nat.add_le_add (ahE k fun x hx=>h x (by omega)) (h k (by omega))
theorem amm {f g : Nat -> Nat} {c : Nat} : ∀ k, (∀ x, x < k -> f x <= g x) -> c < k -> f c < g c -> apm f k < apm g k
 | 0,_,h,_=>by omega
 | k+1,h,hc,ai=>by
   by_cases hck:c=k
   . subst hck
     exact Nat.add_lt_add_of_le_of_lt (ahE c fun x hx=>h x (by omega)) ai
   . exact Nat.add_lt_add_of_lt_of_le (amm k (fun x hx=>h x (by omega)) (by omega) ai) (h k (by omega))
def muF(n:Nat)(ps:Nat->Nat)(up:Nat->Int):Nat:=apm (aej n ps up) n
def adB(ps:Nat->Nat)(ae:Nat->List Nat)(s:(Nat->Int)×Bool)(b:Nat):(Nat->Int)×Bool :=
 if s.1 b≠abu ps s.1 (-1) (ae b) then (aeL s.1 b (abu ps s.1 (-1) (ae b)),true) else s
def agc(ps:Nat->Nat)(ae:Nat->List Nat)(l:List Nat)(s:(Nat->Int)×Bool):(Nat->Int)×Bool:=l.foldl (adB ps ae) s
def ak2 (ps : Nat -> Nat) (ae : Nat -> List Nat) (l : List Nat) : Nat -> (Nat -> Int) -> (Nat -> Int)
 | 0,up=>up
 | f+1,up=>if (agc ps ae l (up,false)).2=true then ak2 ps ae l f (agc ps ae l (up,false)).1 else (agc ps ae l (up,false)).1
theorem amF(up:Nat->Int)(c:Nat):aeL up c (up c)=up:=by
 funext x
 by_cases h:x=c
 . rw [h,aa1]
 . rw [abl _ _ h]
theorem ao1{i:Nat}{s:(Nat->Int)×Bool}(ho:Rpo n ord ps ae fp)(hs:DSt n ord ps ae fp i s.1)(h1:1<=i)(hi:i<ord.length) :
 DSt n ord ps ae fp (i+1) (adB ps ae s ord[i]).1∧muF n ps (adB ps ae s ord[i]).1<=muF n ps s.1∧(s.1 ord[i]≠abu ps s.1 (-1) (ae ord[i])->muF n ps (adB ps ae s ord[i]).1<muF n ps s.1):=by
 obtain⟨an,bC,hd,hv⟩:=hs.turn ho h1 hi;unfold adB
 by_cases aj:s.1 ord[i]≠abu ps s.1 (-1) (ae ord[i])
 . rw [if_pos aj]
   have aO:ord[i]<n:=ho.lt _ (Aaf _);have ar:ps (abu ps s.1 (-1) (ae ord[i])).toNat<n:=by
    have hx:0<=aeL s.1 ord[i] (abu ps s.1 (-1) (ae ord[i])) ord[i]:=by rw [aa1];exact an
    have h2:=hd.tree.next _ hx;obtain⟨j,hj,he⟩:=hd.only _ h2;rw [aa1] at he;rw [<-he,ho.at_ j hj];have:=ho.len;omega
   have ai:muF n ps (aeL s.1 ord[i] (abu ps s.1 (-1) (ae ord[i])))<muF n ps s.1:=by
    refine amm (c:=ord[i]) n (fun x hx=>?_) aO ?_
    . by_cases af:x=ord[i]
      . subst af
        unfold aej;rw [aa1,if_neg (by omega)];rcases hv aj with h | h
        . rw [if_pos h];omega
        . split <;> omega
      . unfold aej;rw [abl _ _ af];exact Aad _
    . unfold aej
      rw [aa1,if_neg (by omega)];rcases hv aj with h | h
      . rw [if_pos h];omega
      . split <;> omega
   exact⟨hd,Nat.le_of_lt ai,fun _=>ai⟩
 . rw [if_neg aj]
   have he:s.1 ord[i]=abu ps s.1 (-1) (ae ord[i]):=Classical.not_not.1 aj;rw [<-he,amF] at hd;exact⟨hd,Aad _,fun h=>absurd he h⟩
end
section
open Go.RowKit
theorem akK(ps:Nat->Nat)(up:Nat->Int)(f a:Nat):ac4 ps up f a a=a:=by
 cases f with
 | zero=>rfl
 | succ f=>rw [ac4,if_pos rfl]
set_option maxRecDepth 100000 in
set_option maxHeartbeats 2000000 in
theorem anr {S S' : Nat -> Prop} (ua ta : Option Addr) (uc tc n : Nat) (U T : List Int) (ps : Nat -> Nat) (up : Nat -> Int) (a b : Nat) (w : World) (hU : SlAt S w 1 aaO (.slice ua n uc) U) (hT : SlAt S' w 1 aaO (.slice ta n tc) T) (be : U.length = n) (bd : T.length = n)
 (_hn:n<=1048576) (hu:∀x,x<n->U.getD x 0=up x) (hp:∀x,x<n->0<=up x->T.getD x 0=(ps x:Int)) (ht:ahI n ps up) (ha:0<=up a) (hb:0<=up b) :
 Calls Tryz.prog 137 #[.slice ua n uc,.slice ta n tc,.int .i64 (a:Int),.int .i64 (b:Int)] w fun e w'=>e = .returned (.int .i64 (mtF ps up a b:Nat))∧Below w.heap.size w w':=by
 have HU:=hid hU;have HT:=hid hT;have aV:=hid be;have aU:=hid bd;have Hu:=hid hu;have Hp:=hid hp;have Ht:=hid ht;have Ha:=hid ha;have Hb:=hid hb;clear hU hT be bd hu hp ht ha hb;go_enter Tryz.func137,Tryz.ntmps137;go_wp2_with fail;go_loopw [2,3] (fun s2 s3 wr=>∃(f x y q:Nat),s2 = .int .i64 (x:Int)∧s3 = .int .i64 (y:Int)∧0<=up x∧0<=up y∧ps x+ps y<f∧ac4 ps up f x y=mtF ps up a b∧w.drewN q=wr) (fun s2 s3 _=>ps (intOf s2).toNat+ps (intOf s3).toNat)
 case atStart=>exact⟨_,a,b,0,rfl,rfl,Ha.out,Hb.out,by omega,rfl,rfl⟩
 case round =>
  obtain⟨f,x,y,q,rfl,rfl,hx,hy,hf,hr,rfl⟩:=hrel;have Hx:=hid hx;have Hy:=hid hy;have Hf:=hid hf;have Hr:=hid hr;have aL:=Ht.out.lt x hx;have aM:=Ht.out.lt y hy;clear hx hy hf hr
  by_cases hxy:(x:Int)=(y:Int)
  . obtain rfl:y=x:=by omega
    have hv:mtF ps up a b=y:=by
     rw [<-Hr.out,akK]
    have Hv:=hid hv;clear hv hxy;go_wp2_with fail;go_ret;exact⟨by rw [Hv.out];rfl,bE⟩
  . have q1:x<y∨y<x:=by omega
    have bf:x<T.length:=by rw [aU.out];exact aL
    have bk:y<T.length:=by rw [aU.out];exact aM
    have bg:x<U.length:=by rw [aV.out];exact aL
    have bl:y<U.length:=by rw [aV.out];exact aM
    obtain⟨tb,bA,rfl,c0⟩:=abb HT.out bf;obtain⟨bG,bm,e0,c1⟩:=abb HT.out bk;cases e0;obtain⟨ub,bB,rfl,d0⟩:=abb HU.out bg;obtain⟨bH,bo,e0,d1⟩:=abb HU.out bl;cases e0;have e1:T[x]=(ps x:Int):=by have h:=Hp.out x aL Hx.out;rw [Aac,Aaa bf] at h;exact h
    have e2:T[y]=(ps y:Int):=by have h:=Hp.out y aM Hy.out;rw [Aac,Aaa bk] at h;exact h
    have e3:U[x]=up x:=by have h:=Hu.out x aL;rw [Aac,Aaa bg] at h;exact h
    have e4:U[y]=up y:=by have h:=Hu.out y aM;rw [Aac,Aaa bl] at h;exact h
    rw [e1] at c0;rw [e2] at c1;rw [e3] at d0;rw [e4] at d1;obtain⟨x',az⟩:=Aas Hx.out;obtain⟨y',aA⟩:=Aas Hy.out;have aG:=Ht.out.next x Hx.out;have aH:=Ht.out.next y Hy.out;have aE:=Ht.out.less x Hx.out;have aF:=Ht.out.less y Hy.out;rw [az,Aaj] at aG aE;rw [aA,Aaj] at aH aF;rw [az] at d0;rw [aA] at d1;have z0:ps 0=0:=Ht.out.root;have au:=Ht.out.inj x y Hx.out Hy.out;obtain⟨f',rfl⟩:∃f',f=f'+1:=⟨f - 1,by have:=Hf.out;omega⟩
    obtain⟨p1,aI⟩:∃p1,ps x=p1:=⟨_,rfl⟩
    obtain⟨p2,aJ⟩:∃p2,ps y=p2:=⟨_,rfl⟩
    rw [aI] at c0;rw [aJ] at c1;have zt:tb<w.heap.size:=aac c0;have zu:ub<w.heap.size:=aac d0;have bp:=hid aG;have bq:=hid aH;have aj:x≠y:=by omega
    by_cases ai:p1<p2
    . have q2:decide (p1<p2)=true:=decide_eq_true ai
      have bj:y≠0:=fun e=>by rw [e,z0] at aJ;omega
      have aR:=aF bj;have Hv:Hid (ac4 ps up f' y' x=mtF ps up a b):=by
       show _=_;rw [<-Hr.out,show ac4 ps up (f'+1) x y=ac4 ps up f' (up y).toNat x by rw [ac4,if_neg aj,if_pos (by omega)],aA,Aaj]
      have Hm:Hid (ps y'+ps x<ps x+ps y):=by show _<_;omega
      clear az aA aE aF au z0 aj bj aR ai aI aJ e1 e2 e3 e4 aG aH hxy;go_wp2_with fail;go_quiet (fail);go_wp2_with fail;go_roundw
      case rel=>exact⟨f',y',x,_,rfl,rfl,bq.out,Hx.out,by have:=Hm.out;have:=Hf.out;omega,Hv.out,rfl⟩
      case measure=>have:=Hm.out;simp [intOf];omega
    . have q2:decide (p1<p2)=false:=decide_eq_false ai
      have ag:x≠0:=fun e=>by
       rw [e,z0] at aI;exact aj (au (by omega))
      have aQ:=aE ag;have Hv:Hid (ac4 ps up f' x' y=mtF ps up a b):=by
       show _=_;rw [<-Hr.out,show ac4 ps up (f'+1) x y=ac4 ps up f' (up x).toNat y by rw [ac4,if_neg aj,if_neg (by omega)],az,Aaj]
      have Hm:Hid (ps x'+ps y<ps x+ps y):=by show _<_;omega
      clear az aA aE aF au z0 aj ag aQ ai aI aJ e1 e2 e3 e4 aG aH hxy;go_wp2_with fail;go_quiet (fail);go_wp2_with fail;go_roundw
      case rel=>exact⟨f',x',y,_,rfl,rfl,bp.out,Hy.out,by have:=Hm.out;have:=Hf.out;omega,Hv.out,rfl⟩
      case measure=>have:=Hm.out;simp [intOf];omega
end
end Go.Proofs.YtnkfdeiigplhoaaGreatDoor
