import Derived.Test.YtgekbfgplclmeaaDoorPRepI
/- The tree of the blocks that rule others, plainly: what its rounds keep, and that they end. No program in sight. dom.meet: where two ways up meet. -/
namespace Go.Proofs.YtgekbfgplclmeaaDoor
section
open Go.RowKit
inductive Anc (up : Nat -> Int) : Nat -> Nat -> Prop
 | refl (x:Nat):Anc up x x
 | step {x v:Nat}:x≠0->Anc up (up x).toNat v->Anc up x v
structure af9 (n:Nat)(ps:Nat->Nat)(up:Nat->Int):Prop where
 zero:up 0=0
 root:ps 0=0
 lt:∀x,0<=up x->x<n
 next:∀x,0<=up x->0<=up (up x).toNat
 less:∀x,0<=up x->x≠0->ps (up x).toNat<ps x
 inj:∀x y,0<=up x->0<=up y->ps x=ps y->x=y
section
variable {n : Nat} {ps : Nat -> Nat} {up : Nat -> Int} {x y v w : Nat}
theorem Anc.pr(ht:af9 n ps up)(h:Anc up x v):0<=up x->0<=up v∧ps v<=ps x∧(v≠x->ps v<ps x):=by
 induction h with
 | refl x=>exact fun hx=>⟨hx,Aad _,fun h=>absurd rfl h⟩
 | step h0 h ih =>
   intro hx;obtain⟨a,b,c⟩:=ih (ht.next _ hx);have:=ht.less _ hx h0;exact⟨a,by omega,fun _=>by omega⟩
theorem Anc.trans(h:Anc up x y):Anc up y v->Anc up x v:=by
 induction h with
 | refl x=>exact fun h=>h
 | step h0 h ih=>exact fun k => .step h0 (ih k)
theorem Anc.above(h:Anc up x v)(ai:v≠x):x≠0∧Anc up (up x).toNat v:=by
 cases h with
 | refl=>exact absurd rfl ai
 | step h0 h=>exact⟨h0,h⟩
end
def acu (ps : Nat -> Nat) (up : Nat -> Int) : Nat -> Nat -> Nat -> Nat
 | 0,a,_=>a
 | f+1,a,b=>if a=b then a else if ps a<ps b then acu ps up f (up b).toNat a else acu ps up f (up a).toNat b
theorem afl {n:Nat}{ps:Nat->Nat}{up:Nat->Int}(ht:af9 n ps up):∀f a b,0<=up a->0<=up b->ps a+ps b<f ->
 Anc up a (acu ps up f a b)∧Anc up b (acu ps up f a b)∧∀v,Anc up a v->Anc up b v->Anc up (acu ps up f a b) v:=by
 intro f
 induction f with
 | zero=>intro a b _ _ h;omega
 | succ f ih =>
   intro a b ha hb hf;rw [acu]
   by_cases hab:a=b
   . subst hab
     rw [if_pos rfl];exact⟨.refl _,.refl _,fun v h _=>h⟩
   . rw [if_neg hab]
     by_cases ag:ps a<ps b
     . rw [if_pos ag]
       have al:b≠0:=fun e=>by rw [e,ht.root] at ag;omega
       have hl:=ht.less b hb al;obtain⟨h1,h2,h3⟩:=ih (up b).toNat a (ht.next b hb) ha (by omega);refine⟨h2,.step al h1,fun v k1 k2=>h3 v ?_ k1⟩;refine (k2.above fun e=>?_).2;have:=(k1.pr ht ha).2.1;rw [e] at this;omega
     . rw [if_neg ag]
       have ai:ps a≠ps b:=fun e=>hab (ht.inj a b ha hb e);have aX:a≠0:=fun e=>by rw [e,ht.root] at ag ai;omega
       have hl:=ht.less a ha aX;obtain⟨h1,h2,h3⟩:=ih (up a).toNat b (ht.next a ha) hb (by omega);refine⟨.step aX h1,h2,fun v k1 k2=>h3 v ?_ k2⟩;refine (k1.above fun e=>?_).2;have:=(k2.pr ht hb).2.1;rw [e] at this;omega
def mtF(ps:Nat->Nat)(up:Nat->Int)(a b:Nat):Nat:=acu ps up (ps a+ps b+1) a b
def agO(ps:Nat->Nat)(up:Nat->Int)(ad:Int)(p:Nat):Int:=if up p<0 then ad else if ad<0 then (p:Int) else ((mtF ps up ad.toNat p:Nat):Int)
def aa9(ps:Nat->Nat)(up:Nat->Int)(ad:Int)(l:List Nat):Int:=l.foldl (agO ps up) ad
theorem ahU {n:Nat}{ps:Nat->Nat}{up:Nat->Int}(ht:af9 n ps up):∀(l:List Nat) (ad:Int),(0<=ad->0<=up ad.toNat)->(0<=ad∨∃p∈l,0<=up p) ->
 0<=aa9 ps up ad l∧0<=up (aa9 ps up ad l).toNat∧∀v,Anc up (aa9 ps up ad l).toNat v↔(0<=ad->Anc up ad.toNat v)∧∀p∈l,0<=up p->Anc up p v:=by
 intro l
 induction l with
 | nil =>
   intro ad hb h;have h0:0<=ad:=by
    rcases h with h | ⟨p,hp,-⟩
    . exact h
    . cases hp
   exact⟨h0,hb h0,fun v=>⟨fun h=>⟨fun _=>h,fun p hp=>by cases hp⟩,fun h=>h.1 h0⟩⟩
 | cons p l ih =>
   intro ad hb h;show 0<=aa9 ps up (agO ps up ad p) l∧_;have br:aa9 ps up ad (p :: l)=aa9 ps up (agO ps up ad p) l:=rfl;rw [br]
   by_cases hp:up p<0
   . have e:agO ps up ad p=ad:=by unfold agO;rw [if_pos hp]
     rw [e]
     obtain ⟨h1, h2, h3⟩ := ih ad hb (by
      rcases h with h | ⟨q, hq, au⟩
      . exact .inl h
      . rcases Aax.1 hq with rfl | hq
        . omega
        . exact .inr ⟨q, hq, au⟩)
     refine⟨h1,h2,fun v=>(h3 v).trans ⟨fun h=>⟨h.1,fun q hq au=>?_⟩,fun h=>⟨h.1,fun q hq=>h.2 q (by simp [hq])⟩⟩⟩;rcases Aax.1 hq with rfl | hq
     . omega
     . exact h.2 q hq au
   . by_cases al:ad<0
     . have e:agO ps up ad p=(p:Int):=by unfold agO;rw [if_neg hp,if_pos al]
       rw [e];obtain⟨h1,h2,h3⟩:=ih (p:Int) (fun _=>by rw [Aag];omega) (.inl (by omega));refine⟨h1,h2,fun v=>(h3 v).trans ?_⟩;rw [Aag];refine⟨fun h=>⟨fun h'=>by omega,fun q hq au=>?_⟩,fun h=>⟨fun _=>h.2 p (by simp) (by omega),fun q hq=>h.2 q (by simp [hq])⟩⟩;rcases Aax.1 hq with rfl | hq
       . exact h.1 (by omega)
       . exact h.2 q hq au
     . have e:agO ps up ad p=((mtF ps up ad.toNat p:Nat):Int):=by unfold agO;rw [if_neg hp,if_neg al]
       rw [e];obtain⟨m1,m2,m3⟩:=afl ht _ ad.toNat p (hb (by omega)) (by omega) (Aa8 _);have bw:acu ps up (ps ad.toNat+ps p).succ ad.toNat p=mtF ps up ad.toNat p:=rfl;rw [bw] at m1 m2 m3;obtain⟨h1,h2,h3⟩:=ih ((mtF ps up ad.toNat p:Nat):Int) (fun _=>by rw [Aag];exact (m1.pr ht (hb (by omega))).1) (.inl (by omega));refine⟨h1,h2,fun v=>(h3 v).trans ?_⟩;rw [Aag];refine⟨fun h=>⟨fun _=>m1.trans (h.1 (by omega)),fun q hq au=>?_⟩,fun h=>⟨fun _=>m3 v (h.1 (by omega)) (h.2 p (by simp) (by omega)),fun q hq=>h.2 q (by simp [hq])⟩⟩;rcases Aax.1 hq with rfl | hq
       . exact m2.trans (h.1 (by omega))
       . exact h.2 q hq au
structure Rpo (n:Nat)(ord:List Nat)(ps:Nat->Nat)(ahd:Nat->List Nat)(fp:Nat->Nat):Prop where
 pos:0<ord.length
 len:ord.length<=n
 lt:∀x∈ord,x<n
 at_:∀j (h:j<ord.length),ps ord[j]=j
 head:∀(h:0<ord.length),ord[0]=0
 fore:∀j (h:j<ord.length),1<=j->fp ord[j]∈ahd ord[j]∧∃j',∃h':j'<ord.length,j'<j∧ord[j']=fp ord[j]
structure DSt (n:Nat)(ord:List Nat)(ps:Nat->Nat)(ahd:Nat->List Nat)(fp:Nat->Nat)(i:Nat)(up:Nat->Int):Prop where
 tree:af9 n ps up
 done:∀j (h:j<ord.length),j<i->0<=up ord[j]
 only:∀x,0<=up x->∃j,∃h:j<ord.length,ord[j]=x
 fpd:∀x,0<=up x->x≠0->0<=up (fp x)
 g:∀x,0<=up x->i<ps x->∀c,i<=ps c->Anc up x c->c≠x->Anc up (fp x) c
 h:∀x,0<=up x->x≠0->ps x<i->∀c,Anc up x c->c≠x->Anc up (fp x) c
 inv:∀x,0<=up x->x≠0->∀v,(∀p∈ahd x,0<=up p->Anc up p v)->Anc up x v
def adK(up:Nat->Int)(c:Nat)(b:Int):Nat->Int:=fun x=>if x=c then b else up x
section
variable {n : Nat} {ps : Nat -> Nat} {up : Nat -> Int} {c : Nat} {b : Int} {x v : Nat}
theorem aaR(up:Nat->Int)(c:Nat)(b:Int):adK up c b c=b:=if_pos rfl
theorem aa3(up:Nat->Int){c:Nat}(b:Int){x:Nat}(h:x≠c):adK up c b x=up x:=if_neg h
theorem afC(h:Anc up x v):¬Anc up x c->Anc (adK up c b) x v:=by
 induction h with
 | refl x=>exact fun _ => .refl _
 | @step x v h0 h ih =>
   intro hn;have ae:x≠c:=fun e=>hn (by rw [e];exact .refl _);refine .step h0 ?_;rw [aa3 _ _ ae];exact ih fun k=>hn (.step h0 k)
theorem aiE(h:Anc (adK up c b) x v):¬Anc up x c->Anc up x v:=by
 induction h with
 | refl x=>exact fun _ => .refl _
 | @step x v h0 h ih =>
   intro hn;have ae:x≠c:=fun e=>hn (by rw [e];exact .refl _);rw [aa3 _ _ ae] at ih;exact .step h0 (ih fun k=>hn (.step h0 k))
theorem al3(h:Anc up x c):Anc (adK up c b) x c:=by
 induction h with
 | refl x=>exact .refl _
 | @step x v h0 h ih =>
   by_cases ae:x=v
   . rw [ae];exact .refl _
   . refine .step h0 ?_
     rw [aa3 _ _ ae];exact ih
theorem agb(ht:af9 n ps up)(h:Anc up x c):0<=up x->Anc (adK up c b) x v->(Anc up x v∧ps c<=ps v)∨Anc (adK up c b) c v:=by
 induction h with
 | refl x=>exact fun _ h => .inr h
 | @step x c h0 h ih =>
   intro hx hv
   by_cases ae:x=c
   . subst ae;exact .inr hv
   . have hle:=((Anc.step h0 h).pr ht hx).2.1
     by_cases hvx:v=x
     . subst hvx;exact .inl ⟨.refl _,hle⟩
     . have h2:=(hv.above hvx).2
       rw [aa3 _ _ ae] at h2;rcases ih (ht.next _ hx) h2 with⟨h3,h4⟩ | h3
       . exact .inl ⟨.step h0 h3,h4⟩
       . exact .inr h3
theorem aho(ht:af9 n ps up)(h:Anc up x v):0<=up x->ps c<=ps v->Anc (adK up c b) x v:=by
 induction h with
 | refl x=>exact fun _ _ => .refl _
 | @step x v h0 h ih =>
   intro hx hle;have hl:=ht.less _ hx h0;have hp:=(h.pr ht (ht.next _ hx)).2.1;have ae:x≠c:=fun e=>by rw [<-e] at hle;omega
   refine .step h0 ?_;rw [aa3 _ _ ae];exact ih (ht.next _ hx) hle
end
variable {n:Nat}{ord:List Nat}{ps fp:Nat->Nat}{ahd:Nat->List Nat}
theorem DSt.turn{i:Nat}{up:Nat->Int}(ho:Rpo n ord ps ahd fp)(hs:DSt n ord ps ahd fp i up)(h1:1<=i)(hi:i<ord.length) :
 0<=aa9 ps up (-1) (ahd ord[i])∧(aa9 ps up (-1) (ahd ord[i])).toNat<n∧DSt n ord ps ahd fp (i+1) (adK up ord[i] (aa9 ps up (-1) (ahd ord[i]))) ∧
   (up ord[i]≠aa9 ps up (-1) (ahd ord[i])->up ord[i]<0∨ps (aa9 ps up (-1) (ahd ord[i])).toNat<ps (up ord[i]).toNat):=by
 have ht:=hs.tree;obtain⟨c,hc⟩:∃c,c=ord[i]:=⟨_,rfl⟩
 have bx:ps c=i:=by rw [hc];exact ho.at_ i hi
 have aY:c≠0:=fun e=>by rw [e,ht.root] at bx;omega
 have aN:c<n:=by rw [hc];exact ho.lt _ (Aai _)
 obtain⟨aC,j',a7,aw,aO⟩:=ho.fore i hi h1;rw [<-hc] at aC aO ⊢;have ak:0<=up (fp c):=by rw [<-aO];exact hs.done j' a7 aw
 have aS:ps (fp c)<i:=by rw [<-aO,ho.at_ j' a7];exact aw
 obtain⟨al,aq,hb⟩:=ahU ht (ahd c) (-1) (fun h=>by omega) (.inr ⟨_,aC,ak⟩);obtain⟨ad,an⟩:∃ad,ad=aa9 ps up (-1) (ahd c):=⟨_,rfl⟩
 rw [<-an] at al aq hb ⊢;obtain⟨b,rfl⟩:=Aao al;rw [Aag] at aq hb ⊢;have hb:∀v,Anc up b v↔∀p∈ahd c,0<=up p->Anc up p v:=fun v=>(hb v).trans ⟨fun h=>h.2,fun h=>⟨fun h=>by omega,h⟩⟩;clear an al;have aM:Anc up (fp c) b:=(hb b).1 (.refl _) _ aC ak;have aR:ps b<i:=by have:=(aM.pr ht ak).2.1;omega
 have bq:b≠c:=fun e=>by rw [e] at aR;omega
 -- ways that do not go through c
 have off:∀x,0<=up x->ps x<i->¬Anc up x c:=fun x hx ag h=>by have:=(h.pr ht hx).2.1;omega
 have av:∀v,Anc (adK up c b) c v->v=c∨Anc up b v:=fun v h=>by
  by_cases hv:v=c
  . exact .inl hv
  . have h2:=(h.above hv).2
    rw [aaR,Aag] at h2;exact .inr (aiE h2 (off b aq aR))
 have aV:0<=up c->Anc up c b:=fun bt=>hs.inv c bt aY b ((hb b).1 (.refl _));have sub:∀x,0<=up x->∀v,Anc (adK up c b) x v->Anc up x v:=fun x hx v h=>by
  by_cases ae:Anc up x c
  . rcases agb ht ae hx h with h2 | h2
    . exact h2.1
    . rcases av v h2 with rfl | h3
      . exact ae
      . exact ae.trans ((aV (ae.pr ht hx).1).trans h3)
  . exact aiE h ae
 have pr:∀x,0<=adK up c b x->x=c∨0<=up x:=fun x h=>by
  by_cases hx:x=c
  . exact .inl hx
  . rw [aa3 _ _ hx] at h;exact .inr h
 have ao:∀x,0<=up x->0<=adK up c b x:=fun x h=>by
  by_cases hx:x=c
  . rw [hx,aaR];omega
  . rw [aa3 _ _ hx];exact h
 have aj:∀x,0<=adK up c b x->∃j,∃h:j<ord.length,ord[j]=x:=fun x hx=>by
  rcases pr x hx with rfl | hx
  . exact⟨i,hi,hc.symm⟩
  . exact hs.only x hx
 have aA:∀x y,0<=adK up c b x->0<=adK up c b y->ps x=ps y->x=y:=fun x y hx hy he=>by
  obtain⟨j1,k1,rfl⟩:=aj x hx;obtain⟨j2,k2,rfl⟩:=aj y hy;rw [ho.at_ j1 k1,ho.at_ j2 k2] at he;subst he;rfl
 have aW:∀x,0<=adK up c b x->x≠0->fp x∈ahd x∧ps (fp x)<ps x:=fun x hx af=>by
  obtain⟨j,hj,rfl⟩:=aj x hx;have bu:1<=j:=by
   rcases Nat.eq_zero_or_pos j with rfl | h
   . exact absurd (ho.head ho.pos) af
   . exact h
  obtain⟨g1,j2,g2,g3,g4⟩:=ho.fore j hj bu;exact⟨g1,by rw [<-g4,ho.at_ j2 g2,ho.at_ j hj];exact g3⟩
 refine⟨by omega,ht.lt b aq,⟨⟨?_,ht.root,?_,?_,?_,aA⟩,?_,aj,?_,?_,?_,?_⟩,?_⟩
 . rw [aa3 _ _ (Ne.symm aY)];exact ht.zero
 . intro x hx
   rcases pr x hx with rfl | hx
   . exact aN
   . exact ht.lt x hx
 . intro x hx
   by_cases ae:x=c
   . rw [ae,aaR,Aag];exact ao b aq
   . rw [aa3 _ _ ae] at hx ⊢
     exact ao _ (ht.next x hx)
 . intro x hx af
   by_cases ae:x=c
   . rw [ae,aaR,Aag];omega
   . rw [aa3 _ _ ae] at hx ⊢
     exact ht.less x hx af
 . intro j hj bC
   by_cases hje:j=i
   . subst hje;rw [<-hc,aaR];omega
   . exact ao _ (hs.done j hj (by omega))
 . intro x hx af
   rcases pr x hx with rfl | hx
   . exact ao _ ak
   . exact ao _ (hs.fpd x hx af)
 . intro x hx a6 d hid hd aB
   have ae:x≠c:=fun e=>by rw [e] at a6;omega
   rw [aa3 _ _ ae] at hx;have af:x≠0:=fun e=>by rw [e,ht.root] at a6;omega
   have h2:=hs.g x hx (by omega) d (by omega) (sub x hx d hd) aB;exact aho ht h2 (hs.fpd x hx af) (by omega)
 . intro x hx af bD d hd aB
   by_cases ae:x=c
   . subst ae
     rcases av d hd with rfl | h2
     . exact absurd rfl aB
     . exact afC ((hb d).1 h2 _ aC ak) (off _ ak aS)
   . have aJ:=hx
     rw [aa3 _ _ ae] at hx;have ag:ps x<i:=by
      rcases Nat.lt_or_ge (ps x) i with h | h
      . exact h
      . exact absurd (aA x c aJ (by rw [aaR];omega) (by omega)) ae
     have h2:=hs.h x hx af ag d (aiE hd (off x hx ag)) aB;exact afC h2 (off _ (hs.fpd x hx af) (by have:=(aW x aJ af).2;omega))
 . intro x hx af v hv
   by_cases ae:x=c
   . subst ae
     have h2:Anc up b v:=(hb v).2 fun p hp ax=>sub p ax v (hv p hp (ao p ax));refine .step af ?_;rw [aaR,Aag];exact afC h2 (off b aq aR)
   . have aJ:=hx
     rw [aa3 _ _ ae] at hx;have bg:Anc up x v:=hs.inv x hx af v fun p hp ax=>sub p ax v (hv p hp (ao p ax))
     by_cases hxc2:Anc up x c
     . have ag:i<ps x:=by have:=(hxc2.pr ht hx).2.2 (Ne.symm ae);omega
       have h3:=hs.g x hx ag c (by omega) hxc2 (Ne.symm ae);have aZ:=hs.fpd x hx af;rcases agb ht h3 aZ (hv _ (aW x aJ af).1 (ao _ aZ)) with h4 | h4
       . exact aho ht bg hx h4.2
       . exact (al3 hxc2).trans h4
     . exact afC bg hxc2
 . intro ai
   by_cases ag:up c<0
   . exact .inl ag
   . refine .inr ?_
     have a1:0<=up c:=by omega
     have h2:=((aV a1).above bq).2;refine (h2.pr ht (ht.next c a1)).2.2 fun e=>ai ?_;rw [e];omega
theorem DSt.again{up:Nat->Int}(ho:Rpo n ord ps ahd fp)(hs:DSt n ord ps ahd fp ord.length up):DSt n ord ps ahd fp 1 up:=by
 have hp:=ho.pos;have ag:∀x,0<=up x->ps x<ord.length:=fun x hx=>by
  obtain⟨j,hj,rfl⟩:=hs.only x hx;rw [ho.at_ j hj];exact hj
 refine⟨hs.tree,fun j h hj=>hs.done j h h,hs.only,hs.fpd,fun x hx h1 c _ h2 h3=>?_,fun x hx h0 h1=>?_,hs.inv⟩
 . exact hs.h x hx (fun e=>by rw [e,hs.tree.root] at h1;omega) (ag x hx) c h2 h3
 . exact absurd (hs.tree.inj x 0 hx (by rw [hs.tree.zero];omega) (by rw [hs.tree.root];omega)) h0
def up0:Nat->Int:=fun x=>if x=0 then 0 else -1
theorem DSt.start(ho:Rpo n ord ps ahd fp)(hr:ps 0=0):DSt n ord ps ahd fp 1 up0:=by
 have h0:∀x,0<=up0 x->x=0:=fun x hx=>by
  unfold up0 at hx;split at hx
  . assumption
  . omega
 have hn:=ho.lt _ (Aai ho.pos);refine⟨⟨rfl,hr,fun x hx=>?_,fun x hx=>?_,fun x hx af=>absurd (h0 x hx) af,fun x y hx hy _=>(h0 x hx).trans (h0 y hy).symm⟩,fun j h hj=>?_,fun x hx=>?_,fun x hx af=>absurd (h0 x hx) af,fun x hx h1=>?_,fun x hx af=>absurd (h0 x hx) af,fun x hx af=>absurd (h0 x hx) af⟩
 . rw [h0 x hx];omega
 . rw [h0 x hx];decide
 . obtain rfl:j=0:=by omega
   rw [ho.head h];decide
 . rw [h0 x hx];exact⟨0,ho.pos,ho.head ho.pos⟩
 . rw [h0 x hx,hr] at h1;omega
def adl(n:Nat)(ps:Nat->Nat)(up:Nat->Int):Nat->Nat:=fun x=>if up x<0 then n else ps (up x).toNat
def alW (f : Nat -> Nat) : Nat -> Nat
 | 0=>0
 | k+1=>alW f k+f k
theorem af2 {f g : Nat -> Nat} : ∀ k, (∀ x, x < k -> f x <= g x) -> alW f k <= alW g k
 | 0,_=>Aad _
 | k+1,h=>Nat.add_le_add (af2 k fun x hx=>h x (by omega)) (h k (by omega))
theorem aju {f g : Nat -> Nat} {c : Nat} : ∀ k, (∀ x, x < k -> f x <= g x) -> c < k -> f c < g c -> alW f k < alW g k
 | 0,_,h,_=>by omega
 | k+1,h,hc,ag=>by
   by_cases hck:c=k
   . subst hck
     exact Nat.add_lt_add_of_le_of_lt (af2 c fun x hx=>h x (by omega)) ag
   . exact Nat.add_lt_add_of_lt_of_le (aju k (fun x hx=>h x (by omega)) (by omega) ag) (h k (by omega))
def muF(n:Nat)(ps:Nat->Nat)(up:Nat->Int):Nat:=alW (adl n ps up) n
def acV(ps:Nat->Nat)(ahd:Nat->List Nat)(s:(Nat->Int)×Bool)(b:Nat):(Nat->Int)×Bool :=
 if s.1 b≠aa9 ps s.1 (-1) (ahd b) then (adK s.1 b (aa9 ps s.1 (-1) (ahd b)),true) else s
def aeJ(ps:Nat->Nat)(ahd:Nat->List Nat)(l:List Nat)(s:(Nat->Int)×Bool):(Nat->Int)×Bool:=l.foldl (acV ps ahd) s
def ain (ps : Nat -> Nat) (ahd : Nat -> List Nat) (l : List Nat) : Nat -> (Nat -> Int) -> (Nat -> Int)
 | 0,up=>up
 | f+1,up=>if (aeJ ps ahd l (up,false)).2=true then ain ps ahd l f (aeJ ps ahd l (up,false)).1 else (aeJ ps ahd l (up,false)).1
theorem ajJ(up:Nat->Int)(c:Nat):adK up c (up c)=up:=by
 funext x
 by_cases h:x=c
 . rw [h,aaR]
 . rw [aa3 _ _ h]
theorem alA{i:Nat}{s:(Nat->Int)×Bool}(ho:Rpo n ord ps ahd fp)(hs:DSt n ord ps ahd fp i s.1)(h1:1<=i)(hi:i<ord.length) :
 DSt n ord ps ahd fp (i+1) (acV ps ahd s ord[i]).1∧muF n ps (acV ps ahd s ord[i]).1<=muF n ps s.1∧(s.1 ord[i]≠aa9 ps s.1 (-1) (ahd ord[i])->muF n ps (acV ps ahd s ord[i]).1<muF n ps s.1):=by
 obtain⟨al,bB,hd,hv⟩:=hs.turn ho h1 hi;unfold acV
 by_cases ai:s.1 ord[i]≠aa9 ps s.1 (-1) (ahd ord[i])
 . rw [if_pos ai]
   have aN:ord[i]<n:=ho.lt _ (Aai _);have aq:ps (aa9 ps s.1 (-1) (ahd ord[i])).toNat<n:=by
    have hx:0<=adK s.1 ord[i] (aa9 ps s.1 (-1) (ahd ord[i])) ord[i]:=by rw [aaR];exact al
    have h2:=hd.tree.next _ hx;obtain⟨j,hj,he⟩:=hd.only _ h2;rw [aaR] at he;rw [<-he,ho.at_ j hj];have:=ho.len;omega
   have ag:muF n ps (adK s.1 ord[i] (aa9 ps s.1 (-1) (ahd ord[i])))<muF n ps s.1:=by
    refine aju (c:=ord[i]) n (fun x hx=>?_) aN ?_
    . by_cases ae:x=ord[i]
      . subst ae
        unfold adl;rw [aaR,if_neg (by omega)];rcases hv ai with h | h
        . rw [if_pos h];omega
        . split <;> omega
      . unfold adl;rw [aa3 _ _ ae];exact Aad _
    . unfold adl
      rw [aaR,if_neg (by omega)];rcases hv ai with h | h
      . rw [if_pos h];omega
      . split <;> omega
   exact⟨hd,Nat.le_of_lt ag,fun _=>ag⟩
 . rw [if_neg ai]
   have he:s.1 ord[i]=aa9 ps s.1 (-1) (ahd ord[i]):=Classical.not_not.1 ai;rw [<-he,ajJ] at hd;exact⟨hd,Aad _,fun h=>absurd he h⟩
end
section
open Go.RowKit
theorem ah8(ps:Nat->Nat)(up:Nat->Int)(f a:Nat):acu ps up f a a=a:=by
 cases f with
 | zero=>rfl
 | succ f=>rw [acu,if_pos rfl]
set_option maxRecDepth 100000 in
set_option maxHeartbeats 2000000 in
theorem akf {S S' : Nat -> Prop} (ua ta : Option Addr) (uc tc n : Nat) (U T : List Int) (ps : Nat -> Nat) (up : Nat -> Int) (a b : Nat) (w : World) (hU : SlAt S w 1 abe (.slice ua n uc) U) (hT : SlAt S' w 1 abe (.slice ta n tc) T) (bd : U.length = n) (a8 : T.length = n)
 (_hn:n<=1048576) (hu:∀x,x<n->U.getD x 0=up x) (hp:∀x,x<n->0<=up x->T.getD x 0=(ps x:Int)) (ht:af9 n ps up) (ha:0<=up a) (hb:0<=up b) :
 Calls Tryd.prog 81 #[.slice ua n uc,.slice ta n tc,.int .i64 (a:Int),.int .i64 (b:Int)] w fun e w'=>e = .returned (.int .i64 (mtF ps up a b:Nat))∧Below w.heap.size w w':=by
 have HU:=hid hU;have HT:=hid hT;have aU:=hid bd;have aT:=hid a8;have Hu:=hid hu;have Hp:=hid hp;have Ht:=hid ht;have Ha:=hid ha;have Hb:=hid hb;clear hU hT bd a8 hu hp ht ha hb;go_enter Tryd.func81,Tryd.ntmps81;go_wp2_with fail;go_loopw [2,3] (fun s2 s3 wr=>∃(f x y q:Nat),s2 = .int .i64 (x:Int)∧s3 = .int .i64 (y:Int)∧0<=up x∧0<=up y∧ps x+ps y<f∧acu ps up f x y=mtF ps up a b∧w.drewN q=wr) (fun s2 s3 _=>ps (intOf s2).toNat+ps (intOf s3).toNat)
 case atStart=>exact⟨_,a,b,0,rfl,rfl,Ha.out,Hb.out,by omega,rfl,rfl⟩
 case round =>
  obtain⟨f,x,y,q,rfl,rfl,hx,hy,hf,hr,rfl⟩:=hrel;have Hx:=hid hx;have Hy:=hid hy;have Hf:=hid hf;have Hr:=hid hr;have aK:=Ht.out.lt x hx;have aL:=Ht.out.lt y hy;clear hx hy hf hr
  by_cases hxy:(x:Int)=(y:Int)
  . obtain rfl:y=x:=by omega
    have hv:mtF ps up a b=y:=by
     rw [<-Hr.out,ah8]
    have Hv:=hid hv;clear hv hxy;go_wp2_with fail;go_ret;exact⟨by rw [Hv.out];rfl,bE⟩
  . have q1:x<y∨y<x:=by omega
    have be:x<T.length:=by rw [aT.out];exact aK
    have bj:y<T.length:=by rw [aT.out];exact aL
    have bf:x<U.length:=by rw [aU.out];exact aK
    have bk:y<U.length:=by rw [aU.out];exact aL
    obtain⟨tb,bz,rfl,c0⟩:=abq HT.out be;obtain⟨bF,bl,e0,c1⟩:=abq HT.out bj;cases e0;obtain⟨ub,bA,rfl,d0⟩:=abq HU.out bf;obtain⟨bG,bm,e0,d1⟩:=abq HU.out bk;cases e0;have e1:T[x]=(ps x:Int):=by have h:=Hp.out x aK Hx.out;rw [Aab,Aaa be] at h;exact h
    have e2:T[y]=(ps y:Int):=by have h:=Hp.out y aL Hy.out;rw [Aab,Aaa bj] at h;exact h
    have e3:U[x]=up x:=by have h:=Hu.out x aK;rw [Aab,Aaa bf] at h;exact h
    have e4:U[y]=up y:=by have h:=Hu.out y aL;rw [Aab,Aaa bk] at h;exact h
    rw [e1] at c0;rw [e2] at c1;rw [e3] at d0;rw [e4] at d1;obtain⟨x',ay⟩:=Aao Hx.out;obtain⟨y',az⟩:=Aao Hy.out;have aF:=Ht.out.next x Hx.out;have aG:=Ht.out.next y Hy.out;have aD:=Ht.out.less x Hx.out;have aE:=Ht.out.less y Hy.out;rw [ay,Aag] at aF aD;rw [az,Aag] at aG aE;rw [ay] at d0;rw [az] at d1;have z0:ps 0=0:=Ht.out.root;have ar:=Ht.out.inj x y Hx.out Hy.out;obtain⟨f',rfl⟩:∃f',f=f'+1:=⟨f - 1,by have:=Hf.out;omega⟩
    obtain⟨p1,aH⟩:∃p1,ps x=p1:=⟨_,rfl⟩
    obtain⟨p2,aI⟩:∃p2,ps y=p2:=⟨_,rfl⟩
    rw [aH] at c0;rw [aI] at c1;have zt:tb<w.heap.size:=aac c0;have zu:ub<w.heap.size:=aac d0;have bo:=hid aF;have bp:=hid aG;have ai:x≠y:=by omega
    by_cases ag:p1<p2
    . have q2:decide (p1<p2)=true:=decide_eq_true ag
      have bh:y≠0:=fun e=>by rw [e,z0] at aI;omega
      have aQ:=aE bh;have Hv:Hid (acu ps up f' y' x=mtF ps up a b):=by
       show _=_;rw [<-Hr.out,show acu ps up (f'+1) x y=acu ps up f' (up y).toNat x by rw [acu,if_neg ai,if_pos (by omega)],az,Aag]
      have Hm:Hid (ps y'+ps x<ps x+ps y):=by show _<_;omega
      clear ay az aD aE ar z0 ai bh aQ ag aH aI e1 e2 e3 e4 aF aG hxy;go_wp2_with fail;go_quiet (fail);go_wp2_with fail;go_roundw
      case rel=>exact⟨f',y',x,_,rfl,rfl,bp.out,Hx.out,by have:=Hm.out;have:=Hf.out;omega,Hv.out,rfl⟩
      case measure=>have:=Hm.out;simp [intOf];omega
    . have q2:decide (p1<p2)=false:=decide_eq_false ag
      have af:x≠0:=fun e=>by
       rw [e,z0] at aH;exact ai (ar (by omega))
      have aP:=aD af;have Hv:Hid (acu ps up f' x' y=mtF ps up a b):=by
       show _=_;rw [<-Hr.out,show acu ps up (f'+1) x y=acu ps up f' (up x).toNat y by rw [acu,if_neg ai,if_neg (by omega)],ay,Aag]
      have Hm:Hid (ps x'+ps y<ps x+ps y):=by show _<_;omega
      clear ay az aD aE ar z0 ai af aP ag aH aI e1 e2 e3 e4 aF aG hxy;go_wp2_with fail;go_quiet (fail);go_wp2_with fail;go_roundw
      case rel=>exact⟨f',x',y,_,rfl,rfl,bo.out,Hy.out,by have:=Hm.out;have:=Hf.out;omega,Hv.out,rfl⟩
      case measure=>have:=Hm.out;simp [intOf];omega
end
end Go.Proofs.YtgekbfgplclmeaaDoor
