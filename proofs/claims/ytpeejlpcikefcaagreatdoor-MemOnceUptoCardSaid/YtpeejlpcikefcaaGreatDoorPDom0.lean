import Derived.Test.YtpeejlpcikefcaaGreatDoorPChk3
/- The tree of the blocks that rule others, plainly: what its rounds keep, and that they end. No program in sight. -/
namespace Go.Proofs.YtpeejlpcikefcaaGreatDoor
open Go.RowKit
inductive Anc (up : Nat -> Int) : Nat -> Nat -> Prop
 | refl (x:Nat):Anc up x x
 | step {x v:Nat}:x≠0->Anc up (up x).toNat v->Anc up x v
structure akl (n:Nat)(ps:Nat->Nat)(up:Nat->Int):Prop where
 zero:up 0=0
 root:ps 0=0
 lt:∀x,0<=up x->x<n
 next:∀x,0<=up x->0<=up (up x).toNat
 less:∀x,0<=up x->x≠0->ps (up x).toNat<ps x
 inj:∀x y,0<=up x->0<=up y->ps x=ps y->x=y
section
variable {n : Nat} {ps : Nat -> Nat} {up : Nat -> Int} {x y v w : Nat}
theorem Anc.pr(ht:akl n ps up)(h:Anc up x v):0<=up x->0<=up v∧ps v<=ps x∧(v≠x->ps v<ps x):=by
 induction h with
 | refl x=>exact fun hx=>⟨hx,Aac _,fun h=>absurd rfl h⟩
 | step h0 h ih =>
   intro hx;obtain⟨a,b,c⟩:=ih (ht.next _ hx);have:=ht.less _ hx h0;exact⟨a,by omega,fun _=>by omega⟩
theorem Anc.trans(h:Anc up x y):Anc up y v->Anc up x v:=by
 induction h with
 | refl x=>exact fun h=>h
 | step h0 h ih=>exact fun k => .step h0 (ih k)
theorem Anc.above(h:Anc up x v)(ak:v≠x):x≠0∧Anc up (up x).toNat v:=by
 cases h with
 | refl=>exact absurd rfl ak
 | step h0 h=>exact⟨h0,h⟩
end
def ad4 (ps : Nat -> Nat) (up : Nat -> Int) : Nat -> Nat -> Nat -> Nat
 | 0,a,_=>a
 | f+1,a,b=>if a=b then a else if ps a<ps b then ad4 ps up f (up b).toNat a else ad4 ps up f (up a).toNat b
theorem aiS {n:Nat}{ps:Nat->Nat}{up:Nat->Int}(ht:akl n ps up):∀f a b,0<=up a->0<=up b->ps a+ps b<f ->
 Anc up a (ad4 ps up f a b)∧Anc up b (ad4 ps up f a b)∧∀v,Anc up a v->Anc up b v->Anc up (ad4 ps up f a b) v:=by
 intro f
 induction f with
 | zero=>intro a b _ _ h;omega
 | succ f ih =>
   intro a b ha hb hf;rw [ad4]
   by_cases hab:a=b
   . subst hab
     rw [if_pos rfl];exact⟨.refl _,.refl _,fun v h _=>h⟩
   . rw [if_neg hab]
     by_cases ah:ps a<ps b
     . rw [if_pos ah]
       have al:b≠0:=fun e=>by rw [e,ht.root] at ah;omega
       have hl:=ht.less b hb al;obtain⟨h1,h2,h3⟩:=ih (up b).toNat a (ht.next b hb) ha (by omega);refine⟨h2,.step al h1,fun v k1 k2=>h3 v ?_ k1⟩;refine (k2.above fun e=>?_).2;have:=(k1.pr ht ha).2.1;rw [e] at this;omega
     . rw [if_neg ah]
       have ak:ps a≠ps b:=fun e=>hab (ht.inj a b ha hb e);have aH:a≠0:=fun e=>by rw [e,ht.root] at ah ak;omega
       have hl:=ht.less a ha aH;obtain⟨h1,h2,h3⟩:=ih (up a).toNat b (ht.next a ha) hb (by omega);refine⟨.step aH h1,h2,fun v k1 k2=>h3 v ?_ k2⟩;refine (k1.above fun e=>?_).2;have:=(k2.pr ht hb).2.1;rw [e] at this;omega
def mtF(ps:Nat->Nat)(up:Nat->Int)(a b:Nat):Nat:=ad4 ps up (ps a+ps b+1) a b
def ale(ps:Nat->Nat)(up:Nat->Int)(ad:Int)(p:Nat):Int:=if up p<0 then ad else if ad<0 then (p:Int) else ((mtF ps up ad.toNat p:Nat):Int)
def abZ(ps:Nat->Nat)(up:Nat->Int)(ad:Int)(l:List Nat):Int:=l.foldl (ale ps up) ad
theorem anc {n:Nat}{ps:Nat->Nat}{up:Nat->Int}(ht:akl n ps up):∀(l:List Nat) (ad:Int),(0<=ad->0<=up ad.toNat)->(0<=ad∨∃p∈l,0<=up p) ->
 0<=abZ ps up ad l∧0<=up (abZ ps up ad l).toNat∧∀v,Anc up (abZ ps up ad l).toNat v↔(0<=ad->Anc up ad.toNat v)∧∀p∈l,0<=up p->Anc up p v:=by
 intro l
 induction l with
 | nil =>
   intro ad hb h;have h0:0<=ad:=by
    rcases h with h | ⟨p,hp,-⟩
    . exact h
    . cases hp
   exact⟨h0,hb h0,fun v=>⟨fun h=>⟨fun _=>h,fun p hp=>by cases hp⟩,fun h=>h.1 h0⟩⟩
 | cons p l ih =>
   intro ad hb h;show 0<=abZ ps up (ale ps up ad p) l∧_;have aQ:abZ ps up ad (p :: l)=abZ ps up (ale ps up ad p) l:=rfl;rw [aQ]
   by_cases hp:up p<0
   . have e:ale ps up ad p=ad:=by unfold ale;rw [if_pos hp]
     rw [e]
     obtain ⟨h1, h2, h3⟩ := ih ad hb (by
      rcases h with h | ⟨q, hq, ar⟩
      . exact .inl h
      . rcases Aam.1 hq with rfl | hq
        . omega
        . exact .inr ⟨q, hq, ar⟩)
     refine⟨h1,h2,fun v=>(h3 v).trans ⟨fun h=>⟨h.1,fun q hq ar=>?_⟩,fun h=>⟨h.1,fun q hq=>h.2 q (by simp [hq])⟩⟩⟩;rcases Aam.1 hq with rfl | hq
     . omega
     . exact h.2 q hq ar
   . by_cases al:ad<0
     . have e:ale ps up ad p=(p:Int):=by unfold ale;rw [if_neg hp,if_pos al]
       rw [e];obtain⟨h1,h2,h3⟩:=ih (p:Int) (fun _=>by rw [Aan];omega) (.inl (by omega));refine⟨h1,h2,fun v=>(h3 v).trans ?_⟩;rw [Aan];refine⟨fun h=>⟨fun h'=>by omega,fun q hq ar=>?_⟩,fun h=>⟨fun _=>h.2 p (by simp) (by omega),fun q hq=>h.2 q (by simp [hq])⟩⟩;rcases Aam.1 hq with rfl | hq
       . exact h.1 (by omega)
       . exact h.2 q hq ar
     . have e:ale ps up ad p=((mtF ps up ad.toNat p:Nat):Int):=by unfold ale;rw [if_neg hp,if_neg al]
       rw [e];obtain⟨m1,m2,m3⟩:=aiS ht _ ad.toNat p (hb (by omega)) (by omega) (Nat.lt_succ_self _);have aS:ad4 ps up (ps ad.toNat+ps p).succ ad.toNat p=mtF ps up ad.toNat p:=rfl;rw [aS] at m1 m2 m3;obtain⟨h1,h2,h3⟩:=ih ((mtF ps up ad.toNat p:Nat):Int) (fun _=>by rw [Aan];exact (m1.pr ht (hb (by omega))).1) (.inl (by omega));refine⟨h1,h2,fun v=>(h3 v).trans ?_⟩;rw [Aan];refine⟨fun h=>⟨fun _=>m1.trans (h.1 (by omega)),fun q hq ar=>?_⟩,fun h=>⟨fun _=>m3 v (h.1 (by omega)) (h.2 p (by simp) (by omega)),fun q hq=>h.2 q (by simp [hq])⟩⟩;rcases Aam.1 hq with rfl | hq
       . exact m2.trans (h.1 (by omega))
       . exact h.2 q hq ar
structure Rpo (n:Nat)(ord:List Nat)(ps:Nat->Nat)(ae:Nat->List Nat)(fp:Nat->Nat):Prop where
 pos:0<ord.length
 len:ord.length<=n
 lt:∀x∈ord,x<n
 at_:∀j (h:j<ord.length),ps ord[j]=j
 head:∀(h:0<ord.length),ord[0]=0
 fore:∀j (h:j<ord.length),1<=j->fp ord[j]∈ae ord[j]∧∃j',∃h':j'<ord.length,j'<j∧ord[j']=fp ord[j]
structure DSt (n:Nat)(ord:List Nat)(ps:Nat->Nat)(ae:Nat->List Nat)(fp:Nat->Nat)(i:Nat)(up:Nat->Int):Prop where
 tree:akl n ps up
 done:∀j (h:j<ord.length),j<i->0<=up ord[j]
 only:∀x,0<=up x->∃j,∃h:j<ord.length,ord[j]=x
 fpd:∀x,0<=up x->x≠0->0<=up (fp x)
 g:∀x,0<=up x->i<ps x->∀c,i<=ps c->Anc up x c->c≠x->Anc up (fp x) c
 h:∀x,0<=up x->x≠0->ps x<i->∀c,Anc up x c->c≠x->Anc up (fp x) c
 inv:∀x,0<=up x->x≠0->∀v,(∀p∈ae x,0<=up p->Anc up p v)->Anc up x v
def afH(up:Nat->Int)(c:Nat)(b:Int):Nat->Int:=fun x=>if x=c then b else up x
section
variable {n : Nat} {ps : Nat -> Nat} {up : Nat -> Int} {c : Nat} {b : Int} {x v : Nat}
theorem abm(up:Nat->Int)(c:Nat)(b:Int):afH up c b c=b:=if_pos rfl
theorem abP(up:Nat->Int){c:Nat}(b:Int){x:Nat}(h:x≠c):afH up c b x=up x:=if_neg h
theorem ajq(h:Anc up x v):¬Anc up x c->Anc (afH up c b) x v:=by
 induction h with
 | refl x=>exact fun _ => .refl _
 | @step x v h0 h ih =>
   intro hn;have af:x≠c:=fun e=>hn (by rw [e];exact .refl _);refine .step h0 ?_;rw [abP _ _ af];exact ih fun k=>hn (.step h0 k)
theorem aok(h:Anc (afH up c b) x v):¬Anc up x c->Anc up x v:=by
 induction h with
 | refl x=>exact fun _ => .refl _
 | @step x v h0 h ih =>
   intro hn;have af:x≠c:=fun e=>hn (by rw [e];exact .refl _);rw [abP _ _ af] at ih;exact .step h0 (ih fun k=>hn (.step h0 k))
theorem atk(h:Anc up x c):Anc (afH up c b) x c:=by
 induction h with
 | refl x=>exact .refl _
 | @step x v h0 h ih =>
   by_cases af:x=v
   . rw [af];exact .refl _
   . refine .step h0 ?_
     rw [abP _ _ af];exact ih
theorem akm(ht:akl n ps up)(h:Anc up x c):0<=up x->Anc (afH up c b) x v->(Anc up x v∧ps c<=ps v)∨Anc (afH up c b) c v:=by
 induction h with
 | refl x=>exact fun _ h => .inr h
 | @step x c h0 h ih =>
   intro hx hv
   by_cases af:x=c
   . subst af;exact .inr hv
   . have hle:=((Anc.step h0 h).pr ht hx).2.1
     by_cases hvx:v=x
     . subst hvx;exact .inl ⟨.refl _,hle⟩
     . have h2:=(hv.above hvx).2
       rw [abP _ _ af] at h2;rcases ih (ht.next _ hx) h2 with⟨h3,h4⟩ | h3
       . exact .inl ⟨.step h0 h3,h4⟩
       . exact .inr h3
theorem amm(ht:akl n ps up)(h:Anc up x v):0<=up x->ps c<=ps v->Anc (afH up c b) x v:=by
 induction h with
 | refl x=>exact fun _ _ => .refl _
 | @step x v h0 h ih =>
   intro hx hle;have hl:=ht.less _ hx h0;have hp:=(h.pr ht (ht.next _ hx)).2.1;have af:x≠c:=fun e=>by rw [<-e] at hle;omega
   refine .step h0 ?_;rw [abP _ _ af];exact ih (ht.next _ hx) hle
end
variable {n:Nat}{ord:List Nat}{ps fp:Nat->Nat}{ae:Nat->List Nat}
theorem DSt.turn{i:Nat}{up:Nat->Int}(ho:Rpo n ord ps ae fp)(hs:DSt n ord ps ae fp i up)(h1:1<=i)(hi:i<ord.length) :
 0<=abZ ps up (-1) (ae ord[i])∧(abZ ps up (-1) (ae ord[i])).toNat<n∧DSt n ord ps ae fp (i+1) (afH up ord[i] (abZ ps up (-1) (ae ord[i]))) ∧
   (up ord[i]≠abZ ps up (-1) (ae ord[i])->up ord[i]<0∨ps (abZ ps up (-1) (ae ord[i])).toNat<ps (up ord[i]).toNat):=by
 have ht:=hs.tree;obtain⟨c,hc⟩:∃c,c=ord[i]:=⟨_,rfl⟩
 have aU:ps c=i:=by rw [hc];exact ho.at_ i hi
 have aM:c≠0:=fun e=>by rw [e,ht.root] at aU;omega
 have aE:c<n:=by rw [hc];exact ho.lt _ (Aaq _)
 obtain⟨aA,j',aK,av,aC⟩:=ho.fore i hi h1;rw [<-hc] at aA aC ⊢;have aj:0<=up (fp c):=by rw [<-aC];exact hs.done j' aK av
 have aB:ps (fp c)<i:=by rw [<-aC,ho.at_ j' aK];exact av
 obtain⟨al,aq,hb⟩:=anc ht (ae c) (-1) (fun h=>by omega) (.inr ⟨_,aA,aj⟩);obtain⟨ad,an⟩:∃ad,ad=abZ ps up (-1) (ae c):=⟨_,rfl⟩
 rw [<-an] at al aq hb ⊢;obtain⟨b,rfl⟩:=Abb al;rw [Aan] at aq hb ⊢;have hb:∀v,Anc up b v↔∀p∈ae c,0<=up p->Anc up p v:=fun v=>(hb v).trans ⟨fun h=>h.2,fun h=>⟨fun h=>by omega,h⟩⟩;clear an al;have aF:Anc up (fp c) b:=(hb b).1 (.refl _) _ aA aj;have aD:ps b<i:=by have:=(aF.pr ht aj).2.1;omega
 have aP:b≠c:=fun e=>by rw [e] at aD;omega
 -- ways that do not go through c
 have off:∀x,0<=up x->ps x<i->¬Anc up x c:=fun x hx ah h=>by have:=(h.pr ht hx).2.1;omega
 have ax:∀v,Anc (afH up c b) c v->v=c∨Anc up b v:=fun v h=>by
  by_cases hv:v=c
  . exact .inl hv
  . have h2:=(h.above hv).2
    rw [abm,Aan] at h2;exact .inr (aok h2 (off b aq aD))
 have aG:0<=up c->Anc up c b:=fun aT=>hs.inv c aT aM b ((hb b).1 (.refl _));have sub:∀x,0<=up x->∀v,Anc (afH up c b) x v->Anc up x v:=fun x hx v h=>by
  by_cases af:Anc up x c
  . rcases akm ht af hx h with h2 | h2
    . exact h2.1
    . rcases ax v h2 with rfl | h3
      . exact af
      . exact af.trans ((aG (af.pr ht hx).1).trans h3)
  . exact aok h af
 have pr:∀x,0<=afH up c b x->x=c∨0<=up x:=fun x h=>by
  by_cases hx:x=c
  . exact .inl hx
  . rw [abP _ _ hx] at h;exact .inr h
 have ao:∀x,0<=up x->0<=afH up c b x:=fun x h=>by
  by_cases hx:x=c
  . rw [hx,abm];omega
  . rw [abP _ _ hx];exact h
 have ai:∀x,0<=afH up c b x->∃j,∃h:j<ord.length,ord[j]=x:=fun x hx=>by
  rcases pr x hx with rfl | hx
  . exact⟨i,hi,hc.symm⟩
  . exact hs.only x hx
 have aw:∀x y,0<=afH up c b x->0<=afH up c b y->ps x=ps y->x=y:=fun x y hx hy he=>by
  obtain⟨j1,k1,rfl⟩:=ai x hx;obtain⟨j2,k2,rfl⟩:=ai y hy;rw [ho.at_ j1 k1,ho.at_ j2 k2] at he;subst he;rfl
 have aI:∀x,0<=afH up c b x->x≠0->fp x∈ae x∧ps (fp x)<ps x:=fun x hx ag=>by
  obtain⟨j,hj,rfl⟩:=ai x hx;have aR:1<=j:=by
   rcases Nat.eq_zero_or_pos j with rfl | h
   . exact absurd (ho.head ho.pos) ag
   . exact h
  obtain⟨g1,j2,g2,g3,g4⟩:=ho.fore j hj aR;exact⟨g1,by rw [<-g4,ho.at_ j2 g2,ho.at_ j hj];exact g3⟩
 refine⟨by omega,ht.lt b aq,⟨⟨?_,ht.root,?_,?_,?_,aw⟩,?_,ai,?_,?_,?_,?_⟩,?_⟩
 . rw [abP _ _ (Ne.symm aM)];exact ht.zero
 . intro x hx
   rcases pr x hx with rfl | hx
   . exact aE
   . exact ht.lt x hx
 . intro x hx
   by_cases af:x=c
   . rw [af,abm,Aan];exact ao b aq
   . rw [abP _ _ af] at hx ⊢
     exact ao _ (ht.next x hx)
 . intro x hx ag
   by_cases af:x=c
   . rw [af,abm,Aan];omega
   . rw [abP _ _ af] at hx ⊢
     exact ht.less x hx ag
 . intro j hj aV
   by_cases hje:j=i
   . subst hje;rw [<-hc,abm];omega
   . exact ao _ (hs.done j hj (by omega))
 . intro x hx ag
   rcases pr x hx with rfl | hx
   . exact ao _ aj
   . exact ao _ (hs.fpd x hx ag)
 . intro x hx aL d hid hd ay
   have af:x≠c:=fun e=>by rw [e] at aL;omega
   rw [abP _ _ af] at hx;have ag:x≠0:=fun e=>by rw [e,ht.root] at aL;omega
   have h2:=hs.g x hx (by omega) d (by omega) (sub x hx d hd) ay;exact amm ht h2 (hs.fpd x hx ag) (by omega)
 . intro x hx ag aX d hd ay
   by_cases af:x=c
   . subst af
     rcases ax d hd with rfl | h2
     . exact absurd rfl ay
     . exact ajq ((hb d).1 h2 _ aA aj) (off _ aj aB)
   . have az:=hx
     rw [abP _ _ af] at hx;have ah:ps x<i:=by
      rcases Abm (ps x) i with h | h
      . exact h
      . exact absurd (aw x c az (by rw [abm];omega) (by omega)) af
     have h2:=hs.h x hx ag ah d (aok hd (off x hx ah)) ay;exact ajq h2 (off _ (hs.fpd x hx ag) (by have:=(aI x az ag).2;omega))
 . intro x hx ag v hv
   by_cases af:x=c
   . subst af
     have h2:Anc up b v:=(hb v).2 fun p hp au=>sub p au v (hv p hp (ao p au));refine .step ag ?_;rw [abm,Aan];exact ajq h2 (off b aq aD)
   . have az:=hx
     rw [abP _ _ af] at hx;have aJ:Anc up x v:=hs.inv x hx ag v fun p hp au=>sub p au v (hv p hp (ao p au))
     by_cases hxc2:Anc up x c
     . have ah:i<ps x:=by have:=(hxc2.pr ht hx).2.2 (Ne.symm af);omega
       have h3:=hs.g x hx ah c (by omega) hxc2 (Ne.symm af);have aO:=hs.fpd x hx ag;rcases akm ht h3 aO (hv _ (aI x az ag).1 (ao _ aO)) with h4 | h4
       . exact amm ht aJ hx h4.2
       . exact (atk hxc2).trans h4
     . exact ajq aJ hxc2
 . intro ak
   by_cases ah:up c<0
   . exact .inl ah
   . refine .inr ?_
     have aN:0<=up c:=by omega
     have h2:=((aG aN).above aP).2;refine (h2.pr ht (ht.next c aN)).2.2 fun e=>ak ?_;rw [e];omega
theorem DSt.again{up:Nat->Int}(ho:Rpo n ord ps ae fp)(hs:DSt n ord ps ae fp ord.length up):DSt n ord ps ae fp 1 up:=by
 have hp:=ho.pos;have ah:∀x,0<=up x->ps x<ord.length:=fun x hx=>by
  obtain⟨j,hj,rfl⟩:=hs.only x hx;rw [ho.at_ j hj];exact hj
 refine⟨hs.tree,fun j h hj=>hs.done j h h,hs.only,hs.fpd,fun x hx h1 c _ h2 h3=>?_,fun x hx h0 h1=>?_,hs.inv⟩
 . exact hs.h x hx (fun e=>by rw [e,hs.tree.root] at h1;omega) (ah x hx) c h2 h3
 . exact absurd (hs.tree.inj x 0 hx (by rw [hs.tree.zero];omega) (by rw [hs.tree.root];omega)) h0
def up0:Nat->Int:=fun x=>if x=0 then 0 else -1
theorem DSt.start(ho:Rpo n ord ps ae fp)(hr:ps 0=0):DSt n ord ps ae fp 1 up0:=by
 have h0:∀x,0<=up0 x->x=0:=fun x hx=>by
  unfold up0 at hx;split at hx
  . assumption
  . omega
 have hn:=ho.lt _ (Aaq ho.pos);refine⟨⟨rfl,hr,fun x hx=>?_,fun x hx=>?_,fun x hx ag=>absurd (h0 x hx) ag,fun x y hx hy _=>(h0 x hx).trans (h0 y hy).symm⟩,fun j h hj=>?_,fun x hx=>?_,fun x hx ag=>absurd (h0 x hx) ag,fun x hx h1=>?_,fun x hx ag=>absurd (h0 x hx) ag,fun x hx ag=>absurd (h0 x hx) ag⟩
 . rw [h0 x hx];omega
 . rw [h0 x hx];decide
 . obtain rfl:j=0:=by omega
   rw [ho.head h];decide
 . rw [h0 x hx];exact⟨0,ho.pos,ho.head ho.pos⟩
 . rw [h0 x hx,hr] at h1;omega
def afe(n:Nat)(ps:Nat->Nat)(up:Nat->Int):Nat->Nat:=fun x=>if up x<0 then n else ps (up x).toNat
def asY (f : Nat -> Nat) : Nat -> Nat
 | 0=>0
 | k+1=>asY f k+f k
theorem ajr {f g : Nat -> Nat} : ∀ k, (∀ x, x < k -> f x <= g x) -> asY f k <= asY g k
 | 0,_=>Aac _
 | k+1,h=>Nat.add_le_add (ajr k fun x hx=>h x (by omega)) (h k (by omega))
theorem aol {f g : Nat -> Nat} {c : Nat} : ∀ k, (∀ x, x < k -> f x <= g x) -> c < k -> f c < g c -> asY f k < asY g k
 | 0,_,h,_=>by omega
 | k+1,h,hc,ah=>by
   by_cases hck:c=k
   . subst hck
     exact Nat.add_lt_add_of_le_of_lt (ajr c fun x hx=>h x (by omega)) ah
   . exact Nat.add_lt_add_of_lt_of_le (aol k (fun x hx=>h x (by omega)) (by omega) ah) (h k (by omega))
def muF(n:Nat)(ps:Nat->Nat)(up:Nat->Int):Nat:=asY (afe n ps up) n
def aew(ps:Nat->Nat)(ae:Nat->List Nat)(s:(Nat->Int)×Bool)(b:Nat):(Nat->Int)×Bool :=
 if s.1 b≠abZ ps s.1 (-1) (ae b) then (afH s.1 b (abZ ps s.1 (-1) (ae b)),true) else s
def ahC(ps:Nat->Nat)(ae:Nat->List Nat)(l:List Nat)(s:(Nat->Int)×Bool):(Nat->Int)×Bool:=l.foldl (aew ps ae) s
def ane (ps : Nat -> Nat) (ae : Nat -> List Nat) (l : List Nat) : Nat -> (Nat -> Int) -> (Nat -> Int)
 | 0,up=>up
 | f+1,up=>if (ahC ps ae l (up,false)).2=true then ane ps ae l f (ahC ps ae l (up,false)).1 else (ahC ps ae l (up,false)).1
theorem aom(up:Nat->Int)(c:Nat):afH up c (up c)=up:=by
 funext x
 by_cases h:x=c
 . rw [h,abm]
 . rw [abP _ _ h]
theorem asi{i:Nat}{s:(Nat->Int)×Bool}(ho:Rpo n ord ps ae fp)(hs:DSt n ord ps ae fp i s.1)(h1:1<=i)(hi:i<ord.length) :
 DSt n ord ps ae fp (i+1) (aew ps ae s ord[i]).1∧muF n ps (aew ps ae s ord[i]).1<=muF n ps s.1∧(s.1 ord[i]≠abZ ps s.1 (-1) (ae ord[i])->muF n ps (aew ps ae s ord[i]).1<muF n ps s.1):=by
 obtain⟨al,aW,hd,hv⟩:=hs.turn ho h1 hi;unfold aew
 by_cases ak:s.1 ord[i]≠abZ ps s.1 (-1) (ae ord[i])
 . rw [if_pos ak]
   have aE:ord[i]<n:=ho.lt _ (Aaq _);have aq:ps (abZ ps s.1 (-1) (ae ord[i])).toNat<n:=by
    have hx:0<=afH s.1 ord[i] (abZ ps s.1 (-1) (ae ord[i])) ord[i]:=by rw [abm];exact al
    have h2:=hd.tree.next _ hx;obtain⟨j,hj,he⟩:=hd.only _ h2;rw [abm] at he;rw [<-he,ho.at_ j hj];have:=ho.len;omega
   have ah:muF n ps (afH s.1 ord[i] (abZ ps s.1 (-1) (ae ord[i])))<muF n ps s.1:=by
    refine aol (c:=ord[i]) n (fun x hx=>?_) aE ?_
    . by_cases af:x=ord[i]
      . subst af
        unfold afe;rw [abm,if_neg (by omega)];rcases hv ak with h | h
        . rw [if_pos h];omega
        . split <;> omega
      . unfold afe;rw [abP _ _ af];exact Aac _
    . unfold afe
      rw [abm,if_neg (by omega)];rcases hv ak with h | h
      . rw [if_pos h];omega
      . split <;> omega
   exact⟨hd,Nat.le_of_lt ah,fun _=>ah⟩
 . rw [if_neg ak]
   have he:s.1 ord[i]=abZ ps s.1 (-1) (ae ord[i]):=Classical.not_not.1 ak;rw [<-he,aom] at hd;exact⟨hd,Aac _,fun h=>absurd he h⟩
end Go.Proofs.YtpeejlpcikefcaaGreatDoor
