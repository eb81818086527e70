import Derived.Test.YtpeejlpcikefcaaGreatDoorPChk3
/- The tree of the blocks that rule others, plainly: what its rounds keep, and that they end. No program in sight. -/
namespace Go.Proofs.YtpeejlpcikefcaaGreatDoor
open Go.RowKit
inductive Anc (up : Nat -> Int) : Nat -> Nat -> Prop
 | refl (x:Nat):Anc up x x
 | step {x v:Nat}:x≠0->Anc up (up x).toNat v->Anc up x v
structure akl (n:Nat)(ps:Nat->Nat)(up:Nat->Int):Prop where
 zero:up 0=0
 root:ps 0=0
 lt:∀x,0<=up x->x<n
 next:∀x,0<=up x->0<=up (up x).toNat
 less:∀x,0<=up x->x≠0->ps (up x).toNat<ps x
 inj:∀x y,0<=up x->0<=up y->ps x=ps y->x=y
section
variable {n : Nat} {ps : Nat -> Nat} {up : Nat -> Int} {x y v w : Nat}
theorem Anc.pr(ht:akl n ps up)(h:Anc up x v):0<=up x->0<=up v∧ps v<=ps x∧(v≠x->ps v<ps x):=by
 induction h with
 | refl x=>exact fun hx=>⟨hx,Aac _,fun h=>absurd rfl h⟩
 | step h0 h ih =>
   intro hx;obtain⟨a,b,c⟩:=ih (ht.next _ hx);have:=ht.less _ hx h0;exact⟨a,by omega,fun _=>by omega⟩
theorem Anc.trans(h:Anc up x y):Anc up y v->Anc up x v:=by
 induction h with
 | refl x=>exact fun h=>h
 | step h0 h ih=>exact fun k => .step h0 (ih k)
theorem Anc.above(h:Anc up x v)(ak:v≠x):x≠0∧Anc up (up x).toNat v:=by
 cases h with
 | refl=>exact absurd rfl ak
 | step h0 h=>exact⟨h0,h⟩
end
def ad4 (ps : Nat -> Nat) (up : Nat -> Int) : Nat -> Nat -> Nat -> Nat
 | 0,a,_=>a
 | f+1,a,b=>if a=b then a else if ps a<ps b then ad4 ps up f (up b).toNat a else ad4 ps up f (up a).toNat b
theorem aiN {n:Nat}{ps:Nat->Nat}{up:Nat->Int}(ht:akl n ps up):∀f a b,0<=up a->0<=up b->ps a+ps b<f ->
 Anc up a (ad4 ps up f a b)∧Anc up b (ad4 ps up f a b)∧∀v,Anc up a v->Anc up b v->Anc up (ad4 ps up f a b) v:=by
 intro f
 induction f with
 | zero=>intro a b _ _ h;omega
 | succ f ih =>
   intro a b ha hb hf;rw [ad4]
   by_cases hab:a=b
   . subst hab
     rw [if_pos rfl];exact⟨.refl _,.refl _,fun v h _=>h⟩
   . rw [if_neg hab]
     by_cases ah:ps a<ps b
     . rw [if_pos ah]
       have al:b≠0:=fun e=>by rw [e,ht.root] at ah;omega
       have hl:=ht.less b hb al;obtain⟨h1,h2,h3⟩:=ih (up b).toNat a (ht.next b hb) ha (by omega);refine⟨h2,.step al h1,fun v k1 k2=>h3 v ?_ k1⟩;refine (k2.above fun e=>?_).2;have:=(k1.pr ht ha).2.1;rw [e] at this;omega
     . rw [if_neg ah]
       have ak:ps a≠ps b:=fun e=>hab (ht.inj a b ha hb e);have aO:a≠0:=fun e=>by rw [e,ht.root] at ah ak;omega
       have hl:=ht.less a ha aO;obtain⟨h1,h2,h3⟩:=ih (up a).toNat b (ht.next a ha) hb (by omega);refine⟨.step aO h1,h2,fun v k1 k2=>h3 v ?_ k2⟩;refine (k1.above fun e=>?_).2;have:=(k2.pr ht hb).2.1;rw [e] at this;omega
def mtF(ps:Nat->Nat)(up:Nat->Int)(a b:Nat):Nat:=ad4 ps up (ps a+ps b+1) a b
def alf(ps:Nat->Nat)(up:Nat->Int)(ad:Int)(p:Nat):Int:=if up p<0 then ad else if ad<0 then (p:Int) else ((mtF ps up ad.toNat p:Nat):Int)
def abZ(ps:Nat->Nat)(up:Nat->Int)(ad:Int)(l:List Nat):Int:=l.foldl (alf ps up) ad
theorem ana {n:Nat}{ps:Nat->Nat}{up:Nat->Int}(ht:akl n ps up):∀(l:List Nat) (ad:Int),(0<=ad->0<=up ad.toNat)->(0<=ad∨∃p∈l,0<=up p) ->
 0<=abZ ps up ad l∧0<=up (abZ ps up ad l).toNat∧∀v,Anc up (abZ ps up ad l).toNat v↔(0<=ad->Anc up ad.toNat v)∧∀p∈l,0<=up p->Anc up p v:=by
 intro l
 induction l with
 | nil =>
   intro ad hb h;have h0:0<=ad:=by
    rcases h with h | ⟨p,hp,-⟩
    . exact h
    . cases hp
   exact⟨h0,hb h0,fun v=>⟨fun h=>⟨fun _=>h,fun p hp=>by cases hp⟩,fun h=>h.1 h0⟩⟩
 | cons p l ih =>
   intro ad hb h;show 0<=abZ ps up (alf ps up ad p) l∧_;have aP:abZ ps up ad (p :: l)=abZ ps up (alf ps up ad p) l:=rfl;rw [aP]
   by_cases hp:up p<0
   . have e:alf ps up ad p=ad:=by unfold alf;rw [if_pos hp]
     rw [e]
     obtain ⟨h1, h2, h3⟩ := ih ad hb (by
      rcases h with h | ⟨q, hq, ar⟩
      . exact .inl h
      . rcases Aam.1 hq with rfl | hq
        . omega
        . exact .inr ⟨q, hq, ar⟩)
     refine⟨h1,h2,fun v=>(h3 v).trans ⟨fun h=>⟨h.1,fun q hq ar=>?_⟩,fun h=>⟨h.1,fun q hq=>h.2 q (by simp [hq])⟩⟩⟩;rcases Aam.1 hq with rfl | hq
     . omega
     . exact h.2 q hq ar
   . by_cases al:ad<0
     . have e:alf ps up ad p=(p:Int):=by unfold alf;rw [if_neg hp,if_pos al]
       rw [e];obtain⟨h1,h2,h3⟩:=ih (p:Int) (fun _=>by rw [Aan];omega) (.inl (by omega));refine⟨h1,h2,fun v=>(h3 v).trans ?_⟩;rw [Aan];refine⟨fun h=>⟨fun h'=>by omega,fun q hq ar=>?_⟩,fun h=>⟨fun _=>h.2 p (by simp) (by omega),fun q hq=>h.2 q (by simp [hq])⟩⟩;rcases Aam.1 hq with rfl | hq
       . exact h.1 (by omega)
       . exact h.2 q hq ar
     . have e:alf ps up ad p=((mtF ps up ad.toNat p:Nat):Int):=by unfold alf;rw [if_neg hp,if_neg al]
       rw [e];obtain⟨m1,m2,m3⟩:=aiN ht _ ad.toNat p (hb (by omega)) (by omega) (Nat.lt_succ_self _);have aR:ad4 ps up (ps ad.toNat+ps p).succ ad.toNat p=mtF ps up ad.toNat p:=rfl;rw [aR] at m1 m2 m3;obtain⟨h1,h2,h3⟩:=ih ((mtF ps up ad.toNat p:Nat):Int) (fun _=>by rw [Aan];exact (m1.pr ht (hb (by omega))).1) (.inl (by omega));refine⟨h1,h2,fun v=>(h3 v).trans ?_⟩;rw [Aan];refine⟨fun h=>⟨fun _=>m1.trans (h.1 (by omega)),fun q hq ar=>?_⟩,fun h=>⟨fun _=>m3 v (h.1 (by omega)) (h.2 p (by simp) (by omega)),fun q hq=>h.2 q (by simp [hq])⟩⟩;rcases Aam.1 hq with rfl | hq
       . exact m2.trans (h.1 (by omega))
       . exact h.2 q hq ar
structure Rpo (n:Nat)(ord:List Nat)(ps:Nat->Nat)(ae:Nat->List Nat)(fp:Nat->Nat):Prop where
 pos:0<ord.length
 len:ord.length<=n
 lt:∀x∈ord,x<n
 at_:∀j (h:j<ord.length),ps ord[j]=j
 head:∀(h:0<ord.length),ord[0]=0
 fore:∀j (h:j<ord.length),1<=j->fp ord[j]∈ae ord[j]∧∃j',∃h':j'<ord.length,j'<j∧ord[j']=fp ord[j]
structure DSt (n:Nat)(ord:List Nat)(ps:Nat->Nat)(ae:Nat->List Nat)(fp:Nat->Nat)(i:Nat)(up:Nat->Int):Prop where
 tree:akl n ps up
 done:∀j (h:j<ord.length),j<i->0<=up ord[j]
 only:∀x,0<=up x->∃j,∃h:j<ord.length,ord[j]=x
 fpd:∀x,0<=up x->x≠0->0<=up (fp x)
 g:∀x,0<=up x->i<ps x->∀c,i<=ps c->Anc up x c->c≠x->Anc up (fp x) c
 h:∀x,0<=up x->x≠0->ps x<i->∀c,Anc up x c->c≠x->Anc up (fp x) c
 inv:∀x,0<=up x->x≠0->∀v,(∀p∈ae x,0<=up p->Anc up p v)->Anc up x v
def afI(up:Nat->Int)(c:Nat)(b:Int):Nat->Int:=fun x=>if x=c then b else up x
section
variable {n : Nat} {ps : Nat -> Nat} {up : Nat -> Int} {c : Nat} {b : Int} {x v : Nat}
theorem abq(up:Nat->Int)(c:Nat)(b:Int):afI up c b c=b:=if_pos rfl
theorem abP(up:Nat->Int){c:Nat}(b:Int){x:Nat}(h:x≠c):afI up c b x=up x:=if_neg h
theorem ajk(h:Anc up x v):¬Anc up x c->Anc (afI up c b) x v:=by
 induction h with
 | refl x=>exact fun _ => .refl _
 | @step x v h0 h ih =>
   intro hn;have af:x≠c:=fun e=>hn (by rw [e];exact .refl _);refine .step h0 ?_;rw [abP _ _ af];exact ih fun k=>hn (.step h0 k)
theorem aoi(h:Anc (afI up c b) x v):¬Anc up x c->Anc up x v:=by
 induction h with
 | refl x=>exact fun _ => .refl _
 | @step x v h0 h ih =>
   intro hn;have af:x≠c:=fun e=>hn (by rw [e];exact .refl _);rw [abP _ _ af] at ih;exact .step h0 (ih fun k=>hn (.step h0 k))
theorem ats(h:Anc up x c):Anc (afI up c b) x c:=by
 induction h with
 | refl x=>exact .refl _
 | @step x v h0 h ih =>
   by_cases af:x=v
   . rw [af];exact .refl _
   . refine .step h0 ?_
     rw [abP _ _ af];exact ih
theorem akm(ht:akl n ps up)(h:Anc up x c):0<=up x->Anc (afI up c b) x v->(Anc up x v∧ps c<=ps v)∨Anc (afI up c b) c v:=by
 induction h with
 | refl x=>exact fun _ h => .inr h
 | @step x c h0 h ih =>
   intro hx hv
   by_cases af:x=c
   . subst af;exact .inr hv
   . have hle:=((Anc.step h0 h).pr ht hx).2.1
     by_cases hvx:v=x
     . subst hvx;exact .inl ⟨.refl _,hle⟩
     . have h2:=(hv.above hvx).2
       rw [abP _ _ af] at h2;rcases ih (ht.next _ hx) h2 with⟨h3,h4⟩ | h3
       . exact .inl ⟨.step h0 h3,h4⟩
       . exact .inr h3
theorem amk(ht:akl n ps up)(h:Anc up x v):0<=up x->ps c<=ps v->Anc (afI up c b) x v:=by
 induction h with
 | refl x=>exact fun _ _ => .refl _
 | @step x v h0 h ih =>
   intro hx hle;have hl:=ht.less _ hx h0;have hp:=(h.pr ht (ht.next _ hx)).2.1;have af:x≠c:=fun e=>by rw [<-e] at hle;omega
   refine .step h0 ?_;rw [abP _ _ af];exact ih (ht.next _ hx) hle
end
variable {n:Nat}{ord:List Nat}{ps fp:Nat->Nat}{ae:Nat->List Nat}
theorem DSt.turn{i:Nat}{up:Nat->Int}(ho:Rpo n ord ps ae fp)(hs:DSt n ord ps ae fp i up)(h1:1<=i)(hi:i<ord.length) :
 0<=abZ ps up (-1) (ae ord[i])∧(abZ ps up (-1) (ae ord[i])).toNat<n∧DSt n ord ps ae fp (i+1) (afI up ord[i] (abZ ps up (-1) (ae ord[i]))) ∧
   (up ord[i]≠abZ ps up (-1) (ae ord[i])->up ord[i]<0∨ps (abZ ps up (-1) (ae ord[i])).toNat<ps (up ord[i]).toNat):=by
 have ht:=hs.tree;obtain⟨c,hc⟩:∃c,c=ord[i]:=⟨_,rfl⟩
 have aQ:ps c=i:=by rw [hc];exact ho.at_ i hi
 have aG:c≠0:=fun e=>by rw [e,ht.root] at aQ;omega
 have aB:c<n:=by rw [hc];exact ho.lt _ (Aas _)
 obtain⟨ay,j',aM,av,aD⟩:=ho.fore i hi h1;rw [<-hc] at ay aD ⊢;have aj:0<=up (fp c):=by rw [<-aD];exact hs.done j' aM av
 have aC:ps (fp c)<i:=by rw [<-aD,ho.at_ j' aM];exact av
 obtain⟨al,aq,hb⟩:=ana ht (ae c) (-1) (fun h=>by omega) (.inr ⟨_,ay,aj⟩);obtain⟨ad,an⟩:∃ad,ad=abZ ps up (-1) (ae c):=⟨_,rfl⟩
 rw [<-an] at al aq hb ⊢;obtain⟨b,rfl⟩:=Abc al;rw [Aan] at aq hb ⊢;have hb:∀v,Anc up b v↔∀p∈ae c,0<=up p->Anc up p v:=fun v=>(hb v).trans ⟨fun h=>h.2,fun h=>⟨fun h=>by omega,h⟩⟩;clear an al;have aE:Anc up (fp c) b:=(hb b).1 (.refl _) _ ay aj;have aF:ps b<i:=by have:=(aE.pr ht aj).2.1;omega
 have aU:b≠c:=fun e=>by rw [e] at aF;omega
 -- ways that do not go through c
 have off:∀x,0<=up x->ps x<i->¬Anc up x c:=fun x hx ah h=>by have:=(h.pr ht hx).2.1;omega
 have ax:∀v,Anc (afI up c b) c v->v=c∨Anc up b v:=fun v h=>by
  by_cases hv:v=c
  . exact .inl hv
  . have h2:=(h.above hv).2
    rw [abq,Aan] at h2;exact .inr (aoi h2 (off b aq aF))
 have aN:0<=up c->Anc up c b:=fun aT=>hs.inv c aT aG b ((hb b).1 (.refl _));have sub:∀x,0<=up x->∀v,Anc (afI up c b) x v->Anc up x v:=fun x hx v h=>by
  by_cases af:Anc up x c
  . rcases akm ht af hx h with h2 | h2
    . exact h2.1
    . rcases ax v h2 with rfl | h3
      . exact af
      . exact af.trans ((aN (af.pr ht hx).1).trans h3)
  . exact aoi h af
 have pr:∀x,0<=afI up c b x->x=c∨0<=up x:=fun x h=>by
  by_cases hx:x=c
  . exact .inl hx
  . rw [abP _ _ hx] at h;exact .inr h
 have ao:∀x,0<=up x->0<=afI up c b x:=fun x h=>by
  by_cases hx:x=c
  . rw [hx,abq];omega
  . rw [abP _ _ hx];exact h
 have ai:∀x,0<=afI up c b x->∃j,∃h:j<ord.length,ord[j]=x:=fun x hx=>by
  rcases pr x hx with rfl | hx
  . exact⟨i,hi,hc.symm⟩
  . exact hs.only x hx
 have aw:∀x y,0<=afI up c b x->0<=afI up c b y->ps x=ps y->x=y:=fun x y hx hy he=>by
  obtain⟨j1,k1,rfl⟩:=ai x hx;obtain⟨j2,k2,rfl⟩:=ai y hy;rw [ho.at_ j1 k1,ho.at_ j2 k2] at he;subst he;rfl
 have aL:∀x,0<=afI up c b x->x≠0->fp x∈ae x∧ps (fp x)<ps x:=fun x hx ag=>by
  obtain⟨j,hj,rfl⟩:=ai x hx;have aS:1<=j:=by
   rcases Nat.eq_zero_or_pos j with rfl | h
   . exact absurd (ho.head ho.pos) ag
   . exact h
  obtain⟨g1,j2,g2,g3,g4⟩:=ho.fore j hj aS;exact⟨g1,by rw [<-g4,ho.at_ j2 g2,ho.at_ j hj];exact g3⟩
 refine⟨by omega,ht.lt b aq,⟨⟨?_,ht.root,?_,?_,?_,aw⟩,?_,ai,?_,?_,?_,?_⟩,?_⟩
 . rw [abP _ _ (Ne.symm aG)];exact ht.zero
 . intro x hx
   rcases pr x hx with rfl | hx
   . exact aB
   . exact ht.lt x hx
 . intro x hx
   by_cases af:x=c
   . rw [af,abq,Aan];exact ao b aq
   . rw [abP _ _ af] at hx ⊢
     exact ao _ (ht.next x hx)
 . intro x hx ag
   by_cases af:x=c
   . rw [af,abq,Aan];omega
   . rw [abP _ _ af] at hx ⊢
     exact ht.less x hx ag
 . intro j hj aW
   by_cases hje:j=i
   . subst hje;rw [<-hc,abq];omega
   . exact ao _ (hs.done j hj (by omega))
 . intro x hx ag
   rcases pr x hx with rfl | hx
   . exact ao _ aj
   . exact ao _ (hs.fpd x hx ag)
 . intro x hx aK d hid hd aA
   have af:x≠c:=fun e=>by rw [e] at aK;omega
   rw [abP _ _ af] at hx;have ag:x≠0:=fun e=>by rw [e,ht.root] at aK;omega
   have h2:=hs.g x hx (by omega) d (by omega) (sub x hx d hd) aA;exact amk ht h2 (hs.fpd x hx ag) (by omega)
 . intro x hx ag aV d hd aA
   by_cases af:x=c
   . subst af
     rcases ax d hd with rfl | h2
     . exact absurd rfl aA
     . exact ajk ((hb d).1 h2 _ ay aj) (off _ aj aC)
   . have az:=hx
     rw [abP _ _ af] at hx;have ah:ps x<i:=by
      rcases Abn (ps x) i with h | h
      . exact h
      . exact absurd (aw x c az (by rw [abq];omega) (by omega)) af
     have h2:=hs.h x hx ag ah d (aoi hd (off x hx ah)) aA;exact ajk h2 (off _ (hs.fpd x hx ag) (by have:=(aL x az ag).2;omega))
 . intro x hx ag v hv
   by_cases af:x=c
   . subst af
     have h2:Anc up b v:=(hb v).2 fun p hp au=>sub p au v (hv p hp (ao p au));refine .step ag ?_;rw [abq,Aan];exact ajk h2 (off b aq aF)
   . have az:=hx
     rw [abP _ _ af] at hx;have aH:Anc up x v:=hs.inv x hx ag v fun p hp au=>sub p au v (hv p hp (ao p au))
     by_cases hxc2:Anc up x c
     . have ah:i<ps x:=by have:=(hxc2.pr ht hx).2.2 (Ne.symm af);omega
       have h3:=hs.g x hx ah c (by omega) hxc2 (Ne.symm af);have aJ:=hs.fpd x hx ag;rcases akm ht h3 aJ (hv _ (aL x az ag).1 (ao _ aJ)) with h4 | h4
       . exact amk ht aH hx h4.2
       . exact (ats hxc2).trans h4
     . exact ajk aH hxc2
 . intro ak
   by_cases ah:up c<0
   . exact .inl ah
   . refine .inr ?_
     have aI:0<=up c:=by omega
     have h2:=((aN aI).above aU).2;refine (h2.pr ht (ht.next c aI)).2.2 fun e=>ak ?_;rw [e];omega
theorem DSt.again{up:Nat->Int}(ho:Rpo n ord ps ae fp)(hs:DSt n ord ps ae fp ord.length up):DSt n ord ps ae fp 1 up:=by
 have hp:=ho.pos;have ah:∀x,0<=up x->ps x<ord.length:=fun x hx=>by
  obtain⟨j,hj,rfl⟩:=hs.only x hx;rw [ho.at_ j hj];exact hj
 refine⟨hs.tree,fun j h hj=>hs.done j h h,hs.only,hs.fpd,fun x hx h1 c _ h2 h3=>?_,fun x hx h0 h1=>?_,hs.inv⟩
 . exact hs.h x hx (fun e=>by rw [e,hs.tree.root] at h1;omega) (ah x hx) c h2 h3
 . exact absurd (hs.tree.inj x 0 hx (by rw [hs.tree.zero];omega) (by rw [hs.tree.root];omega)) h0
def up0:Nat->Int:=fun x=>if x=0 then 0 else -1
theorem DSt.start(ho:Rpo n ord ps ae fp)(hr:ps 0=0):DSt n ord ps ae fp 1 up0:=by
 have h0:∀x,0<=up0 x->x=0:=fun x hx=>by
  unfold up0 at hx;split at hx
  . assumption
  . omega
 have hn:=ho.lt _ (Aas ho.pos);refine⟨⟨rfl,hr,fun x hx=>?_,fun x hx=>?_,fun x hx ag=>absurd (h0 x hx) ag,fun x y hx hy _=>(h0 x hx).trans (h0 y hy).symm⟩,fun j h hj=>?_,fun x hx=>?_,fun x hx ag=>absurd (h0 x hx) ag,fun x hx h1=>?_,fun x hx ag=>absurd (h0 x hx) ag,fun x hx ag=>absurd (h0 x hx) ag⟩
 . rw [h0 x hx];omega
 . rw [h0 x hx];decide
 . obtain rfl:j=0:=by omega
   rw [ho.head h];decide
 . rw [h0 x hx];exact⟨0,ho.pos,ho.head ho.pos⟩
 . rw [h0 x hx,hr] at h1;omega
def afh(n:Nat)(ps:Nat->Nat)(up:Nat->Int):Nat->Nat:=fun x=>if up x<0 then n else ps (up x).toNat
def as5 (f : Nat -> Nat) : Nat -> Nat
 | 0=>0
 | k+1=>as5 f k+f k
theorem ajl {f g : Nat -> Nat} : ∀ k, (∀ x, x < k -> f x <= g x) -> as5 f k <= as5 g k
 | 0,_=>Aac _
 | k+1,h=>Nat.add_le_add (ajl k fun x hx=>h x (by omega)) (h k (by omega))
theorem aoj {f g : Nat -> Nat} {c : Nat} : ∀ k, (∀ x, x < k -> f x <= g x) -> c < k -> f c < g c -> as5 f k < as5 g k
 | 0,_,h,_=>by omega
 | k+1,h,hc,ah=>by
   by_cases hck:c=k
   . subst hck
     exact Nat.add_lt_add_of_le_of_lt (ajl c fun x hx=>h x (by omega)) ah
   . exact Nat.add_lt_add_of_lt_of_le (aoj k (fun x hx=>h x (by omega)) (by omega) ah) (h k (by omega))
def muF(n:Nat)(ps:Nat->Nat)(up:Nat->Int):Nat:=as5 (afh n ps up) n
def aey(ps:Nat->Nat)(ae:Nat->List Nat)(s:(Nat->Int)×Bool)(b:Nat):(Nat->Int)×Bool :=
 if s.1 b≠abZ ps s.1 (-1) (ae b) then (afI s.1 b (abZ ps s.1 (-1) (ae b)),true) else s
def ahA(ps:Nat->Nat)(ae:Nat->List Nat)(l:List Nat)(s:(Nat->Int)×Bool):(Nat->Int)×Bool:=l.foldl (aey ps ae) s
def anb (ps : Nat -> Nat) (ae : Nat -> List Nat) (l : List Nat) : Nat -> (Nat -> Int) -> (Nat -> Int)
 | 0,up=>up
 | f+1,up=>if (ahA ps ae l (up,false)).2=true then anb ps ae l f (ahA ps ae l (up,false)).1 else (ahA ps ae l (up,false)).1
theorem aok(up:Nat->Int)(c:Nat):afI up c (up c)=up:=by
 funext x
 by_cases h:x=c
 . rw [h,abq]
 . rw [abP _ _ h]
theorem ast{i:Nat}{s:(Nat->Int)×Bool}(ho:Rpo n ord ps ae fp)(hs:DSt n ord ps ae fp i s.1)(h1:1<=i)(hi:i<ord.length) :
 DSt n ord ps ae fp (i+1) (aey ps ae s ord[i]).1∧muF n ps (aey ps ae s ord[i]).1<=muF n ps s.1∧(s.1 ord[i]≠abZ ps s.1 (-1) (ae ord[i])->muF n ps (aey ps ae s ord[i]).1<muF n ps s.1):=by
 obtain⟨al,aX,hd,hv⟩:=hs.turn ho h1 hi;unfold aey
 by_cases ak:s.1 ord[i]≠abZ ps s.1 (-1) (ae ord[i])
 . rw [if_pos ak]
   have aB:ord[i]<n:=ho.lt _ (Aas _);have aq:ps (abZ ps s.1 (-1) (ae ord[i])).toNat<n:=by
    have hx:0<=afI s.1 ord[i] (abZ ps s.1 (-1) (ae ord[i])) ord[i]:=by rw [abq];exact al
    have h2:=hd.tree.next _ hx;obtain⟨j,hj,he⟩:=hd.only _ h2;rw [abq] at he;rw [<-he,ho.at_ j hj];have:=ho.len;omega
   have ah:muF n ps (afI s.1 ord[i] (abZ ps s.1 (-1) (ae ord[i])))<muF n ps s.1:=by
    refine aoj (c:=ord[i]) n (fun x hx=>?_) aB ?_
    . by_cases af:x=ord[i]
      . subst af
        unfold afh;rw [abq,if_neg (by omega)];rcases hv ak with h | h
        . rw [if_pos h];omega
        . split <;> omega
      . unfold afh;rw [abP _ _ af];exact Aac _
    . unfold afh
      rw [abq,if_neg (by omega)];rcases hv ak with h | h
      . rw [if_pos h];omega
      . split <;> omega
   exact⟨hd,Nat.le_of_lt ah,fun _=>ah⟩
 . rw [if_neg ak]
   have he:s.1 ord[i]=abZ ps s.1 (-1) (ae ord[i]):=Classical.not_not.1 ak;rw [<-he,aok] at hd;exact⟨hd,Aac _,fun h=>absurd he h⟩
end Go.Proofs.YtpeejlpcikefcaaGreatDoor
