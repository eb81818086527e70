import Derived.Test.YtpeejlpcikefcaaGreatDoorPDom0
import Derived.Test.YtpeejlpcikefcaaGreatDoorPKnown
import Derived.Test.YtpeejlpcikefcaaGreatDoorPMrg3
/- graph.Post, in plain Lean: blocks as a search in depth leaves them. dom.TreeOf, in plain Lean: the order of a search in depth is fit for the tree; the rounds end, and what holds then. Post-order: what is reached is closed; and it does not mind how blocks are numbered. Plain. -/
namespace Go.Proofs.YtpeejlpcikefcaaGreatDoor
section
def aci(bs:List DBlock)(b:Nat):List Int:=match bs[b]? with | some x=>x.fin.to | none=>[]
def aa5 (bs : List DBlock) : Nat -> Nat -> List Bool × List Int -> List Bool × List Int
 | 0,_,s=>s
 | f+1,b,s =>
   let s1:=(aci bs b).reverse.foldl (fun s t=>if s.1.getD t.toNat true=true then s else aa5 bs f t.toNat s) (s.1.set b true,s.2)
   (s1.1,s1.2++[(b:Int)])
def acq(bs:List DBlock)(f:Nat)(l:List Int)(s:List Bool×List Int):List Bool×List Int:=l.foldl (fun s t=>if s.1.getD t.toNat true=true then s else aa5 bs f t.toNat s) s
theorem ab4(bs:List DBlock)(f b:Nat)(s:List Bool×List Int):aa5 bs (f+1) b s=((acq bs f (aci bs b).reverse (s.1.set b true,s.2)).1,(acq bs f (aci bs b).reverse (s.1.set b true,s.2)).2++[(b:Int)]):=rfl
theorem anM(bs:List DBlock)(f:Nat)(l:List Int)(t:Int)(s:List Bool×List Int):acq bs f (l++[t]) s=if (acq bs f l s).1.getD t.toNat true=true then acq bs f l s else aa5 bs f t.toNat (acq bs f l s):=by
 unfold acq;rw [List.foldl_append];rfl
theorem adW(bs:List DBlock)(f:Nat)(l:List Int)(t:Int)(s:List Bool×List Int):acq bs f (t :: l) s=acq bs f l (if s.1.getD t.toNat true=true then s else aa5 bs f t.toNat s):=rfl
theorem abi:∀(l:List Bool) (b:Nat),l[b]?=some false->(l.set b true).count false+1=l.count false:=by
 intro l
 induction l with
 | nil=>intro b h;simp at h
 | cons a l ih =>
   intro b h;cases b with
   | zero =>
     rw [Ab2] at h;cases h;simp
   | succ b =>
     rw [Ab3] at h;have:=ih b h;rw [List.set_cons_succ,List.count_cons,List.count_cons];omega
structure ap7 (bs:List DBlock)(s s':List Bool×List Int)(A:List Int):Prop where
 len:s'.1.length=s.1.length
 left:s'.2=s.2++A
 seen:∀i,s'.1.getD i true=true↔s.1.getD i true=true∨(i:Int)∈A
 fresh:∀x∈A,0<=x∧x<(s.1.length:Int)∧s.1.getD x.toNat true=false
 nodup:A.Nodup
theorem ap7.refl(bs:List DBlock)(s:List Bool×List Int):ap7 bs s s [] :=
 ⟨rfl,(Ab4 _).symm,fun i=>⟨.inl,fun h=>h.elim id (fun h=>(by cases h))⟩,fun x h=>(by cases h),List.nodup_nil⟩
variable {bs:List DBlock}{A:List Int}
theorem ap7.trans{s s' ah:List Bool×List Int}{B:List Int}(h:ap7 bs s s' A)(k:ap7 bs s' ah B):ap7 bs s ah (A++B):=by
 refine⟨k.len.trans h.len,by rw [k.left,h.left,Abo],fun i=>?_,fun x hx=>?_,?_⟩
 . rw [k.seen,h.seen,Aa7]
   constructor
   . rintro ((h | h) | h)
     . exact .inl h
     . exact .inr (.inl h)
     . exact .inr (.inr h)
   . rintro (h | h | h)
     . exact .inl (.inl h)
     . exact .inl (.inr h)
     . exact .inr h
 . rcases Aa7.1 hx with hx | hx
   . exact h.fresh x hx
   . obtain⟨h1,h2,h3⟩:=k.fresh x hx
     refine⟨h1,by rw [h.len] at h2;exact h2,?_⟩;cases hs:s.1.getD x.toNat true with
     | false=>rfl
     | true=>rw [(h.seen x.toNat).2 (.inl hs)] at h3;cases h3
 . refine List.nodup_append.2 ⟨h.nodup,k.nodup,fun x hx y hy e=>?_⟩
   subst e;obtain⟨h1,h2,h3⟩:=k.fresh x hy;have:=(h.seen x.toNat).2 (.inr (by rw [Abi h1];exact hx));rw [this] at h3;cases h3
theorem ak0:∀(l l':List Bool),l'.length=l.length->(∀i,l.getD i true=true->l'.getD i true=true)->l'.count false<=l.count false:=by
 intro l
 induction l with
 | nil =>
   intro l' hl _;obtain rfl:=Acd.1 hl;exact Aac _
 | cons a l ih =>
   intro l' hl h;cases l' with
   | nil=>simp at hl
   | cons a' l' =>
     have h1:=ih l' (by simpa using hl) (fun i hi=>h (i+1) hi);have h2:=h 0;rw [List.count_cons,List.count_cons];cases a <;> cases a' <;> simp at h2 ⊢ <;> omega
def aft(bs:List DBlock)(A l:List Int):Prop:=∀j (h:j<A.length),(∃k,∃h':k<A.length,j<k∧A[j]∈aci bs (A[k]).toNat)∨A[j]∈l
theorem aft.mono{l l':List Int}(h:aft bs A l)(hl:∀x∈l,x∈l'):aft bs A l':=fun j hj=>(h j hj).imp id (hl _)
theorem aft.append{B l:List Int}(h:aft bs A l)(k:aft bs B l):aft bs (A++B) l:=by
 intro j hj
 by_cases hA:j<A.length
 . rw [List.getElem_append_left hA]
   rcases h j hA with⟨i,hi,h1,h2⟩ | h
   . exact .inl ⟨i,by rw [Aau];omega,h1,by rw [List.getElem_append_left hi];exact h2⟩
   . exact .inr h
 . have av:j - A.length<B.length:=by rw [Aau] at hj;omega
   rw [List.getElem_append_right (by omega)];rcases k (j - A.length) av with⟨i,hi,h1,h2⟩ | h
   . refine .inl ⟨i+A.length,by rw [Aau];omega,by omega,?_⟩
     rw [List.getElem_append_right (by omega)];simpa using h2
   . exact .inr h
theorem aft.close{b:Nat}(h:aft bs A (aci bs b)):aft bs (A++[(b:Int)]) [(b:Int)]:=by
 intro j hj
 by_cases hA:j<A.length
 . left
   rw [List.getElem_append_left hA];rcases h j hA with⟨i,hi,h1,h2⟩ | h
   . exact⟨i,by rw [Aau];omega,h1,by rw [List.getElem_append_left hi];exact h2⟩
   . exact⟨A.length,by simp,hA,by simpa using h⟩
 . right
   rw [List.getElem_append_right (by omega)];simp
theorem apK(bs:List DBlock)(f:Nat)(hv:∀(b:Nat) (s:List Bool×List Int),s.1[b]?=some false->s.1.count false<=f->∃A,ap7 bs s (aa5 bs f b s) A∧aft bs A [(b:Int)]) :
 ∀(l:List Int) (s:List Bool×List Int),(∀t∈l,0<=t)->s.1.count false<=f->∃A,ap7 bs s (acq bs f l s) A∧aft bs A l:=by
 intro l
 induction l with
 | nil=>exact fun s _ _=>⟨[],ap7.refl bs s,fun j h=>(by cases h)⟩
 | cons t l ih =>
   intro s ht hc;rw [adW]
   by_cases hs:s.1.getD t.toNat true=true
   . rw [if_pos hs]
     obtain⟨A,h1,h2⟩:=ih s (fun x hx=>ht x (Aa0 _ hx)) hc;exact⟨A,h1,h2.mono (fun x hx=>Aa0 _ hx)⟩
   . rw [if_neg hs]
     have ay:s.1[t.toNat]?=some false:=by
      rw [Aaf] at hs;cases h:s.1[t.toNat]? with
      | none=>rw [h] at hs;exact absurd rfl hs
      | some x=>rw [h] at hs;cases x with
        | true=>exact absurd rfl hs
        | false=>rfl
     obtain⟨A,h1,h2⟩:=hv t.toNat s ay hc;have ae:(aa5 bs f t.toNat s).1.count false<=f:=Aai (ak0 _ _ h1.len (fun i hi=>(h1.seen i).2 (.inl hi))) hc;obtain⟨B,h3,h4⟩:=ih _ (fun x hx=>ht x (Aa0 _ hx)) ae;refine⟨A++B,h1.trans h3,aft.append (h2.mono (fun x hx=>?_)) (h4.mono (fun x hx=>Aa0 _ hx))⟩;rw [Aax] at hx;rw [hx,Abi (ht t (Aa2 ..))];exact Aa2 ..
theorem aje(bs:List DBlock)(hto:∀b,∀t∈aci bs b,0<=t):∀(f b:Nat) (s:List Bool×List Int),s.1[b]?=some false->s.1.count false<=f->∃A,ap7 bs s (aa5 bs f b s) A∧aft bs A [(b:Int)]:=by
 intro f
 induction f with
 | zero =>
   intro b s hb hc;have:=abi s.1 b hb;omega
 | succ f ih =>
   intro b s hb hc;have aw:=(Aad.1 hb).1;have hu:=abi s.1 b hb;obtain⟨A,h1,h2⟩:=apK bs f ih (aci bs b).reverse (s.1.set b true,s.2) (fun t ht=>hto b t (Abw.1 ht)) (by dsimp only;omega);rw [ab4];have ag:∀i,(s.1.set b true).getD i true=true↔s.1.getD i true=true∨i=b:=fun i=>by
    rw [Aaf,Aaf,Aa5]
    by_cases hib:b=i
    . subst hib;simp [aw]
    . rw [if_neg hib]
      exact⟨.inl,fun h=>h.elim id (fun h=>absurd h.symm hib)⟩
   refine⟨A++[(b:Int)],⟨?_,?_,fun i=>?_,fun x hx=>?_,?_⟩,(h2.mono (fun x hx=>Abw.1 hx)).close⟩
   . have:=h1.len
     simpa using this
   . have:=h1.left
     dsimp only at this ⊢;rw [this,Abo]
   . have h:=h1.seen i
     dsimp only at h ⊢;rw [h,ag,Aa7,Aax];constructor
     . rintro ((h | h) | h)
       . exact .inl h
       . exact .inr (.inr (by rw [h]))
       . exact .inr (.inl h)
     . rintro (h | h | h)
       . exact .inl (.inl h)
       . exact .inr h
       . exact .inl (.inr (by omega))
   . rcases Aa7.1 hx with hx | hx
     . obtain⟨k1,k2,k3⟩:=h1.fresh x hx
       dsimp only at k2 k3;rw [Aat] at k2;refine⟨k1,k2,?_⟩;cases hs:s.1.getD x.toNat true with
       | false=>rfl
       | true=>rw [(ag x.toNat).2 (.inl hs)] at k3;cases k3
     . rw [Aax] at hx
       subst hx;refine⟨by omega,by omega,?_⟩;rw [Aan,Aaf,hb];rfl
   . refine List.nodup_append.2 ⟨h1.nodup,by simp,fun x hx y hy e=>?_⟩
     rw [Aax] at hy;subst e;subst hy;obtain⟨k1,k2,k3⟩:=h1.fresh _ hx;dsimp only at k3;rw [Aan,(ag b).2 (.inr rfl)] at k3;cases k3
theorem anN {l:List Bool}{i:Nat}(h:¬l.getD i true=true):l[i]?=some false:=by
 rw [Aaf] at h;cases e:l[i]? with
 | none=>rw [e] at h;exact absurd rfl h
 | some x=>rw [e] at h;cases x with
   | true=>exact absurd rfl h
   | false=>rfl
theorem ajO(bs:List DBlock)(f:Nat)(hv:∀(b:Nat) (s:List Bool×List Int),s.1[b]?=some false->s.1.count false<=f->(aa5 bs f b s).2.length+(aa5 bs f b s).1.count false<=s.2.length+s.1.count false∧(aa5 bs f b s).1.count false<=s.1.count false∧(aa5 bs f b s).1.length=s.1.length) :
 ∀(l:List Int) (s:List Bool×List Int),s.1.count false<=f->(acq bs f l s).2.length+(acq bs f l s).1.count false<=s.2.length+s.1.count false∧(acq bs f l s).1.count false<=s.1.count false∧(acq bs f l s).1.length=s.1.length:=by
 intro l
 induction l with
 | nil=>exact fun s _=>⟨Aac _,Aac _,rfl⟩
 | cons t l ih =>
   intro s hc;rw [adW]
   by_cases hs:s.1.getD t.toNat true=true
   . rw [if_pos hs];exact ih s hc
   . rw [if_neg hs]
     obtain⟨h1,h2,h3⟩:=hv t.toNat s (anN hs) hc;obtain⟨k1,k2,k3⟩:=ih _ (Aai h2 hc);exact⟨Aai k1 h1,Aai k2 h2,k3.trans h3⟩
theorem ak1(bs:List DBlock):∀(f b:Nat) (s:List Bool×List Int),s.1[b]?=some false->s.1.count false<=f ->
 (aa5 bs f b s).2.length+(aa5 bs f b s).1.count false<=s.2.length+s.1.count false∧(aa5 bs f b s).1.count false<=s.1.count false∧(aa5 bs f b s).1.length=s.1.length:=by
 intro f
 induction f with
 | zero =>
   intro b s hb hc;have:=abi s.1 b hb;omega
 | succ f ih =>
   intro b s hb hc;have hu:=abi s.1 b hb;obtain⟨h1,h2,h3⟩:=ajO bs f ih (aci bs b).reverse (s.1.set b true,s.2) (by dsimp only;omega);rw [ab4];dsimp only at h1 h2 h3 ⊢;rw [Aau,List.length_singleton];rw [Aat] at h3;exact⟨by omega,by omega,h3⟩
def aaZ(bs:List DBlock):List Int:=(aa5 bs bs.length 0 (List.replicate bs.length false,[])).2
end
section
open Go.RowKit
variable {i:Nat}
theorem arh{tg:List Int}{t:Nat}(h:(t:Int)∈tg):(i:Int)∈ae8 tg t i:=by
 unfold ae8;exact Aal.2 ⟨_,List.mem_filter.2 ⟨h,by simp⟩,rfl⟩
theorem al1 {l:List DBlock}{t:Nat}:∀{s i:Nat} {x:DBlock},l[i]?=some x->(t:Int)∈x.fin.to->((s+i:Nat):Int)∈aaf l s t:=by
 induction l with
 | nil=>intro s i x h;simp at h
 | cons b l ih =>
   intro s i x h ht;simp only [aaf,Aa7];cases i with
   | zero =>
     rw [Ab2] at h;cases h;exact .inl (arh ht)
   | succ i =>
     rw [Ab3] at h;have:=ih (s:=s+1) h ht;rw [show s+1+i=s+(i+1) by omega] at this;exact .inr this
def ordL(bs:List DBlock):List Int:=(aaZ bs).reverse
def abj(bs:List DBlock):List Nat:=(ordL bs).map Int.toNat
def psF(bs:List DBlock):Nat->Nat:=atF (abj bs) (abj bs).length
def aeK(bs:List DBlock)(x:Nat):List Nat:=(aaf bs 0 x).map Int.toNat
structure aeX (bs:List DBlock):Prop where
 pos:0<bs.length
 tgt:∀(k:Nat) (x:DBlock),bs[k]?=some x->x.fin.to.length<=2∧∀t∈x.fin.to,0<=t∧t<(bs.length:Int)
variable {bs:List DBlock}
theorem aeX.tos(h:aeX bs):∀b,∀t∈aci bs b,0<=t:=by
 intro b t ht;unfold aci at ht;cases e:bs[b]? with
 | none=>rw [e] at ht;cases ht
 | some x=>rw [e] at ht;exact ((h.tgt b x e).2 t ht).1
theorem aa9(h:aeX bs):(∀x∈aaZ bs,0<=x∧x<(bs.length:Int))∧(aaZ bs).Nodup∧aft bs (aaZ bs) [0]∧(∃A,aaZ bs=A++[0]):=by
 have hp:=h.pos;obtain⟨A,h1,h2⟩:=aje bs h.tos bs.length 0 (List.replicate bs.length false,[]) (by dsimp only;rw [Abz,if_pos hp]) (by dsimp only;rw [List.count_replicate_self];exact Aac _);have e:aaZ bs=A:=by
  unfold aaZ;have:=h1.left;rw [Abc] at this;exact this
 refine⟨fun x hx=>?_,by rw [e];exact h1.nodup,by rw [e];exact h2,?_⟩
 . rw [e] at hx
   have:=h1.fresh x hx;dsimp only at this;rw [Ab0] at this;exact⟨this.1,this.2.1⟩
 . obtain⟨n,hn⟩:∃n,bs.length=n+1:=⟨bs.length - 1,by omega⟩
   unfold aaZ;rw [hn,ab4];exact⟨_,rfl⟩
variable {j:Nat}
theorem af1{α:Type}{l:List α}(h:l.Nodup)(hi:i<l.length)(hj:j<l.length)(e:l[i]=l[j]):i=j:=by
 have h2:=Acn.1 h;rcases Nat.lt_trichotomy i j with h3 | h3 | h3
 . exact absurd e (h2 i j hi hj h3)
 . exact h3
 . exact absurd e.symm (h2 j i hj hi h3)
theorem ari {α:Type}{l:List α}(h:∀i j (hi:i<l.length) (hj:j<l.length),l[i]=l[j]->i=j):l.Nodup :=
 Acn.2 fun i j hi hj az e=>by have:=h i j hi hj e;omega
theorem af2(hj:j<(abj bs).length):∃h:(aaZ bs).length - 1 - j<(aaZ bs).length,(abj bs)[j]=((aaZ bs)[(aaZ bs).length - 1 - j]).toNat:=by
 have e:(abj bs).length=(aaZ bs).length:=by unfold abj ordL;simp
 have h:(aaZ bs).length - 1 - j<(aaZ bs).length:=by omega
 refine⟨h,?_⟩;have h2:(abj bs)[j]?=some ((aaZ bs)[(aaZ bs).length - 1 - j]).toNat:=by
  unfold abj ordL;rw [Aak,List.getElem?_reverse (by omega),Aaa h];rfl
 rw [Aaa hj] at h2;exact Option.some.inj h2
theorem af3(bs:List DBlock):(abj bs).length=(aaZ bs).length:=by unfold abj ordL;simp
theorem aha(h:aeX bs)(hi:i<(abj bs).length)(hj:j<(abj bs).length)(e:(abj bs)[i]=(abj bs)[j]):i=j:=by
 obtain⟨h1,h2,-,-⟩:=aa9 h;obtain⟨a,ea⟩:=af2 hi;obtain⟨b,eb⟩:=af2 hj;rw [ea,eb] at e;have p1:=h1 _ (Aaq a);have p2:=h1 _ (Aaq b);have e2:(aaZ bs)[(aaZ bs).length - 1 - i]=(aaZ bs)[(aaZ bs).length - 1 - j]:=by omega
 have:=af1 h2 _ _ e2;have:=af3 bs;omega
theorem aib(h:aeX bs){x:Nat}(hx:x∈abj bs):x<bs.length:=by
 obtain⟨h1,-,-,-⟩:=aa9 h;unfold abj ordL at hx;obtain⟨y,hy,rfl⟩:=Aal.1 hx;have:=h1 y (Abw.1 hy);omega
theorem ak2 {n:Nat}:∀(l:List Nat),l.Nodup->(∀x∈l,x<n)->l.length<=n:=by
 intro l h1 h2;have:=List.Nodup.length_le_of_subset (l₁:=l) (l₂:=List.range n) h1 (fun x hx=>Abx.2 (h2 x hx));simpa using this
theorem aic(h:aeX bs):(abj bs).length<=bs.length:=by
 refine ak2 _ (ari fun i j hi hj e=>aha h hi hj e) (fun x hx=>aib h hx)
theorem af4(h:aeX bs):0<(abj bs).length∧∀(k:0<(abj bs).length),(abj bs)[0]=0:=by
 obtain⟨-,-,-,A,hA⟩:=aa9 h;have e:(aaZ bs).length=A.length+1:=by rw [hA];simp
 have hl:0<(abj bs).length:=by rw [af3,e];omega
 refine⟨hl,fun k=>?_⟩;obtain⟨a,ea⟩:=af2 k;rw [ea];have:(aaZ bs)[(aaZ bs).length - 1 - 0]?=some 0:=by rw [hA];simp
 rw [Aaa a] at this;injection this with this;rw [this];rfl
theorem arS(h:aeX bs)(hj:j<(abj bs).length):psF bs (abj bs)[j]=j:=by
 have hm:(abj bs)[j]∈abj bs:=Aaq _;have hl:(abj bs).idxOf (abj bs)[j]<(abj bs).length:=List.idxOf_lt_length_iff.2 hm;unfold psF atF;rw [Aa1,if_pos (aqw.2 hm)];exact aha h hl hj (List.getElem_idxOf hl)
theorem amR(h:aeX bs):psF bs 0=0:=by
 obtain⟨h1,h2⟩:=af4 h;have:=arS h h1;rw [h2 h1] at this;exact this
theorem apL(h:aeX bs)(hj:j<(abj bs).length)(h1:1<=j):∃y,y∈aeK bs (abj bs)[j]∧∃j',∃h':j'<(abj bs).length,j'<j∧(abj bs)[j']=y:=by
 obtain⟨p1,p2,p3,A,hA⟩:=aa9 h;have el:=af3 bs;obtain⟨a,ea⟩:=af2 hj;have e:(aaZ bs).length=A.length+1:=by rw [hA];simp
 rcases p3 _ a with⟨k,hk,az,hto⟩ | h0
 . have ak:(aaZ bs).length - 1 - k<(abj bs).length:=by omega
   obtain⟨b,eb⟩:=af2 ak;have au:(aaZ bs).length - 1 - ((aaZ bs).length - 1 - k)=k:=by omega
   refine⟨_,?_,(aaZ bs).length - 1 - k,ak,by omega,rfl⟩;rw [eb,ea];have q:=p1 _ (Aaq a);have af:(((aaZ bs)[(aaZ bs).length - 1 - j].toNat:Nat):Int)∈aci bs ((aaZ bs)[k]).toNat:=by
    rw [Abi q.1];exact hto
   unfold aci at af;cases e5:bs[((aaZ bs)[k]).toNat]? with
   | none=>rw [e5] at af;cases af
   | some x =>
     rw [e5] at af;have:=al1 (s:=0) e5 af;unfold aeK;refine Aal.2 ⟨_,this,?_⟩;simp only [au,Aab,Aan]
 . exfalso
   rw [Aax] at h0;have hl:(aaZ bs)[(aaZ bs).length - 1]?=some 0:=by rw [hA];simp
   have aq:(aaZ bs).length - 1<(aaZ bs).length:=by omega
   rw [Aaa aq] at hl;injection hl with hl;have:=af1 p2 _ _ (h0.trans hl.symm);omega
open Classical in
noncomputable def fpF (bs:List DBlock) (x:Nat):Nat:=if h:∃y,y∈aeK bs x∧∃j j',∃(h:j<(abj bs).length) (h':j'<(abj bs).length),(abj bs)[j]=x∧j'<j∧(abj bs)[j']=y then Classical.choose h else 0
theorem atH(h:aeX bs)(hj:j<(abj bs).length)(h1:1<=j):fpF bs (abj bs)[j]∈aeK bs (abj bs)[j]∧∃j',∃h':j'<(abj bs).length,j'<j∧(abj bs)[j']=fpF bs (abj bs)[j]:=by
 obtain⟨y,h2,j',h3,h4,h5⟩:=apL h hj h1;have hex:∃y,y∈aeK bs (abj bs)[j]∧∃j2 j',∃(h:j2<(abj bs).length) (h':j'<(abj bs).length),(abj bs)[j2]=(abj bs)[j]∧j'<j2∧(abj bs)[j']=y:=⟨y,h2,j,j',hj,h3,rfl,h4,h5⟩
 have hc:=Classical.choose_spec hex;have e:fpF bs (abj bs)[j]=Classical.choose hex:=by unfold fpF;rw [dif_pos hex]
 rw [e];obtain⟨c1,k,k',c2,c3,c4,c5,c6⟩:=hc;have:=aha h c2 hj c4;exact⟨c1,k',c3,by omega,c6⟩
theorem ahb(h:aeX bs):Rpo bs.length (abj bs) (psF bs) (aeK bs) (fpF bs) :=
 ⟨(af4 h).1,aic h,fun _ hx=>aib h hx,fun _ hj=>arS h hj,(af4 h).2,fun _ hj h1=>atH h hj h1⟩
section
variable {n : Nat} {ord : List Nat} {ps : Nat -> Nat} {ad : Nat -> List Nat} {fp : Nat -> Nat}
theorem apM {s:(Nat->Int)×Bool}{b:Nat}(h:∀x,-1<=s.1 x)(hb : -1<=abZ ps s.1 (-1) (ad b)):∀x,-1<=(aew ps ad s b).1 x:=by
 intro x;unfold aew
 by_cases hne:s.1 b≠abZ ps s.1 (-1) (ad b)
 . rw [if_pos hne]
   dsimp only
   by_cases hx:x=b
   . rw [hx,abm];exact hb
   . rw [abP _ _ hx];exact h x
 . rw [if_neg hne];exact h x
structure PSt (n:Nat)(ord:List Nat)(ps:Nat->Nat)(ad:Nat->List Nat)(fp:Nat->Nat)(u0:Nat->Int)(i:Nat)(s:(Nat->Int)×Bool):Prop where
 d:DSt n ord ps ad fp i s.1
 low:∀x,-1<=s.1 x
 le:muF n ps s.1<=muF n ps u0
 lt:s.2=true->muF n ps s.1<muF n ps u0
 same:s.2=false->s.1=u0∧∀j (h:j<ord.length),1<=j->j<i->u0 ord[j]=abZ ps u0 (-1) (ad ord[j])
theorem PSt.next(ho:Rpo n ord ps ad fp){u0:Nat->Int}{i:Nat}{s:(Nat->Int)×Bool}(h:PSt n ord ps ad fp u0 i s)(h1:1<=i)(hi:i<ord.length):PSt n ord ps ad fp u0 (i+1) (aew ps ad s ord[i]):=by
 obtain⟨g1,g2,g3⟩:=asi ho h.d h1 hi;obtain⟨aB,-,-,-⟩:=h.d.turn ho h1 hi;refine⟨g1,apM h.low (by omega),Aai g2 h.le,fun hs=>?_,fun hs=>?_⟩
 . by_cases hne:s.1 ord[i]≠abZ ps s.1 (-1) (ad ord[i])
   . exact Aay (g3 hne) h.le
   . unfold aew at hs ⊢
     rw [if_neg hne] at hs ⊢;exact h.lt hs
 . by_cases hne:s.1 ord[i]≠abZ ps s.1 (-1) (ad ord[i])
   . unfold aew at hs
     rw [if_pos hne] at hs;cases hs
   . have he:s.1 ord[i]=abZ ps s.1 (-1) (ad ord[i]):=Classical.not_not.1 hne
     unfold aew at hs ⊢;rw [if_neg hne] at hs ⊢;obtain⟨k1,k2⟩:=h.same hs;refine⟨k1,fun j hj h2 h3=>?_⟩
     by_cases hji:j=i
     . subst hji;rw [<-k1];exact he
     . exact k2 j hj h2 (by omega)
theorem asK(ho:Rpo n ord ps ad fp){u0:Nat->Int}:∀(m i:Nat) (s:(Nat->Int)×Bool),PSt n ord ps ad fp u0 i s->1<=i->i+m=ord.length->PSt n ord ps ad fp u0 ord.length (ahC ps ad (ord.drop i) s):=by
 intro m
 induction m with
 | zero =>
   intro i s h h1 he;rw [List.drop_of_length_le (by omega),show ord.length=i by omega];exact h
 | succ m ih =>
   intro i s h h1 he;rw [List.drop_eq_getElem_cons (by omega)];exact ih (i+1) _ (h.next ho h1 (by omega)) (by omega) (by omega)
structure Rest (n:Nat)(ord:List Nat)(ps:Nat->Nat)(ad:Nat->List Nat)(fp:Nat->Nat)(up:Nat->Int):Prop where
 d:DSt n ord ps ad fp 1 up
 low:∀x,-1<=up x
 fix:∀j (h:j<ord.length),1<=j->up ord[j]=abZ ps up (-1) (ad ord[j])
theorem PSt.zero {up:Nat->Int}(h:DSt n ord ps ad fp 1 up)(hl:∀x,-1<=up x):PSt n ord ps ad fp up 1 (up,false) :=
 ⟨h,hl,Aac _,fun h=>(by cases h),fun _=>⟨rfl,fun j hj h1 h2=>by omega⟩⟩
theorem anO(ho:Rpo n ord ps ad fp):∀(f:Nat) (up:Nat->Int),DSt n ord ps ad fp 1 up->(∀x,-1<=up x)->muF n ps up<f->Rest n ord ps ad fp (ane ps ad ord.tail f up):=by
 intro f
 induction f with
 | zero=>intro up _ _ h;omega
 | succ f ih =>
   intro up hd hl hf;have hp:=asK ho (ord.length - 1) 1 (up,false) (PSt.zero hd hl) (Aac _) (by have:=ho.pos;omega);rw [List.drop_one] at hp;rw [ane]
   by_cases hc:(ahC ps ad ord.tail (up,false)).2=true
   . rw [if_pos hc]
     exact ih _ (hp.d.again ho) hp.low (by have:=hp.lt hc;omega)
   . rw [if_neg hc]
     have ae:(ahC ps ad ord.tail (up,false)).2=false:=by simpa using hc
     obtain⟨k1,k2⟩:=hp.same ae;rw [k1];exact⟨hd,hl,fun j hj h1=>k2 j hj h1 hj⟩
end
def ak3(bs:List DBlock):Nat->Int:=ane (psF bs) (aeK bs) (abj bs).tail (muF bs.length (psF bs) up0+1) up0
variable {bs:List DBlock}
theorem apN(h:aeX bs):Rest bs.length (abj bs) (psF bs) (aeK bs) (fpF bs) (ak3 bs) :=
 anO (ahb h) _ _ (DSt.start (ahb h) (amR h)) (fun x=>by unfold up0;split <;> omega) (Nat.lt_succ_self _)
def agu(bs:List DBlock):List Int:=(List.range bs.length).map (afH (ak3 bs) 0 (-1))
theorem aid(bs:List DBlock):(agu bs).length=bs.length:=by unfold agu;simp
theorem arj{k:Nat}(hk:k<bs.length):(agu bs).getD k 0=if k=0 then -1 else ak3 bs k:=by
 unfold agu;rw [Aaf,Aak,Ab8 hk];rfl
theorem ark(h:aeX bs):aoI (agu bs) (psF bs):=by
 have hr:=apN h;refine⟨fun k hk=>?_⟩;rw [aid] at hk ⊢;rw [arj hk]
 by_cases h0:k=0
 . rw [if_pos h0];exact .inl rfl
 . rw [if_neg h0]
   by_cases hn:ak3 bs k<0
   . have:=hr.low k;exact .inl (by omega)
   . refine .inr ⟨(ak3 bs k).toNat,by omega,?_,?_⟩
     . exact hr.d.tree.lt _ (hr.d.tree.next k (by omega))
     . exact hr.d.tree.less k (by omega) h0
end
section
def Clo(bs:List DBlock)(s s':List Bool×List Int):Prop:=∀i:Nat,s'.1.getD i true=true->s.1.getD i true=true∨∀t∈aci bs i,s'.1.getD t.toNat true=true
def amS(s s':List Bool×List Int):Prop:=∀i:Nat,s.1.getD i true=true->s'.1.getD i true=true
theorem Clo.trans {bs:List DBlock}{s s' ah:List Bool×List Int}(h:Clo bs s s')(k:Clo bs s' ah)(hl:amS s' ah):Clo bs s ah:=fun i hi=>by
 rcases k i hi with h1 | h1
 . rcases h i h1 with h2 | h2
   . exact .inl h2
   . exact .inr fun t ht=>hl _ (h2 t ht)
 . exact .inr h1
theorem aeL {l:List Bool}{b i:Nat}(h:l[b]?=some false):(l.set b true).getD i true=true↔i=b∨l.getD i true=true:=by
 rw [Aaf,Aaf,Aa5];have hl:=(Aad.1 h).1
 by_cases e:b=i
 . subst e;simp [hl]
 . rw [if_neg e]
   constructor
   . exact .inr
   . rintro (h1 | h1)
     . exact absurd h1.symm e
     . exact h1
theorem ahc {l:List Bool}{i:Nat}(h:¬l.getD i true=true):l[i]?=some false:=by
 rw [Aaf] at h;cases hh:l[i]? with
 | none=>rw [hh] at h;exact absurd rfl h
 | some x=>rw [hh] at h;cases x with
   | true=>exact absurd rfl h
   | false=>rfl
theorem ajP(bs:List DBlock)(f:Nat)(hv:∀(b:Nat) (s:List Bool×List Int),s.1[b]?=some false->s.1.count false<=f->Clo bs s (aa5 bs f b s)∧amS s (aa5 bs f b s)∧(aa5 bs f b s).1.getD b true=true∧(aa5 bs f b s).1.length=s.1.length) :
 ∀(l:List Int) (s:List Bool×List Int),s.1.count false<=f->Clo bs s (acq bs f l s)∧amS s (acq bs f l s)∧(∀t∈l,(acq bs f l s).1.getD t.toNat true=true)∧(acq bs f l s).1.length=s.1.length
 | [],s,_=>⟨fun i h => .inl h,fun i h=>h,fun t h=>(by cases h),rfl⟩
 | t :: l,s,hc=>by
   rw [adW]
   by_cases hs:s.1.getD t.toNat true=true
   . rw [if_pos hs]
     obtain⟨h1,h2,h3,h4⟩:=ajP bs f hv l s hc;refine⟨h1,h2,fun u hu=>?_,h4⟩;rcases Aam.1 hu with rfl | hu
     . exact h2 _ hs
     . exact h3 u hu
   . rw [if_neg hs]
     obtain⟨g1,g2,g3,g4⟩:=hv t.toNat s (ahc hs) hc;have ae:(aa5 bs f t.toNat s).1.count false<=f:=Aai (ak0 _ _ g4 g2) hc;obtain⟨h1,h2,h3,h4⟩:=ajP bs f hv l _ ae;refine⟨g1.trans h1 h2,fun i hi=>h2 _ (g2 i hi),fun u hu=>?_,h4.trans g4⟩;rcases Aam.1 hu with rfl | hu
     . exact h2 _ g3
     . exact h3 u hu
theorem ak4 (bs : List DBlock) : ∀ (f b : Nat) (s : List Bool × List Int), s.1[b]? = some false -> s.1.count false <= f -> Clo bs s (aa5 bs f b s) ∧ amS s (aa5 bs f b s) ∧ (aa5 bs f b s).1.getD b true = true ∧ (aa5 bs f b s).1.length = s.1.length
 | 0,b,s,hb,hc=>by
   have:=abi s.1 b hb;omega
 | f+1,b,s,hb,hc=>by
   have hu:=abi s.1 b hb;obtain⟨h1,h2,h3,h4⟩:=ajP bs f (ak4 bs f) (aci bs b).reverse (s.1.set b true,s.2) (by show (s.1.set b true).count false<=f;omega);rw [ab4];refine⟨fun i hi=>?_,fun i hi=>?_,?_,?_⟩
   . rcases h1 i hi with g | g
     . rcases (aeL hb).1 g with rfl | g
       . exact .inr fun t ht=>h3 t (Abw.2 ht)
       . exact .inl g
     . exact .inr g
   . exact h2 i ((aeL hb).2 (.inr hi))
   . exact h2 b ((aeL hb).2 (.inl rfl))
   . rw [h4];exact Aat
theorem aee {bs:List DBlock}(h:aeX bs):∀x∈aaZ bs,∀t∈aci bs x.toNat,t∈aaZ bs:=by
 have hp:=h.pos;have hb:(List.replicate bs.length false)[0]?=some false:=by rw [Abz,if_pos hp]
 have hc:(List.replicate bs.length false).count false<=bs.length:=by rw [List.count_replicate_self];exact Aac _
 obtain⟨A,h1,-⟩:=aje bs h.tos bs.length 0 (List.replicate bs.length false,[]) hb hc;have h2:=ak4 bs bs.length 0 (List.replicate bs.length false,[]) hb hc;have e:aaZ bs=A:=by
  unfold aaZ;have:=h1.left;rw [Abc] at this;exact this
 have hn:∀i:Nat,i<bs.length->¬(List.replicate bs.length false).getD i true=true:=fun i hi=>by
  rw [Aaf,Abz,if_pos hi];simp
 intro x hx t ht;obtain⟨p1,-,-,-⟩:=aa9 h;have ax:=p1 x hx;rw [e] at hx ⊢;have ao:=(h1.seen x.toNat).2 (.inr (by rw [Abi ax.1];exact hx));rcases h2.1 x.toNat ao with g | g
 . exact absurd g (hn _ (by omega))
 . have an:0<=t∧t<(bs.length:Int):=by
    unfold aci at ht;rw [Aaa (show x.toNat<bs.length by omega)] at ht;exact (h.tgt _ _ (Aaa (show x.toNat<bs.length by omega))).2 t ht
   rcases (h1.seen t.toNat).1 (g t ht) with g2 | g2
   . exact absurd g2 (hn _ (by omega))
   . rw [Abi an.1] at g2;exact g2
structure Eqv (bs bs':List DBlock)(sg:Nat->Nat)(G:Nat->Prop):Prop where
 lt:∀i,G i->i<bs.length
 lt':∀i,G i->sg i<bs'.length
 inj:∀i j,G i->G j->sg i=sg j->i=j
 clo:∀i,G i->∀t∈aci bs i,G t.toNat
 tos:∀i,G i->aci bs' (sg i)=(aci bs i).map fun t=>((sg t.toNat:Nat):Int)
structure EqS (sg:Nat->Nat)(G:Nat->Prop)(n n':Nat)(s s':List Bool×List Int):Prop where
 len:s.1.length=n∧s'.1.length=n'
 seen:∀i,G i->s'.1.getD (sg i) true=s.1.getD i true
 left:s'.2=s.2.map fun t=>((sg t.toNat:Nat):Int)
section
variable {bs bs' : List DBlock} {sg : Nat -> Nat} {G : Nat -> Prop}
theorem ajQ(f f':Nat)(hv:∀(b:Nat) (s s':List Bool×List Int),G b->EqS sg G bs.length bs'.length s s'->s.1[b]?=some false->s.1.count false<=f->s'.1.count false<=f'->EqS sg G bs.length bs'.length (aa5 bs f b s) (aa5 bs' f' (sg b) s')∧(aa5 bs f b s).1.count false<=s.1.count false∧(aa5 bs' f' (sg b) s').1.count false<=s'.1.count false) :
 ∀(l:List Int) (s s':List Bool×List Int),(∀t∈l,G t.toNat)->EqS sg G bs.length bs'.length s s'->s.1.count false<=f->s'.1.count false<=f'->EqS sg G bs.length bs'.length (acq bs f l s) (acq bs' f' (l.map fun t=>((sg t.toNat:Nat):Int)) s')∧(acq bs f l s).1.count false<=s.1.count false∧(acq bs' f' (l.map fun t=>((sg t.toNat:Nat):Int)) s').1.count false<=s'.1.count false
 | [],s,s',_,h,_,_=>⟨h,Aac _,Aac _⟩
 | t :: l,s,s',hl,h,hc,ae=>by
   have hg:=hl t (Aa2 ..);rw [Aa3,adW,adW,Aan,h.seen _ hg]
   by_cases hs:s.1.getD t.toNat true=true
   . rw [if_pos hs,if_pos hs]
     exact ajQ f f' hv l s s' (fun u hu=>hl u (Aa0 _ hu)) h hc ae
   . rw [if_neg hs,if_neg hs]
     obtain⟨g1,g2,g3⟩:=hv t.toNat s s' hg h (ahc hs) hc ae;obtain⟨k1,k2,k3⟩:=ajQ f f' hv l _ _ (fun u hu=>hl u (Aa0 _ hu)) g1 (Aai g2 hc) (Aai g3 ae);exact⟨k1,Aai k2 g2,Aai k3 g3⟩
theorem ak5 (h : Eqv bs bs' sg G) : ∀ (f f' b : Nat) (s s' : List Bool × List Int), G b -> EqS sg G bs.length bs'.length s s' -> s.1[b]? = some false -> s.1.count false <= f -> s'.1.count false <= f' -> EqS sg G bs.length bs'.length (aa5 bs f b s) (aa5 bs' f' (sg b) s') ∧ (aa5 bs f b s).1.count false <= s.1.count false ∧ (aa5 bs' f' (sg b) s').1.count false <= s'.1.count false
 | 0,f',b,s,s',hg,hs,hb,hc,ae=>by
   have:=abi s.1 b hb;omega
 | f+1,0,b,s,s',hg,hs,hb,hc,ae=>by
   have hn:¬s'.1.getD (sg b) true=true:=by
    rw [hs.seen b hg,Aaf,hb];simp
   have:=abi s'.1 (sg b) (ahc hn);omega
 | f+1,f'+1,b,s,s',hg,hs,hb,hc,ae=>by
   have hn:¬s'.1.getD (sg b) true=true:=by
    rw [hs.seen b hg,Aaf,hb];simp
   have aj:=ahc hn;have hu:=abi s.1 b hb;have aA:=abi s'.1 (sg b) aj;have ar:EqS sg G bs.length bs'.length (s.1.set b true,s.2) (s'.1.set (sg b) true,s'.2):=by
    refine⟨by simp [hs.len.1,hs.len.2],fun i hi=>?_,hs.left⟩;have e:=hs.seen i hi;have i1:(s'.1.set (sg b) true).getD (sg i) true=true↔(s.1.set b true).getD i true=true:=by
     rw [aeL aj,aeL hb,e];constructor
     . rintro (h1 | h1)
       . exact .inl (h.inj i b hi hg h1)
       . exact .inr h1
     . rintro (h1 | h1)
       . exact .inl (by rw [h1])
       . exact .inr h1
    exact Abe.2 i1
   have ai:(aci bs' (sg b)).reverse=(aci bs b).reverse.map fun t=>((sg t.toNat:Nat):Int):=by rw [h.tos b hg,List.map_reverse]
   rw [ab4,ab4,ai];obtain⟨k1,k2,k3⟩:=ajQ f f' (ak5 h f f') (aci bs b).reverse (s.1.set b true,s.2) (s'.1.set (sg b) true,s'.2) (fun t ht=>h.clo b hg t (Abw.1 ht)) ar (by show (s.1.set b true).count false<=f;omega) (by show (s'.1.set (sg b) true).count false<=f';omega);refine⟨⟨k1.len,k1.seen,?_⟩,?_,?_⟩
   . show _++[_]=(_++[_]).map _
     rw [k1.left,Aa8];simp
   . exact Aai k2 (by show (s.1.set b true).count false<=_;omega)
   . exact Aai k3 (by show (s'.1.set (sg b) true).count false<=_;omega)
theorem amT(h:Eqv bs bs' sg G)(h0:G 0)(al:sg 0=0):aaZ bs'=(aaZ bs).map fun t=>((sg t.toNat:Nat):Int):=by
 have l1:=h.lt 0 h0;have l2:=h.lt' 0 h0;rw [al] at l2;have hb:(List.replicate bs.length false)[0]?=some false:=by rw [Abz,if_pos l1]
 have hs:EqS sg G bs.length bs'.length (List.replicate bs.length false,[]) (List.replicate bs'.length false,[]):=by
  refine⟨by simp,fun i hi=>?_,rfl⟩;show (List.replicate _ false).getD _ true=(List.replicate _ false).getD _ true;rw [Aaf,Aaf,Abz,Abz,if_pos (h.lt i hi),if_pos (h.lt' i hi)]
 have hv:=(ak5 h bs.length bs'.length 0 _ _ h0 hs hb (by rw [List.count_replicate_self];exact Aac _) (by rw [List.count_replicate_self];exact Aac _)).1.left;rw [al] at hv;exact hv
end
end
end Go.Proofs.YtpeejlpcikefcaaGreatDoor
