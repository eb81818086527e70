import Derived.Test.YtpeejlpcikefcaaGreatDoorPDom0
import Derived.Test.YtpeejlpcikefcaaGreatDoorPKnown
import Derived.Test.YtpeejlpcikefcaaGreatDoorPMrg3
/- graph.Post, in plain Lean: blocks as a search in depth leaves them. dom.TreeOf, in plain Lean: the order of a search in depth is fit for the tree; the rounds end, and what holds then. Post-order: what is reached is closed; and it does not mind how blocks are numbered. Plain. -/
namespace Go.Proofs.YtpeejlpcikefcaaGreatDoor
section
def acn(bs:List DBlock)(b:Nat):List Int:=match bs[b]? with | some x=>x.fin.to | none=>[]
def aa6 (bs : List DBlock) : Nat -> Nat -> List Bool × List Int -> List Bool × List Int
 | 0,_,s=>s
 | f+1,b,s =>
   let s1:=(acn bs b).reverse.foldl (fun s t=>if s.1.getD t.toNat true=true then s else aa6 bs f t.toNat s) (s.1.set b true,s.2)
   (s1.1,s1.2++[(b:Int)])
def acv(bs:List DBlock)(f:Nat)(l:List Int)(s:List Bool×List Int):List Bool×List Int:=l.foldl (fun s t=>if s.1.getD t.toNat true=true then s else aa6 bs f t.toNat s) s
theorem ab7(bs:List DBlock)(f b:Nat)(s:List Bool×List Int):aa6 bs (f+1) b s=((acv bs f (acn bs b).reverse (s.1.set b true,s.2)).1,(acv bs f (acn bs b).reverse (s.1.set b true,s.2)).2++[(b:Int)]):=rfl
theorem anI(bs:List DBlock)(f:Nat)(l:List Int)(t:Int)(s:List Bool×List Int):acv bs f (l++[t]) s=if (acv bs f l s).1.getD t.toNat true=true then acv bs f l s else aa6 bs f t.toNat (acv bs f l s):=by
 unfold acv;rw [List.foldl_append];rfl
theorem adW(bs:List DBlock)(f:Nat)(l:List Int)(t:Int)(s:List Bool×List Int):acv bs f (t :: l) s=acv bs f l (if s.1.getD t.toNat true=true then s else aa6 bs f t.toNat s):=rfl
theorem abn:∀(l:List Bool) (b:Nat),l[b]?=some false->(l.set b true).count false+1=l.count false:=by
 intro l
 induction l with
 | nil=>intro b h;simp at h
 | cons a l ih =>
   intro b h;cases b with
   | zero =>
     rw [Ab3] at h;cases h;simp
   | succ b =>
     rw [Ab4] at h;have:=ih b h;rw [List.set_cons_succ,List.count_cons,List.count_cons];omega
structure aqb (bs:List DBlock)(s s':List Bool×List Int)(A:List Int):Prop where
 len:s'.1.length=s.1.length
 left:s'.2=s.2++A
 seen:∀i,s'.1.getD i true=true↔s.1.getD i true=true∨(i:Int)∈A
 fresh:∀x∈A,0<=x∧x<(s.1.length:Int)∧s.1.getD x.toNat true=false
 nodup:A.Nodup
theorem aqb.refl(bs:List DBlock)(s:List Bool×List Int):aqb bs s s [] :=
 ⟨rfl,(Ab5 _).symm,fun i=>⟨.inl,fun h=>h.elim id (fun h=>(by cases h))⟩,fun x h=>(by cases h),List.nodup_nil⟩
variable {bs:List DBlock}{A:List Int}
theorem aqb.trans{s s' ah:List Bool×List Int}{B:List Int}(h:aqb bs s s' A)(k:aqb bs s' ah B):aqb bs s ah (A++B):=by
 refine⟨k.len.trans h.len,by rw [k.left,h.left,Abh],fun i=>?_,fun x hx=>?_,?_⟩
 . rw [k.seen,h.seen,Aa7]
   constructor
   . rintro ((h | h) | h)
     . exact .inl h
     . exact .inr (.inl h)
     . exact .inr (.inr h)
   . rintro (h | h | h)
     . exact .inl (.inl h)
     . exact .inl (.inr h)
     . exact .inr h
 . rcases Aa7.1 hx with hx | hx
   . exact h.fresh x hx
   . obtain⟨h1,h2,h3⟩:=k.fresh x hx
     refine⟨h1,by rw [h.len] at h2;exact h2,?_⟩;cases hs:s.1.getD x.toNat true with
     | false=>rfl
     | true=>rw [(h.seen x.toNat).2 (.inl hs)] at h3;cases h3
 . refine List.nodup_append.2 ⟨h.nodup,k.nodup,fun x hx y hy e=>?_⟩
   subst e;obtain⟨h1,h2,h3⟩:=k.fresh x hy;have:=(h.seen x.toNat).2 (.inr (by rw [Abf h1];exact hx));rw [this] at h3;cases h3
theorem ak0:∀(l l':List Bool),l'.length=l.length->(∀i,l.getD i true=true->l'.getD i true=true)->l'.count false<=l.count false:=by
 intro l
 induction l with
 | nil =>
   intro l' hl _;obtain rfl:=Acg.1 hl;exact Aac _
 | cons a l ih =>
   intro l' hl h;cases l' with
   | nil=>simp at hl
   | cons a' l' =>
     have h1:=ih l' (by simpa using hl) (fun i hi=>h (i+1) hi);have h2:=h 0;rw [List.count_cons,List.count_cons];cases a <;> cases a' <;> simp at h2 ⊢ <;> omega
def afu(bs:List DBlock)(A l:List Int):Prop:=∀j (h:j<A.length),(∃k,∃h':k<A.length,j<k∧A[j]∈acn bs (A[k]).toNat)∨A[j]∈l
theorem afu.mono{l l':List Int}(h:afu bs A l)(hl:∀x∈l,x∈l'):afu bs A l':=fun j hj=>(h j hj).imp id (hl _)
theorem afu.append{B l:List Int}(h:afu bs A l)(k:afu bs B l):afu bs (A++B) l:=by
 intro j hj
 by_cases hA:j<A.length
 . rw [List.getElem_append_left hA]
   rcases h j hA with⟨i,hi,h1,h2⟩ | h
   . exact .inl ⟨i,by rw [Aau];omega,h1,by rw [List.getElem_append_left hi];exact h2⟩
   . exact .inr h
 . have aq:j - A.length<B.length:=by rw [Aau] at hj;omega
   rw [List.getElem_append_right (by omega)];rcases k (j - A.length) aq with⟨i,hi,h1,h2⟩ | h
   . refine .inl ⟨i+A.length,by rw [Aau];omega,by omega,?_⟩
     rw [List.getElem_append_right (by omega)];simpa using h2
   . exact .inr h
theorem afu.close{b:Nat}(h:afu bs A (acn bs b)):afu bs (A++[(b:Int)]) [(b:Int)]:=by
 intro j hj
 by_cases hA:j<A.length
 . left
   rw [List.getElem_append_left hA];rcases h j hA with⟨i,hi,h1,h2⟩ | h
   . exact⟨i,by rw [Aau];omega,h1,by rw [List.getElem_append_left hi];exact h2⟩
   . exact⟨A.length,by simp,hA,by simpa using h⟩
 . right
   rw [List.getElem_append_right (by omega)];simp
theorem apP(bs:List DBlock)(f:Nat)(hv:∀(b:Nat) (s:List Bool×List Int),s.1[b]?=some false->s.1.count false<=f->∃A,aqb bs s (aa6 bs f b s) A∧afu bs A [(b:Int)]) :
 ∀(l:List Int) (s:List Bool×List Int),(∀t∈l,0<=t)->s.1.count false<=f->∃A,aqb bs s (acv bs f l s) A∧afu bs A l:=by
 intro l
 induction l with
 | nil=>exact fun s _ _=>⟨[],aqb.refl bs s,fun j h=>(by cases h)⟩
 | cons t l ih =>
   intro s ht hc;rw [adW]
   by_cases hs:s.1.getD t.toNat true=true
   . rw [if_pos hs]
     obtain⟨A,h1,h2⟩:=ih s (fun x hx=>ht x (Aa2 _ hx)) hc;exact⟨A,h1,h2.mono (fun x hx=>Aa2 _ hx)⟩
   . rw [if_neg hs]
     have ao:s.1[t.toNat]?=some false:=by
      rw [Aaf] at hs;cases h:s.1[t.toNat]? with
      | none=>rw [h] at hs;exact absurd rfl hs
      | some x=>rw [h] at hs;cases x with
        | true=>exact absurd rfl hs
        | false=>rfl
     obtain⟨A,h1,h2⟩:=hv t.toNat s ao hc;have ae:(aa6 bs f t.toNat s).1.count false<=f:=Aai (ak0 _ _ h1.len (fun i hi=>(h1.seen i).2 (.inl hi))) hc;obtain⟨B,h3,h4⟩:=ih _ (fun x hx=>ht x (Aa2 _ hx)) ae;refine⟨A++B,h1.trans h3,afu.append (h2.mono (fun x hx=>?_)) (h4.mono (fun x hx=>Aa2 _ hx))⟩;rw [Aax] at hx;rw [hx,Abf (ht t (Aa3 ..))];exact Aa3 ..
theorem ai7(bs:List DBlock)(hto:∀b,∀t∈acn bs b,0<=t):∀(f b:Nat) (s:List Bool×List Int),s.1[b]?=some false->s.1.count false<=f->∃A,aqb bs s (aa6 bs f b s) A∧afu bs A [(b:Int)]:=by
 intro f
 induction f with
 | zero =>
   intro b s hb hc;have:=abn s.1 b hb;omega
 | succ f ih =>
   intro b s hb hc;have ax:=(Aad.1 hb).1;have hu:=abn s.1 b hb;obtain⟨A,h1,h2⟩:=apP bs f ih (acn bs b).reverse (s.1.set b true,s.2) (fun t ht=>hto b t (Abs.1 ht)) (by dsimp only;omega);rw [ab7];have ag:∀i,(s.1.set b true).getD i true=true↔s.1.getD i true=true∨i=b:=fun i=>by
    rw [Aaf,Aaf,Aa6]
    by_cases hib:b=i
    . subst hib;simp [ax]
    . rw [if_neg hib]
      exact⟨.inl,fun h=>h.elim id (fun h=>absurd h.symm hib)⟩
   refine⟨A++[(b:Int)],⟨?_,?_,fun i=>?_,fun x hx=>?_,?_⟩,(h2.mono (fun x hx=>Abs.1 hx)).close⟩
   . have:=h1.len
     simpa using this
   . have:=h1.left
     dsimp only at this ⊢;rw [this,Abh]
   . have h:=h1.seen i
     dsimp only at h ⊢;rw [h,ag,Aa7,Aax];constructor
     . rintro ((h | h) | h)
       . exact .inl h
       . exact .inr (.inr (by rw [h]))
       . exact .inr (.inl h)
     . rintro (h | h | h)
       . exact .inl (.inl h)
       . exact .inr h
       . exact .inl (.inr (by omega))
   . rcases Aa7.1 hx with hx | hx
     . obtain⟨k1,k2,k3⟩:=h1.fresh x hx
       dsimp only at k2 k3;rw [Aar] at k2;refine⟨k1,k2,?_⟩;cases hs:s.1.getD x.toNat true with
       | false=>rfl
       | true=>rw [(ag x.toNat).2 (.inl hs)] at k3;cases k3
     . rw [Aax] at hx
       subst hx;refine⟨by omega,by omega,?_⟩;rw [Aan,Aaf,hb];rfl
   . refine List.nodup_append.2 ⟨h1.nodup,by simp,fun x hx y hy e=>?_⟩
     rw [Aax] at hy;subst e;subst hy;obtain⟨k1,k2,k3⟩:=h1.fresh _ hx;dsimp only at k3;rw [Aan,(ag b).2 (.inr rfl)] at k3;cases k3
theorem anJ {l:List Bool}{i:Nat}(h:¬l.getD i true=true):l[i]?=some false:=by
 rw [Aaf] at h;cases e:l[i]? with
 | none=>rw [e] at h;exact absurd rfl h
 | some x=>rw [e] at h;cases x with
   | true=>exact absurd rfl h
   | false=>rfl
theorem ajI(bs:List DBlock)(f:Nat)(hv:∀(b:Nat) (s:List Bool×List Int),s.1[b]?=some false->s.1.count false<=f->(aa6 bs f b s).2.length+(aa6 bs f b s).1.count false<=s.2.length+s.1.count false∧(aa6 bs f b s).1.count false<=s.1.count false∧(aa6 bs f b s).1.length=s.1.length) :
 ∀(l:List Int) (s:List Bool×List Int),s.1.count false<=f->(acv bs f l s).2.length+(acv bs f l s).1.count false<=s.2.length+s.1.count false∧(acv bs f l s).1.count false<=s.1.count false∧(acv bs f l s).1.length=s.1.length:=by
 intro l
 induction l with
 | nil=>exact fun s _=>⟨Aac _,Aac _,rfl⟩
 | cons t l ih =>
   intro s hc;rw [adW]
   by_cases hs:s.1.getD t.toNat true=true
   . rw [if_pos hs];exact ih s hc
   . rw [if_neg hs]
     obtain⟨h1,h2,h3⟩:=hv t.toNat s (anJ hs) hc;obtain⟨k1,k2,k3⟩:=ih _ (Aai h2 hc);exact⟨Aai k1 h1,Aai k2 h2,k3.trans h3⟩
theorem ak1(bs:List DBlock):∀(f b:Nat) (s:List Bool×List Int),s.1[b]?=some false->s.1.count false<=f ->
 (aa6 bs f b s).2.length+(aa6 bs f b s).1.count false<=s.2.length+s.1.count false∧(aa6 bs f b s).1.count false<=s.1.count false∧(aa6 bs f b s).1.length=s.1.length:=by
 intro f
 induction f with
 | zero =>
   intro b s hb hc;have:=abn s.1 b hb;omega
 | succ f ih =>
   intro b s hb hc;have hu:=abn s.1 b hb;obtain⟨h1,h2,h3⟩:=ajI bs f ih (acn bs b).reverse (s.1.set b true,s.2) (by dsimp only;omega);rw [ab7];dsimp only at h1 h2 h3 ⊢;rw [Aau,List.length_singleton];rw [Aar] at h3;exact⟨by omega,by omega,h3⟩
def aaT(bs:List DBlock):List Int:=(aa6 bs bs.length 0 (List.replicate bs.length false,[])).2
end
section
open Go.RowKit
variable {i:Nat}
theorem art{tg:List Int}{t:Nat}(h:(t:Int)∈tg):(i:Int)∈afb tg t i:=by
 unfold afb;exact Aal.2 ⟨_,List.mem_filter.2 ⟨h,by simp⟩,rfl⟩
theorem al0 {l:List DBlock}{t:Nat}:∀{s i:Nat} {x:DBlock},l[i]?=some x->(t:Int)∈x.fin.to->((s+i:Nat):Int)∈aaf l s t:=by
 induction l with
 | nil=>intro s i x h;simp at h
 | cons b l ih =>
   intro s i x h ht;simp only [aaf,Aa7];cases i with
   | zero =>
     rw [Ab3] at h;cases h;exact .inl (art ht)
   | succ i =>
     rw [Ab4] at h;have:=ih (s:=s+1) h ht;rw [show s+1+i=s+(i+1) by omega] at this;exact .inr this
def ordL(bs:List DBlock):List Int:=(aaT bs).reverse
def abj(bs:List DBlock):List Nat:=(ordL bs).map Int.toNat
def psF(bs:List DBlock):Nat->Nat:=atF (abj bs) (abj bs).length
def aeo(bs:List DBlock)(x:Nat):List Nat:=(aaf bs 0 x).map Int.toNat
structure aem (bs:List DBlock):Prop where
 pos:0<bs.length
 tgt:∀(k:Nat) (x:DBlock),bs[k]?=some x->x.fin.to.length<=2∧∀t∈x.fin.to,0<=t∧t<(bs.length:Int)
variable {bs:List DBlock}
theorem aem.tos(h:aem bs):∀b,∀t∈acn bs b,0<=t:=by
 intro b t ht;unfold acn at ht;cases e:bs[b]? with
 | none=>rw [e] at ht;cases ht
 | some x=>rw [e] at ht;exact ((h.tgt b x e).2 t ht).1
theorem abb(h:aem bs):(∀x∈aaT bs,0<=x∧x<(bs.length:Int))∧(aaT bs).Nodup∧afu bs (aaT bs) [0]∧(∃A,aaT bs=A++[0]):=by
 have hp:=h.pos;obtain⟨A,h1,h2⟩:=ai7 bs h.tos bs.length 0 (List.replicate bs.length false,[]) (by dsimp only;rw [Acb,if_pos hp]) (by dsimp only;rw [List.count_replicate_self];exact Aac _);have e:aaT bs=A:=by
  unfold aaT;have:=h1.left;rw [Abg] at this;exact this
 refine⟨fun x hx=>?_,by rw [e];exact h1.nodup,by rw [e];exact h2,?_⟩
 . rw [e] at hx
   have:=h1.fresh x hx;dsimp only at this;rw [Ab1] at this;exact⟨this.1,this.2.1⟩
 . obtain⟨n,hn⟩:∃n,bs.length=n+1:=⟨bs.length - 1,by omega⟩
   unfold aaT;rw [hn,ab7];exact⟨_,rfl⟩
variable {j:Nat}
theorem af5{α:Type}{l:List α}(h:l.Nodup)(hi:i<l.length)(hj:j<l.length)(e:l[i]=l[j]):i=j:=by
 have h2:=Acp.1 h;rcases Nat.lt_trichotomy i j with h3 | h3 | h3
 . exact absurd e (h2 i j hi hj h3)
 . exact h3
 . exact absurd e.symm (h2 j i hj hi h3)
theorem aru {α:Type}{l:List α}(h:∀i j (hi:i<l.length) (hj:j<l.length),l[i]=l[j]->i=j):l.Nodup :=
 Acp.2 fun i j hi hj aw e=>by have:=h i j hi hj e;omega
theorem af6(hj:j<(abj bs).length):∃h:(aaT bs).length - 1 - j<(aaT bs).length,(abj bs)[j]=((aaT bs)[(aaT bs).length - 1 - j]).toNat:=by
 have e:(abj bs).length=(aaT bs).length:=by unfold abj ordL;simp
 have h:(aaT bs).length - 1 - j<(aaT bs).length:=by omega
 refine⟨h,?_⟩;have h2:(abj bs)[j]?=some ((aaT bs)[(aaT bs).length - 1 - j]).toNat:=by
  unfold abj ordL;rw [Aak,List.getElem?_reverse (by omega),Aaa h];rfl
 rw [Aaa hj] at h2;exact Option.some.inj h2
theorem af7(bs:List DBlock):(abj bs).length=(aaT bs).length:=by unfold abj ordL;simp
theorem ag7(h:aem bs)(hi:i<(abj bs).length)(hj:j<(abj bs).length)(e:(abj bs)[i]=(abj bs)[j]):i=j:=by
 obtain⟨h1,h2,-,-⟩:=abb h;obtain⟨a,ea⟩:=af6 hi;obtain⟨b,eb⟩:=af6 hj;rw [ea,eb] at e;have p1:=h1 _ (Aas a);have p2:=h1 _ (Aas b);have e2:(aaT bs)[(aaT bs).length - 1 - i]=(aaT bs)[(aaT bs).length - 1 - j]:=by omega
 have:=af5 h2 _ _ e2;have:=af7 bs;omega
theorem ah8(h:aem bs){x:Nat}(hx:x∈abj bs):x<bs.length:=by
 obtain⟨h1,-,-,-⟩:=abb h;unfold abj ordL at hx;obtain⟨y,hy,rfl⟩:=Aal.1 hx;have:=h1 y (Abs.1 hy);omega
theorem ak2 {n:Nat}:∀(l:List Nat),l.Nodup->(∀x∈l,x<n)->l.length<=n:=by
 intro l h1 h2;have:=List.Nodup.length_le_of_subset (l₁:=l) (l₂:=List.range n) h1 (fun x hx=>Abv.2 (h2 x hx));simpa using this
theorem ah9(h:aem bs):(abj bs).length<=bs.length:=by
 refine ak2 _ (aru fun i j hi hj e=>ag7 h hi hj e) (fun x hx=>ah8 h hx)
theorem af8(h:aem bs):0<(abj bs).length∧∀(k:0<(abj bs).length),(abj bs)[0]=0:=by
 obtain⟨-,-,-,A,hA⟩:=abb h;have e:(aaT bs).length=A.length+1:=by rw [hA];simp
 have hl:0<(abj bs).length:=by rw [af7,e];omega
 refine⟨hl,fun k=>?_⟩;obtain⟨a,ea⟩:=af6 k;rw [ea];have:(aaT bs)[(aaT bs).length - 1 - 0]?=some 0:=by rw [hA];simp
 rw [Aaa a] at this;injection this with this;rw [this];rfl
theorem ar2(h:aem bs)(hj:j<(abj bs).length):psF bs (abj bs)[j]=j:=by
 have hm:(abj bs)[j]∈abj bs:=Aas _;have hl:(abj bs).idxOf (abj bs)[j]<(abj bs).length:=List.idxOf_lt_length_iff.2 hm;unfold psF atF;rw [Aa0,if_pos (aqB.2 hm)];exact ag7 h hl hj (List.getElem_idxOf hl)
theorem amP(h:aem bs):psF bs 0=0:=by
 obtain⟨h1,h2⟩:=af8 h;have:=ar2 h h1;rw [h2 h1] at this;exact this
theorem al1(h:aem bs)(hj:j<(abj bs).length)(h1:1<=j):∃y,y∈aeo bs (abj bs)[j]∧∃j',∃h':j'<(abj bs).length,j'<j∧(abj bs)[j']=y:=by
 obtain⟨p1,p2,p3,A,hA⟩:=abb h;have el:=af7 bs;obtain⟨a,ea⟩:=af6 hj;have e:(aaT bs).length=A.length+1:=by rw [hA];simp
 rcases p3 _ a with⟨k,hk,aw,hto⟩ | h0
 . have ak:(aaT bs).length - 1 - k<(abj bs).length:=by omega
   obtain⟨b,eb⟩:=af6 ak;have av:(aaT bs).length - 1 - ((aaT bs).length - 1 - k)=k:=by omega
   refine⟨_,?_,(aaT bs).length - 1 - k,ak,by omega,rfl⟩;rw [eb,ea];have q:=p1 _ (Aas a);have af:(((aaT bs)[(aaT bs).length - 1 - j].toNat:Nat):Int)∈acn bs ((aaT bs)[k]).toNat:=by
    rw [Abf q.1];exact hto
   unfold acn at af;cases e5:bs[((aaT bs)[k]).toNat]? with
   | none=>rw [e5] at af;cases af
   | some x =>
     rw [e5] at af;have:=al0 (s:=0) e5 af;unfold aeo;refine Aal.2 ⟨_,this,?_⟩;simp only [av,Aab,Aan]
 . exfalso
   rw [Aax] at h0;have hl:(aaT bs)[(aaT bs).length - 1]?=some 0:=by rw [hA];simp
   have an:(aaT bs).length - 1<(aaT bs).length:=by omega
   rw [Aaa an] at hl;injection hl with hl;have:=af5 p2 _ _ (h0.trans hl.symm);omega
open Classical in
noncomputable def fpF (bs:List DBlock) (x:Nat):Nat:=if h:∃y,y∈aeo bs x∧∃j j',∃(h:j<(abj bs).length) (h':j'<(abj bs).length),(abj bs)[j]=x∧j'<j∧(abj bs)[j']=y then Classical.choose h else 0
theorem atL(h:aem bs)(hj:j<(abj bs).length)(h1:1<=j):fpF bs (abj bs)[j]∈aeo bs (abj bs)[j]∧∃j',∃h':j'<(abj bs).length,j'<j∧(abj bs)[j']=fpF bs (abj bs)[j]:=by
 obtain⟨y,h2,j',h3,h4,h5⟩:=al1 h hj h1;have hex:∃y,y∈aeo bs (abj bs)[j]∧∃j2 j',∃(h:j2<(abj bs).length) (h':j'<(abj bs).length),(abj bs)[j2]=(abj bs)[j]∧j'<j2∧(abj bs)[j']=y:=⟨y,h2,j,j',hj,h3,rfl,h4,h5⟩
 have hc:=Classical.choose_spec hex;have e:fpF bs (abj bs)[j]=Classical.choose hex:=by unfold fpF;rw [dif_pos hex]
 rw [e];obtain⟨c1,k,k',c2,c3,c4,c5,c6⟩:=hc;have:=ag7 h c2 hj c4;exact⟨c1,k',c3,by omega,c6⟩
theorem ag8(h:aem bs):Rpo bs.length (abj bs) (psF bs) (aeo bs) (fpF bs) :=
 ⟨(af8 h).1,ah9 h,fun _ hx=>ah8 h hx,fun _ hj=>ar2 h hj,(af8 h).2,fun _ hj h1=>atL h hj h1⟩
section
variable {n : Nat} {ord : List Nat} {ps : Nat -> Nat} {ad : Nat -> List Nat} {fp : Nat -> Nat}
theorem apQ {s:(Nat->Int)×Bool}{b:Nat}(h:∀x,-1<=s.1 x)(hb : -1<=abZ ps s.1 (-1) (ad b)):∀x,-1<=(aey ps ad s b).1 x:=by
 intro x;unfold aey
 by_cases hne:s.1 b≠abZ ps s.1 (-1) (ad b)
 . rw [if_pos hne]
   dsimp only
   by_cases hx:x=b
   . rw [hx,abq];exact hb
   . rw [abP _ _ hx];exact h x
 . rw [if_neg hne];exact h x
structure PSt (n:Nat)(ord:List Nat)(ps:Nat->Nat)(ad:Nat->List Nat)(fp:Nat->Nat)(u0:Nat->Int)(i:Nat)(s:(Nat->Int)×Bool):Prop where
 d:DSt n ord ps ad fp i s.1
 low:∀x,-1<=s.1 x
 le:muF n ps s.1<=muF n ps u0
 lt:s.2=true->muF n ps s.1<muF n ps u0
 same:s.2=false->s.1=u0∧∀j (h:j<ord.length),1<=j->j<i->u0 ord[j]=abZ ps u0 (-1) (ad ord[j])
theorem PSt.next(ho:Rpo n ord ps ad fp){u0:Nat->Int}{i:Nat}{s:(Nat->Int)×Bool}(h:PSt n ord ps ad fp u0 i s)(h1:1<=i)(hi:i<ord.length):PSt n ord ps ad fp u0 (i+1) (aey ps ad s ord[i]):=by
 obtain⟨g1,g2,g3⟩:=ast ho h.d h1 hi;obtain⟨aA,-,-,-⟩:=h.d.turn ho h1 hi;refine⟨g1,apQ h.low (by omega),Aai g2 h.le,fun hs=>?_,fun hs=>?_⟩
 . by_cases hne:s.1 ord[i]≠abZ ps s.1 (-1) (ad ord[i])
   . exact Aay (g3 hne) h.le
   . unfold aey at hs ⊢
     rw [if_neg hne] at hs ⊢;exact h.lt hs
 . by_cases hne:s.1 ord[i]≠abZ ps s.1 (-1) (ad ord[i])
   . unfold aey at hs
     rw [if_pos hne] at hs;cases hs
   . have he:s.1 ord[i]=abZ ps s.1 (-1) (ad ord[i]):=Classical.not_not.1 hne
     unfold aey at hs ⊢;rw [if_neg hne] at hs ⊢;obtain⟨k1,k2⟩:=h.same hs;refine⟨k1,fun j hj h2 h3=>?_⟩
     by_cases hji:j=i
     . subst hji;rw [<-k1];exact he
     . exact k2 j hj h2 (by omega)
theorem asR(ho:Rpo n ord ps ad fp){u0:Nat->Int}:∀(m i:Nat) (s:(Nat->Int)×Bool),PSt n ord ps ad fp u0 i s->1<=i->i+m=ord.length->PSt n ord ps ad fp u0 ord.length (ahA ps ad (ord.drop i) s):=by
 intro m
 induction m with
 | zero =>
   intro i s h h1 he;rw [List.drop_of_length_le (by omega),show ord.length=i by omega];exact h
 | succ m ih =>
   intro i s h h1 he;rw [List.drop_eq_getElem_cons (by omega)];exact ih (i+1) _ (h.next ho h1 (by omega)) (by omega) (by omega)
structure Rest (n:Nat)(ord:List Nat)(ps:Nat->Nat)(ad:Nat->List Nat)(fp:Nat->Nat)(up:Nat->Int):Prop where
 d:DSt n ord ps ad fp 1 up
 low:∀x,-1<=up x
 fix:∀j (h:j<ord.length),1<=j->up ord[j]=abZ ps up (-1) (ad ord[j])
theorem PSt.zero {up:Nat->Int}(h:DSt n ord ps ad fp 1 up)(hl:∀x,-1<=up x):PSt n ord ps ad fp up 1 (up,false) :=
 ⟨h,hl,Aac _,fun h=>(by cases h),fun _=>⟨rfl,fun j hj h1 h2=>by omega⟩⟩
theorem anK(ho:Rpo n ord ps ad fp):∀(f:Nat) (up:Nat->Int),DSt n ord ps ad fp 1 up->(∀x,-1<=up x)->muF n ps up<f->Rest n ord ps ad fp (anb ps ad ord.tail f up):=by
 intro f
 induction f with
 | zero=>intro up _ _ h;omega
 | succ f ih =>
   intro up hd hl hf;have hp:=asR ho (ord.length - 1) 1 (up,false) (PSt.zero hd hl) (Aac _) (by have:=ho.pos;omega);rw [List.drop_one] at hp;rw [anb]
   by_cases hc:(ahA ps ad ord.tail (up,false)).2=true
   . rw [if_pos hc]
     exact ih _ (hp.d.again ho) hp.low (by have:=hp.lt hc;omega)
   . rw [if_neg hc]
     have ae:(ahA ps ad ord.tail (up,false)).2=false:=by simpa using hc
     obtain⟨k1,k2⟩:=hp.same ae;rw [k1];exact⟨hd,hl,fun j hj h1=>k2 j hj h1 hj⟩
end
def ak3(bs:List DBlock):Nat->Int:=anb (psF bs) (aeo bs) (abj bs).tail (muF bs.length (psF bs) up0+1) up0
variable {bs:List DBlock}
theorem apR(h:aem bs):Rest bs.length (abj bs) (psF bs) (aeo bs) (fpF bs) (ak3 bs) :=
 anK (ag8 h) _ _ (DSt.start (ag8 h) (amP h)) (fun x=>by unfold up0;split <;> omega) (Nat.lt_succ_self _)
def agx(bs:List DBlock):List Int:=(List.range bs.length).map (afI (ak3 bs) 0 (-1))
theorem aia(bs:List DBlock):(agx bs).length=bs.length:=by unfold agx;simp
theorem arv{k:Nat}(hk:k<bs.length):(agx bs).getD k 0=if k=0 then -1 else ak3 bs k:=by
 unfold agx;rw [Aaf,Aak,Ab9 hk];rfl
theorem arw(h:aem bs):aoG (agx bs) (psF bs):=by
 have hr:=apR h;refine⟨fun k hk=>?_⟩;rw [aia] at hk ⊢;rw [arv hk]
 by_cases h0:k=0
 . rw [if_pos h0];exact .inl rfl
 . rw [if_neg h0]
   by_cases hn:ak3 bs k<0
   . have:=hr.low k;exact .inl (by omega)
   . refine .inr ⟨(ak3 bs k).toNat,by omega,?_,?_⟩
     . exact hr.d.tree.lt _ (hr.d.tree.next k (by omega))
     . exact hr.d.tree.less k (by omega) h0
end
section
def Clo(bs:List DBlock)(s s':List Bool×List Int):Prop:=∀i:Nat,s'.1.getD i true=true->s.1.getD i true=true∨∀t∈acn bs i,s'.1.getD t.toNat true=true
def amQ(s s':List Bool×List Int):Prop:=∀i:Nat,s.1.getD i true=true->s'.1.getD i true=true
theorem Clo.trans {bs:List DBlock}{s s' ah:List Bool×List Int}(h:Clo bs s s')(k:Clo bs s' ah)(hl:amQ s' ah):Clo bs s ah:=fun i hi=>by
 rcases k i hi with h1 | h1
 . rcases h i h1 with h2 | h2
   . exact .inl h2
   . exact .inr fun t ht=>hl _ (h2 t ht)
 . exact .inr h1
theorem aeM {l:List Bool}{b i:Nat}(h:l[b]?=some false):(l.set b true).getD i true=true↔i=b∨l.getD i true=true:=by
 rw [Aaf,Aaf,Aa6];have hl:=(Aad.1 h).1
 by_cases e:b=i
 . subst e;simp [hl]
 . rw [if_neg e]
   constructor
   . exact .inr
   . rintro (h1 | h1)
     . exact absurd h1.symm e
     . exact h1
theorem ag9 {l:List Bool}{i:Nat}(h:¬l.getD i true=true):l[i]?=some false:=by
 rw [Aaf] at h;cases hh:l[i]? with
 | none=>rw [hh] at h;exact absurd rfl h
 | some x=>rw [hh] at h;cases x with
   | true=>exact absurd rfl h
   | false=>rfl
theorem ajJ(bs:List DBlock)(f:Nat)(hv:∀(b:Nat) (s:List Bool×List Int),s.1[b]?=some false->s.1.count false<=f->Clo bs s (aa6 bs f b s)∧amQ s (aa6 bs f b s)∧(aa6 bs f b s).1.getD b true=true∧(aa6 bs f b s).1.length=s.1.length) :
 ∀(l:List Int) (s:List Bool×List Int),s.1.count false<=f->Clo bs s (acv bs f l s)∧amQ s (acv bs f l s)∧(∀t∈l,(acv bs f l s).1.getD t.toNat true=true)∧(acv bs f l s).1.length=s.1.length
 | [],s,_=>⟨fun i h => .inl h,fun i h=>h,fun t h=>(by cases h),rfl⟩
 | t :: l,s,hc=>by
   rw [adW]
   by_cases hs:s.1.getD t.toNat true=true
   . rw [if_pos hs]
     obtain⟨h1,h2,h3,h4⟩:=ajJ bs f hv l s hc;refine⟨h1,h2,fun u hu=>?_,h4⟩;rcases Aam.1 hu with rfl | hu
     . exact h2 _ hs
     . exact h3 u hu
   . rw [if_neg hs]
     obtain⟨g1,g2,g3,g4⟩:=hv t.toNat s (ag9 hs) hc;have ae:(aa6 bs f t.toNat s).1.count false<=f:=Aai (ak0 _ _ g4 g2) hc;obtain⟨h1,h2,h3,h4⟩:=ajJ bs f hv l _ ae;refine⟨g1.trans h1 h2,fun i hi=>h2 _ (g2 i hi),fun u hu=>?_,h4.trans g4⟩;rcases Aam.1 hu with rfl | hu
     . exact h2 _ g3
     . exact h3 u hu
theorem ak4 (bs : List DBlock) : ∀ (f b : Nat) (s : List Bool × List Int), s.1[b]? = some false -> s.1.count false <= f -> Clo bs s (aa6 bs f b s) ∧ amQ s (aa6 bs f b s) ∧ (aa6 bs f b s).1.getD b true = true ∧ (aa6 bs f b s).1.length = s.1.length
 | 0,b,s,hb,hc=>by
   have:=abn s.1 b hb;omega
 | f+1,b,s,hb,hc=>by
   have hu:=abn s.1 b hb;obtain⟨h1,h2,h3,h4⟩:=ajJ bs f (ak4 bs f) (acn bs b).reverse (s.1.set b true,s.2) (by show (s.1.set b true).count false<=f;omega);rw [ab7];refine⟨fun i hi=>?_,fun i hi=>?_,?_,?_⟩
   . rcases h1 i hi with g | g
     . rcases (aeM hb).1 g with rfl | g
       . exact .inr fun t ht=>h3 t (Abs.2 ht)
       . exact .inl g
     . exact .inr g
   . exact h2 i ((aeM hb).2 (.inr hi))
   . exact h2 b ((aeM hb).2 (.inl rfl))
   . rw [h4];exact Aar
theorem aed {bs:List DBlock}(h:aem bs):∀x∈aaT bs,∀t∈acn bs x.toNat,t∈aaT bs:=by
 have hp:=h.pos;have hb:(List.replicate bs.length false)[0]?=some false:=by rw [Acb,if_pos hp]
 have hc:(List.replicate bs.length false).count false<=bs.length:=by rw [List.count_replicate_self];exact Aac _
 obtain⟨A,h1,-⟩:=ai7 bs h.tos bs.length 0 (List.replicate bs.length false,[]) hb hc;have h2:=ak4 bs bs.length 0 (List.replicate bs.length false,[]) hb hc;have e:aaT bs=A:=by
  unfold aaT;have:=h1.left;rw [Abg] at this;exact this
 have hn:∀i:Nat,i<bs.length->¬(List.replicate bs.length false).getD i true=true:=fun i hi=>by
  rw [Aaf,Acb,if_pos hi];simp
 intro x hx t ht;obtain⟨p1,-,-,-⟩:=abb h;have au:=p1 x hx;rw [e] at hx ⊢;have ar:=(h1.seen x.toNat).2 (.inr (by rw [Abf au.1];exact hx));rcases h2.1 x.toNat ar with g | g
 . exact absurd g (hn _ (by omega))
 . have az:0<=t∧t<(bs.length:Int):=by
    unfold acn at ht;rw [Aaa (show x.toNat<bs.length by omega)] at ht;exact (h.tgt _ _ (Aaa (show x.toNat<bs.length by omega))).2 t ht
   rcases (h1.seen t.toNat).1 (g t ht) with g2 | g2
   . exact absurd g2 (hn _ (by omega))
   . rw [Abf az.1] at g2;exact g2
structure Eqv (bs bs':List DBlock)(sg:Nat->Nat)(G:Nat->Prop):Prop where
 lt:∀i,G i->i<bs.length
 lt':∀i,G i->sg i<bs'.length
 inj:∀i j,G i->G j->sg i=sg j->i=j
 clo:∀i,G i->∀t∈acn bs i,G t.toNat
 tos:∀i,G i->acn bs' (sg i)=(acn bs i).map fun t=>((sg t.toNat:Nat):Int)
structure EqS (sg:Nat->Nat)(G:Nat->Prop)(n n':Nat)(s s':List Bool×List Int):Prop where
 len:s.1.length=n∧s'.1.length=n'
 seen:∀i,G i->s'.1.getD (sg i) true=s.1.getD i true
 left:s'.2=s.2.map fun t=>((sg t.toNat:Nat):Int)
section
variable {bs bs' : List DBlock} {sg : Nat -> Nat} {G : Nat -> Prop}
theorem ajK(f f':Nat)(hv:∀(b:Nat) (s s':List Bool×List Int),G b->EqS sg G bs.length bs'.length s s'->s.1[b]?=some false->s.1.count false<=f->s'.1.count false<=f'->EqS sg G bs.length bs'.length (aa6 bs f b s) (aa6 bs' f' (sg b) s')∧(aa6 bs f b s).1.count false<=s.1.count false∧(aa6 bs' f' (sg b) s').1.count false<=s'.1.count false) :
 ∀(l:List Int) (s s':List Bool×List Int),(∀t∈l,G t.toNat)->EqS sg G bs.length bs'.length s s'->s.1.count false<=f->s'.1.count false<=f'->EqS sg G bs.length bs'.length (acv bs f l s) (acv bs' f' (l.map fun t=>((sg t.toNat:Nat):Int)) s')∧(acv bs f l s).1.count false<=s.1.count false∧(acv bs' f' (l.map fun t=>((sg t.toNat:Nat):Int)) s').1.count false<=s'.1.count false
 | [],s,s',_,h,_,_=>⟨h,Aac _,Aac _⟩
 | t :: l,s,s',hl,h,hc,ae=>by
   have hg:=hl t (Aa3 ..);rw [Aa1,adW,adW,Aan,h.seen _ hg]
   by_cases hs:s.1.getD t.toNat true=true
   . rw [if_pos hs,if_pos hs]
     exact ajK f f' hv l s s' (fun u hu=>hl u (Aa2 _ hu)) h hc ae
   . rw [if_neg hs,if_neg hs]
     obtain⟨g1,g2,g3⟩:=hv t.toNat s s' hg h (ag9 hs) hc ae;obtain⟨k1,k2,k3⟩:=ajK f f' hv l _ _ (fun u hu=>hl u (Aa2 _ hu)) g1 (Aai g2 hc) (Aai g3 ae);exact⟨k1,Aai k2 g2,Aai k3 g3⟩
theorem ak5 (h : Eqv bs bs' sg G) : ∀ (f f' b : Nat) (s s' : List Bool × List Int), G b -> EqS sg G bs.length bs'.length s s' -> s.1[b]? = some false -> s.1.count false <= f -> s'.1.count false <= f' -> EqS sg G bs.length bs'.length (aa6 bs f b s) (aa6 bs' f' (sg b) s') ∧ (aa6 bs f b s).1.count false <= s.1.count false ∧ (aa6 bs' f' (sg b) s').1.count false <= s'.1.count false
 | 0,f',b,s,s',hg,hs,hb,hc,ae=>by
   have:=abn s.1 b hb;omega
 | f+1,0,b,s,s',hg,hs,hb,hc,ae=>by
   have hn:¬s'.1.getD (sg b) true=true:=by
    rw [hs.seen b hg,Aaf,hb];simp
   have:=abn s'.1 (sg b) (ag9 hn);omega
 | f+1,f'+1,b,s,s',hg,hs,hb,hc,ae=>by
   have hn:¬s'.1.getD (sg b) true=true:=by
    rw [hs.seen b hg,Aaf,hb];simp
   have al:=ag9 hn;have hu:=abn s.1 b hb;have aB:=abn s'.1 (sg b) al;have ay:EqS sg G bs.length bs'.length (s.1.set b true,s.2) (s'.1.set (sg b) true,s'.2):=by
    refine⟨by simp [hs.len.1,hs.len.2],fun i hi=>?_,hs.left⟩;have e:=hs.seen i hi;have i1:(s'.1.set (sg b) true).getD (sg i) true=true↔(s.1.set b true).getD i true=true:=by
     rw [aeM al,aeM hb,e];constructor
     . rintro (h1 | h1)
       . exact .inl (h.inj i b hi hg h1)
       . exact .inr h1
     . rintro (h1 | h1)
       . exact .inl (by rw [h1])
       . exact .inr h1
    exact Abe.2 i1
   have ai:(acn bs' (sg b)).reverse=(acn bs b).reverse.map fun t=>((sg t.toNat:Nat):Int):=by rw [h.tos b hg,List.map_reverse]
   rw [ab7,ab7,ai];obtain⟨k1,k2,k3⟩:=ajK f f' (ak5 h f f') (acn bs b).reverse (s.1.set b true,s.2) (s'.1.set (sg b) true,s'.2) (fun t ht=>h.clo b hg t (Abs.1 ht)) ay (by show (s.1.set b true).count false<=f;omega) (by show (s'.1.set (sg b) true).count false<=f';omega);refine⟨⟨k1.len,k1.seen,?_⟩,?_,?_⟩
   . show _++[_]=(_++[_]).map _
     rw [k1.left,Aa9];simp
   . exact Aai k2 (by show (s.1.set b true).count false<=_;omega)
   . exact Aai k3 (by show (s'.1.set (sg b) true).count false<=_;omega)
theorem amR(h:Eqv bs bs' sg G)(h0:G 0)(aj:sg 0=0):aaT bs'=(aaT bs).map fun t=>((sg t.toNat:Nat):Int):=by
 have l1:=h.lt 0 h0;have l2:=h.lt' 0 h0;rw [aj] at l2;have hb:(List.replicate bs.length false)[0]?=some false:=by rw [Acb,if_pos l1]
 have hs:EqS sg G bs.length bs'.length (List.replicate bs.length false,[]) (List.replicate bs'.length false,[]):=by
  refine⟨by simp,fun i hi=>?_,rfl⟩;show (List.replicate _ false).getD _ true=(List.replicate _ false).getD _ true;rw [Aaf,Aaf,Acb,Acb,if_pos (h.lt i hi),if_pos (h.lt' i hi)]
 have hv:=(ak5 h bs.length bs'.length 0 _ _ h0 hs hb (by rw [List.count_replicate_self];exact Aac _) (by rw [List.count_replicate_self];exact Aac _)).1.left;rw [aj] at hv;exact hv
end
end
end Go.Proofs.YtpeejlpcikefcaaGreatDoor
