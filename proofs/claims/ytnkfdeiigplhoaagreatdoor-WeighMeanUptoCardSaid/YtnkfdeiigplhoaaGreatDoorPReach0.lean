import Derived.Test.YtnkfdeiigplhoaaGreatDoorPFour
/- graph.Post, in plain Lean: blocks as a search in depth leaves them. calls.Order in plain Lean: who reaches whom, rings, and the order; a next one is always to be had. No program in sight. calls.reach in plain Lean: a search in depth finds all that one reaches. No program in sight. -/
namespace Go.Proofs.YtnkfdeiigplhoaaGreatDoor
section
def ab6(bs:List aad)(b:Nat):List Int:=match bs[b]? with | some x=>x.fin.to | none=>[]
def abG (bs : List aad) : Nat -> Nat -> List Bool × List Int -> List Bool × List Int
 | 0,_,s=>s
 | f+1,b,s =>
   let s1:=(ab6 bs b).reverse.foldl (fun s t=>if s.1.getD t.toNat true=true then s else abG bs f t.toNat s) (s.1.set b true,s.2)
   (s1.1,s1.2++[(b:Int)])
def acT(bs:List aad)(f:Nat)(l:List Int)(s:List Bool×List Int):List Bool×List Int:=l.foldl (fun s t=>if s.1.getD t.toNat true=true then s else abG bs f t.toNat s) s
theorem adb(bs:List aad)(f b:Nat)(s:List Bool×List Int):abG bs (f+1) b s=((acT bs f (ab6 bs b).reverse (s.1.set b true,s.2)).1,(acT bs f (ab6 bs b).reverse (s.1.set b true,s.2)).2++[(b:Int)]):=rfl
theorem ak7(bs:List aad)(f:Nat)(l:List Int)(t:Int)(s:List Bool×List Int):acT bs f (l++[t]) s=if (acT bs f l s).1.getD t.toNat true=true then acT bs f l s else abG bs f t.toNat (acT bs f l s):=by
 unfold acT;rw [List.foldl_append];rfl
theorem ag7(bs:List aad)(f:Nat)(l:List Int)(t:Int)(s:List Bool×List Int):acT bs f (t :: l) s=acT bs f l (if s.1.getD t.toNat true=true then s else abG bs f t.toNat s):=rfl
theorem ace:∀(l:List Bool) (b:Nat),l[b]?=some false->(l.set b true).count false+1=l.count false:=by
 intro l
 induction l with
 | nil=>intro b h;simp at h
 | cons a l ih =>
   intro b h;cases b with
   | zero =>
     rw [Abu] at h;cases h;simp
   | succ b =>
     rw [Abv] at h;have:=ih b h;rw [List.set_cons_succ,List.count_cons,List.count_cons];omega
structure amN (bs:List aad)(s s':List Bool×List Int)(A:List Int):Prop where
 len:s'.1.length=s.1.length
 left:s'.2=s.2++A
 seen:∀i,s'.1.getD i true=true↔s.1.getD i true=true∨(i:Int)∈A
 fresh:∀x∈A,0<=x∧x<(s.1.length:Int)∧s.1.getD x.toNat true=false
 nodup:A.Nodup
theorem amN.refl(bs:List aad)(s:List Bool×List Int):amN bs s s [] :=
 ⟨rfl,(Abe _).symm,fun i=>⟨.inl,fun h=>h.elim id (fun h=>(by cases h))⟩,fun x h=>(by cases h),List.nodup_nil⟩
variable {bs:List aad}{A:List Int}
theorem amN.trans{s s' ae:List Bool×List Int}{B:List Int}(h:amN bs s s' A)(k:amN bs s' ae B):amN bs s ae (A++B):=by
 refine⟨k.len.trans h.len,by rw [k.left,h.left,Abh],fun i=>?_,fun x hx=>?_,?_⟩
 . rw [k.seen,h.seen,Aaz]
   constructor
   . rintro ((h | h) | h)
     . exact .inl h
     . exact .inr (.inl h)
     . exact .inr (.inr h)
   . rintro (h | h | h)
     . exact .inl (.inl h)
     . exact .inl (.inr h)
     . exact .inr h
 . rcases Aaz.1 hx with hx | hx
   . exact h.fresh x hx
   . obtain⟨h1,h2,h3⟩:=k.fresh x hx
     refine⟨h1,by rw [h.len] at h2;exact h2,?_⟩;cases hs:s.1.getD x.toNat true with
     | false=>rfl
     | true=>rw [(h.seen x.toNat).2 (.inl hs)] at h3;cases h3
 . refine List.nodup_append.2 ⟨h.nodup,k.nodup,fun x hx y hy e=>?_⟩
   subst e;obtain⟨h1,h2,h3⟩:=k.fresh x hy;have:=(h.seen x.toNat).2 (.inr (by rw [Int.toNat_of_nonneg h1];exact hx));rw [this] at h3;cases h3
theorem amE:∀(l l':List Bool),l'.length=l.length->(∀i,l.getD i true=true->l'.getD i true=true)->l'.count false<=l.count false:=by
 intro l
 induction l with
 | nil =>
   intro l' hl _;obtain rfl:=Abq.1 hl;exact Aad _
 | cons a l ih =>
   intro l' hl h;cases l' with
   | nil=>simp at hl
   | cons a' l' =>
     have h1:=ih l' (by simpa using hl) (fun i hi=>h (i+1) hi);have h2:=h 0;rw [List.count_cons,List.count_cons];cases a <;> cases a' <;> simp at h2 ⊢ <;> omega
def ad9(bs:List aad)(A l:List Int):Prop:=∀j (h:j<A.length),(∃k,∃h':k<A.length,j<k∧A[j]∈ab6 bs (A[k]).toNat)∨A[j]∈l
theorem ad9.mono{l l':List Int}(h:ad9 bs A l)(hl:∀x∈l,x∈l'):ad9 bs A l':=fun j hj=>(h j hj).imp id (hl _)
theorem ad9.append{B l:List Int}(h:ad9 bs A l)(k:ad9 bs B l):ad9 bs (A++B) l:=by
 intro j hj
 by_cases hA:j<A.length
 . rw [List.getElem_append_left hA]
   rcases h j hA with⟨i,hi,h1,h2⟩ | h
   . exact .inl ⟨i,by rw [Aai];omega,h1,by rw [List.getElem_append_left hi];exact h2⟩
   . exact .inr h
 . have ai:j - A.length<B.length:=by rw [Aai] at hj;omega
   rw [List.getElem_append_right (by omega)];rcases k (j - A.length) ai with⟨i,hi,h1,h2⟩ | h
   . refine .inl ⟨i+A.length,by rw [Aai];omega,by omega,?_⟩
     rw [List.getElem_append_right (by omega)];simpa using h2
   . exact .inr h
theorem ad9.close{b:Nat}(h:ad9 bs A (ab6 bs b)):ad9 bs (A++[(b:Int)]) [(b:Int)]:=by
 intro j hj
 by_cases hA:j<A.length
 . left
   rw [List.getElem_append_left hA];rcases h j hA with⟨i,hi,h1,h2⟩ | h
   . exact⟨i,by rw [Aai];omega,h1,by rw [List.getElem_append_left hi];exact h2⟩
   . exact⟨A.length,by simp,hA,by simpa using h⟩
 . right
   rw [List.getElem_append_right (by omega)];simp
theorem amJ(bs:List aad)(f:Nat)(hv:∀(b:Nat) (s:List Bool×List Int),s.1[b]?=some false->s.1.count false<=f->∃A,amN bs s (abG bs f b s) A∧ad9 bs A [(b:Int)]) :
 ∀(l:List Int) (s:List Bool×List Int),(∀t∈l,0<=t)->s.1.count false<=f->∃A,amN bs s (acT bs f l s) A∧ad9 bs A l:=by
 intro l
 induction l with
 | nil=>exact fun s _ _=>⟨[],amN.refl bs s,fun j h=>(by cases h)⟩
 | cons t l ih =>
   intro s ht hc;rw [ag7]
   by_cases hs:s.1.getD t.toNat true=true
   . rw [if_pos hs]
     obtain⟨A,h1,h2⟩:=ih s (fun x hx=>ht x (Abb _ hx)) hc;exact⟨A,h1,h2.mono (fun x hx=>Abb _ hx)⟩
   . rw [if_neg hs]
     have aj:s.1[t.toNat]?=some false:=by
      rw [Aac] at hs;cases h:s.1[t.toNat]? with
      | none=>rw [h] at hs;exact absurd rfl hs
      | some x=>rw [h] at hs;cases x with
        | true=>exact absurd rfl hs
        | false=>rfl
     obtain⟨A,h1,h2⟩:=hv t.toNat s aj hc;have ag:(abG bs f t.toNat s).1.count false<=f:=Aag (amE _ _ h1.len (fun i hi=>(h1.seen i).2 (.inl hi))) hc;obtain⟨B,h3,h4⟩:=ih _ (fun x hx=>ht x (Abb _ hx)) ag;refine⟨A++B,h1.trans h3,ad9.append (h2.mono (fun x hx=>?_)) (h4.mono (fun x hx=>Abb _ hx))⟩;rw [Aaq] at hx;rw [hx,Int.toNat_of_nonneg (ht t (Aa7 ..))];exact Aa7 ..
theorem ak6(bs:List aad)(ak:∀b,∀t∈ab6 bs b,0<=t):∀(f b:Nat) (s:List Bool×List Int),s.1[b]?=some false->s.1.count false<=f->∃A,amN bs s (abG bs f b s) A∧ad9 bs A [(b:Int)]:=by
 intro f
 induction f with
 | zero =>
   intro b s hb hc;have:=ace s.1 b hb;omega
 | succ f ih =>
   intro b s hb hc;have af:=(Aae.1 hb).1;have hu:=ace s.1 b hb;obtain⟨A,h1,h2⟩:=amJ bs f ih (ab6 bs b).reverse (s.1.set b true,s.2) (fun t ht=>ak b t (List.mem_reverse.1 ht)) (by dsimp only;omega);rw [adb];have ad:∀i,(s.1.set b true).getD i true=true↔s.1.getD i true=true∨i=b:=fun i=>by
    rw [Aac,Aac,List.getElem?_set]
    by_cases hib:b=i
    . subst hib;simp [af]
    . rw [if_neg hib]
      exact⟨.inl,fun h=>h.elim id (fun h=>absurd h.symm hib)⟩
   refine⟨A++[(b:Int)],⟨?_,?_,fun i=>?_,fun x hx=>?_,?_⟩,(h2.mono (fun x hx=>List.mem_reverse.1 hx)).close⟩
   . have:=h1.len
     simpa using this
   . have:=h1.left
     dsimp only at this ⊢;rw [this,Abh]
   . have h:=h1.seen i
     dsimp only at h ⊢;rw [h,ad,Aaz,Aaq];constructor
     . rintro ((h | h) | h)
       . exact .inl h
       . exact .inr (.inr (by rw [h]))
       . exact .inr (.inl h)
     . rintro (h | h | h)
       . exact .inl (.inl h)
       . exact .inr h
       . exact .inl (.inr (by omega))
   . rcases Aaz.1 hx with hx | hx
     . obtain⟨k1,k2,k3⟩:=h1.fresh x hx
       dsimp only at k2 k3;rw [List.length_set] at k2;refine⟨k1,k2,?_⟩;cases hs:s.1.getD x.toNat true with
       | false=>rfl
       | true=>rw [(ad x.toNat).2 (.inl hs)] at k3;cases k3
     . rw [Aaq] at hx
       subst hx;refine⟨by omega,by omega,?_⟩;rw [Aaj,Aac,hb];rfl
   . refine List.nodup_append.2 ⟨h1.nodup,by simp,fun x hx y hy e=>?_⟩
     rw [Aaq] at hy;subst e;subst hy;obtain⟨k1,k2,k3⟩:=h1.fresh _ hx;dsimp only at k3;rw [Aaj,(ad b).2 (.inr rfl)] at k3;cases k3
theorem akA {l:List Bool}{i:Nat}(h:¬l.getD i true=true):l[i]?=some false:=by
 rw [Aac] at h;cases e:l[i]? with
 | none=>rw [e] at h;exact absurd rfl h
 | some x=>rw [e] at h;cases x with
   | true=>exact absurd rfl h
   | false=>rfl
theorem ahG(bs:List aad)(f:Nat)(hv:∀(b:Nat) (s:List Bool×List Int),s.1[b]?=some false->s.1.count false<=f->(abG bs f b s).2.length+(abG bs f b s).1.count false<=s.2.length+s.1.count false∧(abG bs f b s).1.count false<=s.1.count false∧(abG bs f b s).1.length=s.1.length) :
 ∀(l:List Int) (s:List Bool×List Int),s.1.count false<=f->(acT bs f l s).2.length+(acT bs f l s).1.count false<=s.2.length+s.1.count false∧(acT bs f l s).1.count false<=s.1.count false∧(acT bs f l s).1.length=s.1.length:=by
 intro l
 induction l with
 | nil=>exact fun s _=>⟨Aad _,Aad _,rfl⟩
 | cons t l ih =>
   intro s hc;rw [ag7]
   by_cases hs:s.1.getD t.toNat true=true
   . rw [if_pos hs];exact ih s hc
   . rw [if_neg hs]
     obtain⟨h1,h2,h3⟩:=hv t.toNat s (akA hs) hc;obtain⟨k1,k2,k3⟩:=ih _ (Aag h2 hc);exact⟨Aag k1 h1,Aag k2 h2,k3.trans h3⟩
theorem aiF(bs:List aad):∀(f b:Nat) (s:List Bool×List Int),s.1[b]?=some false->s.1.count false<=f ->
 (abG bs f b s).2.length+(abG bs f b s).1.count false<=s.2.length+s.1.count false∧(abG bs f b s).1.count false<=s.1.count false∧(abG bs f b s).1.length=s.1.length:=by
 intro f
 induction f with
 | zero =>
   intro b s hb hc;have:=ace s.1 b hb;omega
 | succ f ih =>
   intro b s hb hc;have hu:=ace s.1 b hb;obtain⟨h1,h2,h3⟩:=ahG bs f ih (ab6 bs b).reverse (s.1.set b true,s.2) (by dsimp only;omega);rw [adb];dsimp only at h1 h2 h3 ⊢;rw [Aai,Aa5];rw [List.length_set] at h3;exact⟨by omega,by omega,h3⟩
def aa3(bs:List aad):List Int:=(abG bs bs.length 0 (List.replicate bs.length false,[])).2
end
section
end
section
end
end Go.Proofs.YtnkfdeiigplhoaaGreatDoor
