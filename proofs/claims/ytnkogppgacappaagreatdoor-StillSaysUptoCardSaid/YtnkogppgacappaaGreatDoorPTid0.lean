/- graph.Post, in plain Lean: blocks as a search in depth leaves them. dom.TreeOf, in plain Lean: the order of a search in depth is fit for the tree; the rounds end, and what holds then. Post-order: what is reached is closed; and it does not mind how blocks are numbered. Plain. -/
import Derived.Test.YtnkogppgacappaaGreatDoorPRefA
import Derived.Test.YtnkogppgacappaaGreatDoorPDom0
import Derived.Test.YtnkogppgacappaaGreatDoorPFour
import Derived.Test.YtnkogppgacappaaGreatDoorPKnown
import Derived.Test.YtnkogppgacappaaGreatDoorPMrg1
namespace Go.Proofs.YtnkogppgacappaaGreatDoor

def tosOf(bs:List DBlock)(b:Nat):List Int:=match bs[b]? with | some x=>x.fin.to | none=>[]
def visitF (bs : List DBlock) : Nat → Nat → List Bool × List Int → List Bool × List Int
 | 0,_,s=>s
 | f+1,b,s =>
   let s1:=(tosOf bs b).reverse.foldl (fun s t=>if s.1.getD t.toNat true=true then s else visitF bs f t.toNat s) (s.1.set b true,s.2)
   (s1.1,s1.2++[(b:Int)])
def walkF(bs:List DBlock)(f:Nat)(l:List Int)(s:List Bool×List Int):List Bool×List Int:=l.foldl (fun s t=>if s.1.getD t.toNat true=true then s else visitF bs f t.toNat s) s
theorem visitF_succ(bs:List DBlock)(f b:Nat)(s:List Bool×List Int):visitF bs (f+1) b s=((walkF bs f (tosOf bs b).reverse (s.1.set b true,s.2)).1,(walkF bs f (tosOf bs b).reverse (s.1.set b true,s.2)).2++[(b:Int)]):=rfl
theorem walkF_snoc(bs:List DBlock)(f:Nat)(l:List Int)(t:Int)(s:List Bool×List Int):walkF bs f (l++[t]) s=if (walkF bs f l s).1.getD t.toNat true=true then walkF bs f l s else visitF bs f t.toNat (walkF bs f l s):=by
 unfold walkF;rw [List.foldl_append];rfl
theorem walkF_cons(bs:List DBlock)(f:Nat)(l:List Int)(t:Int)(s:List Bool×List Int):walkF bs f (t :: l) s=walkF bs f l (if s.1.getD t.toNat true=true then s else visitF bs f t.toNat s):=rfl

theorem unseen_set:∀(l:List Bool) (b:Nat),l[b]?=some false→(l.set b true).count false+1=l.count false:=by
 intro l
 induction l with
 | nil=>intro b h;simp at h
 | cons a l ih =>
   intro b h;cases b with
   | zero =>
     rw [List.getElem?_cons_zero] at h;cases h;simp
   | succ b =>
     rw [List.getElem?_cons_succ] at h;have:=ih b h;rw [List.set_cons_succ,List.count_cons,List.count_cons];omega

structure Visd (bs:List DBlock)(s s':List Bool×List Int)(A:List Int):Prop where
 len:s'.1.length=s.1.length
 left:s'.2=s.2++A
 seen:∀i,s'.1.getD i true=true↔s.1.getD i true=true∨(i:Int)∈A
 fresh:∀x∈A,0≤x∧x<(s.1.length:Int)∧s.1.getD x.toNat true=false
 nodup:A.Nodup
theorem Visd.refl(bs:List DBlock)(s:List Bool×List Int):Visd bs s s [] :=
 ⟨rfl,(List.append_nil _).symm,fun i=>⟨.inl,fun h=>h.elim id (fun h=>(by cases h))⟩,fun x h=>(by cases h),List.nodup_nil⟩
theorem Visd.trans {bs:List DBlock}{s s' s'':List Bool×List Int}{A B:List Int}(h:Visd bs s s' A)(k:Visd bs s' s'' B):Visd bs s s'' (A++B):=by
 refine⟨k.len.trans h.len,by rw [k.left,h.left,List.append_assoc],fun i=>?_,fun x hx=>?_,?_⟩
 · rw [k.seen,h.seen,List.mem_append]
   constructor
   · rintro ((h | h) | h)
     · exact .inl h
     · exact .inr (.inl h)
     · exact .inr (.inr h)
   · rintro (h | h | h)
     · exact .inl (.inl h)
     · exact .inl (.inr h)
     · exact .inr h
 · rcases List.mem_append.1 hx with hx | hx
   · exact h.fresh x hx
   · obtain⟨h1,h2,h3⟩:=k.fresh x hx
     refine⟨h1,by rw [h.len] at h2;exact h2,?_⟩;cases hs:s.1.getD x.toNat true with
     | false=>rfl
     | true=>rw [(h.seen x.toNat).2 (.inl hs)] at h3;cases h3
 · refine List.nodup_append.2 ⟨h.nodup,k.nodup,fun x hx y hy e=>?_⟩
   subst e;obtain⟨h1,h2,h3⟩:=k.fresh x hy;have:=(h.seen x.toNat).2 (.inr (by rw [Int.toNat_of_nonneg h1];exact hx));rw [this] at h3;cases h3

theorem unseen_le:∀(l l':List Bool),l'.length=l.length→(∀i,l.getD i true=true→l'.getD i true=true)→l'.count false≤l.count false:=by
 intro l
 induction l with
 | nil =>
   intro l' hl _;obtain rfl:=List.length_eq_zero_iff.1 hl;exact Nat.le_refl _
 | cons a l ih =>
   intro l' hl h;cases l' with
   | nil=>simp at hl
   | cons a' l' =>
     have h1:=ih l' (by simpa using hl) (fun i hi=>h (i+1) hi);have h2:=h 0;rw [List.count_cons,List.count_cons];cases a <;> cases a' <;> simp at h2 ⊢ <;> omega

def LedBy(bs:List DBlock)(A l:List Int):Prop:=∀j (h:j<A.length),(∃k,∃h':k<A.length,j<k∧A[j]∈tosOf bs (A[k]).toNat)∨A[j]∈l
theorem LedBy.mono {bs:List DBlock}{A l l':List Int}(h:LedBy bs A l)(hl:∀x∈l,x∈l'):LedBy bs A l':=fun j hj=>(h j hj).imp id (hl _)
theorem LedBy.append {bs:List DBlock}{A B l:List Int}(h:LedBy bs A l)(k:LedBy bs B l):LedBy bs (A++B) l:=by
 intro j hj
 by_cases hA:j<A.length
 · rw [List.getElem_append_left hA]
   rcases h j hA with⟨i,hi,h1,h2⟩ | h
   · exact .inl ⟨i,by rw [List.length_append];omega,h1,by rw [List.getElem_append_left hi];exact h2⟩
   · exact .inr h
 · have hj':j - A.length<B.length:=by rw [List.length_append] at hj;omega
   rw [List.getElem_append_right (by omega)];rcases k (j - A.length) hj' with⟨i,hi,h1,h2⟩ | h
   · refine .inl ⟨i+A.length,by rw [List.length_append];omega,by omega,?_⟩
     rw [List.getElem_append_right (by omega)];simpa using h2
   · exact .inr h
theorem LedBy.close {bs:List DBlock}{A:List Int}{b:Nat}(h:LedBy bs A (tosOf bs b)):LedBy bs (A++[(b:Int)]) [(b:Int)]:=by
 intro j hj
 by_cases hA:j<A.length
 · left
   rw [List.getElem_append_left hA];rcases h j hA with⟨i,hi,h1,h2⟩ | h
   · exact⟨i,by rw [List.length_append];omega,h1,by rw [List.getElem_append_left hi];exact h2⟩
   · exact⟨A.length,by simp,hA,by simpa using h⟩
 · right
   rw [List.getElem_append_right (by omega)];simp

theorem walk_visd(bs:List DBlock)(f:Nat)(hv:∀(b:Nat) (s:List Bool×List Int),s.1[b]?=some false→s.1.count false≤f→∃A,Visd bs s (visitF bs f b s) A∧LedBy bs A [(b:Int)]) :
 ∀(l:List Int) (s:List Bool×List Int),(∀t∈l,0≤t)→s.1.count false≤f→∃A,Visd bs s (walkF bs f l s) A∧LedBy bs A l:=by
 intro l
 induction l with
 | nil=>exact fun s _ _=>⟨[],Visd.refl bs s,fun j h=>(by cases h)⟩
 | cons t l ih =>
   intro s ht hc;rw [walkF_cons]
   by_cases hs:s.1.getD t.toNat true=true
   · rw [if_pos hs]
     obtain⟨A,h1,h2⟩:=ih s (fun x hx=>ht x (List.mem_cons_of_mem _ hx)) hc;exact⟨A,h1,h2.mono (fun x hx=>List.mem_cons_of_mem _ hx)⟩
   · rw [if_neg hs]
     have hs':s.1[t.toNat]?=some false:=by
      rw [List.getD_eq_getElem?_getD] at hs;cases h:s.1[t.toNat]? with
      | none=>rw [h] at hs;exact absurd rfl hs
      | some x=>rw [h] at hs;cases x with
        | true=>exact absurd rfl hs
        | false=>rfl
     obtain⟨A,h1,h2⟩:=hv t.toNat s hs' hc;have hc':(visitF bs f t.toNat s).1.count false≤f:=Nat.le_trans (unseen_le _ _ h1.len (fun i hi=>(h1.seen i).2 (.inl hi))) hc;obtain⟨B,h3,h4⟩:=ih _ (fun x hx=>ht x (List.mem_cons_of_mem _ hx)) hc';refine⟨A++B,h1.trans h3,LedBy.append (h2.mono (fun x hx=>?_)) (h4.mono (fun x hx=>List.mem_cons_of_mem _ hx))⟩;rw [List.mem_singleton] at hx;rw [hx,Int.toNat_of_nonneg (ht t (List.mem_cons_self ..))];exact List.mem_cons_self ..

theorem visit_visd(bs:List DBlock)(hto:∀b,∀t∈tosOf bs b,0≤t):∀(f b:Nat) (s:List Bool×List Int),s.1[b]?=some false→s.1.count false≤f→∃A,Visd bs s (visitF bs f b s) A∧LedBy bs A [(b:Int)]:=by
 intro f
 induction f with
 | zero =>
   intro b s hb hc;have:=unseen_set s.1 b hb;omega
 | succ f ih =>
   intro b s hb hc;have hb1:=(List.getElem?_eq_some_iff.1 hb).1;have hu:=unseen_set s.1 b hb;obtain⟨A,h1,h2⟩:=walk_visd bs f ih (tosOf bs b).reverse (s.1.set b true,s.2) (fun t ht=>hto b t (List.mem_reverse.1 ht)) (by dsimp only;omega);rw [visitF_succ];have hset:∀i,(s.1.set b true).getD i true=true↔s.1.getD i true=true∨i=b:=fun i=>by
    rw [List.getD_eq_getElem?_getD,List.getD_eq_getElem?_getD,List.getElem?_set]
    by_cases hib:b=i
    · subst hib;simp [hb1]
    · rw [if_neg hib]
      exact⟨.inl,fun h=>h.elim id (fun h=>absurd h.symm hib)⟩
   refine⟨A++[(b:Int)],⟨?_,?_,fun i=>?_,fun x hx=>?_,?_⟩,(h2.mono (fun x hx=>List.mem_reverse.1 hx)).close⟩
   · have:=h1.len
     simpa using this
   · have:=h1.left
     dsimp only at this ⊢;rw [this,List.append_assoc]
   · have h:=h1.seen i
     dsimp only at h ⊢;rw [h,hset,List.mem_append,List.mem_singleton];constructor
     · rintro ((h | h) | h)
       · exact .inl h
       · exact .inr (.inr (by rw [h]))
       · exact .inr (.inl h)
     · rintro (h | h | h)
       · exact .inl (.inl h)
       · exact .inr h
       · exact .inl (.inr (by omega))
   · rcases List.mem_append.1 hx with hx | hx
     · obtain⟨k1,k2,k3⟩:=h1.fresh x hx
       dsimp only at k2 k3;rw [List.length_set] at k2;refine⟨k1,k2,?_⟩;cases hs:s.1.getD x.toNat true with
       | false=>rfl
       | true=>rw [(hset x.toNat).2 (.inl hs)] at k3;cases k3
     · rw [List.mem_singleton] at hx
       subst hx;refine⟨by omega,by omega,?_⟩;rw [Int.toNat_natCast,List.getD_eq_getElem?_getD,hb];rfl
   · refine List.nodup_append.2 ⟨h1.nodup,by simp,fun x hx y hy e=>?_⟩
     rw [List.mem_singleton] at hy;subst e;subst hy;obtain⟨k1,k2,k3⟩:=h1.fresh _ hx;dsimp only at k3;rw [Int.toNat_natCast,(hset b).2 (.inr rfl)] at k3;cases k3

theorem getD_false {l:List Bool}{i:Nat}(h:¬l.getD i true=true):l[i]?=some false:=by
 rw [List.getD_eq_getElem?_getD] at h;cases e:l[i]? with
 | none=>rw [e] at h;exact absurd rfl h
 | some x=>rw [e] at h;cases x with
   | true=>exact absurd rfl h
   | false=>rfl
theorem walk_sum(bs:List DBlock)(f:Nat)(hv:∀(b:Nat) (s:List Bool×List Int),s.1[b]?=some false→s.1.count false≤f→(visitF bs f b s).2.length+(visitF bs f b s).1.count false≤s.2.length+s.1.count false∧(visitF bs f b s).1.count false≤s.1.count false∧(visitF bs f b s).1.length=s.1.length) :
 ∀(l:List Int) (s:List Bool×List Int),s.1.count false≤f→(walkF bs f l s).2.length+(walkF bs f l s).1.count false≤s.2.length+s.1.count false∧(walkF bs f l s).1.count false≤s.1.count false∧(walkF bs f l s).1.length=s.1.length:=by
 intro l
 induction l with
 | nil=>exact fun s _=>⟨Nat.le_refl _,Nat.le_refl _,rfl⟩
 | cons t l ih =>
   intro s hc;rw [walkF_cons]
   by_cases hs:s.1.getD t.toNat true=true
   · rw [if_pos hs];exact ih s hc
   · rw [if_neg hs]
     obtain⟨h1,h2,h3⟩:=hv t.toNat s (getD_false hs) hc;obtain⟨k1,k2,k3⟩:=ih _ (Nat.le_trans h2 hc);exact⟨Nat.le_trans k1 h1,Nat.le_trans k2 h2,k3.trans h3⟩
theorem visit_sum(bs:List DBlock):∀(f b:Nat) (s:List Bool×List Int),s.1[b]?=some false→s.1.count false≤f →
 (visitF bs f b s).2.length+(visitF bs f b s).1.count false≤s.2.length+s.1.count false∧(visitF bs f b s).1.count false≤s.1.count false∧(visitF bs f b s).1.length=s.1.length:=by
 intro f
 induction f with
 | zero =>
   intro b s hb hc;have:=unseen_set s.1 b hb;omega
 | succ f ih =>
   intro b s hb hc;have hu:=unseen_set s.1 b hb;obtain⟨h1,h2,h3⟩:=walk_sum bs f ih (tosOf bs b).reverse (s.1.set b true,s.2) (by dsimp only;omega);rw [visitF_succ];dsimp only at h1 h2 h3 ⊢;rw [List.length_append,List.length_singleton];rw [List.length_set] at h3;exact⟨by omega,by omega,h3⟩

def postF(bs:List DBlock):List Int:=(visitF bs bs.length 0 (List.replicate bs.length false,[])).2

end Go.Proofs.YtnkogppgacappaaGreatDoor

namespace Go.Proofs.YtnkogppgacappaaGreatDoor
open Go.RowKit

def ordL(bs:List DBlock):List Int:=(postF bs).reverse
def ordN(bs:List DBlock):List Nat:=(ordL bs).map Int.toNat
structure ToOk (bs:List DBlock):Prop where
 pos:0<bs.length
 tgt:∀(k:Nat) (x:DBlock),bs[k]?=some x→x.fin.to.length≤2∧∀t∈x.fin.to,0≤t∧t<(bs.length:Int)

theorem ToOk.tos {bs:List DBlock}(h:ToOk bs):∀b,∀t∈tosOf bs b,0≤t:=by
 intro b t ht;unfold tosOf at ht;cases e:bs[b]? with
 | none=>rw [e] at ht;cases ht
 | some x=>rw [e] at ht;exact ((h.tgt b x e).2 t ht).1
theorem post_facts {bs:List DBlock}(h:ToOk bs):(∀x∈postF bs,0≤x∧x<(bs.length:Int))∧(postF bs).Nodup∧LedBy bs (postF bs) [0]∧(∃A,postF bs=A++[0]):=by
 have hp:=h.pos;obtain⟨A,h1,h2⟩:=visit_visd bs h.tos bs.length 0 (List.replicate bs.length false,[]) (by dsimp only;rw [List.getElem?_replicate,if_pos hp]) (by dsimp only;rw [List.count_replicate_self];exact Nat.le_refl _);have e:postF bs=A:=by
  unfold postF;have:=h1.left;rw [List.nil_append] at this;exact this
 refine⟨fun x hx=>?_,by rw [e];exact h1.nodup,by rw [e];exact h2,?_⟩
 · rw [e] at hx
   have:=h1.fresh x hx;dsimp only at this;rw [List.length_replicate] at this;exact⟨this.1,this.2.1⟩
 · obtain⟨n,hn⟩:∃n,bs.length=n+1:=⟨bs.length - 1,by omega⟩
   unfold postF;rw [hn,visitF_succ];exact⟨_,rfl⟩

theorem nodup_inj {α:Type}{l:List α}(h:l.Nodup){i j:Nat}(hi:i<l.length)(hj:j<l.length)(e:l[i]=l[j]):i=j:=by
 have h2:=List.pairwise_iff_getElem.1 h;rcases Nat.lt_trichotomy i j with h3 | h3 | h3
 · exact absurd e (h2 i j hi hj h3)
 · exact h3
 · exact absurd e.symm (h2 j i hj hi h3)
theorem nodup_of {α:Type}{l:List α}(h:∀i j (hi:i<l.length) (hj:j<l.length),l[i]=l[j]→i=j):l.Nodup :=
 List.pairwise_iff_getElem.2 fun i j hi hj hlt e=>by have:=h i j hi hj e;omega
theorem ordN_get {bs:List DBlock}{j:Nat}(hj:j<(ordN bs).length):∃h:(postF bs).length - 1 - j<(postF bs).length,(ordN bs)[j]=((postF bs)[(postF bs).length - 1 - j]).toNat:=by
 have e:(ordN bs).length=(postF bs).length:=by unfold ordN ordL;simp
 have h:(postF bs).length - 1 - j<(postF bs).length:=by omega
 refine⟨h,?_⟩;have h2:(ordN bs)[j]?=some ((postF bs)[(postF bs).length - 1 - j]).toNat:=by
  unfold ordN ordL;rw [List.getElem?_map,List.getElem?_reverse (by omega),List.getElem?_eq_getElem h];rfl
 rw [List.getElem?_eq_getElem hj] at h2;exact Option.some.inj h2
theorem ordN_len(bs:List DBlock):(ordN bs).length=(postF bs).length:=by unfold ordN ordL;simp
theorem ordN_inj {bs:List DBlock}(h:ToOk bs){i j:Nat}(hi:i<(ordN bs).length)(hj:j<(ordN bs).length)(e:(ordN bs)[i]=(ordN bs)[j]):i=j:=by
 obtain⟨h1,h2,-,-⟩:=post_facts h;obtain⟨a,ea⟩:=ordN_get hi;obtain⟨b,eb⟩:=ordN_get hj;rw [ea,eb] at e;have p1:=h1 _ (List.getElem_mem a);have p2:=h1 _ (List.getElem_mem b);have e2:(postF bs)[(postF bs).length - 1 - i]=(postF bs)[(postF bs).length - 1 - j]:=by omega
 have:=nodup_inj h2 _ _ e2;have:=ordN_len bs;omega
theorem ordN_lt {bs:List DBlock}(h:ToOk bs){x:Nat}(hx:x∈ordN bs):x<bs.length:=by
 obtain⟨h1,-,-,-⟩:=post_facts h;unfold ordN ordL at hx;obtain⟨y,hy,rfl⟩:=List.mem_map.1 hx;have:=h1 y (List.mem_reverse.1 hy);omega
theorem nodup_len {n:Nat}:∀(l:List Nat),l.Nodup→(∀x∈l,x<n)→l.length≤n:=by
 intro l h1 h2;have:=List.Nodup.length_le_of_subset (l₁:=l) (l₂:=List.range n) h1 (fun x hx=>List.mem_range.2 (h2 x hx));simpa using this
theorem ordN_le {bs:List DBlock}(h:ToOk bs):(ordN bs).length≤bs.length:=by
 refine nodup_len _ (nodup_of fun i j hi hj e=>ordN_inj h hi hj e) (fun x hx=>ordN_lt h hx)
end Go.Proofs.YtnkogppgacappaaGreatDoor

namespace Go.Proofs.YtnkogppgacappaaGreatDoor

def Clo(bs:List DBlock)(s s':List Bool×List Int):Prop:=∀i:Nat,s'.1.getD i true=true→s.1.getD i true=true∨∀t∈tosOf bs i,s'.1.getD t.toNat true=true
def SeenLe(s s':List Bool×List Int):Prop:=∀i:Nat,s.1.getD i true=true→s'.1.getD i true=true
theorem Clo.trans {bs:List DBlock}{s s' s'':List Bool×List Int}(h:Clo bs s s')(k:Clo bs s' s'')(hl:SeenLe s' s''):Clo bs s s'':=fun i hi=>by
 rcases k i hi with h1 | h1
 · rcases h i h1 with h2 | h2
   · exact .inl h2
   · exact .inr fun t ht=>hl _ (h2 t ht)
 · exact .inr h1
theorem getD_seen {l:List Bool}{b i:Nat}(h:l[b]?=some false):(l.set b true).getD i true=true↔i=b∨l.getD i true=true:=by
 rw [List.getD_eq_getElem?_getD,List.getD_eq_getElem?_getD,List.getElem?_set];have hl:=(List.getElem?_eq_some_iff.1 h).1
 by_cases e:b=i
 · subst e;simp [hl]
 · rw [if_neg e]
   constructor
   · exact .inr
   · rintro (h1 | h1)
     · exact absurd h1.symm e
     · exact h1
theorem seen_not {l:List Bool}{i:Nat}(h:¬l.getD i true=true):l[i]?=some false:=by
 rw [List.getD_eq_getElem?_getD] at h;cases hh:l[i]? with
 | none=>rw [hh] at h;exact absurd rfl h
 | some x=>rw [hh] at h;cases x with
   | true=>exact absurd rfl h
   | false=>rfl
theorem walk_clo(bs:List DBlock)(f:Nat)(hv:∀(b:Nat) (s:List Bool×List Int),s.1[b]?=some false→s.1.count false≤f→Clo bs s (visitF bs f b s)∧SeenLe s (visitF bs f b s)∧(visitF bs f b s).1.getD b true=true∧(visitF bs f b s).1.length=s.1.length) :
 ∀(l:List Int) (s:List Bool×List Int),s.1.count false≤f→Clo bs s (walkF bs f l s)∧SeenLe s (walkF bs f l s)∧(∀t∈l,(walkF bs f l s).1.getD t.toNat true=true)∧(walkF bs f l s).1.length=s.1.length
 | [],s,_=>⟨fun i h => .inl h,fun i h=>h,fun t h=>(by cases h),rfl⟩
 | t :: l,s,hc=>by
   rw [walkF_cons]
   by_cases hs:s.1.getD t.toNat true=true
   · rw [if_pos hs]
     obtain⟨h1,h2,h3,h4⟩:=walk_clo bs f hv l s hc;refine⟨h1,h2,fun u hu=>?_,h4⟩;rcases List.mem_cons.1 hu with rfl | hu
     · exact h2 _ hs
     · exact h3 u hu
   · rw [if_neg hs]
     obtain⟨g1,g2,g3,g4⟩:=hv t.toNat s (seen_not hs) hc;have hc':(visitF bs f t.toNat s).1.count false≤f:=Nat.le_trans (unseen_le _ _ g4 g2) hc;obtain⟨h1,h2,h3,h4⟩:=walk_clo bs f hv l _ hc';refine⟨g1.trans h1 h2,fun i hi=>h2 _ (g2 i hi),fun u hu=>?_,h4.trans g4⟩;rcases List.mem_cons.1 hu with rfl | hu
     · exact h2 _ g3
     · exact h3 u hu
theorem visit_clo (bs : List DBlock) : ∀ (f b : Nat) (s : List Bool × List Int), s.1[b]? = some false → s.1.count false ≤ f → Clo bs s (visitF bs f b s) ∧ SeenLe s (visitF bs f b s) ∧ (visitF bs f b s).1.getD b true = true ∧ (visitF bs f b s).1.length = s.1.length
 | 0,b,s,hb,hc=>by
   have:=unseen_set s.1 b hb;omega
 | f+1,b,s,hb,hc=>by
   have hu:=unseen_set s.1 b hb;obtain⟨h1,h2,h3,h4⟩:=walk_clo bs f (visit_clo bs f) (tosOf bs b).reverse (s.1.set b true,s.2) (by show (s.1.set b true).count false≤f;omega);rw [visitF_succ];refine⟨fun i hi=>?_,fun i hi=>?_,?_,?_⟩
   · rcases h1 i hi with g | g
     · rcases (getD_seen hb).1 g with rfl | g
       · exact .inr fun t ht=>h3 t (List.mem_reverse.2 ht)
       · exact .inl g
     · exact .inr g
   · exact h2 i ((getD_seen hb).2 (.inr hi))
   · exact h2 b ((getD_seen hb).2 (.inl rfl))
   · rw [h4];exact List.length_set
theorem post_closed {bs:List DBlock}(h:ToOk bs):∀x∈postF bs,∀t∈tosOf bs x.toNat,t∈postF bs:=by
 have hp:=h.pos;have hb:(List.replicate bs.length false)[0]?=some false:=by rw [List.getElem?_replicate,if_pos hp]
 have hc:(List.replicate bs.length false).count false≤bs.length:=by rw [List.count_replicate_self];exact Nat.le_refl _
 obtain⟨A,h1,-⟩:=visit_visd bs h.tos bs.length 0 (List.replicate bs.length false,[]) hb hc;have h2:=visit_clo bs bs.length 0 (List.replicate bs.length false,[]) hb hc;have e:postF bs=A:=by
  unfold postF;have:=h1.left;rw [List.nil_append] at this;exact this
 have hn:∀i:Nat,i<bs.length→¬(List.replicate bs.length false).getD i true=true:=fun i hi=>by
  rw [List.getD_eq_getElem?_getD,List.getElem?_replicate,if_pos hi];simp
 intro x hx t ht;obtain⟨p1,-,-,-⟩:=post_facts h;have hx2:=p1 x hx;rw [e] at hx ⊢;have hxs:=(h1.seen x.toNat).2 (.inr (by rw [Int.toNat_of_nonneg hx2.1];exact hx));rcases h2.1 x.toNat hxs with g | g
 · exact absurd g (hn _ (by omega))
 · have htn:0≤t∧t<(bs.length:Int):=by
    unfold tosOf at ht;rw [List.getElem?_eq_getElem (show x.toNat<bs.length by omega)] at ht;exact (h.tgt _ _ (List.getElem?_eq_getElem (show x.toNat<bs.length by omega))).2 t ht
   rcases (h1.seen t.toNat).1 (g t ht) with g2 | g2
   · exact absurd g2 (hn _ (by omega))
   · rw [Int.toNat_of_nonneg htn.1] at g2;exact g2

end Go.Proofs.YtnkogppgacappaaGreatDoor
