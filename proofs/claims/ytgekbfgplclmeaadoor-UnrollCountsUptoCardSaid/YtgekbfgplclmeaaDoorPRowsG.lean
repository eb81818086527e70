import Derived.Test.YtgekbfgplclmeaaDoorPCells
/- A queue of numbers: a row that is read from its head on (sliced on) and grows at its end; a family of rows of which one is turned. No function of the program in sight. A function that a call works upon in place: its rows, each in a block of its own, indexed by where they stand in it. Rows of the call's own, each in a block of its own, indexed by paths of any kind (XRowsP's laws, over any type of paths). -/
namespace Go.Proofs.YtgekbfgplclmeaaDoor
section
open Go.RowKit
end
section
open Go.RowKit
theorem agZ {xss:List (List Value)}{sz i j:Nat}(hw:∀cs∈xss,cs.length=sz){cs:List Value}(hi:xss[i]?=some cs)(hj:j<sz)(u:Value):(xss.set i (cs.set j u)).flatten=xss.flatten.set (i * sz+j) u:=by
 induction xss generalizing i with
 | nil=>simp at hi
 | cons y xss ih =>
   have hy:=hw y (Aa6 ..);cases i with
   | zero =>
     have e:y=cs:=by simpa using hi
     subst e;rw [List.set_cons_zero,Abb,Abb,Aa5,Aac,List.set_append_left _ _ (by omega)]
   | succ i =>
     rw [List.set_cons_succ,Abb,Abb,ih (fun cs h=>hw cs (Aa3 _ h)) (by simpa using hi),List.set_append_right _ _ (by rw [hy,Nat.succ_mul];omega),hy]
     congr 2
     rw [Nat.succ_mul];omega
theorem ag9 {W:World}{base base' sz n:Nat}{e:TypeId}{v:Value}{xs:List Value}(h:W.ownsRow base e sz v n xs)(hb:base'<=base):W.ownsRow base' e sz v n xs:=by
 refine⟨h.1,?_⟩;rcases h.2 with h1 | ⟨g,cap,cur,e1,h2,h3⟩
 . exact .inl h1
 . exact .inr ⟨g,cap,cur,e1,Aaj hb h2,h3⟩
end
section
open Go.RowKit
section
variable {ι : Type} [DecidableEq ι]
def abx {α:Type}(f:ι->α)(p:ι)(x:α):ι->α:=fun q=>if q=p then x else f q
theorem aai {α:Type}(f:ι->α)(p:ι)(x:α):abx f p x p=x:=if_pos rfl
theorem aae {α:Type}(f:ι->α){p q:ι}(x:α)(h:q≠p):abx f p x q=f q:=if_neg h
structure aaZ (ty:ι->TypeId)(sz:ι->Nat)(W:World)(base:Nat)(ok:ι->Prop)(V:ι->Value)(C:ι->List (List Value)):Prop where
 own:∀p,ok p->W.ownsRow base (ty p) (sz p) (V p) (C p).length (C p).flatten
 wid:∀p,ok p->∀cs∈C p,cs.length=sz p
 apart:∀p q,ok p->ok q->p≠q->∀k,(V p).ownBlock=some k->(V q).ownBlock≠some k
section
variable {ty : ι -> TypeId} {sz : ι -> Nat} {W W' : World} {base : Nat} {ok : ι -> Prop} {V : ι -> Value} {C : ι -> List (List Value)}
omit [DecidableEq ι] in
theorem aaZ.lt(h:aaZ ty sz W base ok V C){p:ι}(hp:ok p):∀k,(V p).ownBlock=some k->base<=k∧k<W.heap.size:=fun k hk=>(h.own p hp).lt k hk
omit [DecidableEq ι] in
theorem aaZ.off(h:aaZ ty sz W base ok V C){row:Option Nat}(hg:W.grownBy W' row)(hr:∀p,ok p->∀k,(V p).ownBlock=some k->row≠some k):aaZ ty sz W' base ok V C :=
 ⟨fun p hp => (h.own p hp).kept hg (by
   cases e : (V p).ownBlock with
   | none => exact .inl rfl
   | some k => exact .inr (fun e2 => hr p hp k e e2.symm)), h.wid, h.apart⟩
omit [DecidableEq ι] in
theorem aaZ.later(h:aaZ ty sz W base ok V C)(hb:Below W.heap.size W W'):aaZ ty sz W' base ok V C :=
 h.off (row:=none) ⟨hb.os,hb.tape,hb.output,hb.size,fun k hk _=>hb.block k hk⟩ (fun _ _ _ _ e=>by cases e)
omit [DecidableEq ι] in
omit [DecidableEq ι] in
theorem aaZ.less(h:aaZ ty sz W base ok V C){ok':ι->Prop}(ho:∀p,ok' p->ok p):aaZ ty sz W base ok' V C :=
 ⟨fun p hp=>h.own p (ho p hp),fun p hp=>h.wid p (ho p hp),fun p q hp hq=>h.apart p q (ho p hp) (ho q hq)⟩
omit [DecidableEq ι] in
theorem aaZ.congr(h:aaZ ty sz W base ok V C){V':ι->Value}{C':ι->List (List Value)}(hV:∀p,ok p->V' p=V p)(hC:∀p,ok p->C' p=C p):aaZ ty sz W base ok V' C' :=
 ⟨fun p hp=>by rw [hV p hp,hC p hp];exact h.own p hp,fun p hp=>by rw [hC p hp];exact h.wid p hp,fun p q hp hq=>by rw [hV p hp,hV q hq];exact h.apart p q hp hq⟩
theorem aaZ.put (h : aaZ ty sz W base ok V C) (p : ι) {v' : Value} {xss : List (List Value)} (ho : W'.ownsRow base (ty p) (sz p) v' xss.length xss.flatten) (hw : ∀ cs ∈ xss, cs.length = sz p)
 {row:Option Nat} (hg:W.grownBy W' row) (hr:∀q,ok q->q≠p->∀k,(V q).ownBlock=some k->row≠some k) (hb:∀k,v'.ownBlock=some k->row=some k∨W.heap.size<=k):aaZ ty sz W' base (fun q=>ok q∨q=p) (abx V p v') (abx C p xss):=by
 refine⟨fun q hq=>?_,fun q hq=>?_,fun q1 q2 h1 h2 ae k hk=>?_⟩
 . by_cases e:q=p
   . subst e;rw [aai,aai];exact ho
   . rw [aae _ _ e,aae _ _ e]
     have ag:=hq.resolve_right e;refine (h.own q ag).kept hg ?_;cases e2:(V q).ownBlock with
     | none=>exact .inl rfl
     | some k=>exact .inr (fun e3=>hr q ag e k e2 e3.symm)
 . by_cases e:q=p
   . subst e;rw [aai];exact hw
   . rw [aae _ _ e];exact h.wid q (hq.resolve_right e)
 . by_cases e1:q1=p
   . have e2:q2≠p:=fun e=>ae (e1.trans e.symm)
     rw [e1,aai] at hk;rw [aae _ _ e2];intro h3;rcases hb k hk with h4 | h4
     . exact hr q2 (h2.resolve_right e2) e2 k h3 h4
     . have:=(h.lt (h2.resolve_right e2) k h3).2;omega
   . rw [aae _ _ e1] at hk
     by_cases e2:q2=p
     . rw [e2,aai]
       intro h3;rcases hb k h3 with h4 | h4
       . exact hr q1 (h1.resolve_right e1) e1 k hk h4
       . have:=(h.lt (h1.resolve_right e1) k hk).2;omega
     . rw [aae _ _ e2];exact h.apart q1 q2 (h1.resolve_right e1) (h2.resolve_right e2) ae k hk
theorem aaZ.turn (h : aaZ ty sz W base ok V C) {p : ι} (hp : ok p) {v' : Value} {xss : List (List Value)} (ho : W'.ownsRow base (ty p) (sz p) v' xss.length xss.flatten) (hw : ∀ cs ∈ xss, cs.length = sz p)
 (hg:W.grownBy W' (V p).ownBlock) (hb:∀k,v'.ownBlock=some k->(V p).ownBlock=some k∨W.heap.size<=k):aaZ ty sz W' base ok (abx V p v') (abx C p xss) :=
 (h.put p ho hw hg (fun q hq ae k hk e=>h.apart q p hq hp ae k hk e) hb).less (fun _q hq => .inl hq)
omit [DecidableEq ι] in
theorem aaZ.cell(h:aaZ ty sz W base ok V C){p:ι}(hp:ok p){i j:Nat}{cs:List Value}{u:Value}(hi:(C p)[i]?=some cs)(hj:cs[j]?=some u) :
 ∃g c,V p = .slice (some ⟨g,0,none⟩) (C p).length c∧(C p).length<=c∧base<=g∧g<W.heap.size∧W.cell? ⟨g,i * sz p+j,none⟩=some u∧W.frozen? ⟨g,i * sz p+j,none⟩=false:=by
 have ai:i<(C p).length:=(Aae.1 hi).1;have aj:j<sz p:=by rw [<-h.wid p hp cs (Aah hi)];exact (Aae.1 hj).1
 rcases (h.own p hp).2 with⟨h1,h2⟩ | ⟨g,cap,cur,e,h3,h4,h5,h6,h7,h8⟩
 . omega
 . refine⟨g,cap,e,h5,h3,(Aan.1 h4).1,?_,by simp [World.frozen?,h4]⟩
   have hf:=aiN (C p) (fun i cs hi=>h.wid p hp cs (Aah hi)) i j cs hi aj;rw [hj,<-h8,List.getElem?_take] at hf;rw [aaH h4];split at hf
   . simpa using hf
   . cases hf
end
section
variable {ty : ι -> TypeId} {sz : ι -> Nat} {W W' : World} {base : Nat} {ok : ι -> Prop} {V : ι -> Value} {C : ι -> List (List Value)}
theorem aaZ.set(h:aaZ ty sz W base ok V C){p:ι}(hp:ok p){g n c i j:Nat}(hv:V p = .slice (some ⟨g,0,none⟩) n c){cs:List Value}(hi:(C p)[i]?=some cs)(hj:j<sz p)(u:Value) :
 aaZ ty sz (W.setCell ⟨g,i * sz p+j,none⟩ u) base ok V (abx C p ((C p).set i (cs.set j u))):=by
 have hw:=h.wid p hp;have ai:i<(C p).length:=(Aae.1 hi).1;have hg:W.grownBy (W.setCell ⟨g,i * sz p+j,none⟩ u) (V p).ownBlock:=⟨rfl,rfl,rfl,by simp [World.setCell],fun k _ ae=>Below.heap_setCell _ _ _ _ (fun e=>ae (by rw [hv,e];rfl))⟩
 have ho:(W.setCell ⟨g,i * sz p+j,none⟩ u).ownsRow base (ty p) (sz p) (V p) ((C p).set i (cs.set j u)).length ((C p).set i (cs.set j u)).flatten:=by
  obtain⟨h0,h1⟩:=h.own p hp;rw [agZ hw hi hj,List.length_set];refine⟨by simpa using h0,?_⟩;rcases h1 with⟨e,h2⟩ | ⟨g',cap,cur,e,h3,h4,h5,h6,h7,h8⟩
  . rw [e] at hv;cases hv
  . rw [e] at hv
    cases hv;refine .inr ⟨g,_,cur.setIfInBounds (i * sz p+j) u,e,h3,aaK h4 _,h5,h6,by simpa using h7,?_⟩;rw [Array.toList_setIfInBounds,List.take_set,h8]
 have h2 := h.turn hp ho (fun x hx => by
  rcases List.mem_or_eq_of_mem_set hx with h3 | h3
  . exact hw x h3
  . rw [h3, List.length_set]; exact hw cs (Aah hi)) hg (fun k hk => .inl hk)
 refine h2.congr (fun q _=>?_) (fun q _=>rfl)
 by_cases e:q=p
 . rw [e,aai]
 . rw [aae _ _ e]
end
section
variable {ty : ι -> TypeId} {sz : ι -> Nat} {W W' : World} {base : Nat} {ok : ι -> Prop} {V : ι -> Value} {C : ι -> List (List Value)}
theorem aaZ.box(h:aaZ ty sz W base ok V C)(p:ι){cs:List Value}(af:cs.length=sz p)(ad:base<=W.heap.size) :
 aaZ ty sz (W.alloc (.cells cs.toArray (ty p))) base (fun q=>ok q∨q=p) (abx V p (.slice (some ⟨W.heap.size,0,none⟩) 1 1)) (abx C p [cs]):=by
 refine h.put p (row:=none) ⟨by simp [af],.inr ⟨W.heap.size,1,cs.toArray,rfl,ad,heap_alloc_new _ _,Aad _,by unfold maxLen;decide,by simp [af],?_⟩⟩ (fun x hx=>by rw [Aau] at hx;rw [hx,af]) (World.grownBy_alloc _ _ _) (fun _ _ _ _ _ e=>by cases e) (fun k hk=>by cases hk;exact .inr (Aad _));show cs.take (1 * sz p)=[cs].flatten;rw [Nat.one_mul,<-af,Aa0];simp
theorem aaZ.fresh(h:aaZ ty sz W base ok V C)(p:ι){v:Value}{n:Nat}{xss:List (List Value)}(ho:W'.ownsRow W.heap.size (ty p) (sz p) v n xss.flatten)(hn:xss.length=n)(hw:∀cs∈xss,cs.length=sz p)(hb:Below W.heap.size W W')(ad:base<=W.heap.size) :
 aaZ ty sz W' base (fun q=>ok q∨q=p) (abx V p v) (abx C p xss):=by
 subst hn;exact h.put p (row:=none) (ag9 ho ad) hw ⟨hb.os,hb.tape,hb.output,hb.size,fun k hk _=>hb.block k hk⟩ (fun _ _ _ _ _ e=>by cases e) (fun k hk => .inr (ho.lt k hk).1)
end
end
end
end Go.Proofs.YtgekbfgplclmeaaDoor
