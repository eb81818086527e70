import Derived.Test.YtnkfdeiigplhoaaGreatDoorPFour
/- A queue of numbers: a row that is read from its head on (sliced on) and grows at its end; a family of rows of which one is turned. No function of the program in sight. A function that a call works upon in place: its rows, each in a block of its own, indexed by where they stand in it. Rows of the call's own, each in a block of its own, indexed by paths of any kind (XRowsP's laws, over any type of paths). -/
namespace Go.Proofs.YtnkfdeiigplhoaaGreatDoor
section
open Go.RowKit
def afo(base:Nat)(W:World)(v:Value)(l:List Int):Prop :=
 ∃g off cap cur,v = .slice (some ⟨g,off,none⟩) l.length cap∧base<=g∧W.heap[g]?=some (.cells cur 3 (0,0))∧l.length<=cap∧cap<=maxLen∧off+cap<=cur.size∧∀(i:Nat) x,l[i]?=some x->cur[off+i]?=some (.int .i64 x)
section
variable {base : Nat} {w W W' : World} {v : Value} {l : List Int}
theorem afo.of_own(h:W.ownsRow base 3 1 v l.length (l.map (Value.int .i64)))(h0:l≠[]):afo base W v l:=by
 rcases h.2 with⟨-,h1⟩ | ⟨g,cap,cur,rfl,hg,hh,hn,hm,hs,ht⟩
 . exact absurd (Ab4 h1) h0
 . refine⟨g,0,cap,cur,rfl,hg,hh,hn,hm,by omega,fun i x hx=>?_⟩
   have h3:(l.map (Value.int .i64))[i]?=some (.int .i64 x):=by rw [Aak,hx];rfl
   rw [<-ht,Aan,List.getElem?_take] at h3;have hi:i<l.length:=(Aae.1 hx).1;rw [if_pos hi] at h3;simpa using h3
theorem afo.opens(h:afo base W v l):∃g off cap,v = .slice (some ⟨g,off,none⟩) l.length cap∧base<=g∧g<W.heap.size∧l.length<=cap∧cap<=9223372036854775807:=by
 obtain⟨g,off,cap,cur,h1,h2,h3,h4,h5,-⟩:=h;unfold maxLen at h5;exact⟨g,off,cap,h1,h2,(Aax.1 h3).1,h4,by omega⟩
variable {g off n cap:Nat}{x:Int}
theorem afo.head(h:afo base W (.slice (some ⟨g,off,none⟩) n cap) (x :: l)):W.cell? ⟨g,off,none⟩=some (.int .i64 x):=by
 obtain⟨g',aj,ai,cur,e,-,hh,-,-,-,he⟩:=h;cases e;have:=he 0 x rfl;simp [World.cell?,hh];simpa using this
theorem afo.tail(h:afo base W (.slice (some ⟨g,off,none⟩) n cap) (x :: l)):afo base W (.slice (some ⟨g,off+1,none⟩) (n - 1) (cap - 1)) l:=by
 obtain⟨g',aj,ai,cur,e,h2,hh,h4,h5,h6,he⟩:=h;cases e;rw [Aao] at h4;refine⟨g,off+1,cap - 1,cur,by simp,h2,hh,by omega,by omega,by omega,fun i y hy=>?_⟩;have:=he (i+1) y (by simpa using hy);rw [show off+1+i=off+(i+1) by omega];exact this
theorem afo.tail0(h:afo base W (.slice (some ⟨g,off,none⟩) n cap) (x :: l))(hc:cap=1):afo base W (.slice (some ⟨g,off,none⟩) (n - 1) 0) l:=by
 obtain⟨g',aj,ai,cur,e,h2,hh,h4,h5,h6,he⟩:=h;cases e;rw [Aao] at h4;have hl:l=[]:=Ab4 (by omega);subst hl;exact⟨g,off,0,cur,rfl,h2,hh,Aad _,Aah _,by omega,fun i y hy=>by simp at hy⟩
theorem afo.kept(h:afo base W v l)(hk:∀g,v.ownBlock=some g->W'.heap[g]?=W.heap[g]?):afo base W' v l:=by
 obtain⟨g,off,cap,cur,rfl,h2,hh,h3⟩:=h;exact⟨g,off,cap,cur,rfl,h2,(hk g rfl).trans hh,h3⟩
theorem afo.lt(h:afo base W v l):∀g,v.ownBlock=some g->base<=g∧g<W.heap.size:=by
 obtain⟨g,off,cap,cur,rfl,h2,hh,-⟩:=h;intro g' e;cases e;exact⟨h2,(Aax.1 hh).1⟩
end
theorem adF {P : Program} {w : World} {ops : Array Oper} {rest : List Oper} {o : Oper} {a : Act} {Q : Exit -> Act -> World -> Prop} (ay : o.guard = none) (s x : Operand) (t : TypeId)
 (ho:o.op = .call { callee := .builtin .append,args:=#[s,x],argTypes:=#[t,t] })
 (i:TypeInfo) (ht:P.underlying t=some (.slice 3)) (hi:P.info? 3=some i) (hz:i.zero=some (.int .i64 0)) (al:i.size=1) (ax:i.bytes=8)
 (base:Nat) (ae:base<=w.heap.size) (v:Value) (l:List Int) (hs:a.eval s=v) (hq:afo base w v l) (ad:Addr) (c:Nat) (y:Int) (hx:a.eval x = .slice (some ad) 1 c) (hc:w.cell? (ad.add 0)=some (.int .i64 y)) (hn:l.length+1<=17592186044416)
 (h:∀v' w',afo base w' v' (l++[y])->w.grownBy w' v.ownBlock->(∀k,v'.ownBlock=some k->v.ownBlock=some k∨w.heap.size<=k)->wpList P ops Q rest (a.put o.dst v') w') :
 wpList P ops Q (o :: rest) a w:=by
 obtain⟨g,off,cap,cur,rfl,hg,hh,h4,h5,h6,he⟩:=hq;refine wpList_append_arg w ay s x t ho 3 i (.int .i64 0) 1 8 ht hi hz al ax rfl (by decide) g off l.length cap (l.map (Value.int .i64)) hs (by simp) (fun j u hj=>?_) ad 1 c [.int .i64 y] hx rfl (fun j u hj=>?_) (fun u hu=>?_) (fun _ j hj=>?_) (by unfold maxLen;omega) (by omega) (fun hr=>?_) (fun hr v' w' av af=>?_)
 . rw [Aak] at hj
   cases hx2:l[j]? with
   | none=>rw [hx2] at hj;cases hj
   | some z =>
     rw [hx2] at hj;cases hj;rw [aaI hh];exact he j z hx2
 . have au:j=0:=by
    have:=(Aae.1 hj).1;simpa using this
   subst au;cases hj;exact hc
 . rw [Aaq] at hu;subst hu;rfl
 . have au:j=0:=by simpa using hj
   subst au;refine⟨?_,by simp [World.frozen?,hh]⟩;rw [aaI hh];simp;omega
 . have hw:w.setCells g (off+l.length * 1) [.int .i64 y]=w.setCell ⟨g,off+l.length,none⟩ (.int .i64 y):=by rw [Aan];rfl
   rw [hw];refine h _ _ ⟨g,off,cap,cur.setIfInBounds (off+l.length) (.int .i64 y),by simp,hg,aay hh _,by simp;omega,h5,by simpa using h6,fun j z hj=>?_⟩ ⟨rfl,rfl,rfl,by simp [World.setCell],fun k hk ag=>Below.heap_setCell _ _ _ _ (fun e=>ag (by rw [e];rfl))⟩ (fun k hk => .inl hk);rw [Abx];rcases Nat.lt_trichotomy j l.length with aq | heq | hgt
   . rw [if_neg (by omega)]
     rw [Abi aq] at hj;exact he j z hj
   . subst heq
     rw [if_pos rfl,if_pos (by omega)];rw [Ab1 (Aad _),Nat.sub_self] at hj;simpa using hj
   . rw [Aa8 (by simp;omega)] at hj
     cases hj
 . have ak:w'.ownsRow w.heap.size 3 1 v' (l++[y]).length ((l++[y]).map (Value.int .i64)):=by
    rw [Aai,Aa5,Aav];exact av
   obtain⟨g',aj,ai,ar,e1,e2,e3⟩:=afo.of_own ak (by simp);subst e1;refine h _ w' ⟨g',aj,ai,ar,rfl,Aag ae e2,e3⟩ ⟨af.os,af.tape,af.output,af.size,fun k hk _=>af.block k hk (by simp)⟩ (fun k hk=>by cases hk;exact .inr e2)
theorem Fam.put {w w' : World} {base : Nat} {e : TypeId} {n : Nat} {V : Nat -> Value} {R : Nat -> List Value} (h : Fam w base e n V R) {t : Nat} (ht : t < n) {v' : Value} {xs : List Value}
 (ho:w'.ownsRow base e 1 v' xs.length xs) (hg:w.grownBy w' (V t).ownBlock) (hb:∀k,v'.ownBlock=some k->(V t).ownBlock=some k∨w.heap.size<=k) :
 Fam w' base e n (fun u=>if u=t then v' else V u) (fun u=>if u=t then xs else R u):=by
 have aq:∀u k,u<n->(V u).ownBlock=some k->k<w.heap.size:=fun u k hu hk=>((h.own u hu).lt k hk).2;refine⟨fun u hu=>?_,fun u1 u2 k h1 h2 ag hk=>?_⟩
 . by_cases hut:u=t
   . subst hut;simp only [if_true];exact ho
   . simp only [if_neg hut]
     refine (h.own u hu).kept hg ?_;cases hu':(V u).ownBlock with
     | none=>exact .inl rfl
     | some k=>exact .inr (fun e=>h.apart u t k hu ht hut hu' e.symm)
 . by_cases e1:u1=t
   . have e2:u2≠t:=fun e=>ag (e1.trans e.symm)
     simp only [if_pos e1] at hk;simp only [if_neg e2];intro an;rcases hb k hk with hb | hb
     . exact h.apart t u2 k ht h2 (fun e=>e2 e.symm) hb an
     . have:=aq u2 _ h2 an;omega
   . simp only [if_neg e1] at hk
     by_cases e2:u2=t
     . simp only [if_pos e2]
       intro an;rcases hb k an with hb | hb
       . exact h.apart u1 t k h1 ht e1 hk hb
       . have:=aq u1 _ h1 hk;omega
     . simp only [if_neg e2];exact h.apart u1 u2 k h1 h2 ag hk
theorem Fam.off {w w':World}{base:Nat}{e:TypeId}{n:Nat}{V:Nat->Value}{R:Nat->List Value}(h:Fam w base e n V R){row:Option Nat}(hg:w.grownBy w' row)(hr:∀t,t<n->∀k,(V t).ownBlock=some k->row≠some k):Fam w' base e n V R :=
 ⟨fun t ht => (h.own t ht).kept hg (by
   cases e : (V t).ownBlock with
   | none => exact .inl rfl
   | some k => exact .inr (fun e2 => hr t ht k e e2.symm)), h.apart⟩
end
section
open Go.RowKit
theorem ai5 {xss:List (List Value)}{sz i j:Nat}(hw:∀cs∈xss,cs.length=sz){cs:List Value}(hi:xss[i]?=some cs)(hj:j<sz)(u:Value):(xss.set i (cs.set j u)).flatten=xss.flatten.set (i * sz+j) u:=by
 induction xss generalizing i with
 | nil=>simp at hi
 | cons y xss ih =>
   have hy:=hw y (Aa7 ..);cases i with
   | zero =>
     have e:y=cs:=by simpa using hi
     subst e;rw [List.set_cons_zero,Abm,Abm,Nat.zero_mul,Aab,List.set_append_left _ _ (by omega)]
   | succ i =>
     rw [List.set_cons_succ,Abm,Abm,ih (fun cs h=>hw cs (Abb _ h)) (by simpa using hi),List.set_append_right _ _ (by rw [hy,Nat.succ_mul];omega),hy]
     congr 2
     rw [Nat.succ_mul];omega
theorem ajf {W:World}{base base' sz n:Nat}{e:TypeId}{v:Value}{xs:List Value}(h:W.ownsRow base e sz v n xs)(hb:base'<=base):W.ownsRow base' e sz v n xs:=by
 refine⟨h.1,?_⟩;rcases h.2 with h1 | ⟨g,cap,cur,e1,h2,h3⟩
 . exact .inl h1
 . exact .inr ⟨g,cap,cur,e1,Aag hb h2,h3⟩
end
section
open Go.RowKit
section
variable {ι : Type} [DecidableEq ι]
def abW {α:Type}(f:ι->α)(p:ι)(x:α):ι->α:=fun q=>if q=p then x else f q
theorem aar {α:Type}(f:ι->α)(p:ι)(x:α):abW f p x p=x:=if_pos rfl
theorem aai {α:Type}(f:ι->α){p q:ι}(x:α)(h:q≠p):abW f p x q=f q:=if_neg h
structure abg (ty:ι->TypeId)(sz:ι->Nat)(W:World)(base:Nat)(ok:ι->Prop)(V:ι->Value)(C:ι->List (List Value)):Prop where
 own:∀p,ok p->W.ownsRow base (ty p) (sz p) (V p) (C p).length (C p).flatten
 wid:∀p,ok p->∀cs∈C p,cs.length=sz p
 apart:∀p q,ok p->ok q->p≠q->∀k,(V p).ownBlock=some k->(V q).ownBlock≠some k
section
variable {ty : ι -> TypeId} {sz : ι -> Nat} {W W' : World} {base : Nat} {ok : ι -> Prop} {V : ι -> Value} {C : ι -> List (List Value)}
omit [DecidableEq ι] in
theorem abg.lt(h:abg ty sz W base ok V C){p:ι}(hp:ok p):∀k,(V p).ownBlock=some k->base<=k∧k<W.heap.size:=fun k hk=>(h.own p hp).lt k hk
omit [DecidableEq ι] in
theorem abg.off(h:abg ty sz W base ok V C){row:Option Nat}(hg:W.grownBy W' row)(hr:∀p,ok p->∀k,(V p).ownBlock=some k->row≠some k):abg ty sz W' base ok V C :=
 ⟨fun p hp => (h.own p hp).kept hg (by
   cases e : (V p).ownBlock with
   | none => exact .inl rfl
   | some k => exact .inr (fun e2 => hr p hp k e e2.symm)), h.wid, h.apart⟩
omit [DecidableEq ι] in
theorem abg.later(h:abg ty sz W base ok V C)(hb:Below W.heap.size W W'):abg ty sz W' base ok V C :=
 h.off (row:=none) ⟨hb.os,hb.tape,hb.output,hb.size,fun k hk _=>hb.block k hk⟩ (fun _ _ _ _ e=>by cases e)
omit [DecidableEq ι] in
omit [DecidableEq ι] in
theorem abg.less(h:abg ty sz W base ok V C){ok':ι->Prop}(ho:∀p,ok' p->ok p):abg ty sz W base ok' V C :=
 ⟨fun p hp=>h.own p (ho p hp),fun p hp=>h.wid p (ho p hp),fun p q hp hq=>h.apart p q (ho p hp) (ho q hq)⟩
omit [DecidableEq ι] in
theorem abg.congr(h:abg ty sz W base ok V C){V':ι->Value}{C':ι->List (List Value)}(hV:∀p,ok p->V' p=V p)(hC:∀p,ok p->C' p=C p):abg ty sz W base ok V' C' :=
 ⟨fun p hp=>by rw [hV p hp,hC p hp];exact h.own p hp,fun p hp=>by rw [hC p hp];exact h.wid p hp,fun p q hp hq=>by rw [hV p hp,hV q hq];exact h.apart p q hp hq⟩
theorem abg.put (h : abg ty sz W base ok V C) (p : ι) {v' : Value} {xss : List (List Value)} (ho : W'.ownsRow base (ty p) (sz p) v' xss.length xss.flatten) (hw : ∀ cs ∈ xss, cs.length = sz p)
 {row:Option Nat} (hg:W.grownBy W' row) (hr:∀q,ok q->q≠p->∀k,(V q).ownBlock=some k->row≠some k) (hb:∀k,v'.ownBlock=some k->row=some k∨W.heap.size<=k):abg ty sz W' base (fun q=>ok q∨q=p) (abW V p v') (abW C p xss):=by
 refine⟨fun q hq=>?_,fun q hq=>?_,fun q1 q2 h1 h2 ag k hk=>?_⟩
 . by_cases e:q=p
   . subst e;rw [aar,aar];exact ho
   . rw [aai _ _ e,aai _ _ e]
     have aw:=hq.resolve_right e;refine (h.own q aw).kept hg ?_;cases e2:(V q).ownBlock with
     | none=>exact .inl rfl
     | some k=>exact .inr (fun e3=>hr q aw e k e2 e3.symm)
 . by_cases e:q=p
   . subst e;rw [aar];exact hw
   . rw [aai _ _ e];exact h.wid q (hq.resolve_right e)
 . by_cases e1:q1=p
   . have e2:q2≠p:=fun e=>ag (e1.trans e.symm)
     rw [e1,aar] at hk;rw [aai _ _ e2];intro h3;rcases hb k hk with h4 | h4
     . exact hr q2 (h2.resolve_right e2) e2 k h3 h4
     . have:=(h.lt (h2.resolve_right e2) k h3).2;omega
   . rw [aai _ _ e1] at hk
     by_cases e2:q2=p
     . rw [e2,aar]
       intro h3;rcases hb k h3 with h4 | h4
       . exact hr q1 (h1.resolve_right e1) e1 k hk h4
       . have:=(h.lt (h1.resolve_right e1) k hk).2;omega
     . rw [aai _ _ e2];exact h.apart q1 q2 (h1.resolve_right e1) (h2.resolve_right e2) ag k hk
theorem abg.turn (h : abg ty sz W base ok V C) {p : ι} (hp : ok p) {v' : Value} {xss : List (List Value)} (ho : W'.ownsRow base (ty p) (sz p) v' xss.length xss.flatten) (hw : ∀ cs ∈ xss, cs.length = sz p)
 (hg:W.grownBy W' (V p).ownBlock) (hb:∀k,v'.ownBlock=some k->(V p).ownBlock=some k∨W.heap.size<=k):abg ty sz W' base ok (abW V p v') (abW C p xss) :=
 (h.put p ho hw hg (fun q hq ag k hk e=>h.apart q p hq hp ag k hk e) hb).less (fun _q hq => .inl hq)
omit [DecidableEq ι] in
theorem abg.cell(h:abg ty sz W base ok V C){p:ι}(hp:ok p){i j:Nat}{cs:List Value}{u:Value}(hi:(C p)[i]?=some cs)(hj:cs[j]?=some u) :
 ∃g c,V p = .slice (some ⟨g,0,none⟩) (C p).length c∧(C p).length<=c∧base<=g∧g<W.heap.size∧W.cell? ⟨g,i * sz p+j,none⟩=some u∧W.frozen? ⟨g,i * sz p+j,none⟩=false:=by
 have az:i<(C p).length:=(Aae.1 hi).1;have aA:j<sz p:=by rw [<-h.wid p hp cs (Aam hi)];exact (Aae.1 hj).1
 rcases (h.own p hp).2 with⟨h1,h2⟩ | ⟨g,cap,cur,e,h3,h4,h5,h6,h7,h8⟩
 . omega
 . refine⟨g,cap,e,h5,h3,(Aax.1 h4).1,?_,by simp [World.frozen?,h4]⟩
   have hf:=aeW (C p) (fun i cs hi=>h.wid p hp cs (Aam hi)) i j cs hi aA;rw [hj,<-h8,List.getElem?_take] at hf;rw [aaI h4];split at hf
   . simpa using hf
   . cases hf
end
section
variable {ty : ι -> TypeId} {sz : ι -> Nat} {W W' : World} {base : Nat} {ok : ι -> Prop} {V : ι -> Value} {C : ι -> List (List Value)}
theorem abg.set(h:abg ty sz W base ok V C){p:ι}(hp:ok p){g n c i j:Nat}(hv:V p = .slice (some ⟨g,0,none⟩) n c){cs:List Value}(hi:(C p)[i]?=some cs)(hj:j<sz p)(u:Value) :
 abg ty sz (W.setCell ⟨g,i * sz p+j,none⟩ u) base ok V (abW C p ((C p).set i (cs.set j u))):=by
 have hw:=h.wid p hp;have az:i<(C p).length:=(Aae.1 hi).1;have hg:W.grownBy (W.setCell ⟨g,i * sz p+j,none⟩ u) (V p).ownBlock:=⟨rfl,rfl,rfl,by simp [World.setCell],fun k _ ag=>Below.heap_setCell _ _ _ _ (fun e=>ag (by rw [hv,e];rfl))⟩
 have ho:(W.setCell ⟨g,i * sz p+j,none⟩ u).ownsRow base (ty p) (sz p) (V p) ((C p).set i (cs.set j u)).length ((C p).set i (cs.set j u)).flatten:=by
  obtain⟨h0,h1⟩:=h.own p hp;rw [ai5 hw hi hj,List.length_set];refine⟨by simpa using h0,?_⟩;rcases h1 with⟨e,h2⟩ | ⟨g',cap,cur,e,h3,h4,h5,h6,h7,h8⟩
  . rw [e] at hv;cases hv
  . rw [e] at hv
    cases hv;refine .inr ⟨g,_,cur.setIfInBounds (i * sz p+j) u,e,h3,aay h4 _,h5,h6,by simpa using h7,?_⟩;rw [Array.toList_setIfInBounds,List.take_set,h8]
 have h2 := h.turn hp ho (fun x hx => by
  rcases List.mem_or_eq_of_mem_set hx with h3 | h3
  . exact hw x h3
  . rw [h3, List.length_set]; exact hw cs (Aam hi)) hg (fun k hk => .inl hk)
 refine h2.congr (fun q _=>?_) (fun q _=>rfl)
 by_cases e:q=p
 . rw [e,aar]
 . rw [aai _ _ e]
end
section
variable {ty : ι -> TypeId} {sz : ι -> Nat} {W W' : World} {base : Nat} {ok : ι -> Prop} {V : ι -> Value} {C : ι -> List (List Value)}
theorem abg.box(h:abg ty sz W base ok V C)(p:ι){cs:List Value}(ao:cs.length=sz p)(ae:base<=W.heap.size) :
 abg ty sz (W.alloc (.cells cs.toArray (ty p))) base (fun q=>ok q∨q=p) (abW V p (.slice (some ⟨W.heap.size,0,none⟩) 1 1)) (abW C p [cs]):=by
 refine h.put p (row:=none) ⟨by simp [ao],.inr ⟨W.heap.size,1,cs.toArray,rfl,ae,heap_alloc_new _ _,Aad _,by unfold maxLen;decide,by simp [ao],?_⟩⟩ (fun x hx=>by rw [Aaq] at hx;rw [hx,ao]) (World.grownBy_alloc _ _ _) (fun _ _ _ _ _ e=>by cases e) (fun k hk=>by cases hk;exact .inr (Aad _));show cs.take (1 * sz p)=[cs].flatten;rw [Nat.one_mul,<-ao,Aay];simp
theorem abg.fresh(h:abg ty sz W base ok V C)(p:ι){v:Value}{n:Nat}{xss:List (List Value)}(ho:W'.ownsRow W.heap.size (ty p) (sz p) v n xss.flatten)(hn:xss.length=n)(hw:∀cs∈xss,cs.length=sz p)(hb:Below W.heap.size W W')(ae:base<=W.heap.size) :
 abg ty sz W' base (fun q=>ok q∨q=p) (abW V p v) (abW C p xss):=by
 subst hn;exact h.put p (row:=none) (ajf ho ae) hw ⟨hb.os,hb.tape,hb.output,hb.size,fun k hk _=>hb.block k hk⟩ (fun _ _ _ _ _ e=>by cases e) (fun k hk => .inr (ho.lt k hk).1)
end
end
end
end Go.Proofs.YtnkfdeiigplhoaaGreatDoor
