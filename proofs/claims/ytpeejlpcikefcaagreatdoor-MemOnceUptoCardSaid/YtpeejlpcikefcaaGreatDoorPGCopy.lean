import Derived.Test.YtpeejlpcikefcaaGreatDoorPFour
import Derived.Deep.DeepCutAuto
import Derived.Deep.RegionHeld3
/- A queue of numbers: a row that is read from its head on (sliced on) and grows at its end; a family of rows of which one is turned. No function of the program in sight. A function that a call works upon in place: its rows, each in a block of its own, indexed by where they stand in it. A function that is worked upon in place, as data: what its rows hold, and how it reads. The cells of a list in memory, as a list of lists; they are one cell each. graph.Copy, plain: what the rows hold at each step of its loops. graph.Copy: a function of which all can be written into. -/
namespace Go.Proofs.YtpeejlpcikefcaaGreatDoor
section
open Go.RowKit
end
section
open Go.RowKit
inductive Pth where
 | blks
 | phis (b:Nat)
 | src (b p:Nat)
 | list (b:Nat)
 | args (b i:Nat)
 | «to» (b:Nat)
 | vBlk
 | vPhi
 | vIns
 deriving DecidableEq
def Pth.ty : Pth -> TypeId
 | .blks=>46
 | .phis _=>115
 | .src _ _=>41
 | .list _=>49
 | .args _ _=>41
 | .to _=>3
 | .vBlk=>46
 | .vPhi=>115
 | .vIns=>49
def Pth.sz : Pth -> Nat
 | .blks=>6
 | .phis _=>2
 | .src _ _=>2
 | .list _=>8
 | .args _ _=>2
 | .to _=>1
 | .vBlk=>6
 | .vPhi=>2
 | .vIns=>8
theorem Pth.sz_pos(p:Pth):0<p.sz:=by cases p <;> simp [Pth.sz]
def aaU {α:Type}(f:Pth->α)(p:Pth)(x:α):Pth->α:=fun q=>if q=p then x else f q
theorem aaj {α:Type}(f:Pth->α)(p:Pth)(x:α):aaU f p x p=x:=if_pos rfl
theorem aag {α:Type}(f:Pth->α){p q:Pth}(x:α)(h:q≠p):aaU f p x q=f q:=if_neg h
structure aah (W:World)(base:Nat)(ok:Pth->Prop)(V:Pth->Value)(C:Pth->List (List Value)):Prop where
 own:∀p,ok p->W.ownsRow base p.ty p.sz (V p) (C p).length (C p).flatten
 wid:∀p,ok p->∀cs∈C p,cs.length=p.sz
 apart:∀p q,ok p->ok q->p≠q->∀k,(V p).ownBlock=some k->(V q).ownBlock≠some k
section
variable {W W' : World} {base : Nat} {ok : Pth -> Prop} {V : Pth -> Value} {C : Pth -> List (List Value)}
theorem aah.lt(h:aah W base ok V C){p:Pth}(hp:ok p):∀k,(V p).ownBlock=some k->base<=k∧k<W.heap.size:=fun k hk=>(h.own p hp).lt k hk
theorem aah.off(h:aah W base ok V C){row:Option Nat}(hg:W.grownBy W' row)(hr:∀p,ok p->∀k,(V p).ownBlock=some k->row≠some k):aah W' base ok V C :=
 ⟨fun p hp => (h.own p hp).kept hg (by
   cases e : (V p).ownBlock with
   | none => exact .inl rfl
   | some k => exact .inr (fun e2 => hr p hp k e e2.symm)), h.wid, h.apart⟩
theorem aah.later(h:aah W base ok V C)(hb:Below W.heap.size W W'):aah W' base ok V C :=
 h.off (row:=none) ⟨hb.os,hb.tape,hb.output,hb.size,fun k hk _=>hb.block k hk⟩ (fun _ _ _ _ e=>by cases e)
theorem aah.setLow(h:aah W base ok V C){a:Addr}(ha:a.block<base)(u:Value):aah (W.setCell a u) base ok V C :=
 ⟨fun p hp=>ownsRow_setCell_below (h.own p hp) ha u,h.wid,h.apart⟩
theorem aah.less(h:aah W base ok V C){ok':Pth->Prop}(ho:∀p,ok' p->ok p):aah W base ok' V C :=
 ⟨fun p hp=>h.own p (ho p hp),fun p hp=>h.wid p (ho p hp),fun p q hp hq=>h.apart p q (ho p hp) (ho q hq)⟩
theorem aah.congr(h:aah W base ok V C){V':Pth->Value}{C':Pth->List (List Value)}(hV:∀p,ok p->V' p=V p)(hC:∀p,ok p->C' p=C p):aah W base ok V' C' :=
 ⟨fun p hp=>by rw [hV p hp,hC p hp];exact h.own p hp,fun p hp=>by rw [hC p hp];exact h.wid p hp,fun p q hp hq=>by rw [hV p hp,hV q hq];exact h.apart p q hp hq⟩
theorem aah.put (h : aah W base ok V C) (p : Pth) {v' : Value} {xss : List (List Value)} (ho : W'.ownsRow base p.ty p.sz v' xss.length xss.flatten) (hw : ∀ cs ∈ xss, cs.length = p.sz)
 {row:Option Nat} (hg:W.grownBy W' row) (hr:∀q,ok q->q≠p->∀k,(V q).ownBlock=some k->row≠some k) (hb:∀k,v'.ownBlock=some k->row=some k∨W.heap.size<=k):aah W' base (fun q=>ok q∨q=p) (aaU V p v') (aaU C p xss):=by
 refine⟨fun q hq=>?_,fun q hq=>?_,fun q1 q2 h1 h2 aH k hk=>?_⟩
 . by_cases e:q=p
   . subst e;rw [aaj,aaj];exact ho
   . rw [aag _ _ e,aag _ _ e]
     have bO:=hq.resolve_right e;refine (h.own q bO).kept hg ?_;cases e2:(V q).ownBlock with
     | none=>exact .inl rfl
     | some k=>exact .inr (fun e3=>hr q bO e k e2 e3.symm)
 . by_cases e:q=p
   . subst e;rw [aaj];exact hw
   . rw [aag _ _ e];exact h.wid q (hq.resolve_right e)
 . by_cases e1:q1=p
   . have e2:q2≠p:=fun e=>aH (e1.trans e.symm)
     rw [e1,aaj] at hk;rw [aag _ _ e2];intro h3;rcases hb k hk with h4 | h4
     . exact hr q2 (h2.resolve_right e2) e2 k h3 h4
     . have:=(h.lt (h2.resolve_right e2) k h3).2;omega
   . rw [aag _ _ e1] at hk
     by_cases e2:q2=p
     . rw [e2,aaj]
       intro h3;rcases hb k h3 with h4 | h4
       . exact hr q1 (h1.resolve_right e1) e1 k hk h4
       . have:=(h.lt (h1.resolve_right e1) k hk).2;omega
     . rw [aag _ _ e2];exact h.apart q1 q2 (h1.resolve_right e1) (h2.resolve_right e2) aH k hk
theorem aah.turn (h : aah W base ok V C) {p : Pth} (hp : ok p) {v' : Value} {xss : List (List Value)} (ho : W'.ownsRow base p.ty p.sz v' xss.length xss.flatten) (hw : ∀ cs ∈ xss, cs.length = p.sz)
 (hg:W.grownBy W' (V p).ownBlock) (hb:∀k,v'.ownBlock=some k->(V p).ownBlock=some k∨W.heap.size<=k):aah W' base ok (aaU V p v') (aaU C p xss) :=
 (h.put p ho hw hg (fun q hq aH k hk e=>h.apart q p hq hp aH k hk e) hb).less (fun _q hq => .inl hq)
theorem aah.cell(h:aah W base ok V C){p:Pth}(hp:ok p){i j:Nat}{cs:List Value}{u:Value}(hi:(C p)[i]?=some cs)(hj:cs[j]?=some u) :
 ∃g c,V p = .slice (some ⟨g,0,none⟩) (C p).length c∧(C p).length<=c∧base<=g∧g<W.heap.size∧W.cell? ⟨g,i * p.sz+j,none⟩=some u∧W.frozen? ⟨g,i * p.sz+j,none⟩=false:=by
 have ay:i<(C p).length:=(Aad.1 hi).1;have ey:j<p.sz:=by rw [<-h.wid p hp cs (Aae hi)];exact (Aad.1 hj).1
 rcases (h.own p hp).2 with⟨h1,h2⟩ | ⟨g,cap,cur,e,h3,h4,h5,h6,h7,h8⟩
 . omega
 . refine⟨g,cap,e,h5,h3,(Aag.1 h4).1,?_,by simp [World.frozen?,h4]⟩
   have hf:=aeo (C p) (fun i cs hi=>h.wid p hp cs (Aae hi)) i j cs hi ey;rw [hj,<-h8,Abh] at hf;rw [aaX h4];split at hf
   . simpa using hf
   . cases hf
end
theorem ahD {xss:List (List Value)}{sz i j:Nat}(hw:∀cs∈xss,cs.length=sz){cs:List Value}(hi:xss[i]?=some cs)(hj:j<sz)(u:Value):(xss.set i (cs.set j u)).flatten=xss.flatten.set (i * sz+j) u:=by
 induction xss generalizing i with
 | nil=>simp at hi
 | cons y xss ih =>
   have hy:=hw y (Aa2 ..);cases i with
   | zero =>
     have e:y=cs:=by simpa using hi
     subst e;rw [List.set_cons_zero,Abv,Abv,Nat.zero_mul,Aab,List.set_append_left _ _ (by omega)]
   | succ i =>
     rw [List.set_cons_succ,Abv,Abv,ih (fun cs h=>hw cs (Aa0 _ h)) (by simpa using hi),List.set_append_right _ _ (by rw [hy,Nat.succ_mul];omega),hy]
     congr 2
     rw [Nat.succ_mul];omega
section
variable {W W' : World} {base : Nat} {ok : Pth -> Prop} {V : Pth -> Value} {C : Pth -> List (List Value)}
theorem aah.set(h:aah W base ok V C){p:Pth}(hp:ok p){g n c i j:Nat}(hv:V p = .slice (some ⟨g,0,none⟩) n c){cs:List Value}(hi:(C p)[i]?=some cs)(hj:j<p.sz)(u:Value) :
 aah (W.setCell ⟨g,i * p.sz+j,none⟩ u) base ok V (aaU C p ((C p).set i (cs.set j u))):=by
 have hw:=h.wid p hp;have ay:i<(C p).length:=(Aad.1 hi).1;have hg:W.grownBy (W.setCell ⟨g,i * p.sz+j,none⟩ u) (V p).ownBlock:=⟨rfl,rfl,rfl,by simp [World.setCell],fun k _ aH=>Below.heap_setCell _ _ _ _ (fun e=>aH (by rw [hv,e];rfl))⟩
 have ho:(W.setCell ⟨g,i * p.sz+j,none⟩ u).ownsRow base p.ty p.sz (V p) ((C p).set i (cs.set j u)).length ((C p).set i (cs.set j u)).flatten:=by
  obtain⟨h0,h1⟩:=h.own p hp;rw [ahD hw hi hj,Aat];refine⟨by simpa using h0,?_⟩;rcases h1 with⟨e,h2⟩ | ⟨g',cap,cur,e,h3,h4,h5,h6,h7,h8⟩
  . rw [e] at hv;cases hv
  . rw [e] at hv
    cases hv;refine .inr ⟨g,_,cur.setIfInBounds (i * p.sz+j) u,e,h3,aak h4 _,h5,h6,by simpa using h7,?_⟩;rw [Array.toList_setIfInBounds,List.take_set,h8]
 have h2 := h.turn hp ho (fun x hx => by
  rcases List.mem_or_eq_of_mem_set hx with h3 | h3
  . exact hw x h3
  . rw [h3, Aat]; exact hw cs (Aae hi)) hg (fun k hk => .inl hk)
 refine h2.congr (fun q _=>?_) (fun q _=>rfl)
 by_cases e:q=p
 . rw [e,aaj]
 . rw [aag _ _ e]
end
theorem ab3 {W:World}{base base' sz n:Nat}{e:TypeId}{v:Value}{xs:List Value}(h:W.ownsRow base e sz v n xs)(hb:base'<=base):W.ownsRow base' e sz v n xs:=by
 refine⟨h.1,?_⟩;rcases h.2 with h1 | ⟨g,cap,cur,e1,h2,h3⟩
 . exact .inl h1
 . exact .inr ⟨g,cap,cur,e1,Aai hb h2,h3⟩
section
variable {W W' : World} {base : Nat} {ok : Pth -> Prop} {V : Pth -> Value} {C : Pth -> List (List Value)}
theorem aah.box(h:aah W base ok V C)(p:Pth){cs:List Value}(af:cs.length=p.sz)(ad:base<=W.heap.size) :
 aah (W.alloc (.cells cs.toArray p.ty)) base (fun q=>ok q∨q=p) (aaU V p (.slice (some ⟨W.heap.size,0,none⟩) 1 1)) (aaU C p [cs]):=by
 refine h.put p (row:=none) ⟨by simp [af],.inr ⟨W.heap.size,1,cs.toArray,rfl,ad,heap_alloc_new _ _,Aac _,by unfold maxLen;decide,by simp [af],?_⟩⟩ (fun x hx=>by rw [Aax] at hx;rw [hx,af]) (World.grownBy_alloc _ _ _) (fun _ _ _ _ _ e=>by cases e) (fun k hk=>by cases hk;exact .inr (Aac _));show cs.take (1 * p.sz)=[cs].flatten;rw [Nat.one_mul,<-af,Aa1];simp
theorem aah.fresh(h:aah W base ok V C)(p:Pth){v:Value}{n:Nat}{xss:List (List Value)}(ho:W'.ownsRow W.heap.size p.ty p.sz v n xss.flatten)(hn:xss.length=n)(hw:∀cs∈xss,cs.length=p.sz)(hb:Below W.heap.size W W')(ad:base<=W.heap.size) :
 aah W' base (fun q=>ok q∨q=p) (aaU V p v) (aaU C p xss):=by
 subst hn;exact h.put p (row:=none) (ab3 ho ad) hw ⟨hb.os,hb.tape,hb.output,hb.size,fun k hk _=>hb.block k hk⟩ (fun _ _ _ _ _ e=>by cases e) (fun k hk => .inr (ho.lt k hk).1)
end
end
section
open Go.RowKit
def aor:DBlock:=⟨[],[],⟨0,⟨false,0⟩,[]⟩⟩
def abu:acn:=⟨0,[]⟩
def abM:aaJ:=⟨0,0,⟨false,0⟩,⟨false,0⟩,0,[]⟩
def blkOf(bs:List DBlock)(b:Nat):DBlock:=bs.getD b aor
variable {bs:List DBlock}
theorem aa2{b:Nat}{x:DBlock}(h:bs[b]?=some x):blkOf bs b=x:=by unfold blkOf;rw [Aaf,h];rfl
theorem aey{b:Nat}(h:bs.length<=b):blkOf bs b=aor:=by unfold blkOf;rw [Aaf,Aas h];rfl
def aaA(v:aay):List Value:=[.bool v.reg,.int .i64 v.n]
def abN(x:aaJ)(u:Value):List Value:=[.int .i64 x.op,.int .i64 x.dst,.bool x.a.reg,.int .i64 x.a.n,.bool x.b.reg,.int .i64 x.b.n,.int .i64 x.fn,u]
def abd(x:DBlock)(p l t:Value):List Value:=[p,l,.int .i64 x.fin.kind,.bool x.fin.on.reg,.int .i64 x.fin.on.n,t]
def okP (bs : List DBlock) : Pth -> Prop
 | .blks=>True
 | .phis b=>b<bs.length
 | .src b p=>p<(blkOf bs b).phis.length
 | .list b=>b<bs.length
 | .args b i=>i<(blkOf bs b).list.length
 | .to b=>b<bs.length
 | .vBlk=>False
 | .vPhi=>False
 | .vIns=>False
def aae (bs : List DBlock) (V : Pth -> Value) : Pth -> List (List Value)
 | .blks=>bs.mapIdx fun b x=>abd x (V (.phis b)) (V (.list b)) (V (.to b))
 | .phis b=>(blkOf bs b).phis.mapIdx fun i p=>[.int .i64 p.dst,V (.src b i)]
 | .src b p=>((blkOf bs b).phis.getD p abu).src.map aaA
 | .list b=>(blkOf bs b).list.mapIdx fun i x=>abN x (V (.args b i))
 | .args b i=>((blkOf bs b).list.getD i abM).args.map aaA
 | .to b=>(blkOf bs b).fin.to.map fun t=>[.int .i64 t]
 | .vBlk=>[]
 | .vPhi=>[]
 | .vIns=>[]
def abJ(W:World)(base:Nat)(bs:List DBlock)(V:Pth->Value):Prop:=aah W base (okP bs) V (aae bs V)
structure aos (x:DBlock):Prop where
 kind:I64 x.fin.kind
 on:I64 x.fin.on.n
 «to»:∀t∈x.fin.to,I64 t
 phi:∀p∈x.phis,I64 p.dst∧∀v∈p.src,I64 v.n
 ins:∀y∈x.list,I64 y.op∧I64 y.dst∧I64 y.a.n∧I64 y.b.n∧I64 y.fn∧∀v∈y.args,I64 v.n
variable {W:World}{base:Nat}{p:Pth}
theorem aah.read{α : Type}   {ok : Pth -> Prop} {V : Pth -> Value} {C : Pth -> List (List Value)} {r : Rp α} (h : aah W base ok V C)  (hp : ok p) {l : List α} (hl : (C p).length = l.length)
 (hr:∀(i:Nat) x,l[i]?=some x->∃cs,(C p)[i]?=some cs∧r (fun b=>base<=b∧b<W.heap.size) W cs x):SlAt (fun b=>base<=b∧b<W.heap.size) W p.sz r (V p) l:=by
 rcases (h.own p hp).2 with⟨e,h2⟩ | ⟨g,cap,cur,e,h3,h4,h5,h6,h7,h8⟩
 . have e9:l=[]:=Aa9 (by omega)
   subst e9;rw [e];exact⟨none,0,rfl,Aac _,by decide,fun h=>absurd rfl h⟩
 . unfold maxLen at h6
   refine⟨some ⟨g,0,none⟩,cap,by rw [e,hl],by omega,by omega,fun _=>⟨g,0,rfl,⟨h3,(Aag.1 h4).1⟩,fun i x hx=>?_⟩⟩;obtain⟨cs,hc,eC⟩:=hr i x hx;refine⟨cs,eC,h.wid p hp cs (Aae hc),fun j u hj=>?_⟩;obtain⟨g',c',e',-,-,-,aR,-⟩:=h.cell hp hc hj;rw [e] at e';cases e';rw [Aab];exact aR
theorem aai {α β:Type}(f:Nat->α->β)(l:List α)(i:Nat):(l.mapIdx f)[i]?=(l[i]?).map (f i):=by simp
variable {V:Pth->Value}
theorem abJ.read(h:abJ W base bs V)(hn:∀x∈bs,aos x):SlAt (fun b=>base<=b∧b<W.heap.size) W 6 aa0 (V .blks) bs:=by
 refine aah.read (r:=aa0) h (p := .blks) trivial (by simp [aae]) (fun b x hx=>?_);have hb:b<bs.length:=(Aad.1 hx).1;have bK:=hn x (Aae hx);have aU:=aa2 hx;refine⟨_,by show (bs.mapIdx _)[b]?=_;rw [aai,hx];rfl,V (.phis b),V (.list b),_,rfl,?_,?_,V (.to b),rfl,?_,bK.kind,bK.on⟩
 . refine aah.read (r:=amd) h (p := .phis b) hb (by simp [aae,aU]) (fun i p hp=>?_)
   refine⟨_,by show ((blkOf bs b).phis.mapIdx _)[i]?=_;rw [aU,aai,hp];rfl,V (.src b i),rfl,?_,(bK.phi p (Aae hp)).1⟩;have b3:(blkOf bs b).phis.getD i abu=p:=by rw [aU,Aaf,hp];rfl
   refine aah.read (r:=agd) h (p := .src b i) (show i<(blkOf bs b).phis.length by rw [aU];exact (Aad.1 hp).1) (by simp only [aae];rw [b3,Aah]) (fun j v hv=>?_);exact⟨aaA v,by simp only [aae];rw [b3,Aak,hv];rfl,rfl,(bK.phi p (Aae hp)).2 v (Aae hv)⟩
 . refine aah.read (r:=acb) h (p := .list b) hb (by simp [aae,aU]) (fun i y hy=>?_)
   obtain⟨n1,n2,n3,n4,n5,n6⟩:=bK.ins y (Aae hy);refine⟨_,by show ((blkOf bs b).list.mapIdx _)[i]?=_;rw [aU,aai,hy];rfl,V (.args b i),rfl,?_,n1,n2,n3,n4,n5⟩;have b3:(blkOf bs b).list.getD i abM=y:=by rw [aU,Aaf,hy];rfl
   refine aah.read (r:=agd) h (p := .args b i) (show i<(blkOf bs b).list.length by rw [aU];exact (Aad.1 hy).1) (by simp only [aae];rw [b3,Aah]) (fun j v hv=>?_);exact⟨aaA v,by simp only [aae];rw [b3,Aak,hv];rfl,rfl,n6 v (Aae hv)⟩
 . refine aah.read (r:=acx) h (p := .to b) hb (by simp [aae,aU]) (fun i t ht=>?_)
   exact⟨[.int .i64 t],by show ((blkOf bs b).fin.to.map _)[i]?=_;rw [aU,Aak,ht];rfl,rfl,bK.to t (Aae ht)⟩
variable {ok:Pth->Prop}{C:Pth->List (List Value)}
theorem aah.addr(h:aah W base ok V C)(hp:ok p)(hi:0<(C p).length) :
 ∃g c,V p = .slice (some ⟨g,0,none⟩) (C p).length c∧(C p).length<=c∧c<=9223372036854775807∧base<=g∧g<W.heap.size:=by
 rcases (h.own p hp).2 with⟨h1,h2⟩ | ⟨g,cap,cur,e,h3,h4,h5,h6,h7,h8⟩
 . omega
 . unfold maxLen at h6
   exact⟨g,cap,e,h5,by omega,h3,(Aag.1 h4).1⟩
theorem aah.at(h:aah W base ok V C)(hp:ok p){g n c i:Nat}(hv:V p = .slice (some ⟨g,0,none⟩) n c){cs:List Value}(hi:(C p)[i]?=some cs) :
 aal W g (i * p.sz) cs∧∀o,W.frozen? ⟨g,o,none⟩=false:=by
 refine⟨fun j u hj=>?_,fun o=>?_⟩
 . obtain⟨g',c',e,-,-,-,aR,-⟩:=h.cell hp hi hj
   rw [hv] at e;cases e;exact aR
 . rcases (h.own p hp).2 with⟨h1,h2⟩ | ⟨g',cap,cur,e,h3,h4,-⟩
   . rw [hv] at h1;cases h1
   . rw [hv] at e
     cases e;simp [World.frozen?,h4]
theorem aah.shape(h:aah W base ok V C)(hp:ok p):∃a c,V p = .slice a (C p).length c:=by
 rcases (h.own p hp).2 with⟨h1,h2⟩ | ⟨g,cap,cur,e,-⟩
 . exact⟨none,0,by rw [h1,h2]⟩
 . exact⟨_,_,e⟩
end
section
open Go.RowKit
theorem amr {sz : Nat} : ∀ (xss : List (List Value)), (∀ cs ∈ xss, cs.length = sz) -> 0 < sz -> ∀ (k : Nat) u, xss.flatten[k]? = some u -> ∃ i j cs, k = i * sz + j ∧ xss[i]? = some cs ∧ cs[j]? = some u
 | [],_,_,k,u,h=>by simp at h
 | ys :: xss,hw,h0,k,u,h=>by
   have hy:=hw ys (Aa2 ..);rw [Abv] at h;rcases Abm k ys.length with hk | hk
   . rw [Abj hk] at h
     exact⟨0,k,ys,by omega,rfl,h⟩
   . rw [Abu hk] at h
     obtain⟨i,j,cs,e,h1,h2⟩:=amr xss (fun cs hc=>hw cs (Aa0 _ hc)) h0 (k - ys.length) u h;exact⟨i+1,j,cs,by rw [Nat.succ_mul];omega,by simpa using h1,h2⟩
theorem ahE {α β : Type} {P : α -> β -> Prop} : ∀ (l : List α), (∀ x ∈ l, ∃ y, P x y) -> ∃ ys : List β, ys.length = l.length ∧ ∀ (i : Nat) x, l[i]? = some x -> ∃ y, ys[i]? = some y ∧ P x y
 | [],_=>⟨[],rfl,fun i x h=>by simp at h⟩
 | a :: l,h=>by
   obtain⟨y,hy⟩:=h a (Aa2 ..);obtain⟨ys,h1,h2⟩:=ahE l fun x hx=>h x (Aa0 _ hx);refine⟨y :: ys,by simp [h1],fun i x hx=>?_⟩;cases i with
   | zero=>cases hx;exact⟨y,rfl,hy⟩
   | succ i=>exact h2 i x (by simpa using hx)
variable {S:Nat->Prop}{w:World}
theorem aez{α:Type}{r:Rp α}{sz:Nat}{ao:Option Addr}{n c:Nat}{l:List α}(h:SlAt S w sz r (.slice ao n c) l)(h0:0<sz) :
 ∃xss:List (List Value),l.length=n∧xss.length=n∧(∀(i:Nat) x,l[i]?=some x->∃cs,xss[i]?=some cs∧r S w cs x)∧(∀cs∈xss,cs.length=sz)∧(ao=Option.none->n=0)∧∀b,ao=some b->∀(j:Nat) u,xss.flatten[j]?=some u->w.cell? (b.add j)=some u:=by
 obtain⟨fe,c',e,h1,h2,h3⟩:=h;cases e
 by_cases hl:l=[]
 . subst hl
   exact⟨[],rfl,rfl,fun i x h=>by simp at h,fun cs h=>absurd h (Aao),fun _=>rfl,fun b _ j u h=>by simp at h⟩
 . obtain⟨b,off,ha,hS,ez⟩:=h3 hl
   subst ha
   obtain ⟨ys, aT, cJ⟩ := ahE (P := fun (i : Nat) (cs : List Value) => ∃ x, l[i]? = some x ∧ r S w cs x ∧ cs.length = sz ∧ aal w b (off + i * sz) cs) (List.range l.length) (fun i hi => by
    have ay := Abx.1 hi
    obtain ⟨cs, g1, g2, g3⟩ := ez i l[i] (Aaa ay)
    exact ⟨cs, l[i], Aaa ay, g1, g2, g3⟩)
   rw [List.length_range] at aT;have bP:∀(i:Nat) x,l[i]?=some x->∃cs,ys[i]?=some cs∧r S w cs x∧cs.length=sz∧aal w b (off+i * sz) cs:=fun i x hx=>by
    have ay:=(Aad.1 hx).1;obtain⟨cs,g1,x',g2,g3⟩:=cJ i i (Ab8 ay);rw [hx] at g2;cases g2;exact⟨cs,g1,g3⟩
   have hw:∀cs∈ys,cs.length=sz:=fun cs af=>by
    obtain⟨i,hi,rfl⟩:=Aav af;have ay:i<l.length:=by rw [<-aT];exact hi
    obtain⟨cj,g1,-,g3,-⟩:=bP i l[i] (Aaa ay);rw [Aaa hi] at g1;rw [Option.some.inj g1];exact g3
   refine⟨ys,rfl,aT,fun i x hx=>?_,hw,(fun e=>by cases e),fun b' e j u hj=>?_⟩
   . obtain⟨cs,g1,g2,-⟩:=bP i x hx
     exact⟨cs,g1,g2⟩
   . cases e
     obtain⟨i,k,cs,rfl,g1,g2⟩:=amr ys hw h0 j u hj;have ay:i<l.length:=by rw [<-aT];exact (Aad.1 g1).1
     obtain⟨cj,g3,-,-,g4⟩:=bP i l[i] (Aaa ay);rw [g1] at g3;cases g3;have:=g4 k u g2;rw [show (⟨b,off,none⟩:Addr).add (i * sz+k)=⟨b,off+(i * sz+k),none⟩ by unfold Addr.add;split <;> simp_all,<-Nat.add_assoc];exact this
variable {cs:List Value}
theorem anf{x:DBlock}(h:aa0 S w cs x):∀u∈cs,u.oneCell'=true:=by
 obtain⟨pa,pc,la,lc,ta,tc,rfl,-⟩:=h.opens;intro u hu;simp only [Aam,Aao,or_false] at hu;rcases hu with rfl | rfl | rfl | rfl | rfl | rfl <;> rfl
theorem aqp{x:acn}(h:amd S w cs x):∀u∈cs,u.oneCell'=true:=by
 obtain⟨aa,ac,rfl,-⟩:=h.opens;intro u hu;simp only [Aam,Aao,or_false] at hu;rcases hu with rfl | rfl <;> rfl
theorem aqq{x:aaJ}(h:acb S w cs x):∀u∈cs,u.oneCell'=true:=by
 obtain⟨aa,ac,rfl,-⟩:=h.opens;intro u hu;simp only [Aam,Aao,or_false] at hu;rcases hu with rfl | rfl | rfl | rfl | rfl | rfl | rfl | rfl <;> rfl
theorem adq {l:List (List Value)}(h:∀cs∈l,∀u∈cs,u.oneCell'=true):∀u∈l.flatten,u.oneCell'=true:=by
 intro u hu;obtain⟨cs,h1,h2⟩:=List.mem_flatten.1 hu;exact h cs h1 u h2
end
section
open Go.RowKit
theorem aah.empty(W:World)(base:Nat)(V:Pth->Value)(C:Pth->List (List Value)):aah W base (fun _=>False) V C:=⟨fun _ h=>h.elim,fun _ h=>h.elim,fun _ _ h=>h.elim⟩
def okK (bs : List DBlock) (k : Nat) : Pth -> Prop
 | .blks=>True
 | .phis b=>b<k
 | .src b p=>b<k∧p<(blkOf bs b).phis.length
 | .list b=>b<k
 | .args b i=>b<k∧i<(blkOf bs b).list.length
 | .to b=>b<k
 | _=>False
def ae5 (bs : List DBlock) (xss : List (List Value)) (k : Nat) (V : Pth -> Value) : Pth -> List (List Value)
 | .blks=>xss.mapIdx fun b cs=>if b<k then abd (blkOf bs b) (V (.phis b)) (V (.list b)) (V (.to b)) else cs
 | p=>aae bs V p
def okA (bs : List DBlock) (k j : Nat) : Pth -> Prop
 | .blks=>True
 | .vBlk=>True
 | .phis b=>b<=k
 | .src b p=>(b<k∧p<(blkOf bs b).phis.length)∨(b=k∧p<j)
 | .list b=>b<k
 | .args b i=>b<k∧i<(blkOf bs b).list.length
 | .to b=>b<k
 | _=>False
def adK (bs : List DBlock) (xss ag : List (List Value)) (cb : List Value) (k j : Nat) (V : Pth -> Value) : Pth -> List (List Value)
 | .blks=>ae5 bs xss k V .blks
 | .vBlk=>[cb]
 | .phis b=>if b=k then ag.mapIdx fun i cs=>if i<j then [.int .i64 ((blkOf bs k).phis.getD i abu).dst,V (.src k i)] else cs else aae bs V (.phis b)
 | p=>aae bs V p
def okB (bs : List DBlock) (k j : Nat) : Pth -> Prop
 | .blks=>True
 | .vBlk=>True
 | .phis b=>b<=k
 | .src b p=>b<=k∧p<(blkOf bs b).phis.length
 | .list b=>b<=k
 | .args b i=>(b<k∧i<(blkOf bs b).list.length)∨(b=k∧i<j)
 | .to b=>b<k
 | _=>False
def adr (bs : List DBlock) (xss ai : List (List Value)) (cb : List Value) (k j : Nat) (V : Pth -> Value) : Pth -> List (List Value)
 | .blks=>ae5 bs xss k V .blks
 | .vBlk=>[cb]
 | .list b=>if b=k then ai.mapIdx fun i cs=>if i<j then abN ((blkOf bs k).list.getD i abM) (V (.args k i)) else cs else aae bs V (.list b)
 | p=>aae bs V p
theorem aeS {bs:List DBlock}{xss:List (List Value)}{k:Nat}{V V':Pth->Value}(h:∀b,b<k->V' (.phis b)=V (.phis b)∧V' (.list b)=V (.list b)∧V' (.to b)=V (.to b)):ae5 bs xss k V' .blks=ae5 bs xss k V .blks:=by
 show xss.mapIdx _=xss.mapIdx _;apply Aap;intro i;rw [aai,aai]
 congr 1
 funext cs
 by_cases hi:i<k
 . rw [if_pos hi,if_pos hi,(h i hi).1,(h i hi).2.1,(h i hi).2.2]
 . rw [if_neg hi,if_neg hi]
theorem ahF(ag:List (List Value))(f:Nat->List Value):(ag.mapIdx fun i cs=>if i<0 then f i else cs)=ag:=by
 apply Aap;intro i;simp
structure aub (W3 wr:World)(base:Nat)(bs:List DBlock)(xss:List (List Value))(v0:Value)(k:Nat)(V:Pth->Value):Prop where
 rows:aah wr base (okK bs k) V (ae5 bs xss k V)
 blks:V .blks=v0
 low:Below base W3 wr
structure CpA (W3 wr:World)(base:Nat)(bs:List DBlock)(xss ag:List (List Value))(cb:List Value)(v0 pv bv:Value)(k j:Nat)(V:Pth->Value):Prop where
 rows:aah wr base (okA bs k j) V (adK bs xss ag cb k j V)
 blks:V .blks=v0
 phis:V (.phis k)=pv
 box:V .vBlk=bv
 low:Below base W3 wr
structure CpB (W3 wr:World)(base:Nat)(bs:List DBlock)(xss ai:List (List Value))(cb:List Value)(v0 pv lv bv:Value)(k j:Nat)(V:Pth->Value):Prop where
 rows:aah wr base (okB bs k j) V (adr bs xss ai cb k j V)
 blks:V .blks=v0
 phis:V (.phis k)=pv
 list:V (.list k)=lv
 box:V .vBlk=bv
 low:Below base W3 wr
theorem aah.set6 {W:World}{base:Nat}{ok:Pth->Prop}{V:Pth->Value}{C:Pth->List (List Value)}(h:aah W base ok V C){p:Pth}(hp:ok p){g n c i:Nat}(hv:V p = .slice (some ⟨g,0,none⟩) n c){cs:List Value}(hi:(C p)[i]?=some cs)(hz:p.sz=6)(u0 u1 u2 u3 u4 u5:Value) :
 aah ((((((W.setCell ⟨g,i * 6,none⟩ u0).setCell ⟨g,i * 6+1,none⟩ u1).setCell ⟨g,i * 6+2,none⟩ u2).setCell ⟨g,i * 6+3,none⟩ u3).setCell ⟨g,i * 6+4,none⟩ u4).setCell ⟨g,i * 6+5,none⟩ u5) base ok V (aaU C p ((C p).set i [u0,u1,u2,u3,u4,u5])):=by
 have ay:i<(C p).length:=(Aad.1 hi).1;have aZ:=h.wid p hp cs (Aae hi);rw [hz] at aZ;have nx:∀{W:World} {D:Pth->List (List Value)} {ds:List Value} (_:aah W base ok V D) (_:D p=(C p).set i ds) (_:ds.length=6) (j:Nat) (_:j<6) (u:Value),aah (W.setCell ⟨g,i * 6+j,none⟩ u) base ok V (aaU D p ((D p).set i (ds.set j u)))∧aaU D p ((D p).set i (ds.set j u)) p=(C p).set i (ds.set j u)∧(ds.set j u).length=6:=by
  intro W D ds hr hD hl j hj u;have hd:(D p)[i]?=some ds:=by rw [hD];exact Aa6 ay
  refine⟨?_,?_,by rw [Aat,hl]⟩
  . have:=hr.set hp hv hd (j:=j) (by rw [hz];exact hj) u
    rw [hz] at this;exact this
  . rw [aaj,hD,Aaz]
 have e0:C p=(C p).set i cs:=by
  apply Aap;intro m;rw [Aa5];split
  . rename_i e
    subst e;exact hi
  . rfl
 obtain⟨r0,e0,l0⟩:=nx h e0 aZ 0 (by decide) u0;obtain⟨r1,e1,l1⟩:=nx r0 e0 l0 1 (by decide) u1;obtain⟨r2,e2,l2⟩:=nx r1 e1 l1 2 (by decide) u2;obtain⟨r3,e3,l3⟩:=nx r2 e2 l2 3 (by decide) u3;obtain⟨r4,e4,l4⟩:=nx r3 e3 l3 4 (by decide) u4;obtain⟨r5,e5,l5⟩:=nx r4 e4 l4 5 (by decide) u5;refine r5.congr (fun q _=>rfl) (fun q _=>?_)
 by_cases hq:q=p
 . subst hq
   rw [e5,aaj]
   match cs,aZ with
   | [_,_,_,_,_,_],_=>rfl
 . simp only [aaU,if_neg hq]
theorem ajt {α:Type}{r:Rp α}{S:Nat->Prop}{w:World}(g:α->List Value){l:List α}{xss:List (List Value)}(hl:xss.length=l.length)(h:∀(i:Nat) x,l[i]?=some x->∃cs,xss[i]?=some cs∧r S w cs x)(hr:∀cs x,r S w cs x->cs=g x):xss=l.map g:=by
 apply Aap;intro i;rw [Aak]
 by_cases hi:i<l.length
 . obtain⟨cs,h1,h2⟩:=h i l[i] (Aaa hi)
   rw [h1,Aaa hi,hr _ _ h2];rfl
 . rw [Aas (by omega),Aas (by omega)];rfl
theorem ac5 {S:Nat->Prop}{fa:Option Addr}{fn fc:Nat}{l:List aay}{w W:World}(h:SlAt S w 2 agd (.slice fa fn fc) l)(hb:Below w.heap.size w W)(hn:fn<=1048576) :
 Calls Tryz.prog 84 #[.slice fa fn fc] W fun e w'=>∃va vc,e = .returned (.slice va fn vc)∧w'.ownsRow W.heap.size 41 2 (.slice va fn vc) fn (l.map aaA).flatten∧Below W.heap.size W w':=by
 obtain⟨xss,hl,eD,bY,bT,dj,hc⟩:=aez h (by decide);have e:=ajt aaA (by omega) bY (fun cs x h=>h.1);subst e;refine akc fa fn fc _ W ?_ dj (fun b aD j u hj=>?_) (adq fun cs af u hu=>?_) hn
 . rw [abl _ (fun i cs hi=>bT cs (Aae hi)),eD]
 . have h:=hc b aD j u hj
   rw [hb.cell (p:=b.add j) (abv h)];exact h
 . obtain⟨v,_,rfl⟩:=Aal.1 af
   simp only [aaA,Aam,Aao,or_false] at hu;rcases hu with rfl | rfl <;> rfl
section
variable {W W' : World} {base k : Nat} {bs : List DBlock} {xss ag ai : List (List Value)} {V : Pth -> Value} {LB : Nat}
theorem ang {p0 u1 u2 u3 u4 u5 pv : Value} {pn : Nat}
 (hr:aah W base (fun q=>okK bs k q∨q = .vBlk) (aaU V .vBlk (.slice (some ⟨LB,0,none⟩) 1 1)) (aaU (ae5 bs xss k V) .vBlk [[p0,u1,u2,u3,u4,u5]]))
 (ho:W'.ownsRow W.heap.size 115 2 pv pn ag.flatten) (bL:ag.length=pn) (b0:∀cs∈ag,cs.length=2) (hb:Below W.heap.size W W') (ad:base<=W.heap.size) :
 aah (W'.setCell ⟨LB, 0, none⟩ pv) base (okA bs k 0) (aaU (aaU V .vBlk (.slice (some ⟨LB, 0, none⟩) 1 1)) (.phis k) pv)
  (adK bs xss ag [pv,u1,u2,u3,u4,u5] k 0 (aaU (aaU V .vBlk (.slice (some ⟨LB,0,none⟩) 1 1)) (.phis k) pv)):=by
 have h1:=hr.fresh (.phis k) (v:=pv) (n:=pn) (xss:=ag) ho bL b0 hb ad;have h2:=h1.set (p := .vBlk) (.inl (.inr rfl)) (g:=LB) (n:=1) (c:=1) (i:=0) (j:=0) (by simp [aaU]) (cs:=[p0,u1,u2,u3,u4,u5]) (by simp [aaU]) (by decide) pv;refine (h2.less (ok':=okA bs k 0) fun q hq=>?_).congr (fun q _=>rfl) (fun q hq=>?_)
 . cases q with
   | blks=>exact .inl (.inl trivial)
   | vBlk=>exact .inl (.inr rfl)
   | phis b =>
     have bO:b<=k:=hq;rcases Abm b k with h | h
     . exact .inl (.inl h)
     . exact .inr (by rw [Nat.le_antisymm bO h])
   | src b p =>
     rcases hq with h | ⟨_,h⟩
     . exact .inl (.inl h)
     . omega
   | list b=>exact .inl (.inl hq)
   | args b i=>exact .inl (.inl hq)
   | «to» b=>exact .inl (.inl hq)
   | vPhi=>exact absurd hq (by simp [okA])
   | vIns=>exact absurd hq (by simp [okA])
 . cases q with
   | blks=>simp only [aaU,adK,reduceCtorEq,if_false];exact aeS (fun b hb=>by simp [aaU];omega)
   | vBlk=>simp [aaU,adK]
   | phis b =>
     by_cases e:b=k
     . subst e;simp only [aaU,adK,reduceCtorEq,if_false,if_true];exact ahF _ _
     . simp [aaU,adK,e,ae5,aae]
   | src b p=>simp [aaU,adK,ae5,aae]
   | list b=>simp [aaU,adK,ae5,aae]
   | args b i=>simp [aaU,adK,ae5,aae]
   | «to» b=>simp [aaU,adK,ae5,aae]
   | vPhi=>simp [aaU,adK,ae5,aae]
   | vIns=>simp [aaU,adK,ae5,aae]
theorem aot {cb : List Value} {j P pn c : Nat} {p : acn} {v f0 : Value} {m : Nat} {N : Nat}
 (hr:aah W base (okA bs k j) V (adK bs xss ag cb k j V)) (hb:Below W.heap.size W W') (hN:W.heap.size<=N) (ho:W'.ownsRow N 41 2 v m (p.src.map aaA).flatten) (hm:p.src.length=m)
 (hp:(blkOf bs k).phis[j]?=some p) (hy:ag[j]?=some [.int .i64 p.dst,f0]) (eP:ag.length=(blkOf bs k).phis.length) (hv:V (.phis k) = .slice (some ⟨P,0,none⟩) pn c) (ad:base<=W.heap.size) :
 aah (W'.setCell ⟨P,j * 2+1,none⟩ v) base (okA bs k (j+1)) (aaU V (.src k j) v) (adK bs xss ag cb k (j+1) (aaU V (.src k j) v)):=by
 have h1 := hr.fresh (.src k j) (v := v) (n := m) (xss := p.src.map aaA) (ab3 ho hN) (by rw [Aah, hm]) (fun cs af => by
  obtain ⟨x, _, rfl⟩ := Aal.1 af; rfl) hb ad
 have c6:j<ag.length:=(Aad.1 hy).1
 have h2 := h1.set (p := .phis k) (.inl (Aac k)) (g := P) (n := pn) (c := c) (i := j) (j := 1) (by rw [aag _ _ (by simp)]; exact hv) (cs := [.int .i64 p.dst, f0]) (by
  rw [aag _ _ (by simp)]; simp only [adK, if_true]; rw [aai, hy]; simp) (by simp [Pth.sz]) v
 refine (h2.less (ok':=okA bs k (j+1)) fun q hq=>?_).congr (fun q _=>rfl) (fun q hq=>?_)
 . cases q with
   | blks=>exact .inl trivial
   | vBlk=>exact .inl trivial
   | phis b=>exact .inl hq
   | src b p =>
     rcases hq with h | ⟨e,h⟩
     . exact .inl (.inl h)
     . subst e
       rcases Abk.1 h with h | h
       . exact .inl (.inr ⟨rfl,h⟩)
       . exact .inr (by rw [h])
   | list b=>exact .inl hq
   | args b i=>exact .inl hq
   | «to» b=>exact .inl hq
   | vPhi=>exact absurd hq (by simp [okA])
   | vIns=>exact absurd hq (by simp [okA])
 . cases q with
   | blks=>simp only [aaU,adK,reduceCtorEq,if_false];exact aeS (fun b hb=>by simp [aaU])
   | vBlk=>simp [aaU,adK]
   | phis b =>
     by_cases e:b=k
     . subst e
       rw [aaj,aag _ _ (by simp)];simp only [adK,if_true];apply Aap;intro i;rw [aai,Aa5,Abf,aai]
       by_cases ei:j=i
       . subst ei
         rw [if_pos rfl,if_pos c6,hy];have hd:(blkOf bs b).phis.getD j abu=p:=by rw [Aaf,hp];rfl
         simp [aaU,hp]
       . rw [if_neg ei]
         congr 1
         funext cs
         by_cases h:i<j
         . rw [if_pos (by omega:i<j+1),if_pos h,aag _ _ (by simp;omega)]
         . rw [if_neg (by omega:¬i<j+1),if_neg h]
     . rw [aag _ _ (by simp [e]),aag _ _ (by simp)]
       simp only [adK,if_neg e,aae];apply Aap;intro i;rw [aai,aai,aag _ _ (by simp [e])]
   | src b i =>
     by_cases e:(b=k∧i=j)
     . obtain⟨rfl,rfl⟩:=e
       have hd:(blkOf bs b).phis.getD i abu=p:=by rw [Aaf,hp];rfl
       rw [aag _ _ (by simp),aaj];simp [adK,aae,hp]
     . rw [aag _ _ (by simp),aag _ _ (by simp;intro h1 h2;exact e ⟨h1,h2⟩)]
       simp [adK,aae]
   | list b=>simp [aaU,adK,aae]
   | args b i=>simp [aaU,adK,aae]
   | «to» b=>simp [aaU,adK,aae]
   | vPhi=>simp [aaU,adK,aae]
   | vIns=>simp [aaU,adK,aae]
theorem anh {p0 l0 u2 u3 u4 u5 lv : Value} {pn ln : Nat}
 (hr:aah W base (okA bs k pn) V (adK bs xss ag [p0,l0,u2,u3,u4,u5] k pn V))
 (bF:pn=(blkOf bs k).phis.length) (bL:ag.length=pn) (bx:V .vBlk = .slice (some ⟨LB,0,none⟩) 1 1)
 (ho:W'.ownsRow W.heap.size 49 8 lv ln ai.flatten) (bN:ai.length=ln) (bS:∀cs∈ai,cs.length=8) (hb:Below W.heap.size W W') (ad:base<=W.heap.size) :
 aah (W'.setCell ⟨LB,1,none⟩ lv) base (okB bs k 0) (aaU V (.list k) lv) (adr bs xss ai [p0,lv,u2,u3,u4,u5] k 0 (aaU V (.list k) lv)):=by
 have h1:=hr.fresh (.list k) (v:=lv) (n:=ln) (xss:=ai) ho bN bS hb ad;have h2:=h1.set (p := .vBlk) (.inl trivial) (g:=LB) (n:=1) (c:=1) (i:=0) (j:=1) (by rw [aag _ _ (by simp)];exact bx) (cs:=[p0,l0,u2,u3,u4,u5]) (by simp [aaU,adK]) (by decide) lv;refine (h2.less (ok':=okB bs k 0) fun q hq=>?_).congr (fun q _=>rfl) (fun q hq=>?_)
 . cases q with
   | blks=>exact .inl trivial
   | vBlk=>exact .inl trivial
   | phis b=>exact .inl hq
   | src b p =>
     obtain⟨g1,g2⟩:=hq;rcases Abm b k with h | h
     . exact .inl (.inl ⟨h,g2⟩)
     . have e:=Nat.le_antisymm g1 h
       subst e;exact .inl (.inr ⟨rfl,by rw [bF];exact g2⟩)
   | list b =>
     have bO:b<=k:=hq;rcases Abm b k with h | h
     . exact .inl h
     . exact .inr (by rw [Nat.le_antisymm bO h])
   | args b i =>
     rcases hq with h | ⟨_,h⟩
     . exact .inl h
     . omega
   | «to» b=>exact .inl hq
   | vPhi=>exact absurd hq (by simp [okB])
   | vIns=>exact absurd hq (by simp [okB])
 . cases q with
   | blks=>simp only [aaU,adK,adr,reduceCtorEq,if_false];exact aeS (fun b hb=>by simp [aaU];omega)
   | vBlk=>simp [aaU,adK,adr]
   | phis b =>
     by_cases e:b=k
     . subst e
       rw [aag _ _ (by simp),aag _ _ (by simp)];simp only [adK,adr,aae,if_true];apply Aap;intro i;rw [aai,aai]
       by_cases hi:i<pn
       . rw [Aaa (by omega:i<ag.length),Aaa (by omega:i<(blkOf bs b).phis.length)]
         have hd:(blkOf bs b).phis.getD i abu=(blkOf bs b).phis[i]'(by omega):=by rw [Aaf,Aaa (by omega:i<(blkOf bs b).phis.length)];rfl
         rw [Aaw,Aaw,if_pos hi,hd,aag _ _ (by simp)]
       . rw [Aas (by omega),Aas (by omega)];rfl
     . simp [aaU,adK,adr,e,aae]
   | src b p=>simp [aaU,adK,adr,aae]
   | list b =>
     by_cases e:b=k
     . subst e;rw [aag _ _ (by simp),aaj];simp only [adr,if_true];exact ahF _ _
     . simp [aaU,adK,adr,e,aae]
   | args b i=>simp [aaU,adK,adr,aae]
   | «to» b=>simp [aaU,adK,adr,aae]
   | vPhi=>simp [aaU,adK,adr,aae]
   | vIns=>simp [aaU,adK,adr,aae]
theorem aou {cb : List Value} {j P pn c : Nat} {x : aaJ} {v f0 : Value} {m : Nat} {N : Nat}
 (hr:aah W base (okB bs k j) V (adr bs xss ai cb k j V)) (hb:Below W.heap.size W W') (hN:W.heap.size<=N) (ho:W'.ownsRow N 41 2 v m (x.args.map aaA).flatten) (hm:x.args.length=m)
 (hp:(blkOf bs k).list[j]?=some x) (hy:ai[j]?=some (abN x f0)) (eP:ai.length=(blkOf bs k).list.length) (hv:V (.list k) = .slice (some ⟨P,0,none⟩) pn c) (ad:base<=W.heap.size) :
 aah (W'.setCell ⟨P,j * 8+7,none⟩ v) base (okB bs k (j+1)) (aaU V (.args k j) v) (adr bs xss ai cb k (j+1) (aaU V (.args k j) v)):=by
 have h1 := hr.fresh (.args k j) (v := v) (n := m) (xss := x.args.map aaA) (ab3 ho hN) (by rw [Aah, hm]) (fun cs af => by
  obtain ⟨x, _, rfl⟩ := Aal.1 af; rfl) hb ad
 have c6:j<ai.length:=(Aad.1 hy).1
 have h2 := h1.set (p := .list k) (.inl (Aac k)) (g := P) (n := pn) (c := c) (i := j) (j := 7) (by rw [aag _ _ (by simp)]; exact hv) (cs := abN x f0) (by
  rw [aag _ _ (by simp)]; simp only [adr, if_true]; rw [aai, hy]; simp) (by simp [Pth.sz]) v
 refine (h2.less (ok':=okB bs k (j+1)) fun q hq=>?_).congr (fun q _=>rfl) (fun q hq=>?_)
 . cases q with
   | blks=>exact .inl trivial
   | vBlk=>exact .inl trivial
   | phis b=>exact .inl hq
   | src b p=>exact .inl hq
   | list b=>exact .inl hq
   | args b p =>
     rcases hq with h | ⟨e,h⟩
     . exact .inl (.inl h)
     . subst e
       rcases Abk.1 h with h | h
       . exact .inl (.inr ⟨rfl,h⟩)
       . exact .inr (by rw [h])
   | «to» b=>exact .inl hq
   | vPhi=>exact absurd hq (by simp [okB])
   | vIns=>exact absurd hq (by simp [okB])
 . cases q with
   | blks=>simp only [aaU,adr,reduceCtorEq,if_false];exact aeS (fun b hb=>by simp [aaU])
   | vBlk=>simp [aaU,adr]
   | list b =>
     by_cases e:b=k
     . subst e
       rw [aaj,aag _ _ (by simp)];simp only [adr,if_true];apply Aap;intro i;rw [aai,Aa5,Abf,aai]
       by_cases ei:j=i
       . subst ei
         rw [if_pos rfl,if_pos c6,hy];have hd:(blkOf bs b).list.getD j abM=x:=by rw [Aaf,hp];rfl
         simp [aaU,hp,abN]
       . rw [if_neg ei]
         congr 1
         funext cs
         by_cases h:i<j
         . rw [if_pos (by omega:i<j+1),if_pos h,aag _ _ (by simp;omega)]
         . rw [if_neg (by omega:¬i<j+1),if_neg h]
     . rw [aag _ _ (by simp [e]),aag _ _ (by simp)]
       simp only [adr,if_neg e,aae];apply Aap;intro i;rw [aai,aai,aag _ _ (by simp [e])]
   | args b i =>
     by_cases e:(b=k∧i=j)
     . obtain⟨rfl,rfl⟩:=e
       have hd:(blkOf bs b).list.getD i abM=x:=by rw [Aaf,hp];rfl
       rw [aag _ _ (by simp),aaj];simp [adr,aae,hp]
     . rw [aag _ _ (by simp),aag _ _ (by simp;intro h1 h2;exact e ⟨h1,h2⟩)]
       simp [adr,aae]
   | phis b=>simp [aaU,adr,aae]
   | src b i=>simp [aaU,adr,aae]
   | «to» b=>simp [aaU,adr,aae]
   | vPhi=>simp [aaU,adr,aae]
   | vIns=>simp [aaU,adr,aae]
theorem aov {p0 l0 t0 tv : Value} {ln tn R n c : Nat} {x : DBlock} {rs : List Value}
 (hr:aah W base (okB bs k ln) V (adr bs xss ai [p0,l0,.int .i64 x.fin.kind,.bool x.fin.on.reg,.int .i64 x.fin.on.n,t0] k ln V))
 (hx:bs[k]?=some x) (bG:ln=x.list.length) (bN:ai.length=ln) (dp:xss[k]?=some rs) (_hxw:xss.length=bs.length)
 (hblk:V .blks = .slice (some ⟨R,0,none⟩) n c) (bx:V .vBlk = .slice (some ⟨LB,0,none⟩) 1 1) (dc:V (.phis k)=p0) (cU:V (.list k)=l0)
 (ho:W'.ownsRow W.heap.size 3 1 tv tn (x.fin.to.map fun t=>[Value.int .i64 t]).flatten) (b2:x.fin.to.length=tn) (hb:Below W.heap.size W W') (ad:base<=W.heap.size) :
 aah (((((((W'.setCell ⟨LB,5,none⟩ tv).setCell ⟨R,k * 6,none⟩ p0).setCell ⟨R,k * 6+1,none⟩ l0).setCell ⟨R,k * 6+2,none⟩ (.int .i64 x.fin.kind)).setCell ⟨R,k * 6+3,none⟩ (.bool x.fin.on.reg)).setCell ⟨R,k * 6+4,none⟩ (.int .i64 x.fin.on.n)).setCell ⟨R,k * 6+5,none⟩ tv) base (okK bs (k+1)) (aaU V (.to k) tv) (ae5 bs xss (k+1) (aaU V (.to k) tv)):=by
 have bh:=aa2 hx
 have h1 := hr.fresh (.to k) (v := tv) (n := tn) (xss := x.fin.to.map fun t => [Value.int .i64 t]) ho (by rw [Aah, b2]) (fun cs af => by
  obtain ⟨x, _, rfl⟩ := Aal.1 af; rfl) hb ad
 have h2:=h1.set (p := .vBlk) (.inl trivial) (g:=LB) (n:=1) (c:=1) (i:=0) (j:=5) (by rw [aag _ _ (by simp)];exact bx) (cs:=[p0,l0,.int .i64 x.fin.kind,.bool x.fin.on.reg,.int .i64 x.fin.on.n,t0]) (by simp [aaU,adr]) (by decide) tv
 have h3 := h2.set6 (p := .blks) (.inl trivial) (g := R) (n := n) (c := c) (i := k) (by rw [aag _ _ (by simp)]; exact hblk) (cs := rs) (by
  rw [aag _ _ (by simp), aag _ _ (by simp)]; simp only [adr, ae5]; rw [aai, dp]; simp) rfl p0 l0 (.int .i64 x.fin.kind) (.bool x.fin.on.reg) (.int .i64 x.fin.on.n) tv
 have eI:k<xss.length:=(Aad.1 dp).1;refine (h3.less (ok':=okK bs (k+1)) fun q hq=>?_).congr (fun q _=>rfl) (fun q hq=>?_)
 . cases q with
   | blks=>exact .inl trivial
   | vBlk=>exact absurd hq (by simp [okK])
   | phis b=>exact .inl (Nat.lt_succ_iff.1 hq)
   | src b p=>exact .inl ⟨Nat.lt_succ_iff.1 hq.1,hq.2⟩
   | list b=>exact .inl (Nat.lt_succ_iff.1 hq)
   | args b i =>
     obtain⟨g1,g2⟩:=hq;rcases Abk.1 g1 with h | h
     . exact .inl (.inl ⟨h,g2⟩)
     . subst h;exact .inl (.inr ⟨rfl,by rw [bG,<-bh];exact g2⟩)
   | «to» b =>
     rcases Abk.1 hq with h | h
     . exact .inl h
     . exact .inr (by rw [h])
   | vPhi=>exact absurd hq (by simp [okK])
   | vIns=>exact absurd hq (by simp [okK])
 . cases q with
   | blks =>
     rw [aaj,aag _ _ (by simp),aag _ _ (by simp)];simp only [adr,ae5];apply Aap;intro i;rw [aai,Aa5,Abf,aai]
     by_cases ei:k=i
     . subst ei
       rw [if_pos rfl,if_pos eI,dp];simp [aaU,bh,abd,dc,cU]
     . rw [if_neg ei]
       congr 1
       funext cs
       by_cases h:i<k
       . rw [if_pos (by omega:i<k+1),if_pos h,aag _ _ (by simp),aag _ _ (by simp),aag _ _ (by simp;omega)]
       . rw [if_neg (by omega:¬i<k+1),if_neg h]
   | vBlk=>exact absurd hq (by simp [okK])
   | phis b=>simp [aaU,ae5,adr,aae]
   | src b p=>simp [aaU,ae5,adr,aae]
   | list b =>
     by_cases e:b=k
     . subst e
       rw [aag _ _ (by simp),aag _ _ (by simp),aag _ _ (by simp)];simp only [ae5,adr,aae,if_true];apply Aap;intro i;rw [aai,aai]
       by_cases hi:i<ln
       . have ay:i<(blkOf bs b).list.length:=by rw [bh];omega
         rw [Aaa (by omega:i<ai.length),Aaa ay];have hd:(blkOf bs b).list.getD i abM=(blkOf bs b).list[i]:=by rw [Aaf,Aaa ay];rfl
         rw [Aaw,Aaw,if_pos hi,hd,aag _ _ (by simp)]
       . rw [Aas (by rw [bh];omega),Aas (by omega)];rfl
     . simp [aaU,ae5,adr,e,aae]
   | args b i=>simp [aaU,ae5,adr,aae]
   | «to» b =>
     by_cases e:b=k
     . subst e
       rw [aag _ _ (by simp),aag _ _ (by simp),aaj];simp [ae5,aae,bh]
     . simp [aaU,ae5,adr,e,aae]
   | vPhi=>exact absurd hq (by simp [okK])
   | vIns=>exact absurd hq (by simp [okK])
theorem aqr(hr:aah W base (okK bs bs.length) V (ae5 bs xss bs.length V))(hx:xss.length=bs.length):abJ W base bs V:=by
 refine (hr.less (ok':=okP bs) fun q hq=>?_).congr (fun q _=>rfl) (fun q hq=>?_)
 . cases q with
   | blks=>exact trivial
   | phis b=>exact hq
   | src b p=>exact⟨Nat.lt_of_not_le fun h=>by rw [okP,aey h] at hq;exact absurd hq (Aa4 _),hq⟩
   | list b=>exact hq
   | args b i=>exact⟨Nat.lt_of_not_le fun h=>by rw [okP,aey h] at hq;exact absurd hq (Aa4 _),hq⟩
   | «to» b=>exact hq
   | vBlk=>exact hq
   | vPhi=>exact hq
   | vIns=>exact hq
 . cases q with
   | blks =>
     simp only [ae5,aae];apply Aap;intro i;rw [aai,aai]
     by_cases hi:i<bs.length
     . rw [Aaa (by omega:i<xss.length),Aaa hi,Aaw,Aaw,if_pos hi,aa2 (Aaa hi)]
     . rw [Aas (by omega),Aas (by omega)];rfl
   | _=>rfl
end
end
section
open Go.RowKit
theorem adP {fn : Func} {t : Nat} (az : fn.results = #[.cell t 37]) {tmps : Array Value} {W : World} {UO : Nat} {u0 u1 u2 u3 : Value}
 (h2:tmps.getD t undef = .pointer (some ⟨UO,0,none⟩)) (hF:aal W UO 0 [u0,u1,u2,u3]) :
 (results fn tmps).run Tryz.prog W = .ok (.agg #[u0,u1,u2,u3]) W:=by
 obtain⟨a0,a1,a2,a3⟩:=hF.get4;simp only [Acl] at h2;simp [results,az,h2,go_sem,a0,a1,a2,a3]
set_option maxRecDepth 100000 in
set_option maxHeartbeats 4000000 in
theorem aow {S:Nat->Prop}(nm:ByteArray)(p r:Int)(ba:Option Addr)(n bc:Nat)(bs:List DBlock)(w:World)(hb:SlAt S w 6 aa0 (.slice ba n bc) bs)(hS:∀b,S b->b<w.heap.size)(hn:n<=1048576)(dK:∀x∈bs,akb x) :
 Calls Tryz.prog 54 #[.agg #[.string nm,.int .i64 p,.int .i64 r,.slice ba n bc]] w fun e w' =>
  ∃V base,e = .returned (.agg #[.string nm,.int .i64 p,.int .i64 r,V .blks])∧w.heap.size<=base∧abJ w' base bs V∧Below w.heap.size w w':=by
 obtain⟨xss,ej,cQ,bY,bT,a7,ea⟩:=aez hb (by decide);have dF:∀cs∈xss,∀u∈cs,u.oneCell'=true:=fun cs af=>by
  obtain⟨i,hi,rfl⟩:=Aav af;have bD:i<bs.length:=by omega
  obtain⟨cj,g1,g2⟩:=bY i bs[i] (Aaa bD);rw [Aaa hi] at g1;rw [Option.some.inj g1];exact anf g2
 have eW:=hid bY;have eU:=hid dK;have HS:=hid hS;have cC:=hid ej;have bV:=hid cQ;have ev:=hid bT
 have cn := hid (fun (V : World) (hV : Below w.heap.size w V) => akf ba n bc xss.flatten V (by rw [abl xss (fun i cs hi => bT cs (Aae hi)), cQ]) a7 (fun b aD j u hj => by
  have h := ea b aD j u hj
  rw [hV.cell (p := b.add j) (abv h)]; exact h) (adq dF) hn)
 clear hb hS dK ej cQ bY bT a7 ea dF;go_enter Tryz.func54,Tryz.ntmps54;go_upto_region 1 with (fail)
 obtain⟨W,hW⟩:∃W,W=(w.alloc (.cells #[.string nm,.int .i64 p,.int .i64 r,.slice ba n bc] 37)).alloc (.cells #[.string ⟨#[]⟩,.int .i64 0,.int .i64 0,.slice none 0 0] 37):=⟨_,rfl⟩
 obtain⟨c7,h0,h1⟩:=abE w (.cells #[.string nm,.int .i64 p,.int .i64 r,.slice ba n bc] 37) (.cells #[.string ⟨#[]⟩,.int .i64 0,.int .i64 0,.slice none 0 0] 37);rw [<-hW] at c7 h0 h1 ⊢;have dJ:Below w.heap.size w W:=by rw [hW];exact bE
 obtain⟨UB,da⟩:∃UB,UB=w.heap.size:=⟨_,rfl⟩
 obtain⟨UO,dv⟩:∃UO,UO=w.heap.size+1:=⟨_,rfl⟩
 rw [<-dv] at h1 ⊢;rw [<-da] at h0 ⊢;have bQ:Hid (UB=w.heap.size∧UO=w.heap.size+1∧W.heap.size=w.heap.size+2):=⟨da,dv,c7⟩
 obtain⟨c0,c1,c2,c3⟩:=(aad (cs:=[_,_,_,_]) h0).get4;rw [Aab] at c1 c2 c3;have H0:=hid h0;have H1:=hid h1;have dh:=hid dJ;have zB:UB<W.heap.size:=aac c0;have f3:=aaq h0 3;clear hW h0 h1 dJ da dv c7;go_upto_region 2 with (go_at_call 82;refine (cn.out W dh.out).mono ?_;rintro e w2 ⟨aE,al,rfl,ee,aD⟩;have eh:=hid ee;have b5:=hid aD;have dL:=aab c3 aD;have eZ:=(aD.frozen (p:=⟨UB,3,none⟩) zB).trans f3;have eO:UB<w2.heap.size:=aac dL;clear ee aD)
 obtain⟨W3,bI⟩:∃W3,W3=w2.setCell ⟨UB,3,none⟩ (.slice aE n al):=⟨_,rfl⟩
 rw [<-bI];obtain⟨base,ad⟩:∃base,base=W.heap.size:=⟨_,rfl⟩
 have bW:UB<base:=by rw [ad];exact zB
 have aM:aah W3 base (okK bs 0) (fun _ => .slice aE n al) (ae5 bs xss 0 (fun _ => .slice aE n al)):=by
  have h:=((aah.empty W base (fun _ => .slice aE n al) (fun _=>xss)).fresh .blks (v := .slice aE n al) (n:=n) (xss:=xss) eh.out bV.out ev.out b5.out (Nat.le_of_eq ad)).setLow (a:=⟨UB,3,none⟩) bW (.slice aE n al);rw [<-bI] at h
  have h2 := h.less (ok' := okK bs 0) (fun q hq => by
   cases q <;> first | exact .inr rfl | exact absurd hq (by simp [okK]))
  refine h2.congr (fun q _=>?_) (fun q hq=>?_)
  . unfold aaU;split <;> rfl
  . cases q <;> first
     | (simp [okK] at hq;done)
     | (rw [aaj];show xss.mapIdx _=xss;apply Aap;intro i;simp)
 have cf:aub W3 W3 base bs xss (.slice aE n al) 0 (fun _ => .slice aE n al):=⟨aM,rfl,Below.refl _ _⟩
 have c4:=hid cf;have dV:Hid (Below w.heap.size w W3):=by
  show Below _ _ _;rw [bI];exact (dh.out.trans (b5.out.mono dh.out.size)).setCell (p:=⟨UB,3,none⟩) (by dsimp only;have:=bQ.out;omega) _
 have dd:W3.heap[UB]?=some (.cells #[.string nm,.int .i64 p,.int .i64 r,.slice aE n al] 37 (0,0)):=by
  rw [bI,aak ((b5.out.block UB zB).trans H0.out)];rfl
 have ed:W3.heap[UO]?=some (.cells #[.string ⟨#[]⟩,.int .i64 0,.int .i64 0,.slice none 0 0] 37 (0,0)):=by
  rw [bI,Below.heap_setCell _ _ _ _ (by dsimp only;have:=bQ.out;omega)];exact (b5.out.block UO (by have:=bQ.out;omega)).trans H1.out
 have dG:=hid dd;have eE:=hid ed;have aj:Hid (w.heap.size<=base∧UB<base∧UO<base∧base<=W3.heap.size):=by
  show _∧_;have h1:=bQ.out;have h2:=b5.out.size;have h3:W3.heap.size=w2.heap.size:=by rw [bI];simp [World.setCell]
  omega
 obtain⟨d0,d1,d2,d3⟩:=(aad (cs:=[_,_,_,_]) dd).get4;rw [Aab] at d1 d2 d3;have fg:UB<W3.heap.size:=aac d0;clear bI aM cf dd ed ad bW c0 c1 c2 c3 dL f3 eZ zB eO eh cn;go_wp2_with fail;clear d0 d1 d2 d3;go_loopw [16] (fun s16 wr=>∃(k:Nat) (V:Pth->Value),k<=n∧s16 = .int .i64 (k:Int)∧aub W3 wr base bs xss (.slice aE n al) k V) (fun s16 _=>n - (intOf s16).toNat)
 case atStart=>exact⟨0,_,Aaj _,rfl,c4.out⟩
 case round =>
  obtain⟨wo,eV⟩:∃wo:World,wo=wr:=⟨_,rfl⟩
  subst eV;obtain⟨k,V,hk,rfl,aS⟩:=hrel;have aY:=hid aS
  by_cases hkn:k<n
  . have ck:k<bs.length:=by rw [cC.out];exact hkn
    obtain⟨x,hx⟩:∃x,bs[k]?=some x:=⟨_,Aaa ck⟩
    obtain⟨cs,af,dE⟩:=eW.out k x hx;have bh:=aa2 hx;have ca:=eU.out x (Aae hx);obtain⟨pa,pc,la,lc,ta,tc,rfl,hp,hl,ht,eK,eQ,eS,-,-⟩:=dE.opens;have ef:0<(ae5 bs xss k V .blks).length:=by simp [ae5,bV.out];omega
    obtain⟨R,rc,cF,-,-,ff,e7⟩:=aS.rows.addr (p := .blks) trivial ef;rw [aS.blks] at cF;have be:(ae5 bs xss k V .blks)[k]?=some [.slice pa x.phis.length pc,.slice la x.list.length lc,.int .i64 x.fin.kind,.bool x.fin.on.reg,.int .i64 x.fin.on.n,.slice ta x.fin.to.length tc]:=by
     show (xss.mapIdx _)[k]?=_;rw [aai,af];show some (if k<k then _ else _)=_;rw [if_neg (Abp k)]
    obtain⟨bP,e8⟩:=aS.rows.at (p := .blks) trivial (aS.blks.trans cF) be;have eY:aE=some ⟨R,0,none⟩:=by injection cF
    subst eY;have b8:aal wo R (k * 6) [.slice pa x.phis.length pc,.slice la x.list.length lc,.int .i64 x.fin.kind,.bool x.fin.on.reg,.int .i64 x.fin.on.n,.slice ta x.fin.to.length tc]:=bP;obtain⟨q0,q1,q2,q3,q4,q5⟩:=b8.get6;obtain⟨ag,-,bL,du,b0,bk,dH⟩:=aez hp (by decide);obtain⟨ai,-,bN,dm,bS,bm,dT⟩:=aez hl (by decide);obtain⟨cp,-,b2,dg,cX,bg,dX⟩:=aez ht (by decide);have aT:∀cs∈ag,∀u∈cs,u.oneCell'=true:=fun cs af=>by
     obtain⟨i,hi,rfl⟩:=Aav af;have bD:i<x.phis.length:=by omega
     obtain⟨cj,g1,g2⟩:=du i x.phis[i] (Aaa bD);rw [Aaa hi] at g1;rw [Option.some.inj g1];exact aqp g2
    have dB:∀cs∈ai,∀u∈cs,u.oneCell'=true:=fun cs af=>by
     obtain⟨i,hi,rfl⟩:=Aav af;have bD:i<x.list.length:=by omega
     obtain⟨cj,g1,g2⟩:=dm i x.list[i] (Aaa bD);rw [Aaa hi] at g1;rw [Option.some.inj g1];exact aqq g2
    have dS:∀cs∈cp,∀u∈cs,u.oneCell'=true:=fun cs af=>by
     obtain⟨i,hi,rfl⟩:=Aav af;have bD:i<x.fin.to.length:=by omega
     obtain⟨cj,g1,g2,-⟩:=dg i x.fin.to[i] (Aaa bD);rw [Aaa hi] at g1;rw [Option.some.inj g1,g2];intro u hu;rw [Aax] at hu;rw [hu];rfl
    have dD := hid (fun (V : World) (hV : Below w.heap.size w V) => akd pa x.phis.length pc ag.flatten V (by rw [abl ag (fun i cs hi => b0 cs (Aae hi)), bL]) bk (fun b aD j u hj => by
     have h := dH b aD j u hj
     rw [hV.cell (p := b.add j) (abv h)]; exact h) (adq aT) ca.phis)
    have cn := hid (fun (V : World) (hV : Below w.heap.size w V) => ake la x.list.length lc ai.flatten V (by rw [abl ai (fun i cs hi => bS cs (Aae hi)), bN]) bm (fun b aD j u hj => by
     have h := dT b aD j u hj
     rw [hV.cell (p := b.add j) (abv h)]; exact h) (adq dB) ca.list)
    have ec := hid (fun (V : World) (hV : Below w.heap.size w V) => agz ta x.fin.to.length tc cp.flatten V (by rw [abl cp (fun i cs hi => cX cs (Aae hi)), b2]) bg (fun b aD j u hj => by
     have h := dX b aD j u hj
     rw [hV.cell (p := b.add j) (abv h)]; exact h) (adq dS) ca.to)
    have aL:Hid (∀V,Below base W3 V->Below w.heap.size w V):=fun V hV=>dV.out.trans (hV.mono aj.out.1);obtain⟨pn,bF⟩:∃pn,pn=x.phis.length:=⟨_,rfl⟩
    obtain⟨ln,bG⟩:∃ln,ln=x.list.length:=⟨_,rfl⟩
    obtain⟨tn,aN⟩:∃tn,tn=x.fin.to.length:=⟨_,rfl⟩
    obtain⟨ek,cL⟩:∃ek,ek=x.fin.kind:=⟨_,rfl⟩
    obtain⟨er,cw⟩:∃er,er=x.fin.on.reg:=⟨_,rfl⟩
    obtain⟨en,cy⟩:∃en,en=x.fin.on.n:=⟨_,rfl⟩
    rw [<-bF] at q0 dD;rw [<-bG] at q1 cn;rw [<-aN] at q5 ec;rw [<-cL] at q2;rw [<-cw] at q3;rw [<-cy] at q4;have dP:=aS.rows.box .vBlk (cs:=[.slice pa pn pc,.slice la ln lc,.int .i64 ek,.bool er,.int .i64 en,.slice ta tn tc]) rfl (by have:=aS.low.size;have:=aj.out;omega);have eg:=hid dP;have zR:R<wo.heap.size:=e7;have eH:=hid du;have eL:=hid dm;have eJ:=hid dg;have cG:Hid (ag.length=pn):=by show _=_;rw [bF];exact bL
    have cA:Hid (ai.length=ln):=by show _=_;rw [bG];exact bN
    have eR:Hid (cp.length=tn):=by show _=_;rw [aN];exact b2
    have eN:=hid b0;have eT:=hid bS;have fb:=hid cX;have bM:=hid bh;have cx:=hid ca;have an:Hid (pn=x.phis.length∧ln=x.list.length∧tn=x.fin.to.length∧ek=x.fin.kind∧er=x.fin.on.reg∧en=x.fin.on.n):=⟨bF,bG,aN,cL,cw,cy⟩
    have Hq:Hid (xss[k]?=some [.slice pa pn pc,.slice la ln lc,.int .i64 ek,.bool er,.int .i64 en,.slice ta tn tc]):=by show _=_;rw [bF,bG,aN,cL,cw,cy];exact af
    clear aS af dE bh hp hl ht eK eQ eS ef cF be bP e8 b8 du b0 bk dH aT bm dT dB bg dX dS dP bL bN b2 dm dg bS cX bF bG aN cL cw cy ca hx ck;go_upto_region 5 with (fail)
    obtain⟨LB,ct⟩:∃LB,LB=wo.heap.size:=⟨_,rfl⟩
    obtain⟨W4,cc⟩:∃W4,W4=wo.alloc (.cells #[.slice pa pn pc,.slice la ln lc,.int .i64 ek,.bool er,.int .i64 en,.slice ta tn tc] 46):=⟨_,rfl⟩
    have cE:W4.heap[LB]?=some (.cells #[.slice pa pn pc,.slice la ln lc,.int .i64 ek,.bool er,.int .i64 en,.slice ta tn tc] 46 (0,0)):=by rw [cc,ct];exact heap_alloc_new _ _
    rw [<-cc,<-ct];have eb:Below wo.heap.size wo W4:=by rw [cc];exact bE
    have dx:aah W4 base (fun q=>okK bs k q∨q = .vBlk) (aaU V .vBlk (.slice (some ⟨LB,0,none⟩) 1 1)) (aaU (ae5 bs xss k V) .vBlk [[.slice pa pn pc,.slice la ln lc,.int .i64 ek,.bool er,.int .i64 en,.slice ta tn tc]]):=by
     have h:=eg.out;rw [<-ct] at h;rw [cc];exact h
    have bd:Below base W3 W4:=aY.out.low.trans (eb.mono (by have:=aY.out.low.size;have:=aj.out;omega));have dW:=hid dx;have aJ:=hid bd;obtain⟨l0,l1,l2,l3,l4,l5⟩:=(aad (cs:=[_,_,_,_,_,_]) cE).get6;rw [Aab] at l1 l2 l3 l4 l5;have f0:=aaq cE 0;have zL:LB<W4.heap.size:=aac l0;have cP:=hid ct;have ew:=hid cE;clear ct cc cE eb dx bd eg q0 q1 q2 q3 q4 q5 zR;go_upto_region 6 with (go_at_call 83;refine (dD.out W4 (aL.out W4 aJ.out)).mono ?_;rintro e w5 ⟨a5,c5,rfl,el,cB⟩;have eo:=hid el;have dr:=hid cB;have l0:=aab l0 cB;have f0:=(cB.frozen (p:=⟨LB,0,none⟩) zL).trans f0;have zL:=aac l0;clear el cB)
    obtain⟨W6,cu⟩:∃W6,W6=w5.setCell ⟨LB,0,none⟩ (.slice a5 pn c5):=⟨_,rfl⟩
    rw [<-cu];have bH:base<=W4.heap.size:=by have:=aJ.out.size;have:=aj.out;omega
    have cz:=ang dW.out eo.out cG.out eN.out dr.out bH;rw [<-cu] at cz;have bf:Below base W3 W6:=by
     rw [cu];exact (aJ.out.trans (dr.out.mono bH)).setCell (p:=⟨LB,0,none⟩) (by dsimp only;have:=cP.out;have:=aY.out.low.size;have:=aj.out;omega) _
    obtain⟨g0,g1,g2,g3,g4,g5⟩:=(cz.at (p := .vBlk) trivial (g:=LB) (n:=1) (c:=1) (i:=0) (by simp [aaU]) rfl).1.get6;simp only [Nat.zero_mul,Aab] at g0 g1 g2 g3 g4 g5;have dA:CpA W3 W6 base bs xss ag [.slice a5 pn c5,.slice la ln lc,.int .i64 ek,.bool er,.int .i64 en,.slice ta tn tc] (.slice (some ⟨R,0,none⟩) n al) (.slice a5 pn c5) (.slice (some ⟨LB,0,none⟩) 1 1) k 0 _:=⟨cz,aY.out.blks,by simp [aaU],by simp [aaU],bf⟩
    have dC:=hid dA;clear cu bH cz bf dA l0 l1 l2 l3 l4 l5 f0 zL eo dr dW ew;have eM:pn<=1048576:=by rw [an.out.1];exact cx.out.phis
    go_wp2_with fail;clear g0 g1 g2 g3 g4 g5;go_loopw [28] (fun s28 wr=>∃(j:Nat) (U:Pth->Value),j<=pn∧s28 = .int .i64 (j:Int)∧CpA W3 wr base bs xss ag [.slice a5 pn c5,.slice la ln lc,.int .i64 ek,.bool er,.int .i64 en,.slice ta tn tc] (.slice (some ⟨R,0,none⟩) n al) (.slice a5 pn c5) (.slice (some ⟨LB,0,none⟩) 1 1) k j U) (fun s28 _=>pn - (intOf s28).toNat)
    case atStart=>exact⟨0,_,Aaj _,rfl,dC.out⟩
    case round =>
     obtain⟨j,U,hj,rfl,ah⟩:=hrel;have ae:=hid ah;obtain⟨g0,g1,g2,g3,g4,g5⟩:=(ah.rows.at (p := .vBlk) trivial (g:=LB) (n:=1) (c:=1) (i:=0) ah.box rfl).1.get6;simp only [Nat.zero_mul,Aab] at g0 g1 g2 g3 g4 g5
     by_cases hjn:j<pn
     . obtain⟨p,hp⟩:∃p,x.phis[j]?=some p:=⟨_,Aaa (by have:=an.out.1;omega)⟩
       obtain⟨cs,af,b9⟩:=eH.out j p hp;obtain⟨fa,fc,rfl,bo,-⟩:=b9.opens;obtain⟨fn,az⟩:∃fn,fn=p.src.length:=⟨_,rfl⟩
       obtain⟨pd,cI⟩:∃pd,pd=p.dst:=⟨_,rfl⟩
       have bC:fn<=1048576:=by rw [az];exact cx.out.src p (Aae hp)
       rw [<-az] at bo;have aZ:0<(adK bs xss ag [.slice a5 pn c5,.slice la ln lc,.int .i64 ek,.bool er,.int .i64 en,.slice ta tn tc] k j U (.phis k)).length:=by simp only [adK,if_true];rw [Abf,cG.out];omega
       obtain⟨P,cY,bA,-,-,bX,bu⟩:=ah.rows.addr (p := .phis k) (Aac k) aZ;rw [ah.phis] at bA;have df:a5=some ⟨P,0,none⟩:=by injection bA
       subst df;have be:(adK bs xss ag [.slice (some ⟨P,0,none⟩) pn c5,.slice la ln lc,.int .i64 ek,.bool er,.int .i64 en,.slice ta tn tc] k j U (.phis k))[j]?=some [.int .i64 pd,.slice fa fn fc]:=by
        simp only [adK,if_true];rw [aai,af,az,cI];simp
       obtain⟨aI,b4⟩:=ah.rows.at (p := .phis k) (Aac k) ah.phis be;have au:aal wr P (j * 2) [.int .i64 pd,.slice fa fn fc]:=aI;obtain⟨q0,q1⟩:=au.get2;have qz:=b4 (j * 2+1);have bZ:¬P=LB:=by
        intro e;have:=ah.rows.apart (.phis k) .vBlk (Aac k) trivial (by simp) P (by rw [ah.phis];rfl);rw [ah.box] at this;exact this (by rw [e];rfl)
       have zL:LB<wr.heap.size:=aac g0;have cT:=hid bo;have Hp:=hid hp;have di:Hid (ag[j]?=some [.int .i64 pd,.slice fa fn fc]):=by show _=_;rw [cI,az];exact af
       have cM:Hid (fn=p.src.length∧pd=p.dst):=⟨az,cI⟩
       have cO:=hid bZ;have cV:Hid (base<=P):=bX;clear af b9 bo aZ bA aI b4 au hp az cI be bZ ah;go_upto_region 9 with (fail)
       obtain⟨W7,aK⟩:∃W7,W7=wr.alloc (.cells #[.int .i64 pd,.slice fa fn fc] 115):=⟨_,rfl⟩
       have ax:Below wr.heap.size wr W7:=by rw [aK];exact bE
       obtain⟨PB,aG⟩:∃PB,PB=wr.heap.size:=⟨_,rfl⟩
       have b1:W7.heap[PB]?=some (.cells #[.int .i64 pd,.slice fa fn fc] 115 (0,0)):=by rw [aK,aG];exact heap_alloc_new _ _
       have b6:W7.heap.size=PB+1:=by rw [aK,aG];simp
       rw [<-aK,<-aG];obtain⟨p0,p1⟩:=(aad (cs:=[_,_]) b1).get2;rw [Aab] at p1;have aC:P<PB∧LB<PB:=by rw [aG];exact⟨bu,zL⟩
       have bw:Hid (W7.drew.cell? ⟨LB,0,none⟩=some (.slice (some ⟨P,0,none⟩) pn c5)∧W7.drew.cell? ⟨PB,1,none⟩=some (.slice fa fn fc))  := ⟨aab g0 (ax.trans ((Below.refl W7.heap.size W7).drew.mono ax.size)),p1⟩
       have bn:Hid (W7.cell? ⟨P,j * 2+1,none⟩=some (.slice fa fn fc)∧W7.frozen? ⟨P,j * 2+1,none⟩=false):=⟨aab q1 ax,(ax.frozen (p:=⟨P,j * 2+1,none⟩) bu).trans qz⟩
       have av:Hid (Below w.heap.size w W7.drew):=by
        have h:=aL.out _ (ae.out.low.trans (ax.mono (by have:=ae.out.low.size;have:=aj.out;omega)));show Below _ _ _;exact h.trans ((Below.refl W7.heap.size W7).drew.mono h.size)
       have dk:=hid (ac5 cT.out av.out bC);have aP:Hid (Below wr.heap.size wr W7):=ax;have cg:Hid (PB=wr.heap.size∧P<PB∧LB<PB∧W7.heap.size=PB+1):=⟨aG,aC.1,aC.2,b6⟩
       clear aK ax aG b1 b6 p0 p1 aC g0 g1 g2 g3 g4 g5 q0 q1 qz zL bu bX av
       go_region_held3 (fun w' => w'.cell? ⟨LB, 0, none⟩ = some (.slice (some ⟨P, 0, none⟩) pn c5) ∧ w'.cell? ⟨PB, 1, none⟩ = some (.slice fa fn fc))
        ((first | with_reducible exact dt.out | with_reducible exact bp.out | with_reducible exact bw.out))
        ((go_at_call 84; (with_reducible refine dk.out.mono ?_); rintro e w8 ⟨a8, c8, rfl, bR, aX⟩
          have ar : Below W7.heap.size W7 w8 := (Below.refl W7.heap.size W7).drew.trans aX
          have bp : Hid (w8.cell? ⟨LB, 0, none⟩ = some (.slice (some ⟨P, 0, none⟩) pn c5) ∧ w8.cell? ⟨PB, 1, none⟩ = some (.slice fa fn fc)) := ⟨aab bw.out.1 aX, aab bw.out.2 aX⟩
          have r1 := aab bn.out.1 ar
          have rz := (ar.frozen (p := ⟨P, j * 2 + 1, none⟩) (aac bn.out.1)).trans bn.out.2
          have dt : Hid ((w8.setCell ⟨P, j * 2 + 1, none⟩ (.slice a8 fn c8)).cell? ⟨LB, 0, none⟩ = some (.slice (some ⟨P, 0, none⟩) pn c5) ∧ (w8.setCell ⟨P, j * 2 + 1, none⟩ (.slice a8 fn c8)).cell? ⟨PB, 1, none⟩ = some (.slice fa fn fc)) := by
           refine ⟨?_, ?_⟩
           . exact (aam _ (fun e => cO.out e.symm) _ _).trans bp.out.1
           . exact (aam _ (fun e => absurd cg.out.2.1 (by rw [e]; exact Abp _)) _ _).trans bp.out.2
          have cN := hid bR
          have aO := hid ar
          clear bR aX ar))
       go_wp2_with fail;go_roundw
       case rel =>
        have de:base<=wr.heap.size:=by have:=ae.out.low.size;have:=aj.out;omega
        have aF:=aot (P:=P) (pn:=pn) (c:=c5) (m:=fn) (v := .slice a8 fn c8) ae.out.rows (cg.out.1 ▸ (aP.out.trans (aO.out.mono aP.out.size))) (N:=W7.heap.size) aP.out.size cN.out cM.out.1.symm (by rw [bM.out];exact Hp.out) (f0 := .slice fa fn fc) (by rw [<-cM.out.2];exact di.out) (by rw [cG.out,bM.out];exact an.out.1) ae.out.phis (by have:=ae.out.low.size;have:=aj.out;omega);exact⟨j+1,_,by omega,by go_num,⟨aF,ae.out.blks,ae.out.phis,ae.out.box,(ae.out.low.trans ((aP.out.trans (aO.out.mono aP.out.size)).mono de)).setCell (p:=⟨P,j * 2+1,none⟩) cV.out _⟩⟩
       case measure=>simp [intOf];omega
     . obtain⟨wi,eF⟩:∃wi:World,wi=wr:=⟨_,rfl⟩
       subst eF;have dq:pn=j:=by omega
       subst dq;have zL:LB<wi.heap.size:=aac g0;have f1:=(ah.rows.at (p := .vBlk) trivial (g:=LB) (n:=1) (c:=1) (i:=0) ah.box rfl).2 1;clear hjn hj ah;go_upto_region 12 with (go_at_call 85;refine (cn.out wi (aL.out wi ae.out.low)).mono ?_;rintro e w9 ⟨a9,c9,rfl,dY,cD⟩;have dQ:=hid dY;have dw:=hid cD;have g1:=aab g1 cD;have f1:=(cD.frozen (p:=⟨LB,1,none⟩) zL).trans f1;have zL:=aac g1;clear dY cD)
       obtain⟨cv,aW⟩:∃cv,cv=w9.setCell ⟨LB,1,none⟩ (.slice a9 ln c9):=⟨_,rfl⟩
       rw [<-aW];have bt:base<=wi.heap.size:=by have:=ae.out.low.size;have:=aj.out;omega
       have cH:=anh ae.out.rows (by rw [bM.out];exact an.out.1) cG.out ae.out.box dQ.out cA.out eT.out dw.out bt;rw [<-aW] at cH;have aQ:Below base W3 cv:=by
        rw [aW];exact (ae.out.low.trans (dw.out.mono bt)).setCell (p:=⟨LB,1,none⟩) (by dsimp only;have:=cP.out;have:=aY.out.low.size;have:=aj.out;omega) _
       obtain⟨m0,m1,m2,m3,m4,m5⟩:=(cH.at (p := .vBlk) trivial (g:=LB) (n:=1) (c:=1) (i:=0) (by rw [aag _ _ (by simp)];exact ae.out.box) rfl).1.get6;simp only [Nat.zero_mul,Aab] at m0 m1 m2 m3 m4 m5;have dR:CpB W3 cv base bs xss ai [.slice a5 pn c5,.slice a9 ln c9,.int .i64 ek,.bool er,.int .i64 en,.slice ta tn tc] (.slice (some ⟨R,0,none⟩) n al) (.slice a5 pn c5) (.slice a9 ln c9) (.slice (some ⟨LB,0,none⟩) 1 1) k 0 _:=⟨cH,by rw [aag _ _ (by simp)];exact ae.out.blks,by rw [aag _ _ (by simp)];exact ae.out.phis,by rw [aaj],by rw [aag _ _ (by simp)];exact ae.out.box,aQ⟩
       have dU:=hid dR;have eG:ln<=1048576:=by rw [an.out.2.1];exact cx.out.list
       clear aW bt cH aQ dR g0 g1 g2 g3 g4 g5 f1 zL dQ dw dC;go_wp2_with fail;clear m0 m1 m2 m3 m4 m5;go_loopw [49] (fun s49 wr=>∃(j:Nat) (U:Pth->Value),j<=ln∧s49 = .int .i64 (j:Int)∧CpB W3 wr base bs xss ai [.slice a5 pn c5,.slice a9 ln c9,.int .i64 ek,.bool er,.int .i64 en,.slice ta tn tc] (.slice (some ⟨R,0,none⟩) n al) (.slice a5 pn c5) (.slice a9 ln c9) (.slice (some ⟨LB,0,none⟩) 1 1) k j U) (fun s49 _=>ln - (intOf s49).toNat)
       case atStart=>exact⟨0,_,Aaj _,rfl,dU.out⟩
       case round =>
        clear dU ae U;obtain⟨j,U,hj,rfl,ah⟩:=hrel;have ae:=hid ah;obtain⟨g0,g1,g2,g3,g4,g5⟩:=(ah.rows.at (p := .vBlk) trivial (g:=LB) (n:=1) (c:=1) (i:=0) ah.box rfl).1.get6;simp only [Nat.zero_mul,Aab] at g0 g1 g2 g3 g4 g5
        by_cases hjn:j<ln
        . obtain⟨y,hy⟩:∃y,x.list[j]?=some y:=⟨_,Aaa (by have:=an.out.2.1;omega)⟩
          obtain⟨cs,af,b9⟩:=eL.out j y hy;obtain⟨fa,fc,rfl,bo,-⟩:=b9.opens;obtain⟨fn,az⟩:∃fn,fn=y.args.length:=⟨_,rfl⟩
          have bC:fn<=1048576:=by rw [az];exact cx.out.args y (Aae hy)
          rw [<-az] at bo;obtain⟨y0,dO⟩:∃y0,y0=y.op:=⟨_,rfl⟩
          obtain⟨y1,aT⟩:∃y1,y1=y.dst:=⟨_,rfl⟩
          obtain⟨y2,cJ⟩:∃y2,y2=y.a.reg:=⟨_,rfl⟩
          obtain⟨y3,dZ⟩:∃y3,y3=y.a.n:=⟨_,rfl⟩
          obtain⟨y4,ep⟩:∃y4,y4=y.b.reg:=⟨_,rfl⟩
          obtain⟨y5,dy⟩:∃y5,y5=y.b.n:=⟨_,rfl⟩
          obtain⟨y6,dM⟩:∃y6,y6=y.fn:=⟨_,rfl⟩
          have aZ:0<(adr bs xss ai [.slice a5 pn c5,.slice a9 ln c9,.int .i64 ek,.bool er,.int .i64 en,.slice ta tn tc] k j U (.list k)).length:=by simp only [adr,if_true];rw [Abf,cA.out];omega
          obtain⟨Q,cY,bA,-,-,bX,bu⟩:=ah.rows.addr (p := .list k) (Aac k) aZ;rw [ah.list] at bA;have df:a9=some ⟨Q,0,none⟩:=by injection bA
          subst df;have be:(adr bs xss ai [.slice a5 pn c5,.slice (some ⟨Q,0,none⟩) ln c9,.int .i64 ek,.bool er,.int .i64 en,.slice ta tn tc] k j U (.list k))[j]?=some [.int .i64 y0,.int .i64 y1,.bool y2,.int .i64 y3,.bool y4,.int .i64 y5,.int .i64 y6,.slice fa fn fc]:=by
           simp only [adr,if_true];rw [aai,af,az,dO,aT,cJ,dZ,ep,dy,dM];simp
          obtain⟨aI,b4⟩:=ah.rows.at (p := .list k) (Aac k) ah.list be;have au:aal wr Q (j * 8) [.int .i64 y0,.int .i64 y1,.bool y2,.int .i64 y3,.bool y4,.int .i64 y5,.int .i64 y6,.slice fa fn fc]:=aI;obtain⟨q0,q1,q2,q3,q4,q5,q6,q7⟩:=au.get8;have qz:=b4 (j * 8+7);have bZ:¬Q=LB:=by
           intro e;have:=ah.rows.apart (.list k) .vBlk (Aac k) trivial (by simp) Q (by rw [ah.list];rfl);rw [ah.box] at this;exact this (by rw [e];rfl)
          have zL:LB<wr.heap.size:=aac g0;have cT:=hid bo;have Hp:=hid hy;have di:Hid (ai[j]?=some (abN y (.slice fa fn fc))):=by show _=_;rw [az];exact af
          have cM:=hid az;have cO:=hid bZ;have cV:Hid (base<=Q):=bX;clear af b9 bo aZ bA aI b4 au hy az be bZ ah dO aT cJ dZ ep dy dM;go_upto_region 15 with (fail)
          obtain⟨W7,aK⟩:∃W7,W7=wr.alloc (.cells #[.int .i64 y0,.int .i64 y1,.bool y2,.int .i64 y3,.bool y4,.int .i64 y5,.int .i64 y6,.slice fa fn fc] 49):=⟨_,rfl⟩
          have ax:Below wr.heap.size wr W7:=by rw [aK];exact bE
          obtain⟨PB,aG⟩:∃PB,PB=wr.heap.size:=⟨_,rfl⟩
          have b1:W7.heap[PB]?=some (.cells #[.int .i64 y0,.int .i64 y1,.bool y2,.int .i64 y3,.bool y4,.int .i64 y5,.int .i64 y6,.slice fa fn fc] 49 (0,0)):=by rw [aK,aG];exact heap_alloc_new _ _
          have b6:W7.heap.size=PB+1:=by rw [aK,aG];simp
          rw [<-aK,<-aG];have p1:=(aad (cs:=[_,_,_,_,_,_,_,_]) b1) 7 _ rfl;rw [Aab] at p1;have aC:Q<PB∧LB<PB:=by rw [aG];exact⟨bu,zL⟩
          have bw:Hid (W7.drew.cell? ⟨LB,1,none⟩=some (.slice (some ⟨Q,0,none⟩) ln c9)∧W7.drew.cell? ⟨PB,7,none⟩=some (.slice fa fn fc)):=⟨aab g1 (ax.trans ((Below.refl W7.heap.size W7).drew.mono ax.size)),p1⟩
          have bn:Hid (W7.cell? ⟨Q,j * 8+7,none⟩=some (.slice fa fn fc)∧W7.frozen? ⟨Q,j * 8+7,none⟩=false):=⟨aab q7 ax,(ax.frozen (p:=⟨Q,j * 8+7,none⟩) bu).trans qz⟩
          have av:Hid (Below w.heap.size w W7.drew):=by
           have h:=aL.out _ (ae.out.low.trans (ax.mono (by have:=ae.out.low.size;have:=aj.out;omega)));show Below _ _ _;exact h.trans ((Below.refl W7.heap.size W7).drew.mono h.size)
          have dk:=hid (ac5 cT.out av.out bC);have aP:Hid (Below wr.heap.size wr W7):=ax;have cg:Hid (PB=wr.heap.size∧Q<PB∧LB<PB∧W7.heap.size=PB+1):=⟨aG,aC.1,aC.2,b6⟩
          clear aK ax aG b1 b6 p1 aC g0 g1 g2 g3 g4 g5 q0 q1 q2 q3 q4 q5 q6 q7 qz zL bu bX av
          go_region_held3 (fun w' => w'.cell? ⟨LB, 1, none⟩ = some (.slice (some ⟨Q, 0, none⟩) ln c9) ∧ w'.cell? ⟨PB, 7, none⟩ = some (.slice fa fn fc))
           ((first | with_reducible exact dt.out | with_reducible exact bp.out | with_reducible exact bw.out))
           ((go_at_call 84; (with_reducible refine dk.out.mono ?_); rintro e w8 ⟨a8, c8, rfl, bR, aX⟩
             have ar : Below W7.heap.size W7 w8 := (Below.refl W7.heap.size W7).drew.trans aX
             have bp : Hid (w8.cell? ⟨LB, 1, none⟩ = some (.slice (some ⟨Q, 0, none⟩) ln c9) ∧ w8.cell? ⟨PB, 7, none⟩ = some (.slice fa fn fc)) := ⟨aab bw.out.1 aX, aab bw.out.2 aX⟩
             have r1 := aab bn.out.1 ar
             have rz := (ar.frozen (p := ⟨Q, j * 8 + 7, none⟩) (aac bn.out.1)).trans bn.out.2
             have dt : Hid ((w8.setCell ⟨Q, j * 8 + 7, none⟩ (.slice a8 fn c8)).cell? ⟨LB, 1, none⟩ = some (.slice (some ⟨Q, 0, none⟩) ln c9) ∧ (w8.setCell ⟨Q, j * 8 + 7, none⟩ (.slice a8 fn c8)).cell? ⟨PB, 7, none⟩ = some (.slice fa fn fc)) := by
              refine ⟨?_, ?_⟩
              . exact (aam _ (fun e => cO.out e.symm) _ _).trans bp.out.1
              . exact (aam _ (fun e => absurd cg.out.2.1 (by rw [e]; exact Abp _)) _ _).trans bp.out.2
             have cN := hid bR
             have aO := hid ar
             clear bR aX ar))
          go_wp2_with fail;go_roundw
          case rel =>
           have de:base<=wr.heap.size:=by have:=ae.out.low.size;have:=aj.out;omega
           have aF:=aou (P:=Q) (pn:=ln) (c:=c9) (m:=fn) (v := .slice a8 fn c8) ae.out.rows (cg.out.1 ▸ (aP.out.trans (aO.out.mono aP.out.size))) (N:=W7.heap.size) aP.out.size cN.out cM.out.symm (by rw [bM.out];exact Hp.out) (f0 := .slice fa fn fc) di.out (by rw [cA.out,bM.out];exact an.out.2.1) ae.out.list (by have:=ae.out.low.size;have:=aj.out;omega);exact⟨j+1,_,by omega,by go_num,⟨aF,ae.out.blks,ae.out.phis,ae.out.list,ae.out.box,(ae.out.low.trans ((aP.out.trans (aO.out.mono aP.out.size)).mono de)).setCell (p:=⟨Q,j * 8+7,none⟩) cV.out _⟩⟩
          case measure=>simp [intOf];omega
        . obtain⟨wk,eA⟩:∃wk:World,wk=wr:=⟨_,rfl⟩
          subst eA;have dq:ln=j:=by omega
          subst dq;have zL:LB<wk.heap.size:=aac g0;have f5:=(ah.rows.at (p := .vBlk) trivial (g:=LB) (n:=1) (c:=1) (i:=0) ah.box rfl).2 5;clear hjn hj ah;go_upto_region 18 with (go_at_call 28;refine (ec.out wk (aL.out wk ae.out.low)).mono ?_;rintro e cK ⟨cW,dn,rfl,cq,aq⟩;have cr:=hid cq;have aV:=hid aq;have g0:=aab g0 aq;have g1:=aab g1 aq;have g2:=aab g2 aq;have g3:=aab g3 aq;have g4:=aab g4 aq;have g5:=aab g5 aq;have f5:=(aq.frozen (p:=⟨LB,5,none⟩) zL).trans f5;have zL:=aac g5;clear cq aq)
          obtain⟨bj,aw⟩:∃bj,bj=cK.setCell ⟨LB,5,none⟩ (.slice cW tn dn):=⟨_,rfl⟩
          rw [<-aw];have a6:base<=wk.heap.size:=by have:=ae.out.low.size;have:=aj.out;omega
          have br:Below base wk cK:=aV.out.mono a6;have aB:Below base W3 bj:=by
           rw [aw];exact (ae.out.low.trans br).setCell (p:=⟨LB,5,none⟩) (by dsimp only;have:=cP.out;have:=aY.out.low.size;have:=aj.out;omega) _
          have b7:cp=x.fin.to.map fun t=>[Value.int .i64 t]:=ajt _ (by rw [eR.out];exact an.out.2.2.1) eJ.out (fun cs x h=>h.1);have bq:=cr.out;rw [b7] at bq;have bJ:Hid (base<=R∧¬R=LB∧R<wk.heap.size):=by
           show _∧_;have et:0<(adr bs xss ai [.slice a5 pn c5,.slice a9 ln c9,.int .i64 ek,.bool er,.int .i64 en,.slice ta tn tc] k ln U .blks).length:=by simp only [adr,ae5];rw [Abf,bV.out];omega
           obtain⟨g,c,e,-,-,h1,h2⟩:=ae.out.rows.addr (p := .blks) trivial et;rw [ae.out.blks] at e;cases e;refine⟨h1,fun e=>?_,h2⟩;have:=ae.out.rows.apart .blks .vBlk trivial trivial (by simp) R (by rw [ae.out.blks];rfl);rw [ae.out.box] at this;exact this (by rw [e];rfl)
          obtain⟨cm,dI⟩:=ae.out.rows.at (p := .blks) trivial (g:=R) (n:=n) (c:=al) (i:=k) ae.out.blks (cs:=[.slice pa pn pc,.slice la ln lc,.int .i64 ek,.bool er,.int .i64 en,.slice ta tn tc]) (by simp only [adr,ae5];rw [aai,Hq.out];simp);have aA:∀o u,wk.cell? ⟨R,o,none⟩=some u->bj.cell? ⟨R,o,none⟩=some u:=fun o u h=>by
           rw [aw];exact (aam _ bJ.out.2.1 _ _).trans (aab h aV.out)
          have ak:∀o,bj.frozen? ⟨R,o,none⟩=false:=fun o=>by
           rw [aw,World.frozen?_setCell];exact (aV.out.frozen (p:=⟨R,o,none⟩) bJ.out.2.2).trans (dI o)
          have bl:aal wk R (k * 6) [.slice pa pn pc,.slice la ln lc,.int .i64 ek,.bool er,.int .i64 en,.slice ta tn tc]:=cm;obtain⟨t0,t1,t2,t3,t4,t5⟩:=bl.get6;have t0:=aA _ _ t0;have t1:=aA _ _ t1;have t2:=aA _ _ t2;have t3:=aA _ _ t3;have t4:=aA _ _ t4;have t5:=aA _ _ t5;have z0:=ak (k * 6);have z1:=ak (k * 6+1);have z2:=ak (k * 6+2);have z3:=ak (k * 6+3);have z4:=ak (k * 6+4);have z5:=ak (k * 6+5);have aH:∀o u,cK.cell? ⟨LB,o,none⟩=some u->o≠5->bj.cell? ⟨LB,o,none⟩=some u:=fun o u h ho=>by
           rw [aw,aaE g5,if_neg ho];exact h
          have l0:=aH _ _ g0 (by decide);have l1:=aH _ _ g1 (by decide);have l2:=aH _ _ g2 (by decide);have l3:=aH _ _ g3 (by decide);have l4:=aH _ _ g4 (by decide);have l5:bj.cell? ⟨LB,5,none⟩=some (.slice cW tn dn):=by rw [aw,aaE g5,if_pos rfl]
          have bU:bj.heap[UB]?=some (.cells #[.string nm,.int .i64 p,.int .i64 r,.slice (some ⟨R,0,none⟩) n al] 37 (0,0)):=(aB.block UB aj.out.2.1).trans dG.out;have d3:=(aad (cs:=[_,_,_,_]) bU) 3 _ rfl;rw [Aab] at d3;have db:=hid aw;have bz:=hid aB;have eX:=hid br;have cS:=hid bq;clear cm dI aA ak bl aH bU aw aB b7 bq br a6 g0 g1 g2 g3 g4 g5 f5 zL cr;go_wp2_with fail;go_roundw
          case rel =>
           obtain⟨e1,e2,e3,e4,e5,e6⟩:=an.out;have hx:bs[k]?=some x:=by
            have ck:k<bs.length:=by rw [cC.out];exact hkn
            rw [Aaa ck,<-bM.out,aa2 (Aaa ck)]
           have a6:base<=wk.heap.size:=by have:=ae.out.low.size;have:=aj.out;omega
           have dz:=ae.out.rows;rw [e4,e5,e6] at dz;have aF:=aov (W':=cK) (LB:=LB) (tv := .slice cW tn dn) (tn:=tn) (R:=R) (n:=n) (c:=al) dz hx e2 cA.out Hq.out (by rw [bV.out,cC.out]) ae.out.blks ae.out.box ae.out.phis ae.out.list cS.out e3.symm aV.out a6;rw [<-db.out,<-e4,<-e5,<-e6] at aF;refine⟨k+1,_,by omega,by go_num,⟨aF,by rw [aag _ _ (by simp)];exact ae.out.blks,?_⟩⟩;have hl:=bJ.out.1;exact (((((bz.out.setCell (p:=⟨R,k * 6,none⟩) hl _).setCell (p:=⟨R,k * 6+1,none⟩) hl _).setCell (p:=⟨R,k * 6+2,none⟩) hl _).setCell (p:=⟨R,k * 6+3,none⟩) hl _).setCell (p:=⟨R,k * 6+4,none⟩) hl _).setCell (p:=⟨R,k * 6+5,none⟩) hl _
          case measure=>simp [intOf];omega
  . have cR:k=n:=by omega
    subst cR;have bU:wo.heap[UB]?=some (.cells #[.string nm,.int .i64 p,.int .i64 r,.slice aE k al] 37 (0,0)):=(aS.low.block UB aj.out.2.1).trans dG.out;have bB:wo.heap[UO]?=some (.cells #[.string ⟨#[]⟩,.int .i64 0,.int .i64 0,.slice none 0 0] 37 (0,0)):=(aS.low.block UO aj.out.2.2.1).trans eE.out;obtain⟨d0,d1,d2,d3⟩:=(aad (cs:=[_,_,_,_]) bU).get4;obtain⟨o0,o1,o2,o3⟩:=(aad (cs:=[_,_,_,_]) bB).get4;rw [Aab] at d1 d2 d3 o1 o2 o3;have z0:=aaq bB 0;have z1:=aaq bB 1;have z2:=aaq bB 2;have z3:=aaq bB 3;have eu:aal wo UO 0 [.string ⟨#[]⟩,.int .i64 0,.int .i64 0,.slice none 0 0]:=aad bB;clear bU bB aS hkn;go_wp2_with fail;have eB:=asW (u0 := .string nm) (u1 := .int .i64 p) (u2 := .int .i64 r) (u3 := .slice aE k al) eu;refine bodyPost_ret (adP rfl rfl eB) rfl ?_;have cZ:=aY.out.low;have hr:=(((aY.out.rows.setLow (a:=⟨UO,0,none⟩) aj.out.2.2.1 (.string nm)).setLow (a:=⟨UO,1,none⟩) aj.out.2.2.1 (.int .i64 p)).setLow (a:=⟨UO,2,none⟩) aj.out.2.2.1 (.int .i64 r)).setLow (a:=⟨UO,3,none⟩) aj.out.2.2.1 (.slice aE k al);have dN:bs.length=k:=cC.out;refine⟨V,base,by rw [aY.out.blks],aj.out.1,aqr (xss:=xss) (by rw [dN];exact hr) (by rw [bV.out,dN]),?_⟩;have h0:=dV.out.trans (cZ.mono aj.out.1);have hl:w.heap.size<=UO:=by have:=bQ.out;omega
    exact (((h0.setCell (p:=⟨UO,0,none⟩) hl _).setCell (p:=⟨UO,1,none⟩) hl _).setCell (p:=⟨UO,2,none⟩) hl _).setCell (p:=⟨UO,3,none⟩) hl _
end
end Go.Proofs.YtpeejlpcikefcaaGreatDoor
