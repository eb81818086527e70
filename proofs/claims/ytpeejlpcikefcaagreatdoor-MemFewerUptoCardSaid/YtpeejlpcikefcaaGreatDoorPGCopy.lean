import Derived.Test.YtpeejlpcikefcaaGreatDoorPFour
import Derived.Deep.DeepCutAuto
import Derived.Deep.RegionHeld3
/- A queue of numbers: a row that is read from its head on (sliced on) and grows at its end; a family of rows of which one is turned. No function of the program in sight. A function that a call works upon in place: its rows, each in a block of its own, indexed by where they stand in it. A function that is worked upon in place, as data: what its rows hold, and how it reads. The cells of a list in memory, as a list of lists; they are one cell each. graph.Copy, plain: what the rows hold at each step of its loops. graph.Copy: a function of which all can be written into. -/
namespace Go.Proofs.YtpeejlpcikefcaaGreatDoor
section
open Go.RowKit
end
section
open Go.RowKit
inductive Pth where
 | blks
 | phis (b:Nat)
 | src (b p:Nat)
 | list (b:Nat)
 | args (b i:Nat)
 | «to» (b:Nat)
 | vBlk
 | vPhi
 | vIns
 deriving DecidableEq
def Pth.ty : Pth -> TypeId
 | .blks=>46
 | .phis _=>115
 | .src _ _=>41
 | .list _=>49
 | .args _ _=>41
 | .to _=>3
 | .vBlk=>46
 | .vPhi=>115
 | .vIns=>49
def Pth.sz : Pth -> Nat
 | .blks=>6
 | .phis _=>2
 | .src _ _=>2
 | .list _=>8
 | .args _ _=>2
 | .to _=>1
 | .vBlk=>6
 | .vPhi=>2
 | .vIns=>8
theorem Pth.sz_pos(p:Pth):0<p.sz:=by cases p <;> simp [Pth.sz]
def aaU {α:Type}(f:Pth->α)(p:Pth)(x:α):Pth->α:=fun q=>if q=p then x else f q
theorem aaj {α:Type}(f:Pth->α)(p:Pth)(x:α):aaU f p x p=x:=if_pos rfl
theorem aag {α:Type}(f:Pth->α){p q:Pth}(x:α)(h:q≠p):aaU f p x q=f q:=if_neg h
structure aah (W:World)(base:Nat)(ok:Pth->Prop)(V:Pth->Value)(C:Pth->List (List Value)):Prop where
 own:∀p,ok p->W.ownsRow base p.ty p.sz (V p) (C p).length (C p).flatten
 wid:∀p,ok p->∀cs∈C p,cs.length=p.sz
 apart:∀p q,ok p->ok q->p≠q->∀k,(V p).ownBlock=some k->(V q).ownBlock≠some k
section
variable {W W' : World} {base : Nat} {ok : Pth -> Prop} {V : Pth -> Value} {C : Pth -> List (List Value)}
theorem aah.lt(h:aah W base ok V C){p:Pth}(hp:ok p):∀k,(V p).ownBlock=some k->base<=k∧k<W.heap.size:=fun k hk=>(h.own p hp).lt k hk
theorem aah.off(h:aah W base ok V C){row:Option Nat}(hg:W.grownBy W' row)(hr:∀p,ok p->∀k,(V p).ownBlock=some k->row≠some k):aah W' base ok V C :=
 ⟨fun p hp => (h.own p hp).kept hg (by
   cases e : (V p).ownBlock with
   | none => exact .inl rfl
   | some k => exact .inr (fun e2 => hr p hp k e e2.symm)), h.wid, h.apart⟩
theorem aah.later(h:aah W base ok V C)(hb:Below W.heap.size W W'):aah W' base ok V C :=
 h.off (row:=none) ⟨hb.os,hb.tape,hb.output,hb.size,fun k hk _=>hb.block k hk⟩ (fun _ _ _ _ e=>by cases e)
theorem aah.setLow(h:aah W base ok V C){a:Addr}(ha:a.block<base)(u:Value):aah (W.setCell a u) base ok V C :=
 ⟨fun p hp=>ownsRow_setCell_below (h.own p hp) ha u,h.wid,h.apart⟩
theorem aah.less(h:aah W base ok V C){ok':Pth->Prop}(ho:∀p,ok' p->ok p):aah W base ok' V C :=
 ⟨fun p hp=>h.own p (ho p hp),fun p hp=>h.wid p (ho p hp),fun p q hp hq=>h.apart p q (ho p hp) (ho q hq)⟩
theorem aah.congr(h:aah W base ok V C){V':Pth->Value}{C':Pth->List (List Value)}(hV:∀p,ok p->V' p=V p)(hC:∀p,ok p->C' p=C p):aah W base ok V' C' :=
 ⟨fun p hp=>by rw [hV p hp,hC p hp];exact h.own p hp,fun p hp=>by rw [hC p hp];exact h.wid p hp,fun p q hp hq=>by rw [hV p hp,hV q hq];exact h.apart p q hp hq⟩
theorem aah.put (h : aah W base ok V C) (p : Pth) {v' : Value} {xss : List (List Value)} (ho : W'.ownsRow base p.ty p.sz v' xss.length xss.flatten) (hw : ∀ cs ∈ xss, cs.length = p.sz)
 {row:Option Nat} (hg:W.grownBy W' row) (hr:∀q,ok q->q≠p->∀k,(V q).ownBlock=some k->row≠some k) (hb:∀k,v'.ownBlock=some k->row=some k∨W.heap.size<=k):aah W' base (fun q=>ok q∨q=p) (aaU V p v') (aaU C p xss):=by
 refine⟨fun q hq=>?_,fun q hq=>?_,fun q1 q2 h1 h2 aH k hk=>?_⟩
 . by_cases e:q=p
   . subst e;rw [aaj,aaj];exact ho
   . rw [aag _ _ e,aag _ _ e]
     have bO:=hq.resolve_right e;refine (h.own q bO).kept hg ?_;cases e2:(V q).ownBlock with
     | none=>exact .inl rfl
     | some k=>exact .inr (fun e3=>hr q bO e k e2 e3.symm)
 . by_cases e:q=p
   . subst e;rw [aaj];exact hw
   . rw [aag _ _ e];exact h.wid q (hq.resolve_right e)
 . by_cases e1:q1=p
   . have e2:q2≠p:=fun e=>aH (e1.trans e.symm)
     rw [e1,aaj] at hk;rw [aag _ _ e2];intro h3;rcases hb k hk with h4 | h4
     . exact hr q2 (h2.resolve_right e2) e2 k h3 h4
     . have:=(h.lt (h2.resolve_right e2) k h3).2;omega
   . rw [aag _ _ e1] at hk
     by_cases e2:q2=p
     . rw [e2,aaj]
       intro h3;rcases hb k h3 with h4 | h4
       . exact hr q1 (h1.resolve_right e1) e1 k hk h4
       . have:=(h.lt (h1.resolve_right e1) k hk).2;omega
     . rw [aag _ _ e2];exact h.apart q1 q2 (h1.resolve_right e1) (h2.resolve_right e2) aH k hk
theorem aah.turn (h : aah W base ok V C) {p : Pth} (hp : ok p) {v' : Value} {xss : List (List Value)} (ho : W'.ownsRow base p.ty p.sz v' xss.length xss.flatten) (hw : ∀ cs ∈ xss, cs.length = p.sz)
 (hg:W.grownBy W' (V p).ownBlock) (hb:∀k,v'.ownBlock=some k->(V p).ownBlock=some k∨W.heap.size<=k):aah W' base ok (aaU V p v') (aaU C p xss) :=
 (h.put p ho hw hg (fun q hq aH k hk e=>h.apart q p hq hp aH k hk e) hb).less (fun _q hq => .inl hq)
theorem aah.cell(h:aah W base ok V C){p:Pth}(hp:ok p){i j:Nat}{cs:List Value}{u:Value}(hi:(C p)[i]?=some cs)(hj:cs[j]?=some u) :
 ∃g c,V p = .slice (some ⟨g,0,none⟩) (C p).length c∧(C p).length<=c∧base<=g∧g<W.heap.size∧W.cell? ⟨g,i * p.sz+j,none⟩=some u∧W.frozen? ⟨g,i * p.sz+j,none⟩=false:=by
 have ay:i<(C p).length:=(Aad.1 hi).1;have eE:j<p.sz:=by rw [<-h.wid p hp cs (Aae hi)];exact (Aad.1 hj).1
 rcases (h.own p hp).2 with⟨h1,h2⟩ | ⟨g,cap,cur,e,h3,h4,h5,h6,h7,h8⟩
 . omega
 . refine⟨g,cap,e,h5,h3,(Aag.1 h4).1,?_,by simp [World.frozen?,h4]⟩
   have hf:=aeq (C p) (fun i cs hi=>h.wid p hp cs (Aae hi)) i j cs hi eE;rw [hj,<-h8,Abk] at hf;rw [aaW h4];split at hf
   . simpa using hf
   . cases hf
end
theorem ahB {xss:List (List Value)}{sz i j:Nat}(hw:∀cs∈xss,cs.length=sz){cs:List Value}(hi:xss[i]?=some cs)(hj:j<sz)(u:Value):(xss.set i (cs.set j u)).flatten=xss.flatten.set (i * sz+j) u:=by
 induction xss generalizing i with
 | nil=>simp at hi
 | cons y xss ih =>
   have hy:=hw y (Aa3 ..);cases i with
   | zero =>
     have e:y=cs:=by simpa using hi
     subst e;rw [List.set_cons_zero,Abz,Abz,Nat.zero_mul,Aab,List.set_append_left _ _ (by omega)]
   | succ i =>
     rw [List.set_cons_succ,Abz,Abz,ih (fun cs h=>hw cs (Aa2 _ h)) (by simpa using hi),List.set_append_right _ _ (by rw [hy,Nat.succ_mul];omega),hy]
     congr 2
     rw [Nat.succ_mul];omega
section
variable {W W' : World} {base : Nat} {ok : Pth -> Prop} {V : Pth -> Value} {C : Pth -> List (List Value)}
theorem aah.set(h:aah W base ok V C){p:Pth}(hp:ok p){g n c i j:Nat}(hv:V p = .slice (some ⟨g,0,none⟩) n c){cs:List Value}(hi:(C p)[i]?=some cs)(hj:j<p.sz)(u:Value) :
 aah (W.setCell ⟨g,i * p.sz+j,none⟩ u) base ok V (aaU C p ((C p).set i (cs.set j u))):=by
 have hw:=h.wid p hp;have ay:i<(C p).length:=(Aad.1 hi).1;have hg:W.grownBy (W.setCell ⟨g,i * p.sz+j,none⟩ u) (V p).ownBlock:=⟨rfl,rfl,rfl,by simp [World.setCell],fun k _ aH=>Below.heap_setCell _ _ _ _ (fun e=>aH (by rw [hv,e];rfl))⟩
 have ho:(W.setCell ⟨g,i * p.sz+j,none⟩ u).ownsRow base p.ty p.sz (V p) ((C p).set i (cs.set j u)).length ((C p).set i (cs.set j u)).flatten:=by
  obtain⟨h0,h1⟩:=h.own p hp;rw [ahB hw hi hj,Aar];refine⟨by simpa using h0,?_⟩;rcases h1 with⟨e,h2⟩ | ⟨g',cap,cur,e,h3,h4,h5,h6,h7,h8⟩
  . rw [e] at hv;cases hv
  . rw [e] at hv
    cases hv;refine .inr ⟨g,_,cur.setIfInBounds (i * p.sz+j) u,e,h3,aak h4 _,h5,h6,by simpa using h7,?_⟩;rw [Array.toList_setIfInBounds,List.take_set,h8]
 have h2 := h.turn hp ho (fun x hx => by
  rcases List.mem_or_eq_of_mem_set hx with h3 | h3
  . exact hw x h3
  . rw [h3, Aar]; exact hw cs (Aae hi)) hg (fun k hk => .inl hk)
 refine h2.congr (fun q _=>?_) (fun q _=>rfl)
 by_cases e:q=p
 . rw [e,aaj]
 . rw [aag _ _ e]
end
theorem ab4 {W:World}{base base' sz n:Nat}{e:TypeId}{v:Value}{xs:List Value}(h:W.ownsRow base e sz v n xs)(hb:base'<=base):W.ownsRow base' e sz v n xs:=by
 refine⟨h.1,?_⟩;rcases h.2 with h1 | ⟨g,cap,cur,e1,h2,h3⟩
 . exact .inl h1
 . exact .inr ⟨g,cap,cur,e1,Aai hb h2,h3⟩
section
variable {W W' : World} {base : Nat} {ok : Pth -> Prop} {V : Pth -> Value} {C : Pth -> List (List Value)}
theorem aah.box(h:aah W base ok V C)(p:Pth){cs:List Value}(af:cs.length=p.sz)(ad:base<=W.heap.size) :
 aah (W.alloc (.cells cs.toArray p.ty)) base (fun q=>ok q∨q=p) (aaU V p (.slice (some ⟨W.heap.size,0,none⟩) 1 1)) (aaU C p [cs]):=by
 refine h.put p (row:=none) ⟨by simp [af],.inr ⟨W.heap.size,1,cs.toArray,rfl,ad,heap_alloc_new _ _,Aac _,by unfold maxLen;decide,by simp [af],?_⟩⟩ (fun x hx=>by rw [Aax] at hx;rw [hx,af]) (World.grownBy_alloc _ _ _) (fun _ _ _ _ _ e=>by cases e) (fun k hk=>by cases hk;exact .inr (Aac _));show cs.take (1 * p.sz)=[cs].flatten;rw [Nat.one_mul,<-af,Aa0];simp
theorem aah.fresh(h:aah W base ok V C)(p:Pth){v:Value}{n:Nat}{xss:List (List Value)}(ho:W'.ownsRow W.heap.size p.ty p.sz v n xss.flatten)(hn:xss.length=n)(hw:∀cs∈xss,cs.length=p.sz)(hb:Below W.heap.size W W')(ad:base<=W.heap.size) :
 aah W' base (fun q=>ok q∨q=p) (aaU V p v) (aaU C p xss):=by
 subst hn;exact h.put p (row:=none) (ab4 ho ad) hw ⟨hb.os,hb.tape,hb.output,hb.size,fun k hk _=>hb.block k hk⟩ (fun _ _ _ _ _ e=>by cases e) (fun k hk => .inr (ho.lt k hk).1)
end
end
section
open Go.RowKit
def aop:DBlock:=⟨[],[],⟨0,⟨false,0⟩,[]⟩⟩
def abw:acr:=⟨0,[]⟩
def abM:aaK:=⟨0,0,⟨false,0⟩,⟨false,0⟩,0,[]⟩
def blkOf(bs:List DBlock)(b:Nat):DBlock:=bs.getD b aop
variable {bs:List DBlock}
theorem aaZ{b:Nat}{x:DBlock}(h:bs[b]?=some x):blkOf bs b=x:=by unfold blkOf;rw [Aaf,h];rfl
theorem aeA{b:Nat}(h:bs.length<=b):blkOf bs b=aop:=by unfold blkOf;rw [Aaf,Aap h];rfl
def aaz(v:aaA):List Value:=[.bool v.reg,.int .i64 v.n]
def abN(x:aaK)(u:Value):List Value:=[.int .i64 x.op,.int .i64 x.dst,.bool x.a.reg,.int .i64 x.a.n,.bool x.b.reg,.int .i64 x.b.n,.int .i64 x.fn,u]
def abe(x:DBlock)(p l t:Value):List Value:=[p,l,.int .i64 x.fin.kind,.bool x.fin.on.reg,.int .i64 x.fin.on.n,t]
def okP (bs : List DBlock) : Pth -> Prop
 | .blks=>True
 | .phis b=>b<bs.length
 | .src b p=>p<(blkOf bs b).phis.length
 | .list b=>b<bs.length
 | .args b i=>i<(blkOf bs b).list.length
 | .to b=>b<bs.length
 | .vBlk=>False
 | .vPhi=>False
 | .vIns=>False
def aae (bs : List DBlock) (V : Pth -> Value) : Pth -> List (List Value)
 | .blks=>bs.mapIdx fun b x=>abe x (V (.phis b)) (V (.list b)) (V (.to b))
 | .phis b=>(blkOf bs b).phis.mapIdx fun i p=>[.int .i64 p.dst,V (.src b i)]
 | .src b p=>((blkOf bs b).phis.getD p abw).src.map aaz
 | .list b=>(blkOf bs b).list.mapIdx fun i x=>abN x (V (.args b i))
 | .args b i=>((blkOf bs b).list.getD i abM).args.map aaz
 | .to b=>(blkOf bs b).fin.to.map fun t=>[.int .i64 t]
 | .vBlk=>[]
 | .vPhi=>[]
 | .vIns=>[]
def abK(W:World)(base:Nat)(bs:List DBlock)(V:Pth->Value):Prop:=aah W base (okP bs) V (aae bs V)
structure aoq (x:DBlock):Prop where
 kind:I64 x.fin.kind
 on:I64 x.fin.on.n
 «to»:∀t∈x.fin.to,I64 t
 phi:∀p∈x.phis,I64 p.dst∧∀v∈p.src,I64 v.n
 ins:∀y∈x.list,I64 y.op∧I64 y.dst∧I64 y.a.n∧I64 y.b.n∧I64 y.fn∧∀v∈y.args,I64 v.n
variable {W:World}{base:Nat}{p:Pth}
theorem aah.read{α : Type}   {ok : Pth -> Prop} {V : Pth -> Value} {C : Pth -> List (List Value)} {r : Rp α} (h : aah W base ok V C)  (hp : ok p) {l : List α} (hl : (C p).length = l.length)
 (hr:∀(i:Nat) x,l[i]?=some x->∃cs,(C p)[i]?=some cs∧r (fun b=>base<=b∧b<W.heap.size) W cs x):SlAt (fun b=>base<=b∧b<W.heap.size) W p.sz r (V p) l:=by
 rcases (h.own p hp).2 with⟨e,h2⟩ | ⟨g,cap,cur,e,h3,h4,h5,h6,h7,h8⟩
 . have eO:l=[]:=Aba (by omega)
   subst eO;rw [e];exact⟨none,0,rfl,Aac _,by decide,fun h=>absurd rfl h⟩
 . unfold maxLen at h6
   refine⟨some ⟨g,0,none⟩,cap,by rw [e,hl],by omega,by omega,fun _=>⟨g,0,rfl,⟨h3,(Aag.1 h4).1⟩,fun i x hx=>?_⟩⟩;obtain⟨cs,hc,ez⟩:=hr i x hx;refine⟨cs,ez,h.wid p hp cs (Aae hc),fun j u hj=>?_⟩;obtain⟨g',c',e',-,-,-,aK,-⟩:=h.cell hp hc hj;rw [e] at e';cases e';rw [Aab];exact aK
theorem aai {α β:Type}(f:Nat->α->β)(l:List α)(i:Nat):(l.mapIdx f)[i]?=(l[i]?).map (f i):=by simp
variable {V:Pth->Value}
theorem abK.read(h:abK W base bs V)(hn:∀x∈bs,aoq x):SlAt (fun b=>base<=b∧b<W.heap.size) W 6 aa2 (V .blks) bs:=by
 refine aah.read (r:=aa2) h (p := .blks) trivial (by simp [aae]) (fun b x hx=>?_);have hb:b<bs.length:=(Aad.1 hx).1;have bK:=hn x (Aae hx);have aU:=aaZ hx;refine⟨_,by show (bs.mapIdx _)[b]?=_;rw [aai,hx];rfl,V (.phis b),V (.list b),_,rfl,?_,?_,V (.to b),rfl,?_,bK.kind,bK.on⟩
 . refine aah.read (r:=amb) h (p := .phis b) hb (by simp [aae,aU]) (fun i p hp=>?_)
   refine⟨_,by show ((blkOf bs b).phis.mapIdx _)[i]?=_;rw [aU,aai,hp];rfl,V (.src b i),rfl,?_,(bK.phi p (Aae hp)).1⟩;have cn:(blkOf bs b).phis.getD i abw=p:=by rw [aU,Aaf,hp];rfl
   refine aah.read (r:=agi) h (p := .src b i) (show i<(blkOf bs b).phis.length by rw [aU];exact (Aad.1 hp).1) (by simp only [aae];rw [cn,Aah]) (fun j v hv=>?_);exact⟨aaz v,by simp only [aae];rw [cn,Aak,hv];rfl,rfl,(bK.phi p (Aae hp)).2 v (Aae hv)⟩
 . refine aah.read (r:=acs) h (p := .list b) hb (by simp [aae,aU]) (fun i y hy=>?_)
   obtain⟨n1,n2,n3,n4,n5,n6⟩:=bK.ins y (Aae hy);refine⟨_,by show ((blkOf bs b).list.mapIdx _)[i]?=_;rw [aU,aai,hy];rfl,V (.args b i),rfl,?_,n1,n2,n3,n4,n5⟩;have cn:(blkOf bs b).list.getD i abM=y:=by rw [aU,Aaf,hy];rfl
   refine aah.read (r:=agi) h (p := .args b i) (show i<(blkOf bs b).list.length by rw [aU];exact (Aad.1 hy).1) (by simp only [aae];rw [cn,Aah]) (fun j v hv=>?_);exact⟨aaz v,by simp only [aae];rw [cn,Aak,hv];rfl,rfl,n6 v (Aae hv)⟩
 . refine aah.read (r:=acz) h (p := .to b) hb (by simp [aae,aU]) (fun i t ht=>?_)
   exact⟨[.int .i64 t],by show ((blkOf bs b).fin.to.map _)[i]?=_;rw [aU,Aak,ht];rfl,rfl,bK.to t (Aae ht)⟩
variable {ok:Pth->Prop}{C:Pth->List (List Value)}
theorem aah.addr(h:aah W base ok V C)(hp:ok p)(hi:0<(C p).length) :
 ∃g c,V p = .slice (some ⟨g,0,none⟩) (C p).length c∧(C p).length<=c∧c<=9223372036854775807∧base<=g∧g<W.heap.size:=by
 rcases (h.own p hp).2 with⟨h1,h2⟩ | ⟨g,cap,cur,e,h3,h4,h5,h6,h7,h8⟩
 . omega
 . unfold maxLen at h6
   exact⟨g,cap,e,h5,by omega,h3,(Aag.1 h4).1⟩
theorem aah.at(h:aah W base ok V C)(hp:ok p){g n c i:Nat}(hv:V p = .slice (some ⟨g,0,none⟩) n c){cs:List Value}(hi:(C p)[i]?=some cs) :
 aal W g (i * p.sz) cs∧∀o,W.frozen? ⟨g,o,none⟩=false:=by
 refine⟨fun j u hj=>?_,fun o=>?_⟩
 . obtain⟨g',c',e,-,-,-,aK,-⟩:=h.cell hp hi hj
   rw [hv] at e;cases e;exact aK
 . rcases (h.own p hp).2 with⟨h1,h2⟩ | ⟨g',cap,cur,e,h3,h4,-⟩
   . rw [hv] at h1;cases h1
   . rw [hv] at e
     cases e;simp [World.frozen?,h4]
theorem aah.shape(h:aah W base ok V C)(hp:ok p):∃a c,V p = .slice a (C p).length c:=by
 rcases (h.own p hp).2 with⟨h1,h2⟩ | ⟨g,cap,cur,e,-⟩
 . exact⟨none,0,by rw [h1,h2]⟩
 . exact⟨_,_,e⟩
end
section
open Go.RowKit
theorem amo {sz : Nat} : ∀ (xss : List (List Value)), (∀ cs ∈ xss, cs.length = sz) -> 0 < sz -> ∀ (k : Nat) u, xss.flatten[k]? = some u -> ∃ i j cs, k = i * sz + j ∧ xss[i]? = some cs ∧ cs[j]? = some u
 | [],_,_,k,u,h=>by simp at h
 | ys :: xss,hw,h0,k,u,h=>by
   have hy:=hw ys (Aa3 ..);rw [Abz] at h;rcases Abn k ys.length with hk | hk
   . rw [Abl hk] at h
     exact⟨0,k,ys,by omega,rfl,h⟩
   . rw [Aby hk] at h
     obtain⟨i,j,cs,e,h1,h2⟩:=amo xss (fun cs hc=>hw cs (Aa2 _ hc)) h0 (k - ys.length) u h;exact⟨i+1,j,cs,by rw [Nat.succ_mul];omega,by simpa using h1,h2⟩
theorem ahC {α β : Type} {P : α -> β -> Prop} : ∀ (l : List α), (∀ x ∈ l, ∃ y, P x y) -> ∃ ys : List β, ys.length = l.length ∧ ∀ (i : Nat) x, l[i]? = some x -> ∃ y, ys[i]? = some y ∧ P x y
 | [],_=>⟨[],rfl,fun i x h=>by simp at h⟩
 | a :: l,h=>by
   obtain⟨y,hy⟩:=h a (Aa3 ..);obtain⟨ys,h1,h2⟩:=ahC l fun x hx=>h x (Aa2 _ hx);refine⟨y :: ys,by simp [h1],fun i x hx=>?_⟩;cases i with
   | zero=>cases hx;exact⟨y,rfl,hy⟩
   | succ i=>exact h2 i x (by simpa using hx)
variable {S:Nat->Prop}{w:World}
theorem aeB{α:Type}{r:Rp α}{sz:Nat}{ao:Option Addr}{n c:Nat}{l:List α}(h:SlAt S w sz r (.slice ao n c) l)(h0:0<sz) :
 ∃xss:List (List Value),l.length=n∧xss.length=n∧(∀(i:Nat) x,l[i]?=some x->∃cs,xss[i]?=some cs∧r S w cs x)∧(∀cs∈xss,cs.length=sz)∧(ao=Option.none->n=0)∧∀b,ao=some b->∀(j:Nat) u,xss.flatten[j]?=some u->w.cell? (b.add j)=some u:=by
 obtain⟨fg,c',e,h1,h2,h3⟩:=h;cases e
 by_cases hl:l=[]
 . subst hl
   exact⟨[],rfl,rfl,fun i x h=>by simp at h,fun cs h=>absurd h (Aaq),fun _=>rfl,fun b _ j u h=>by simp at h⟩
 . obtain⟨b,off,ha,hS,eU⟩:=h3 hl
   subst ha
   obtain ⟨ys, aT, cH⟩ := ahC (P := fun (i : Nat) (cs : List Value) => ∃ x, l[i]? = some x ∧ r S w cs x ∧ cs.length = sz ∧ aal w b (off + i * sz) cs) (List.range l.length) (fun i hi => by
    have ay := Abv.1 hi
    obtain ⟨cs, g1, g2, g3⟩ := eU i l[i] (Aaa ay)
    exact ⟨cs, l[i], Aaa ay, g1, g2, g3⟩)
   rw [List.length_range] at aT;have bL:∀(i:Nat) x,l[i]?=some x->∃cs,ys[i]?=some cs∧r S w cs x∧cs.length=sz∧aal w b (off+i * sz) cs:=fun i x hx=>by
    have ay:=(Aad.1 hx).1;obtain⟨cs,g1,x',g2,g3⟩:=cH i i (Ab9 ay);rw [hx] at g2;cases g2;exact⟨cs,g1,g3⟩
   have hw:∀cs∈ys,cs.length=sz:=fun cs af=>by
    obtain⟨i,hi,rfl⟩:=Aav af;have ay:i<l.length:=by rw [<-aT];exact hi
    obtain⟨b8,g1,-,g3,-⟩:=bL i l[i] (Aaa ay);rw [Aaa hi] at g1;rw [Option.some.inj g1];exact g3
   refine⟨ys,rfl,aT,fun i x hx=>?_,hw,(fun e=>by cases e),fun b' e j u hj=>?_⟩
   . obtain⟨cs,g1,g2,-⟩:=bL i x hx
     exact⟨cs,g1,g2⟩
   . cases e
     obtain⟨i,k,cs,rfl,g1,g2⟩:=amo ys hw h0 j u hj;have ay:i<l.length:=by rw [<-aT];exact (Aad.1 g1).1
     obtain⟨b8,g3,-,-,g4⟩:=bL i l[i] (Aaa ay);rw [g1] at g3;cases g3;have:=g4 k u g2;rw [show (⟨b,off,none⟩:Addr).add (i * sz+k)=⟨b,off+(i * sz+k),none⟩ by unfold Addr.add;split <;> simp_all,<-Nat.add_assoc];exact this
variable {cs:List Value}
theorem anc{x:DBlock}(h:aa2 S w cs x):∀u∈cs,u.oneCell'=true:=by
 obtain⟨pa,pc,la,lc,ta,tc,rfl,-⟩:=h.opens;intro u hu;simp only [Aam,Aaq,or_false] at hu;rcases hu with rfl | rfl | rfl | rfl | rfl | rfl <;> rfl
theorem aqu{x:acr}(h:amb S w cs x):∀u∈cs,u.oneCell'=true:=by
 obtain⟨aa,ac,rfl,-⟩:=h.opens;intro u hu;simp only [Aam,Aaq,or_false] at hu;rcases hu with rfl | rfl <;> rfl
theorem aqv{x:aaK}(h:acs S w cs x):∀u∈cs,u.oneCell'=true:=by
 obtain⟨aa,ac,rfl,-⟩:=h.opens;intro u hu;simp only [Aam,Aaq,or_false] at hu;rcases hu with rfl | rfl | rfl | rfl | rfl | rfl | rfl | rfl <;> rfl
theorem adr {l:List (List Value)}(h:∀cs∈l,∀u∈cs,u.oneCell'=true):∀u∈l.flatten,u.oneCell'=true:=by
 intro u hu;obtain⟨cs,h1,h2⟩:=List.mem_flatten.1 hu;exact h cs h1 u h2
end
section
open Go.RowKit
theorem aah.empty(W:World)(base:Nat)(V:Pth->Value)(C:Pth->List (List Value)):aah W base (fun _=>False) V C:=⟨fun _ h=>h.elim,fun _ h=>h.elim,fun _ _ h=>h.elim⟩
def okK (bs : List DBlock) (k : Nat) : Pth -> Prop
 | .blks=>True
 | .phis b=>b<k
 | .src b p=>b<k∧p<(blkOf bs b).phis.length
 | .list b=>b<k
 | .args b i=>b<k∧i<(blkOf bs b).list.length
 | .to b=>b<k
 | _=>False
def ae7 (bs : List DBlock) (xss : List (List Value)) (k : Nat) (V : Pth -> Value) : Pth -> List (List Value)
 | .blks=>xss.mapIdx fun b cs=>if b<k then abe (blkOf bs b) (V (.phis b)) (V (.list b)) (V (.to b)) else cs
 | p=>aae bs V p
def okA (bs : List DBlock) (k j : Nat) : Pth -> Prop
 | .blks=>True
 | .vBlk=>True
 | .phis b=>b<=k
 | .src b p=>(b<k∧p<(blkOf bs b).phis.length)∨(b=k∧p<j)
 | .list b=>b<k
 | .args b i=>b<k∧i<(blkOf bs b).list.length
 | .to b=>b<k
 | _=>False
def adM (bs : List DBlock) (xss ag : List (List Value)) (cb : List Value) (k j : Nat) (V : Pth -> Value) : Pth -> List (List Value)
 | .blks=>ae7 bs xss k V .blks
 | .vBlk=>[cb]
 | .phis b=>if b=k then ag.mapIdx fun i cs=>if i<j then [.int .i64 ((blkOf bs k).phis.getD i abw).dst,V (.src k i)] else cs else aae bs V (.phis b)
 | p=>aae bs V p
def okB (bs : List DBlock) (k j : Nat) : Pth -> Prop
 | .blks=>True
 | .vBlk=>True
 | .phis b=>b<=k
 | .src b p=>b<=k∧p<(blkOf bs b).phis.length
 | .list b=>b<=k
 | .args b i=>(b<k∧i<(blkOf bs b).list.length)∨(b=k∧i<j)
 | .to b=>b<k
 | _=>False
def ads (bs : List DBlock) (xss ai : List (List Value)) (cb : List Value) (k j : Nat) (V : Pth -> Value) : Pth -> List (List Value)
 | .blks=>ae7 bs xss k V .blks
 | .vBlk=>[cb]
 | .list b=>if b=k then ai.mapIdx fun i cs=>if i<j then abN ((blkOf bs k).list.getD i abM) (V (.args k i)) else cs else aae bs V (.list b)
 | p=>aae bs V p
theorem aeT {bs:List DBlock}{xss:List (List Value)}{k:Nat}{V V':Pth->Value}(h:∀b,b<k->V' (.phis b)=V (.phis b)∧V' (.list b)=V (.list b)∧V' (.to b)=V (.to b)):ae7 bs xss k V' .blks=ae7 bs xss k V .blks:=by
 show xss.mapIdx _=xss.mapIdx _;apply Aao;intro i;rw [aai,aai]
 congr 1
 funext cs
 by_cases hi:i<k
 . rw [if_pos hi,if_pos hi,(h i hi).1,(h i hi).2.1,(h i hi).2.2]
 . rw [if_neg hi,if_neg hi]
theorem ahD(ag:List (List Value))(f:Nat->List Value):(ag.mapIdx fun i cs=>if i<0 then f i else cs)=ag:=by
 apply Aao;intro i;simp
structure aud (W3 wr:World)(base:Nat)(bs:List DBlock)(xss:List (List Value))(v0:Value)(k:Nat)(V:Pth->Value):Prop where
 rows:aah wr base (okK bs k) V (ae7 bs xss k V)
 blks:V .blks=v0
 low:Below base W3 wr
structure CpA (W3 wr:World)(base:Nat)(bs:List DBlock)(xss ag:List (List Value))(cb:List Value)(v0 pv bv:Value)(k j:Nat)(V:Pth->Value):Prop where
 rows:aah wr base (okA bs k j) V (adM bs xss ag cb k j V)
 blks:V .blks=v0
 phis:V (.phis k)=pv
 box:V .vBlk=bv
 low:Below base W3 wr
structure CpB (W3 wr:World)(base:Nat)(bs:List DBlock)(xss ai:List (List Value))(cb:List Value)(v0 pv lv bv:Value)(k j:Nat)(V:Pth->Value):Prop where
 rows:aah wr base (okB bs k j) V (ads bs xss ai cb k j V)
 blks:V .blks=v0
 phis:V (.phis k)=pv
 list:V (.list k)=lv
 box:V .vBlk=bv
 low:Below base W3 wr
theorem aah.set6 {W:World}{base:Nat}{ok:Pth->Prop}{V:Pth->Value}{C:Pth->List (List Value)}(h:aah W base ok V C){p:Pth}(hp:ok p){g n c i:Nat}(hv:V p = .slice (some ⟨g,0,none⟩) n c){cs:List Value}(hi:(C p)[i]?=some cs)(hz:p.sz=6)(u0 u1 u2 u3 u4 u5:Value) :
 aah ((((((W.setCell ⟨g,i * 6,none⟩ u0).setCell ⟨g,i * 6+1,none⟩ u1).setCell ⟨g,i * 6+2,none⟩ u2).setCell ⟨g,i * 6+3,none⟩ u3).setCell ⟨g,i * 6+4,none⟩ u4).setCell ⟨g,i * 6+5,none⟩ u5) base ok V (aaU C p ((C p).set i [u0,u1,u2,u3,u4,u5])):=by
 have ay:i<(C p).length:=(Aad.1 hi).1;have aZ:=h.wid p hp cs (Aae hi);rw [hz] at aZ;have nx:∀{W:World} {D:Pth->List (List Value)} {ds:List Value} (_:aah W base ok V D) (_:D p=(C p).set i ds) (_:ds.length=6) (j:Nat) (_:j<6) (u:Value),aah (W.setCell ⟨g,i * 6+j,none⟩ u) base ok V (aaU D p ((D p).set i (ds.set j u)))∧aaU D p ((D p).set i (ds.set j u)) p=(C p).set i (ds.set j u)∧(ds.set j u).length=6:=by
  intro W D ds hr hD hl j hj u;have hd:(D p)[i]?=some ds:=by rw [hD];exact Aa5 ay
  refine⟨?_,?_,by rw [Aar,hl]⟩
  . have:=hr.set hp hv hd (j:=j) (by rw [hz];exact hj) u
    rw [hz] at this;exact this
  . rw [aaj,hD,Aaz]
 have e0:C p=(C p).set i cs:=by
  apply Aao;intro m;rw [Aa6];split
  . rename_i e
    subst e;exact hi
  . rfl
 obtain⟨r0,e0,l0⟩:=nx h e0 aZ 0 (by decide) u0;obtain⟨r1,e1,l1⟩:=nx r0 e0 l0 1 (by decide) u1;obtain⟨r2,e2,l2⟩:=nx r1 e1 l1 2 (by decide) u2;obtain⟨r3,e3,l3⟩:=nx r2 e2 l2 3 (by decide) u3;obtain⟨r4,e4,l4⟩:=nx r3 e3 l3 4 (by decide) u4;obtain⟨r5,e5,l5⟩:=nx r4 e4 l4 5 (by decide) u5;refine r5.congr (fun q _=>rfl) (fun q _=>?_)
 by_cases hq:q=p
 . subst hq
   rw [e5,aaj]
   match cs,aZ with
   | [_,_,_,_,_,_],_=>rfl
 . simp only [aaU,if_neg hq]
theorem ajn {α:Type}{r:Rp α}{S:Nat->Prop}{w:World}(g:α->List Value){l:List α}{xss:List (List Value)}(hl:xss.length=l.length)(h:∀(i:Nat) x,l[i]?=some x->∃cs,xss[i]?=some cs∧r S w cs x)(hr:∀cs x,r S w cs x->cs=g x):xss=l.map g:=by
 apply Aao;intro i;rw [Aak]
 by_cases hi:i<l.length
 . obtain⟨cs,h1,h2⟩:=h i l[i] (Aaa hi)
   rw [h1,Aaa hi,hr _ _ h2];rfl
 . rw [Aap (by omega),Aap (by omega)];rfl
theorem ada {S:Nat->Prop}{fa:Option Addr}{fn fc:Nat}{l:List aaA}{w W:World}(h:SlAt S w 2 agi (.slice fa fn fc) l)(hb:Below w.heap.size w W)(hn:fn<=1048576) :
 Calls Tryz.prog 84 #[.slice fa fn fc] W fun e w'=>∃va vc,e = .returned (.slice va fn vc)∧w'.ownsRow W.heap.size 41 2 (.slice va fn vc) fn (l.map aaz).flatten∧Below W.heap.size W w':=by
 obtain⟨xss,hl,eD,b6,cq,du,hc⟩:=aeB h (by decide);have e:=ajn aaz (by omega) b6 (fun cs x h=>h.1);subst e;refine akc fa fn fc _ W ?_ du (fun b aE j u hj=>?_) (adr fun cs af u hu=>?_) hn
 . rw [abp _ (fun i cs hi=>cq cs (Aae hi)),eD]
 . have h:=hc b aE j u hj
   rw [hb.cell (p:=b.add j) (aby h)];exact h
 . obtain⟨v,_,rfl⟩:=Aal.1 af
   simp only [aaz,Aam,Aaq,or_false] at hu;rcases hu with rfl | rfl <;> rfl
section
variable {W W' : World} {base k : Nat} {bs : List DBlock} {xss ag ai : List (List Value)} {V : Pth -> Value} {LB : Nat}
theorem ane {p0 u1 u2 u3 u4 u5 pv : Value} {pn : Nat}
 (hr:aah W base (fun q=>okK bs k q∨q = .vBlk) (aaU V .vBlk (.slice (some ⟨LB,0,none⟩) 1 1)) (aaU (ae7 bs xss k V) .vBlk [[p0,u1,u2,u3,u4,u5]]))
 (ho:W'.ownsRow W.heap.size 115 2 pv pn ag.flatten) (bN:ag.length=pn) (bX:∀cs∈ag,cs.length=2) (hb:Below W.heap.size W W') (ad:base<=W.heap.size) :
 aah (W'.setCell ⟨LB, 0, none⟩ pv) base (okA bs k 0) (aaU (aaU V .vBlk (.slice (some ⟨LB, 0, none⟩) 1 1)) (.phis k) pv)
  (adM bs xss ag [pv,u1,u2,u3,u4,u5] k 0 (aaU (aaU V .vBlk (.slice (some ⟨LB,0,none⟩) 1 1)) (.phis k) pv)):=by
 have h1:=hr.fresh (.phis k) (v:=pv) (n:=pn) (xss:=ag) ho bN bX hb ad;have h2:=h1.set (p := .vBlk) (.inl (.inr rfl)) (g:=LB) (n:=1) (c:=1) (i:=0) (j:=0) (by simp [aaU]) (cs:=[p0,u1,u2,u3,u4,u5]) (by simp [aaU]) (by decide) pv;refine (h2.less (ok':=okA bs k 0) fun q hq=>?_).congr (fun q _=>rfl) (fun q hq=>?_)
 . cases q with
   | blks=>exact .inl (.inl trivial)
   | vBlk=>exact .inl (.inr rfl)
   | phis b =>
     have bO:b<=k:=hq;rcases Abn b k with h | h
     . exact .inl (.inl h)
     . exact .inr (by rw [Nat.le_antisymm bO h])
   | src b p =>
     rcases hq with h | ⟨_,h⟩
     . exact .inl (.inl h)
     . omega
   | list b=>exact .inl (.inl hq)
   | args b i=>exact .inl (.inl hq)
   | «to» b=>exact .inl (.inl hq)
   | vPhi=>exact absurd hq (by simp [okA])
   | vIns=>exact absurd hq (by simp [okA])
 . cases q with
   | blks=>simp only [aaU,adM,reduceCtorEq,if_false];exact aeT (fun b hb=>by simp [aaU];omega)
   | vBlk=>simp [aaU,adM]
   | phis b =>
     by_cases e:b=k
     . subst e;simp only [aaU,adM,reduceCtorEq,if_false,if_true];exact ahD _ _
     . simp [aaU,adM,e,ae7,aae]
   | src b p=>simp [aaU,adM,ae7,aae]
   | list b=>simp [aaU,adM,ae7,aae]
   | args b i=>simp [aaU,adM,ae7,aae]
   | «to» b=>simp [aaU,adM,ae7,aae]
   | vPhi=>simp [aaU,adM,ae7,aae]
   | vIns=>simp [aaU,adM,ae7,aae]
theorem aor {cb : List Value} {j P pn c : Nat} {p : acr} {v f0 : Value} {m : Nat} {N : Nat}
 (hr:aah W base (okA bs k j) V (adM bs xss ag cb k j V)) (hb:Below W.heap.size W W') (hN:W.heap.size<=N) (ho:W'.ownsRow N 41 2 v m (p.src.map aaz).flatten) (hm:p.src.length=m)
 (hp:(blkOf bs k).phis[j]?=some p) (hy:ag[j]?=some [.int .i64 p.dst,f0]) (eQ:ag.length=(blkOf bs k).phis.length) (hv:V (.phis k) = .slice (some ⟨P,0,none⟩) pn c) (ad:base<=W.heap.size) :
 aah (W'.setCell ⟨P,j * 2+1,none⟩ v) base (okA bs k (j+1)) (aaU V (.src k j) v) (adM bs xss ag cb k (j+1) (aaU V (.src k j) v)):=by
 have h1 := hr.fresh (.src k j) (v := v) (n := m) (xss := p.src.map aaz) (ab4 ho hN) (by rw [Aah, hm]) (fun cs af => by
  obtain ⟨x, _, rfl⟩ := Aal.1 af; rfl) hb ad
 have c4:j<ag.length:=(Aad.1 hy).1
 have h2 := h1.set (p := .phis k) (.inl (Aac k)) (g := P) (n := pn) (c := c) (i := j) (j := 1) (by rw [aag _ _ (by simp)]; exact hv) (cs := [.int .i64 p.dst, f0]) (by
  rw [aag _ _ (by simp)]; simp only [adM, if_true]; rw [aai, hy]; simp) (by simp [Pth.sz]) v
 refine (h2.less (ok':=okA bs k (j+1)) fun q hq=>?_).congr (fun q _=>rfl) (fun q hq=>?_)
 . cases q with
   | blks=>exact .inl trivial
   | vBlk=>exact .inl trivial
   | phis b=>exact .inl hq
   | src b p =>
     rcases hq with h | ⟨e,h⟩
     . exact .inl (.inl h)
     . subst e
       rcases Abm.1 h with h | h
       . exact .inl (.inr ⟨rfl,h⟩)
       . exact .inr (by rw [h])
   | list b=>exact .inl hq
   | args b i=>exact .inl hq
   | «to» b=>exact .inl hq
   | vPhi=>exact absurd hq (by simp [okA])
   | vIns=>exact absurd hq (by simp [okA])
 . cases q with
   | blks=>simp only [aaU,adM,reduceCtorEq,if_false];exact aeT (fun b hb=>by simp [aaU])
   | vBlk=>simp [aaU,adM]
   | phis b =>
     by_cases e:b=k
     . subst e
       rw [aaj,aag _ _ (by simp)];simp only [adM,if_true];apply Aao;intro i;rw [aai,Aa6,Abi,aai]
       by_cases ei:j=i
       . subst ei
         rw [if_pos rfl,if_pos c4,hy];have hd:(blkOf bs b).phis.getD j abw=p:=by rw [Aaf,hp];rfl
         simp [aaU,hp]
       . rw [if_neg ei]
         congr 1
         funext cs
         by_cases h:i<j
         . rw [if_pos (by omega:i<j+1),if_pos h,aag _ _ (by simp;omega)]
         . rw [if_neg (by omega:¬i<j+1),if_neg h]
     . rw [aag _ _ (by simp [e]),aag _ _ (by simp)]
       simp only [adM,if_neg e,aae];apply Aao;intro i;rw [aai,aai,aag _ _ (by simp [e])]
   | src b i =>
     by_cases e:(b=k∧i=j)
     . obtain⟨rfl,rfl⟩:=e
       have hd:(blkOf bs b).phis.getD i abw=p:=by rw [Aaf,hp];rfl
       rw [aag _ _ (by simp),aaj];simp [adM,aae,hp]
     . rw [aag _ _ (by simp),aag _ _ (by simp;intro h1 h2;exact e ⟨h1,h2⟩)]
       simp [adM,aae]
   | list b=>simp [aaU,adM,aae]
   | args b i=>simp [aaU,adM,aae]
   | «to» b=>simp [aaU,adM,aae]
   | vPhi=>simp [aaU,adM,aae]
   | vIns=>simp [aaU,adM,aae]
theorem anf {p0 l0 u2 u3 u4 u5 lv : Value} {pn ln : Nat}
 (hr:aah W base (okA bs k pn) V (adM bs xss ag [p0,l0,u2,u3,u4,u5] k pn V))
 (bu:pn=(blkOf bs k).phis.length) (bN:ag.length=pn) (bz:V .vBlk = .slice (some ⟨LB,0,none⟩) 1 1)
 (ho:W'.ownsRow W.heap.size 49 8 lv ln ai.flatten) (bM:ai.length=ln) (b9:∀cs∈ai,cs.length=8) (hb:Below W.heap.size W W') (ad:base<=W.heap.size) :
 aah (W'.setCell ⟨LB,1,none⟩ lv) base (okB bs k 0) (aaU V (.list k) lv) (ads bs xss ai [p0,lv,u2,u3,u4,u5] k 0 (aaU V (.list k) lv)):=by
 have h1:=hr.fresh (.list k) (v:=lv) (n:=ln) (xss:=ai) ho bM b9 hb ad;have h2:=h1.set (p := .vBlk) (.inl trivial) (g:=LB) (n:=1) (c:=1) (i:=0) (j:=1) (by rw [aag _ _ (by simp)];exact bz) (cs:=[p0,l0,u2,u3,u4,u5]) (by simp [aaU,adM]) (by decide) lv;refine (h2.less (ok':=okB bs k 0) fun q hq=>?_).congr (fun q _=>rfl) (fun q hq=>?_)
 . cases q with
   | blks=>exact .inl trivial
   | vBlk=>exact .inl trivial
   | phis b=>exact .inl hq
   | src b p =>
     obtain⟨g1,g2⟩:=hq;rcases Abn b k with h | h
     . exact .inl (.inl ⟨h,g2⟩)
     . have e:=Nat.le_antisymm g1 h
       subst e;exact .inl (.inr ⟨rfl,by rw [bu];exact g2⟩)
   | list b =>
     have bO:b<=k:=hq;rcases Abn b k with h | h
     . exact .inl h
     . exact .inr (by rw [Nat.le_antisymm bO h])
   | args b i =>
     rcases hq with h | ⟨_,h⟩
     . exact .inl h
     . omega
   | «to» b=>exact .inl hq
   | vPhi=>exact absurd hq (by simp [okB])
   | vIns=>exact absurd hq (by simp [okB])
 . cases q with
   | blks=>simp only [aaU,adM,ads,reduceCtorEq,if_false];exact aeT (fun b hb=>by simp [aaU];omega)
   | vBlk=>simp [aaU,adM,ads]
   | phis b =>
     by_cases e:b=k
     . subst e
       rw [aag _ _ (by simp),aag _ _ (by simp)];simp only [adM,ads,aae,if_true];apply Aao;intro i;rw [aai,aai]
       by_cases hi:i<pn
       . rw [Aaa (by omega:i<ag.length),Aaa (by omega:i<(blkOf bs b).phis.length)]
         have hd:(blkOf bs b).phis.getD i abw=(blkOf bs b).phis[i]'(by omega):=by rw [Aaf,Aaa (by omega:i<(blkOf bs b).phis.length)];rfl
         rw [Aaw,Aaw,if_pos hi,hd,aag _ _ (by simp)]
       . rw [Aap (by omega),Aap (by omega)];rfl
     . simp [aaU,adM,ads,e,aae]
   | src b p=>simp [aaU,adM,ads,aae]
   | list b =>
     by_cases e:b=k
     . subst e;rw [aag _ _ (by simp),aaj];simp only [ads,if_true];exact ahD _ _
     . simp [aaU,adM,ads,e,aae]
   | args b i=>simp [aaU,adM,ads,aae]
   | «to» b=>simp [aaU,adM,ads,aae]
   | vPhi=>simp [aaU,adM,ads,aae]
   | vIns=>simp [aaU,adM,ads,aae]
theorem aos {cb : List Value} {j P pn c : Nat} {x : aaK} {v f0 : Value} {m : Nat} {N : Nat}
 (hr:aah W base (okB bs k j) V (ads bs xss ai cb k j V)) (hb:Below W.heap.size W W') (hN:W.heap.size<=N) (ho:W'.ownsRow N 41 2 v m (x.args.map aaz).flatten) (hm:x.args.length=m)
 (hp:(blkOf bs k).list[j]?=some x) (hy:ai[j]?=some (abN x f0)) (eQ:ai.length=(blkOf bs k).list.length) (hv:V (.list k) = .slice (some ⟨P,0,none⟩) pn c) (ad:base<=W.heap.size) :
 aah (W'.setCell ⟨P,j * 8+7,none⟩ v) base (okB bs k (j+1)) (aaU V (.args k j) v) (ads bs xss ai cb k (j+1) (aaU V (.args k j) v)):=by
 have h1 := hr.fresh (.args k j) (v := v) (n := m) (xss := x.args.map aaz) (ab4 ho hN) (by rw [Aah, hm]) (fun cs af => by
  obtain ⟨x, _, rfl⟩ := Aal.1 af; rfl) hb ad
 have c4:j<ai.length:=(Aad.1 hy).1
 have h2 := h1.set (p := .list k) (.inl (Aac k)) (g := P) (n := pn) (c := c) (i := j) (j := 7) (by rw [aag _ _ (by simp)]; exact hv) (cs := abN x f0) (by
  rw [aag _ _ (by simp)]; simp only [ads, if_true]; rw [aai, hy]; simp) (by simp [Pth.sz]) v
 refine (h2.less (ok':=okB bs k (j+1)) fun q hq=>?_).congr (fun q _=>rfl) (fun q hq=>?_)
 . cases q with
   | blks=>exact .inl trivial
   | vBlk=>exact .inl trivial
   | phis b=>exact .inl hq
   | src b p=>exact .inl hq
   | list b=>exact .inl hq
   | args b p =>
     rcases hq with h | ⟨e,h⟩
     . exact .inl (.inl h)
     . subst e
       rcases Abm.1 h with h | h
       . exact .inl (.inr ⟨rfl,h⟩)
       . exact .inr (by rw [h])
   | «to» b=>exact .inl hq
   | vPhi=>exact absurd hq (by simp [okB])
   | vIns=>exact absurd hq (by simp [okB])
 . cases q with
   | blks=>simp only [aaU,ads,reduceCtorEq,if_false];exact aeT (fun b hb=>by simp [aaU])
   | vBlk=>simp [aaU,ads]
   | list b =>
     by_cases e:b=k
     . subst e
       rw [aaj,aag _ _ (by simp)];simp only [ads,if_true];apply Aao;intro i;rw [aai,Aa6,Abi,aai]
       by_cases ei:j=i
       . subst ei
         rw [if_pos rfl,if_pos c4,hy];have hd:(blkOf bs b).list.getD j abM=x:=by rw [Aaf,hp];rfl
         simp [aaU,hp,abN]
       . rw [if_neg ei]
         congr 1
         funext cs
         by_cases h:i<j
         . rw [if_pos (by omega:i<j+1),if_pos h,aag _ _ (by simp;omega)]
         . rw [if_neg (by omega:¬i<j+1),if_neg h]
     . rw [aag _ _ (by simp [e]),aag _ _ (by simp)]
       simp only [ads,if_neg e,aae];apply Aao;intro i;rw [aai,aai,aag _ _ (by simp [e])]
   | args b i =>
     by_cases e:(b=k∧i=j)
     . obtain⟨rfl,rfl⟩:=e
       have hd:(blkOf bs b).list.getD i abM=x:=by rw [Aaf,hp];rfl
       rw [aag _ _ (by simp),aaj];simp [ads,aae,hp]
     . rw [aag _ _ (by simp),aag _ _ (by simp;intro h1 h2;exact e ⟨h1,h2⟩)]
       simp [ads,aae]
   | phis b=>simp [aaU,ads,aae]
   | src b i=>simp [aaU,ads,aae]
   | «to» b=>simp [aaU,ads,aae]
   | vPhi=>simp [aaU,ads,aae]
   | vIns=>simp [aaU,ads,aae]
theorem aot {p0 l0 t0 tv : Value} {ln tn R n c : Nat} {x : DBlock} {rs : List Value}
 (hr:aah W base (okB bs k ln) V (ads bs xss ai [p0,l0,.int .i64 x.fin.kind,.bool x.fin.on.reg,.int .i64 x.fin.on.n,t0] k ln V))
 (hx:bs[k]?=some x) (bH:ln=x.list.length) (bM:ai.length=ln) (cU:xss[k]?=some rs) (_hxw:xss.length=bs.length)
 (hblk:V .blks = .slice (some ⟨R,0,none⟩) n c) (bz:V .vBlk = .slice (some ⟨LB,0,none⟩) 1 1) (cX:V (.phis k)=p0) (dv:V (.list k)=l0)
 (ho:W'.ownsRow W.heap.size 3 1 tv tn (x.fin.to.map fun t=>[Value.int .i64 t]).flatten) (bW:x.fin.to.length=tn) (hb:Below W.heap.size W W') (ad:base<=W.heap.size) :
 aah (((((((W'.setCell ⟨LB,5,none⟩ tv).setCell ⟨R,k * 6,none⟩ p0).setCell ⟨R,k * 6+1,none⟩ l0).setCell ⟨R,k * 6+2,none⟩ (.int .i64 x.fin.kind)).setCell ⟨R,k * 6+3,none⟩ (.bool x.fin.on.reg)).setCell ⟨R,k * 6+4,none⟩ (.int .i64 x.fin.on.n)).setCell ⟨R,k * 6+5,none⟩ tv) base (okK bs (k+1)) (aaU V (.to k) tv) (ae7 bs xss (k+1) (aaU V (.to k) tv)):=by
 have bh:=aaZ hx
 have h1 := hr.fresh (.to k) (v := tv) (n := tn) (xss := x.fin.to.map fun t => [Value.int .i64 t]) ho (by rw [Aah, bW]) (fun cs af => by
  obtain ⟨x, _, rfl⟩ := Aal.1 af; rfl) hb ad
 have h2:=h1.set (p := .vBlk) (.inl trivial) (g:=LB) (n:=1) (c:=1) (i:=0) (j:=5) (by rw [aag _ _ (by simp)];exact bz) (cs:=[p0,l0,.int .i64 x.fin.kind,.bool x.fin.on.reg,.int .i64 x.fin.on.n,t0]) (by simp [aaU,ads]) (by decide) tv
 have h3 := h2.set6 (p := .blks) (.inl trivial) (g := R) (n := n) (c := c) (i := k) (by rw [aag _ _ (by simp)]; exact hblk) (cs := rs) (by
  rw [aag _ _ (by simp), aag _ _ (by simp)]; simp only [ads, ae7]; rw [aai, cU]; simp) rfl p0 l0 (.int .i64 x.fin.kind) (.bool x.fin.on.reg) (.int .i64 x.fin.on.n) tv
 have eH:k<xss.length:=(Aad.1 cU).1;refine (h3.less (ok':=okK bs (k+1)) fun q hq=>?_).congr (fun q _=>rfl) (fun q hq=>?_)
 . cases q with
   | blks=>exact .inl trivial
   | vBlk=>exact absurd hq (by simp [okK])
   | phis b=>exact .inl (Nat.lt_succ_iff.1 hq)
   | src b p=>exact .inl ⟨Nat.lt_succ_iff.1 hq.1,hq.2⟩
   | list b=>exact .inl (Nat.lt_succ_iff.1 hq)
   | args b i =>
     obtain⟨g1,g2⟩:=hq;rcases Abm.1 g1 with h | h
     . exact .inl (.inl ⟨h,g2⟩)
     . subst h;exact .inl (.inr ⟨rfl,by rw [bH,<-bh];exact g2⟩)
   | «to» b =>
     rcases Abm.1 hq with h | h
     . exact .inl h
     . exact .inr (by rw [h])
   | vPhi=>exact absurd hq (by simp [okK])
   | vIns=>exact absurd hq (by simp [okK])
 . cases q with
   | blks =>
     rw [aaj,aag _ _ (by simp),aag _ _ (by simp)];simp only [ads,ae7];apply Aao;intro i;rw [aai,Aa6,Abi,aai]
     by_cases ei:k=i
     . subst ei
       rw [if_pos rfl,if_pos eH,cU];simp [aaU,bh,abe,cX,dv]
     . rw [if_neg ei]
       congr 1
       funext cs
       by_cases h:i<k
       . rw [if_pos (by omega:i<k+1),if_pos h,aag _ _ (by simp),aag _ _ (by simp),aag _ _ (by simp;omega)]
       . rw [if_neg (by omega:¬i<k+1),if_neg h]
   | vBlk=>exact absurd hq (by simp [okK])
   | phis b=>simp [aaU,ae7,ads,aae]
   | src b p=>simp [aaU,ae7,ads,aae]
   | list b =>
     by_cases e:b=k
     . subst e
       rw [aag _ _ (by simp),aag _ _ (by simp),aag _ _ (by simp)];simp only [ae7,ads,aae,if_true];apply Aao;intro i;rw [aai,aai]
       by_cases hi:i<ln
       . have ay:i<(blkOf bs b).list.length:=by rw [bh];omega
         rw [Aaa (by omega:i<ai.length),Aaa ay];have hd:(blkOf bs b).list.getD i abM=(blkOf bs b).list[i]:=by rw [Aaf,Aaa ay];rfl
         rw [Aaw,Aaw,if_pos hi,hd,aag _ _ (by simp)]
       . rw [Aap (by rw [bh];omega),Aap (by omega)];rfl
     . simp [aaU,ae7,ads,e,aae]
   | args b i=>simp [aaU,ae7,ads,aae]
   | «to» b =>
     by_cases e:b=k
     . subst e
       rw [aag _ _ (by simp),aag _ _ (by simp),aaj];simp [ae7,aae,bh]
     . simp [aaU,ae7,ads,e,aae]
   | vPhi=>exact absurd hq (by simp [okK])
   | vIns=>exact absurd hq (by simp [okK])
theorem aqw(hr:aah W base (okK bs bs.length) V (ae7 bs xss bs.length V))(hx:xss.length=bs.length):abK W base bs V:=by
 refine (hr.less (ok':=okP bs) fun q hq=>?_).congr (fun q _=>rfl) (fun q hq=>?_)
 . cases q with
   | blks=>exact trivial
   | phis b=>exact hq
   | src b p=>exact⟨Nat.lt_of_not_le fun h=>by rw [okP,aeA h] at hq;exact absurd hq (Aa4 _),hq⟩
   | list b=>exact hq
   | args b i=>exact⟨Nat.lt_of_not_le fun h=>by rw [okP,aeA h] at hq;exact absurd hq (Aa4 _),hq⟩
   | «to» b=>exact hq
   | vBlk=>exact hq
   | vPhi=>exact hq
   | vIns=>exact hq
 . cases q with
   | blks =>
     simp only [ae7,aae];apply Aao;intro i;rw [aai,aai]
     by_cases hi:i<bs.length
     . rw [Aaa (by omega:i<xss.length),Aaa hi,Aaw,Aaw,if_pos hi,aaZ (Aaa hi)]
     . rw [Aap (by omega),Aap (by omega)];rfl
   | _=>rfl
end
end
section
open Go.RowKit
theorem adR {fn : Func} {t : Nat} (aB : fn.results = #[.cell t 37]) {tmps : Array Value} {W : World} {UO : Nat} {u0 u1 u2 u3 : Value}
 (h2:tmps.getD t undef = .pointer (some ⟨UO,0,none⟩)) (hF:aal W UO 0 [u0,u1,u2,u3]) :
 (results fn tmps).run Tryz.prog W = .ok (.agg #[u0,u1,u2,u3]) W:=by
 obtain⟨a0,a1,a2,a3⟩:=hF.get4;simp only [Acn] at h2;simp [results,aB,h2,go_sem,a0,a1,a2,a3]
set_option maxRecDepth 100000 in
set_option maxHeartbeats 4000000 in
theorem aou {S:Nat->Prop}(nm:ByteArray)(p r:Int)(ba:Option Addr)(n bc:Nat)(bs:List DBlock)(w:World)(hb:SlAt S w 6 aa2 (.slice ba n bc) bs)(hS:∀b,S b->b<w.heap.size)(hn:n<=1048576)(dV:∀x∈bs,aka x) :
 Calls Tryz.prog 54 #[.agg #[.string nm,.int .i64 p,.int .i64 r,.slice ba n bc]] w fun e w' =>
  ∃V base,e = .returned (.agg #[.string nm,.int .i64 p,.int .i64 r,V .blks])∧w.heap.size<=base∧abK w' base bs V∧Below w.heap.size w w':=by
 obtain⟨xss,dC,dd,b6,cq,bj,dx⟩:=aeB hb (by decide);have el:∀cs∈xss,∀u∈cs,u.oneCell'=true:=fun cs af=>by
  obtain⟨i,hi,rfl⟩:=Aav af;have bn:i<bs.length:=by omega
  obtain⟨b8,g1,g2⟩:=b6 i bs[i] (Aaa bn);rw [Aaa hi] at g1;rw [Option.some.inj g1];exact anc g2
 have e9:=hid b6;have eZ:=hid dV;have HS:=hid hS;have cx:=hid dC;have ck:=hid dd;have eP:=hid cq
 have bS := hid (fun (V : World) (hV : Below w.heap.size w V) => akf ba n bc xss.flatten V (by rw [abp xss (fun i cs hi => cq cs (Aae hi)), dd]) bj (fun b aE j u hj => by
  have h := dx b aE j u hj
  rw [hV.cell (p := b.add j) (aby h)]; exact h) (adr el) hn)
 clear hb hS dV dC dd b6 cq bj dx el;go_enter Tryz.func54,Tryz.ntmps54;go_upto_region 1 with (fail)
 obtain⟨W,hW⟩:∃W,W=(w.alloc (.cells #[.string nm,.int .i64 p,.int .i64 r,.slice ba n bc] 37)).alloc (.cells #[.string ⟨#[]⟩,.int .i64 0,.int .i64 0,.slice none 0 0] 37):=⟨_,rfl⟩
 obtain⟨c6,h0,h1⟩:=abQ w (.cells #[.string nm,.int .i64 p,.int .i64 r,.slice ba n bc] 37) (.cells #[.string ⟨#[]⟩,.int .i64 0,.int .i64 0,.slice none 0 0] 37);rw [<-hW] at c6 h0 h1 ⊢;have dO:Below w.heap.size w W:=by rw [hW];exact bE
 obtain⟨UB,cV⟩:∃UB,UB=w.heap.size:=⟨_,rfl⟩
 obtain⟨UO,dg⟩:∃UO,UO=w.heap.size+1:=⟨_,rfl⟩
 rw [<-dg] at h1 ⊢;rw [<-cV] at h0 ⊢;have bU:Hid (UB=w.heap.size∧UO=w.heap.size+1∧W.heap.size=w.heap.size+2):=⟨cV,dg,c6⟩
 obtain⟨c0,c1,c2,c3⟩:=(aad (cs:=[_,_,_,_]) h0).get4;rw [Aab] at c1 c2 c3;have H0:=hid h0;have H1:=hid h1;have cW:=hid dO;have zB:UB<W.heap.size:=aac c0;have f3:=aaq h0 3;clear hW h0 h1 dO cV dg c6;go_upto_region 2 with (go_at_call 82;refine (bS.out W cW.out).mono ?_;rintro e w2 ⟨aD,al,rfl,ep,aE⟩;have ea:=hid ep;have cp:=hid aE;have dF:=aab c3 aE;have eG:=(aE.frozen (p:=⟨UB,3,none⟩) zB).trans f3;have eT:UB<w2.heap.size:=aac dF;clear ep aE)
 obtain⟨W3,bD⟩:∃W3,W3=w2.setCell ⟨UB,3,none⟩ (.slice aD n al):=⟨_,rfl⟩
 rw [<-bD];obtain⟨base,ad⟩:∃base,base=W.heap.size:=⟨_,rfl⟩
 have bQ:UB<base:=by rw [ad];exact zB
 have aQ:aah W3 base (okK bs 0) (fun _ => .slice aD n al) (ae7 bs xss 0 (fun _ => .slice aD n al)):=by
  have h:=((aah.empty W base (fun _ => .slice aD n al) (fun _=>xss)).fresh .blks (v := .slice aD n al) (n:=n) (xss:=xss) ea.out ck.out eP.out cp.out (Nat.le_of_eq ad)).setLow (a:=⟨UB,3,none⟩) bQ (.slice aD n al);rw [<-bD] at h
  have h2 := h.less (ok' := okK bs 0) (fun q hq => by
   cases q <;> first | exact .inr rfl | exact absurd hq (by simp [okK]))
  refine h2.congr (fun q _=>?_) (fun q hq=>?_)
  . unfold aaU;split <;> rfl
  . cases q <;> first
     | (simp [okK] at hq;done)
     | (rw [aaj];show xss.mapIdx _=xss;apply Aao;intro i;simp)
 have b3:aud W3 W3 base bs xss (.slice aD n al) 0 (fun _ => .slice aD n al):=⟨aQ,rfl,Below.refl _ _⟩
 have dr:=hid b3;have dB:Hid (Below w.heap.size w W3):=by
  show Below _ _ _;rw [bD];exact (cW.out.trans (cp.out.mono cW.out.size)).setCell (p:=⟨UB,3,none⟩) (by dsimp only;have:=bU.out;omega) _
 have db:W3.heap[UB]?=some (.cells #[.string nm,.int .i64 p,.int .i64 r,.slice aD n al] 37 (0,0)):=by
  rw [bD,aak ((cp.out.block UB zB).trans H0.out)];rfl
 have dU:W3.heap[UO]?=some (.cells #[.string ⟨#[]⟩,.int .i64 0,.int .i64 0,.slice none 0 0] 37 (0,0)):=by
  rw [bD,Below.heap_setCell _ _ _ _ (by dsimp only;have:=bU.out;omega)];exact (cp.out.block UO (by have:=bU.out;omega)).trans H1.out
 have dZ:=hid db;have eI:=hid dU;have aj:Hid (w.heap.size<=base∧UB<base∧UO<base∧base<=W3.heap.size):=by
  show _∧_;have h1:=bU.out;have h2:=cp.out.size;have h3:W3.heap.size=w2.heap.size:=by rw [bD];simp [World.setCell]
  omega
 obtain⟨d0,d1,d2,d3⟩:=(aad (cs:=[_,_,_,_]) db).get4;rw [Aab] at d1 d2 d3;have fe:UB<W3.heap.size:=aac d0;clear bD aQ b3 db dU ad bQ c0 c1 c2 c3 dF f3 eG zB eT ea bS;go_wp2_with fail;clear d0 d1 d2 d3;go_loopw [16] (fun s16 wr=>∃(k:Nat) (V:Pth->Value),k<=n∧s16 = .int .i64 (k:Int)∧aud W3 wr base bs xss (.slice aD n al) k V) (fun s16 _=>n - (intOf s16).toNat)
 case atStart=>exact⟨0,_,Aaj _,rfl,dr.out⟩
 case round =>
  obtain⟨wo,eS⟩:∃wo:World,wo=wr:=⟨_,rfl⟩
  subst eS;obtain⟨k,V,hk,rfl,aL⟩:=hrel;have aV:=hid aL
  by_cases hkn:k<n
  . have bR:k<bs.length:=by rw [cx.out];exact hkn
    obtain⟨x,hx⟩:∃x,bs[k]?=some x:=⟨_,Aaa bR⟩
    obtain⟨cs,af,dE⟩:=e9.out k x hx;have bh:=aaZ hx;have cg:=eZ.out x (Aae hx);obtain⟨pa,pc,la,lc,ta,tc,rfl,hp,hl,ht,eK,ew,ev,-,-⟩:=dE.opens;have dN:0<(ae7 bs xss k V .blks).length:=by simp [ae7,ck.out];omega
    obtain⟨R,rc,cE,-,-,ff,eR⟩:=aL.rows.addr (p := .blks) trivial dN;rw [aL.blks] at cE;have bk:(ae7 bs xss k V .blks)[k]?=some [.slice pa x.phis.length pc,.slice la x.list.length lc,.int .i64 x.fin.kind,.bool x.fin.on.reg,.int .i64 x.fin.on.n,.slice ta x.fin.to.length tc]:=by
     show (xss.mapIdx _)[k]?=_;rw [aai,af];show some (if k<k then _ else _)=_;rw [if_neg (Abq k)]
    obtain⟨bL,e7⟩:=aL.rows.at (p := .blks) trivial (aL.blks.trans cE) bk;have eJ:aD=some ⟨R,0,none⟩:=by injection cE
    subst eJ;have bT:aal wo R (k * 6) [.slice pa x.phis.length pc,.slice la x.list.length lc,.int .i64 x.fin.kind,.bool x.fin.on.reg,.int .i64 x.fin.on.n,.slice ta x.fin.to.length tc]:=bL;obtain⟨q0,q1,q2,q3,q4,q5⟩:=bT.get6;obtain⟨ag,-,bN,cT,bX,bg,ej⟩:=aeB hp (by decide);obtain⟨ai,-,bM,cN,b9,be,dQ⟩:=aeB hl (by decide);obtain⟨cr,-,bW,c7,cQ,bf,dW⟩:=aeB ht (by decide);have aT:∀cs∈ag,∀u∈cs,u.oneCell'=true:=fun cs af=>by
     obtain⟨i,hi,rfl⟩:=Aav af;have bn:i<x.phis.length:=by omega
     obtain⟨b8,g1,g2⟩:=cT i x.phis[i] (Aaa bn);rw [Aaa hi] at g1;rw [Option.some.inj g1];exact aqu g2
    have ee:∀cs∈ai,∀u∈cs,u.oneCell'=true:=fun cs af=>by
     obtain⟨i,hi,rfl⟩:=Aav af;have bn:i<x.list.length:=by omega
     obtain⟨b8,g1,g2⟩:=cN i x.list[i] (Aaa bn);rw [Aaa hi] at g1;rw [Option.some.inj g1];exact aqv g2
    have dR:∀cs∈cr,∀u∈cs,u.oneCell'=true:=fun cs af=>by
     obtain⟨i,hi,rfl⟩:=Aav af;have bn:i<x.fin.to.length:=by omega
     obtain⟨b8,g1,g2,-⟩:=c7 i x.fin.to[i] (Aaa bn);rw [Aaa hi] at g1;rw [Option.some.inj g1,g2];intro u hu;rw [Aax] at hu;rw [hu];rfl
    have dX := hid (fun (V : World) (hV : Below w.heap.size w V) => akd pa x.phis.length pc ag.flatten V (by rw [abp ag (fun i cs hi => bX cs (Aae hi)), bN]) bg (fun b aE j u hj => by
     have h := ej b aE j u hj
     rw [hV.cell (p := b.add j) (aby h)]; exact h) (adr aT) cg.phis)
    have bS := hid (fun (V : World) (hV : Below w.heap.size w V) => ake la x.list.length lc ai.flatten V (by rw [abp ai (fun i cs hi => b9 cs (Aae hi)), bM]) be (fun b aE j u hj => by
     have h := dQ b aE j u hj
     rw [hV.cell (p := b.add j) (aby h)]; exact h) (adr ee) cg.list)
    have dT := hid (fun (V : World) (hV : Below w.heap.size w V) => agB ta x.fin.to.length tc cr.flatten V (by rw [abp cr (fun i cs hi => cQ cs (Aae hi)), bW]) bf (fun b aE j u hj => by
     have h := dW b aE j u hj
     rw [hV.cell (p := b.add j) (aby h)]; exact h) (adr dR) cg.to)
    have aN:Hid (∀V,Below base W3 V->Below w.heap.size w V):=fun V hV=>dB.out.trans (hV.mono aj.out.1);obtain⟨pn,bu⟩:∃pn,pn=x.phis.length:=⟨_,rfl⟩
    obtain⟨ln,bH⟩:∃ln,ln=x.list.length:=⟨_,rfl⟩
    obtain⟨tn,aI⟩:∃tn,tn=x.fin.to.length:=⟨_,rfl⟩
    obtain⟨ek,cL⟩:∃ek,ek=x.fin.kind:=⟨_,rfl⟩
    obtain⟨er,cG⟩:∃er,er=x.fin.on.reg:=⟨_,rfl⟩
    obtain⟨en,cM⟩:∃en,en=x.fin.on.n:=⟨_,rfl⟩
    rw [<-bu] at q0 dX;rw [<-bH] at q1 bS;rw [<-aI] at q5 dT;rw [<-cL] at q2;rw [<-cG] at q3;rw [<-cM] at q4;have ef:=aL.rows.box .vBlk (cs:=[.slice pa pn pc,.slice la ln lc,.int .i64 ek,.bool er,.int .i64 en,.slice ta tn tc]) rfl (by have:=aL.low.size;have:=aj.out;omega);have dy:=hid ef;have zR:R<wo.heap.size:=eR;have eL:=hid cT;have eA:=hid cN;have ey:=hid c7;have cA:Hid (ag.length=pn):=by show _=_;rw [bu];exact bN
    have cB:Hid (ai.length=ln):=by show _=_;rw [bH];exact bM
    have et:Hid (cr.length=tn):=by show _=_;rw [aI];exact bW
    have e8:=hid bX;have eC:=hid b9;have fb:=hid cQ;have bP:=hid bh;have cK:=hid cg;have aq:Hid (pn=x.phis.length∧ln=x.list.length∧tn=x.fin.to.length∧ek=x.fin.kind∧er=x.fin.on.reg∧en=x.fin.on.n):=⟨bu,bH,aI,cL,cG,cM⟩
    have Hq:Hid (xss[k]?=some [.slice pa pn pc,.slice la ln lc,.int .i64 ek,.bool er,.int .i64 en,.slice ta tn tc]):=by show _=_;rw [bu,bH,aI,cL,cG,cM];exact af
    clear aL af dE bh hp hl ht eK ew ev dN cE bk bL e7 bT cT bX bg ej aT be dQ ee bf dW dR ef bN bM bW cN c7 b9 cQ bu bH aI cL cG cM cg hx bR;go_upto_region 5 with (fail)
    obtain⟨LB,b1⟩:∃LB,LB=wo.heap.size:=⟨_,rfl⟩
    obtain⟨W4,bZ⟩:∃W4,W4=wo.alloc (.cells #[.slice pa pn pc,.slice la ln lc,.int .i64 ek,.bool er,.int .i64 en,.slice ta tn tc] 46):=⟨_,rfl⟩
    have cC:W4.heap[LB]?=some (.cells #[.slice pa pn pc,.slice la ln lc,.int .i64 ek,.bool er,.int .i64 en,.slice ta tn tc] 46 (0,0)):=by rw [bZ,b1];exact heap_alloc_new _ _
    rw [<-bZ,<-b1];have dP:Below wo.heap.size wo W4:=by rw [bZ];exact bE
    have eb:aah W4 base (fun q=>okK bs k q∨q = .vBlk) (aaU V .vBlk (.slice (some ⟨LB,0,none⟩) 1 1)) (aaU (ae7 bs xss k V) .vBlk [[.slice pa pn pc,.slice la ln lc,.int .i64 ek,.bool er,.int .i64 en,.slice ta tn tc]]):=by
     have h:=dy.out;rw [<-b1] at h;rw [bZ];exact h
    have bd:Below base W3 W4:=aV.out.low.trans (dP.mono (by have:=aV.out.low.size;have:=aj.out;omega));have eo:=hid eb;have aR:=hid bd;obtain⟨l0,l1,l2,l3,l4,l5⟩:=(aad (cs:=[_,_,_,_,_,_]) cC).get6;rw [Aab] at l1 l2 l3 l4 l5;have f0:=aaq cC 0;have zL:LB<W4.heap.size:=aac l0;have dm:=hid b1;have eN:=hid cC;clear b1 bZ cC dP eb bd dy q0 q1 q2 q3 q4 q5 zR;go_upto_region 6 with (go_at_call 83;refine (dX.out W4 (aN.out W4 aR.out)).mono ?_;rintro e w5 ⟨a5,c5,rfl,dS,cD⟩;have dG:=hid dS;have di:=hid cD;have l0:=aab l0 cD;have f0:=(cD.frozen (p:=⟨LB,0,none⟩) zL).trans f0;have zL:=aac l0;clear dS cD)
    obtain⟨W6,cJ⟩:∃W6,W6=w5.setCell ⟨LB,0,none⟩ (.slice a5 pn c5):=⟨_,rfl⟩
    rw [<-cJ];have bq:base<=W4.heap.size:=by have:=aR.out.size;have:=aj.out;omega
    have cI:=ane eo.out dG.out cA.out e8.out di.out bq;rw [<-cJ] at cI;have a7:Below base W3 W6:=by
     rw [cJ];exact (aR.out.trans (di.out.mono bq)).setCell (p:=⟨LB,0,none⟩) (by dsimp only;have:=dm.out;have:=aV.out.low.size;have:=aj.out;omega) _
    obtain⟨g0,g1,g2,g3,g4,g5⟩:=(cI.at (p := .vBlk) trivial (g:=LB) (n:=1) (c:=1) (i:=0) (by simp [aaU]) rfl).1.get6;simp only [Nat.zero_mul,Aab] at g0 g1 g2 g3 g4 g5;have dD:CpA W3 W6 base bs xss ag [.slice a5 pn c5,.slice la ln lc,.int .i64 ek,.bool er,.int .i64 en,.slice ta tn tc] (.slice (some ⟨R,0,none⟩) n al) (.slice a5 pn c5) (.slice (some ⟨LB,0,none⟩) 1 1) k 0 _:=⟨cI,aV.out.blks,by simp [aaU],by simp [aaU],a7⟩
    have ed:=hid dD;clear cJ bq cI a7 dD l0 l1 l2 l3 l4 l5 f0 zL dG di eo eN;have eu:pn<=1048576:=by rw [aq.out.1];exact cK.out.phis
    go_wp2_with fail;clear g0 g1 g2 g3 g4 g5;go_loopw [28] (fun s28 wr=>∃(j:Nat) (U:Pth->Value),j<=pn∧s28 = .int .i64 (j:Int)∧CpA W3 wr base bs xss ag [.slice a5 pn c5,.slice la ln lc,.int .i64 ek,.bool er,.int .i64 en,.slice ta tn tc] (.slice (some ⟨R,0,none⟩) n al) (.slice a5 pn c5) (.slice (some ⟨LB,0,none⟩) 1 1) k j U) (fun s28 _=>pn - (intOf s28).toNat)
    case atStart=>exact⟨0,_,Aaj _,rfl,ed.out⟩
    case round =>
     obtain⟨j,U,hj,rfl,ah⟩:=hrel;have ae:=hid ah;obtain⟨g0,g1,g2,g3,g4,g5⟩:=(ah.rows.at (p := .vBlk) trivial (g:=LB) (n:=1) (c:=1) (i:=0) ah.box rfl).1.get6;simp only [Nat.zero_mul,Aab] at g0 g1 g2 g3 g4 g5
     by_cases hjn:j<pn
     . obtain⟨p,hp⟩:∃p,x.phis[j]?=some p:=⟨_,Aaa (by have:=aq.out.1;omega)⟩
       obtain⟨cs,af,b7⟩:=eL.out j p hp;obtain⟨fa,fc,rfl,bw,-⟩:=b7.opens;obtain⟨fn,aB⟩:∃fn,fn=p.src.length:=⟨_,rfl⟩
       obtain⟨pd,cF⟩:∃pd,pd=p.dst:=⟨_,rfl⟩
       have bG:fn<=1048576:=by rw [aB];exact cK.out.src p (Aae hp)
       rw [<-aB] at bw;have aZ:0<(adM bs xss ag [.slice a5 pn c5,.slice la ln lc,.int .i64 ek,.bool er,.int .i64 en,.slice ta tn tc] k j U (.phis k)).length:=by simp only [adM,if_true];rw [Abi,cA.out];omega
       obtain⟨P,dw,bI,-,-,cj,bx⟩:=ah.rows.addr (p := .phis k) (Aac k) aZ;rw [ah.phis] at bI;have de:a5=some ⟨P,0,none⟩:=by injection bI
       subst de;have bk:(adM bs xss ag [.slice (some ⟨P,0,none⟩) pn c5,.slice la ln lc,.int .i64 ek,.bool er,.int .i64 en,.slice ta tn tc] k j U (.phis k))[j]?=some [.int .i64 pd,.slice fa fn fc]:=by
        simp only [adM,if_true];rw [aai,af,aB,cF];simp
       obtain⟨aS,ct⟩:=ah.rows.at (p := .phis k) (Aac k) ah.phis bk;have av:aal wr P (j * 2) [.int .i64 pd,.slice fa fn fc]:=aS;obtain⟨q0,q1⟩:=av.get2;have qz:=ct (j * 2+1);have cf:¬P=LB:=by
        intro e;have:=ah.rows.apart (.phis k) .vBlk (Aac k) trivial (by simp) P (by rw [ah.phis];rfl);rw [ah.box] at this;exact this (by rw [e];rfl)
       have zL:LB<wr.heap.size:=aac g0;have dn:=hid bw;have Hp:=hid hp;have cZ:Hid (ag[j]?=some [.int .i64 pd,.slice fa fn fc]):=by show _=_;rw [cF,aB];exact af
       have cv:Hid (fn=p.src.length∧pd=p.dst):=⟨aB,cF⟩
       have cP:=hid cf;have cR:Hid (base<=P):=cj;clear af b7 bw aZ bI aS ct av hp aB cF bk cf ah;go_upto_region 9 with (fail)
       obtain⟨W7,aO⟩:∃W7,W7=wr.alloc (.cells #[.int .i64 pd,.slice fa fn fc] 115):=⟨_,rfl⟩
       have aA:Below wr.heap.size wr W7:=by rw [aO];exact bE
       obtain⟨PB,aG⟩:∃PB,PB=wr.heap.size:=⟨_,rfl⟩
       have b4:W7.heap[PB]?=some (.cells #[.int .i64 pd,.slice fa fn fc] 115 (0,0)):=by rw [aO,aG];exact heap_alloc_new _ _
       have b2:W7.heap.size=PB+1:=by rw [aO,aG];simp
       rw [<-aO,<-aG];obtain⟨p0,p1⟩:=(aad (cs:=[_,_]) b4).get2;rw [Aab] at p1;have aC:P<PB∧LB<PB:=by rw [aG];exact⟨bx,zL⟩
       have bA:Hid (W7.drew.cell? ⟨LB,0,none⟩=some (.slice (some ⟨P,0,none⟩) pn c5)∧W7.drew.cell? ⟨PB,1,none⟩=some (.slice fa fn fc))  := ⟨aab g0 (aA.trans ((Below.refl W7.heap.size W7).drew.mono aA.size)),p1⟩
       have br:Hid (W7.cell? ⟨P,j * 2+1,none⟩=some (.slice fa fn fc)∧W7.frozen? ⟨P,j * 2+1,none⟩=false):=⟨aab q1 aA,(aA.frozen (p:=⟨P,j * 2+1,none⟩) bx).trans qz⟩
       have au:Hid (Below w.heap.size w W7.drew):=by
        have h:=aN.out _ (ae.out.low.trans (aA.mono (by have:=ae.out.low.size;have:=aj.out;omega)));show Below _ _ _;exact h.trans ((Below.refl W7.heap.size W7).drew.mono h.size)
       have dk:=hid (ada dn.out au.out bG);have aP:Hid (Below wr.heap.size wr W7):=aA;have b5:Hid (PB=wr.heap.size∧P<PB∧LB<PB∧W7.heap.size=PB+1):=⟨aG,aC.1,aC.2,b2⟩
       clear aO aA aG b4 b2 p0 p1 aC g0 g1 g2 g3 g4 g5 q0 q1 qz zL bx cj au
       go_region_held3 (fun w' => w'.cell? ⟨LB, 0, none⟩ = some (.slice (some ⟨P, 0, none⟩) pn c5) ∧ w'.cell? ⟨PB, 1, none⟩ = some (.slice fa fn fc))
        ((first | with_reducible exact df.out | with_reducible exact bp.out | with_reducible exact bA.out))
        ((go_at_call 84; (with_reducible refine dk.out.mono ?_); rintro e w8 ⟨a8, c8, rfl, cc, a6⟩
          have ar : Below W7.heap.size W7 w8 := (Below.refl W7.heap.size W7).drew.trans a6
          have bp : Hid (w8.cell? ⟨LB, 0, none⟩ = some (.slice (some ⟨P, 0, none⟩) pn c5) ∧ w8.cell? ⟨PB, 1, none⟩ = some (.slice fa fn fc)) := ⟨aab bA.out.1 a6, aab bA.out.2 a6⟩
          have r1 := aab br.out.1 ar
          have rz := (ar.frozen (p := ⟨P, j * 2 + 1, none⟩) (aac br.out.1)).trans br.out.2
          have df : Hid ((w8.setCell ⟨P, j * 2 + 1, none⟩ (.slice a8 fn c8)).cell? ⟨LB, 0, none⟩ = some (.slice (some ⟨P, 0, none⟩) pn c5) ∧ (w8.setCell ⟨P, j * 2 + 1, none⟩ (.slice a8 fn c8)).cell? ⟨PB, 1, none⟩ = some (.slice fa fn fc)) := by
           refine ⟨?_, ?_⟩
           . exact (aam _ (fun e => cP.out e.symm) _ _).trans bp.out.1
           . exact (aam _ (fun e => absurd b5.out.2.1 (by rw [e]; exact Abq _)) _ _).trans bp.out.2
          have dj := hid cc
          have aM := hid ar
          clear cc a6 ar))
       go_wp2_with fail;go_roundw
       case rel =>
        have dq:base<=wr.heap.size:=by have:=ae.out.low.size;have:=aj.out;omega
        have aF:=aor (P:=P) (pn:=pn) (c:=c5) (m:=fn) (v := .slice a8 fn c8) ae.out.rows (b5.out.1 ▸ (aP.out.trans (aM.out.mono aP.out.size))) (N:=W7.heap.size) aP.out.size dj.out cv.out.1.symm (by rw [bP.out];exact Hp.out) (f0 := .slice fa fn fc) (by rw [<-cv.out.2];exact cZ.out) (by rw [cA.out,bP.out];exact aq.out.1) ae.out.phis (by have:=ae.out.low.size;have:=aj.out;omega);exact⟨j+1,_,by omega,by go_num,⟨aF,ae.out.blks,ae.out.phis,ae.out.box,(ae.out.low.trans ((aP.out.trans (aM.out.mono aP.out.size)).mono dq)).setCell (p:=⟨P,j * 2+1,none⟩) cR.out _⟩⟩
       case measure=>simp [intOf];omega
     . obtain⟨wi,eY⟩:∃wi:World,wi=wr:=⟨_,rfl⟩
       subst eY;have dp:pn=j:=by omega
       subst dp;have zL:LB<wi.heap.size:=aac g0;have f1:=(ah.rows.at (p := .vBlk) trivial (g:=LB) (n:=1) (c:=1) (i:=0) ah.box rfl).2 1;clear hjn hj ah;go_upto_region 12 with (go_at_call 85;refine (bS.out wi (aN.out wi ae.out.low)).mono ?_;rintro e w9 ⟨a9,c9,rfl,dI,cw⟩;have dK:=hid dI;have cS:=hid cw;have g1:=aab g1 cw;have f1:=(cw.frozen (p:=⟨LB,1,none⟩) zL).trans f1;have zL:=aac g1;clear dI cw)
       obtain⟨cz,aY⟩:∃cz,cz=w9.setCell ⟨LB,1,none⟩ (.slice a9 ln c9):=⟨_,rfl⟩
       rw [<-aY];have bt:base<=wi.heap.size:=by have:=ae.out.low.size;have:=aj.out;omega
       have cy:=anf ae.out.rows (by rw [bP.out];exact aq.out.1) cA.out ae.out.box dK.out cB.out eC.out cS.out bt;rw [<-aY] at cy;have aJ:Below base W3 cz:=by
        rw [aY];exact (ae.out.low.trans (cS.out.mono bt)).setCell (p:=⟨LB,1,none⟩) (by dsimp only;have:=dm.out;have:=aV.out.low.size;have:=aj.out;omega) _
       obtain⟨m0,m1,m2,m3,m4,m5⟩:=(cy.at (p := .vBlk) trivial (g:=LB) (n:=1) (c:=1) (i:=0) (by rw [aag _ _ (by simp)];exact ae.out.box) rfl).1.get6;simp only [Nat.zero_mul,Aab] at m0 m1 m2 m3 m4 m5;have dA:CpB W3 cz base bs xss ai [.slice a5 pn c5,.slice a9 ln c9,.int .i64 ek,.bool er,.int .i64 en,.slice ta tn tc] (.slice (some ⟨R,0,none⟩) n al) (.slice a5 pn c5) (.slice a9 ln c9) (.slice (some ⟨LB,0,none⟩) 1 1) k 0 _:=⟨cy,by rw [aag _ _ (by simp)];exact ae.out.blks,by rw [aag _ _ (by simp)];exact ae.out.phis,by rw [aaj],by rw [aag _ _ (by simp)];exact ae.out.box,aJ⟩
       have eg:=hid dA;have eF:ln<=1048576:=by rw [aq.out.2.1];exact cK.out.list
       clear aY bt cy aJ dA g0 g1 g2 g3 g4 g5 f1 zL dK cS ed;go_wp2_with fail;clear m0 m1 m2 m3 m4 m5;go_loopw [49] (fun s49 wr=>∃(j:Nat) (U:Pth->Value),j<=ln∧s49 = .int .i64 (j:Int)∧CpB W3 wr base bs xss ai [.slice a5 pn c5,.slice a9 ln c9,.int .i64 ek,.bool er,.int .i64 en,.slice ta tn tc] (.slice (some ⟨R,0,none⟩) n al) (.slice a5 pn c5) (.slice a9 ln c9) (.slice (some ⟨LB,0,none⟩) 1 1) k j U) (fun s49 _=>ln - (intOf s49).toNat)
       case atStart=>exact⟨0,_,Aaj _,rfl,eg.out⟩
       case round =>
        clear eg ae U;obtain⟨j,U,hj,rfl,ah⟩:=hrel;have ae:=hid ah;obtain⟨g0,g1,g2,g3,g4,g5⟩:=(ah.rows.at (p := .vBlk) trivial (g:=LB) (n:=1) (c:=1) (i:=0) ah.box rfl).1.get6;simp only [Nat.zero_mul,Aab] at g0 g1 g2 g3 g4 g5
        by_cases hjn:j<ln
        . obtain⟨y,hy⟩:∃y,x.list[j]?=some y:=⟨_,Aaa (by have:=aq.out.2.1;omega)⟩
          obtain⟨cs,af,b7⟩:=eA.out j y hy;obtain⟨fa,fc,rfl,bw,-⟩:=b7.opens;obtain⟨fn,aB⟩:∃fn,fn=y.args.length:=⟨_,rfl⟩
          have bG:fn<=1048576:=by rw [aB];exact cK.out.args y (Aae hy)
          rw [<-aB] at bw;obtain⟨y0,dJ⟩:∃y0,y0=y.op:=⟨_,rfl⟩
          obtain⟨y1,aT⟩:∃y1,y1=y.dst:=⟨_,rfl⟩
          obtain⟨y2,cH⟩:∃y2,y2=y.a.reg:=⟨_,rfl⟩
          obtain⟨y3,eh⟩:∃y3,y3=y.a.n:=⟨_,rfl⟩
          obtain⟨y4,dH⟩:∃y4,y4=y.b.reg:=⟨_,rfl⟩
          obtain⟨y5,dM⟩:∃y5,y5=y.b.n:=⟨_,rfl⟩
          obtain⟨y6,ec⟩:∃y6,y6=y.fn:=⟨_,rfl⟩
          have aZ:0<(ads bs xss ai [.slice a5 pn c5,.slice a9 ln c9,.int .i64 ek,.bool er,.int .i64 en,.slice ta tn tc] k j U (.list k)).length:=by simp only [ads,if_true];rw [Abi,cB.out];omega
          obtain⟨Q,dw,bI,-,-,cj,bx⟩:=ah.rows.addr (p := .list k) (Aac k) aZ;rw [ah.list] at bI;have de:a9=some ⟨Q,0,none⟩:=by injection bI
          subst de;have bk:(ads bs xss ai [.slice a5 pn c5,.slice (some ⟨Q,0,none⟩) ln c9,.int .i64 ek,.bool er,.int .i64 en,.slice ta tn tc] k j U (.list k))[j]?=some [.int .i64 y0,.int .i64 y1,.bool y2,.int .i64 y3,.bool y4,.int .i64 y5,.int .i64 y6,.slice fa fn fc]:=by
           simp only [ads,if_true];rw [aai,af,aB,dJ,aT,cH,eh,dH,dM,ec];simp
          obtain⟨aS,ct⟩:=ah.rows.at (p := .list k) (Aac k) ah.list bk;have av:aal wr Q (j * 8) [.int .i64 y0,.int .i64 y1,.bool y2,.int .i64 y3,.bool y4,.int .i64 y5,.int .i64 y6,.slice fa fn fc]:=aS;obtain⟨q0,q1,q2,q3,q4,q5,q6,q7⟩:=av.get8;have qz:=ct (j * 8+7);have cf:¬Q=LB:=by
           intro e;have:=ah.rows.apart (.list k) .vBlk (Aac k) trivial (by simp) Q (by rw [ah.list];rfl);rw [ah.box] at this;exact this (by rw [e];rfl)
          have zL:LB<wr.heap.size:=aac g0;have dn:=hid bw;have Hp:=hid hy;have cZ:Hid (ai[j]?=some (abN y (.slice fa fn fc))):=by show _=_;rw [aB];exact af
          have cv:=hid aB;have cP:=hid cf;have cR:Hid (base<=Q):=cj;clear af b7 bw aZ bI aS ct av hy aB bk cf ah dJ aT cH eh dH dM ec;go_upto_region 15 with (fail)
          obtain⟨W7,aO⟩:∃W7,W7=wr.alloc (.cells #[.int .i64 y0,.int .i64 y1,.bool y2,.int .i64 y3,.bool y4,.int .i64 y5,.int .i64 y6,.slice fa fn fc] 49):=⟨_,rfl⟩
          have aA:Below wr.heap.size wr W7:=by rw [aO];exact bE
          obtain⟨PB,aG⟩:∃PB,PB=wr.heap.size:=⟨_,rfl⟩
          have b4:W7.heap[PB]?=some (.cells #[.int .i64 y0,.int .i64 y1,.bool y2,.int .i64 y3,.bool y4,.int .i64 y5,.int .i64 y6,.slice fa fn fc] 49 (0,0)):=by rw [aO,aG];exact heap_alloc_new _ _
          have b2:W7.heap.size=PB+1:=by rw [aO,aG];simp
          rw [<-aO,<-aG];have p1:=(aad (cs:=[_,_,_,_,_,_,_,_]) b4) 7 _ rfl;rw [Aab] at p1;have aC:Q<PB∧LB<PB:=by rw [aG];exact⟨bx,zL⟩
          have bA:Hid (W7.drew.cell? ⟨LB,1,none⟩=some (.slice (some ⟨Q,0,none⟩) ln c9)∧W7.drew.cell? ⟨PB,7,none⟩=some (.slice fa fn fc)):=⟨aab g1 (aA.trans ((Below.refl W7.heap.size W7).drew.mono aA.size)),p1⟩
          have br:Hid (W7.cell? ⟨Q,j * 8+7,none⟩=some (.slice fa fn fc)∧W7.frozen? ⟨Q,j * 8+7,none⟩=false):=⟨aab q7 aA,(aA.frozen (p:=⟨Q,j * 8+7,none⟩) bx).trans qz⟩
          have au:Hid (Below w.heap.size w W7.drew):=by
           have h:=aN.out _ (ae.out.low.trans (aA.mono (by have:=ae.out.low.size;have:=aj.out;omega)));show Below _ _ _;exact h.trans ((Below.refl W7.heap.size W7).drew.mono h.size)
          have dk:=hid (ada dn.out au.out bG);have aP:Hid (Below wr.heap.size wr W7):=aA;have b5:Hid (PB=wr.heap.size∧Q<PB∧LB<PB∧W7.heap.size=PB+1):=⟨aG,aC.1,aC.2,b2⟩
          clear aO aA aG b4 b2 p1 aC g0 g1 g2 g3 g4 g5 q0 q1 q2 q3 q4 q5 q6 q7 qz zL bx cj au
          go_region_held3 (fun w' => w'.cell? ⟨LB, 1, none⟩ = some (.slice (some ⟨Q, 0, none⟩) ln c9) ∧ w'.cell? ⟨PB, 7, none⟩ = some (.slice fa fn fc))
           ((first | with_reducible exact df.out | with_reducible exact bp.out | with_reducible exact bA.out))
           ((go_at_call 84; (with_reducible refine dk.out.mono ?_); rintro e w8 ⟨a8, c8, rfl, cc, a6⟩
             have ar : Below W7.heap.size W7 w8 := (Below.refl W7.heap.size W7).drew.trans a6
             have bp : Hid (w8.cell? ⟨LB, 1, none⟩ = some (.slice (some ⟨Q, 0, none⟩) ln c9) ∧ w8.cell? ⟨PB, 7, none⟩ = some (.slice fa fn fc)) := ⟨aab bA.out.1 a6, aab bA.out.2 a6⟩
             have r1 := aab br.out.1 ar
             have rz := (ar.frozen (p := ⟨Q, j * 8 + 7, none⟩) (aac br.out.1)).trans br.out.2
             have df : Hid ((w8.setCell ⟨Q, j * 8 + 7, none⟩ (.slice a8 fn c8)).cell? ⟨LB, 1, none⟩ = some (.slice (some ⟨Q, 0, none⟩) ln c9) ∧ (w8.setCell ⟨Q, j * 8 + 7, none⟩ (.slice a8 fn c8)).cell? ⟨PB, 7, none⟩ = some (.slice fa fn fc)) := by
              refine ⟨?_, ?_⟩
              . exact (aam _ (fun e => cP.out e.symm) _ _).trans bp.out.1
              . exact (aam _ (fun e => absurd b5.out.2.1 (by rw [e]; exact Abq _)) _ _).trans bp.out.2
             have dj := hid cc
             have aM := hid ar
             clear cc a6 ar))
          go_wp2_with fail;go_roundw
          case rel =>
           have dq:base<=wr.heap.size:=by have:=ae.out.low.size;have:=aj.out;omega
           have aF:=aos (P:=Q) (pn:=ln) (c:=c9) (m:=fn) (v := .slice a8 fn c8) ae.out.rows (b5.out.1 ▸ (aP.out.trans (aM.out.mono aP.out.size))) (N:=W7.heap.size) aP.out.size dj.out cv.out.symm (by rw [bP.out];exact Hp.out) (f0 := .slice fa fn fc) cZ.out (by rw [cB.out,bP.out];exact aq.out.2.1) ae.out.list (by have:=ae.out.low.size;have:=aj.out;omega);exact⟨j+1,_,by omega,by go_num,⟨aF,ae.out.blks,ae.out.phis,ae.out.list,ae.out.box,(ae.out.low.trans ((aP.out.trans (aM.out.mono aP.out.size)).mono dq)).setCell (p:=⟨Q,j * 8+7,none⟩) cR.out _⟩⟩
          case measure=>simp [intOf];omega
        . obtain⟨wk,eM⟩:∃wk:World,wk=wr:=⟨_,rfl⟩
          subst eM;have dp:ln=j:=by omega
          subst dp;have zL:LB<wk.heap.size:=aac g0;have f5:=(ah.rows.at (p := .vBlk) trivial (g:=LB) (n:=1) (c:=1) (i:=0) ah.box rfl).2 5;clear hjn hj ah;go_upto_region 18 with (go_at_call 28;refine (dT.out wk (aN.out wk ae.out.low)).mono ?_;rintro e cu ⟨cO,dt,rfl,cm,an⟩;have bY:=hid cm;have aX:=hid an;have g0:=aab g0 an;have g1:=aab g1 an;have g2:=aab g2 an;have g3:=aab g3 an;have g4:=aab g4 an;have g5:=aab g5 an;have f5:=(an.frozen (p:=⟨LB,5,none⟩) zL).trans f5;have zL:=aac g5;clear cm an)
          obtain⟨bl,aw⟩:∃bl,bl=cu.setCell ⟨LB,5,none⟩ (.slice cO tn dt):=⟨_,rfl⟩
          rw [<-aw];have aW:base<=wk.heap.size:=by have:=ae.out.low.size;have:=aj.out;omega
          have bC:Below base wk cu:=aX.out.mono aW;have az:Below base W3 bl:=by
           rw [aw];exact (ae.out.low.trans bC).setCell (p:=⟨LB,5,none⟩) (by dsimp only;have:=dm.out;have:=aV.out.low.size;have:=aj.out;omega) _
          have bV:cr=x.fin.to.map fun t=>[Value.int .i64 t]:=ajn _ (by rw [et.out];exact aq.out.2.2.1) ey.out (fun cs x h=>h.1);have bF:=bY.out;rw [bV] at bF;have bB:Hid (base<=R∧¬R=LB∧R<wk.heap.size):=by
           show _∧_;have eX:0<(ads bs xss ai [.slice a5 pn c5,.slice a9 ln c9,.int .i64 ek,.bool er,.int .i64 en,.slice ta tn tc] k ln U .blks).length:=by simp only [ads,ae7];rw [Abi,ck.out];omega
           obtain⟨g,c,e,-,-,h1,h2⟩:=ae.out.rows.addr (p := .blks) trivial eX;rw [ae.out.blks] at e;cases e;refine⟨h1,fun e=>?_,h2⟩;have:=ae.out.rows.apart .blks .vBlk trivial trivial (by simp) R (by rw [ae.out.blks];rfl);rw [ae.out.box] at this;exact this (by rw [e];rfl)
          obtain⟨b0,dz⟩:=ae.out.rows.at (p := .blks) trivial (g:=R) (n:=n) (c:=al) (i:=k) ae.out.blks (cs:=[.slice pa pn pc,.slice la ln lc,.int .i64 ek,.bool er,.int .i64 en,.slice ta tn tc]) (by simp only [ads,ae7];rw [aai,Hq.out];simp);have ax:∀o u,wk.cell? ⟨R,o,none⟩=some u->bl.cell? ⟨R,o,none⟩=some u:=fun o u h=>by
           rw [aw];exact (aam _ bB.out.2.1 _ _).trans (aab h aX.out)
          have ak:∀o,bl.frozen? ⟨R,o,none⟩=false:=fun o=>by
           rw [aw,World.frozen?_setCell];exact (aX.out.frozen (p:=⟨R,o,none⟩) bB.out.2.2).trans (dz o)
          have bm:aal wk R (k * 6) [.slice pa pn pc,.slice la ln lc,.int .i64 ek,.bool er,.int .i64 en,.slice ta tn tc]:=b0;obtain⟨t0,t1,t2,t3,t4,t5⟩:=bm.get6;have t0:=ax _ _ t0;have t1:=ax _ _ t1;have t2:=ax _ _ t2;have t3:=ax _ _ t3;have t4:=ax _ _ t4;have t5:=ax _ _ t5;have z0:=ak (k * 6);have z1:=ak (k * 6+1);have z2:=ak (k * 6+2);have z3:=ak (k * 6+3);have z4:=ak (k * 6+4);have z5:=ak (k * 6+5);have aH:∀o u,cu.cell? ⟨LB,o,none⟩=some u->o≠5->bl.cell? ⟨LB,o,none⟩=some u:=fun o u h ho=>by
           rw [aw,aaF g5,if_neg ho];exact h
          have l0:=aH _ _ g0 (by decide);have l1:=aH _ _ g1 (by decide);have l2:=aH _ _ g2 (by decide);have l3:=aH _ _ g3 (by decide);have l4:=aH _ _ g4 (by decide);have l5:bl.cell? ⟨LB,5,none⟩=some (.slice cO tn dt):=by rw [aw,aaF g5,if_pos rfl]
          have ca:bl.heap[UB]?=some (.cells #[.string nm,.int .i64 p,.int .i64 r,.slice (some ⟨R,0,none⟩) n al] 37 (0,0)):=(az.block UB aj.out.2.1).trans dZ.out;have d3:=(aad (cs:=[_,_,_,_]) ca) 3 _ rfl;rw [Aab] at d3;have dc:=hid aw;have bJ:=hid az;have eV:=hid bC;have cY:=hid bF;clear b0 dz ax ak bm aH ca aw az bV bF bC aW g0 g1 g2 g3 g4 g5 f5 zL bY;go_wp2_with fail;go_roundw
          case rel =>
           obtain⟨e1,e2,e3,e4,e5,e6⟩:=aq.out;have hx:bs[k]?=some x:=by
            have bR:k<bs.length:=by rw [cx.out];exact hkn
            rw [Aaa bR,<-bP.out,aaZ (Aaa bR)]
           have aW:base<=wk.heap.size:=by have:=ae.out.low.size;have:=aj.out;omega
           have dL:=ae.out.rows;rw [e4,e5,e6] at dL;have aF:=aot (W':=cu) (LB:=LB) (tv := .slice cO tn dt) (tn:=tn) (R:=R) (n:=n) (c:=al) dL hx e2 cB.out Hq.out (by rw [ck.out,cx.out]) ae.out.blks ae.out.box ae.out.phis ae.out.list cY.out e3.symm aX.out aW;rw [<-dc.out,<-e4,<-e5,<-e6] at aF;refine⟨k+1,_,by omega,by go_num,⟨aF,by rw [aag _ _ (by simp)];exact ae.out.blks,?_⟩⟩;have hl:=bB.out.1;exact (((((bJ.out.setCell (p:=⟨R,k * 6,none⟩) hl _).setCell (p:=⟨R,k * 6+1,none⟩) hl _).setCell (p:=⟨R,k * 6+2,none⟩) hl _).setCell (p:=⟨R,k * 6+3,none⟩) hl _).setCell (p:=⟨R,k * 6+4,none⟩) hl _).setCell (p:=⟨R,k * 6+5,none⟩) hl _
          case measure=>simp [intOf];omega
  . have dh:k=n:=by omega
    subst dh;have ca:wo.heap[UB]?=some (.cells #[.string nm,.int .i64 p,.int .i64 r,.slice aD k al] 37 (0,0)):=(aL.low.block UB aj.out.2.1).trans dZ.out;have bo:wo.heap[UO]?=some (.cells #[.string ⟨#[]⟩,.int .i64 0,.int .i64 0,.slice none 0 0] 37 (0,0)):=(aL.low.block UO aj.out.2.2.1).trans eI.out;obtain⟨d0,d1,d2,d3⟩:=(aad (cs:=[_,_,_,_]) ca).get4;obtain⟨o0,o1,o2,o3⟩:=(aad (cs:=[_,_,_,_]) bo).get4;rw [Aab] at d1 d2 d3 o1 o2 o3;have z0:=aaq bo 0;have z1:=aaq bo 1;have z2:=aaq bo 2;have z3:=aaq bo 3;have eW:aal wo UO 0 [.string ⟨#[]⟩,.int .i64 0,.int .i64 0,.slice none 0 0]:=aad bo;clear ca bo aL hkn;go_wp2_with fail;have eB:=as3 (u0 := .string nm) (u1 := .int .i64 p) (u2 := .int .i64 r) (u3 := .slice aD k al) eW;refine bodyPost_ret (adR rfl rfl eB) rfl ?_;have da:=aV.out.low;have hr:=(((aV.out.rows.setLow (a:=⟨UO,0,none⟩) aj.out.2.2.1 (.string nm)).setLow (a:=⟨UO,1,none⟩) aj.out.2.2.1 (.int .i64 p)).setLow (a:=⟨UO,2,none⟩) aj.out.2.2.1 (.int .i64 r)).setLow (a:=⟨UO,3,none⟩) aj.out.2.2.1 (.slice aD k al);have dY:bs.length=k:=cx.out;refine⟨V,base,by rw [aV.out.blks],aj.out.1,aqw (xss:=xss) (by rw [dY];exact hr) (by rw [ck.out,dY]),?_⟩;have h0:=dB.out.trans (da.mono aj.out.1);have hl:w.heap.size<=UO:=by have:=bU.out;omega
    exact (((h0.setCell (p:=⟨UO,0,none⟩) hl _).setCell (p:=⟨UO,1,none⟩) hl _).setCell (p:=⟨UO,2,none⟩) hl _).setCell (p:=⟨UO,3,none⟩) hl _
end
end Go.Proofs.YtpeejlpcikefcaaGreatDoor
