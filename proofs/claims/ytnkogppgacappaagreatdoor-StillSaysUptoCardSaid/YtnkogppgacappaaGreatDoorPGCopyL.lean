/- A queue of numbers: a row that is read from its head on (sliced on) and grows at its end; a family of rows of which one is turned. No function of the program in sight. A function that a call works upon in place: its rows, each in a block of its own, indexed by where they stand in it. A function that is worked upon in place, as data: what its rows hold, and how it reads. The cells of a list in memory, as a list of lists; they are one cell each. graph.Copy, plain: what the rows hold at each step of its loops. -/
import Derived.Test.YtnkogppgacappaaGreatDoorPRefA
import Derived.Test.YtnkogppgacappaaGreatDoorPFour
import Derived.ArgAppend
import Derived.Test.YtnkogppgacappaaGreatDoorPBack
import Derived.Test.YtnkogppgacappaaGreatDoorPEq
import Derived.Test.YtnkogppgacappaaGreatDoorPCloneR
namespace Go.Proofs.YtnkogppgacappaaGreatDoor
open Go.RowKit

end Go.Proofs.YtnkogppgacappaaGreatDoor

namespace Go.Proofs.YtnkogppgacappaaGreatDoor
open Go.RowKit

inductive Pth where
 | blks
 | phis (b:Nat)
 | src (b p:Nat)
 | list (b:Nat)
 | args (b i:Nat)
 | «to» (b:Nat)
 | vBlk
 | vPhi
 | vIns
 deriving DecidableEq
def Pth.ty : Pth → TypeId
 | .blks=>76
 | .phis _=>94
 | .src _ _=>72
 | .list _=>80
 | .args _ _=>72
 | .to _=>3
 | .vBlk=>76
 | .vPhi=>94
 | .vIns=>80
def Pth.sz : Pth → Nat
 | .blks=>6
 | .phis _=>2
 | .src _ _=>2
 | .list _=>8
 | .args _ _=>2
 | .to _=>1
 | .vBlk=>6
 | .vPhi=>2
 | .vIns=>8
theorem Pth.sz_pos(p:Pth):0<p.sz:=by cases p <;> simp [Pth.sz]
def updP {α:Type}(f:Pth→α)(p:Pth)(x:α):Pth→α:=fun q=>if q=p then x else f q
theorem updP_self {α:Type}(f:Pth→α)(p:Pth)(x:α):updP f p x p=x:=if_pos rfl
theorem updP_ne {α:Type}(f:Pth→α){p q:Pth}(x:α)(h:q≠p):updP f p x q=f q:=if_neg h

structure RowsAt (W:World)(base:Nat)(ok:Pth→Prop)(V:Pth→Value)(C:Pth→List (List Value)):Prop where
 own:∀p,ok p→W.ownsRow base p.ty p.sz (V p) (C p).length (C p).flatten
 wid:∀p,ok p→∀cs∈C p,cs.length=p.sz
 apart:∀p q,ok p→ok q→p≠q→∀k,(V p).ownBlock=some k→(V q).ownBlock≠some k
section
variable {W W' : World} {base : Nat} {ok : Pth → Prop} {V : Pth → Value} {C : Pth → List (List Value)}
theorem RowsAt.lt(h:RowsAt W base ok V C){p:Pth}(hp:ok p):∀k,(V p).ownBlock=some k→base≤k∧k<W.heap.size:=fun k hk=>(h.own p hp).lt k hk
theorem RowsAt.off(h:RowsAt W base ok V C){row:Option Nat}(hg:W.grownBy W' row)(hr:∀p,ok p→∀k,(V p).ownBlock=some k→row≠some k):RowsAt W' base ok V C :=
 ⟨fun p hp => (h.own p hp).kept hg (by
   cases e : (V p).ownBlock with
   | none => exact .inl rfl
   | some k => exact .inr (fun e2 => hr p hp k e e2.symm)), h.wid, h.apart⟩
theorem RowsAt.later(h:RowsAt W base ok V C)(hb:Below W.heap.size W W'):RowsAt W' base ok V C :=
 h.off (row:=none) ⟨hb.os,hb.tape,hb.output,hb.size,fun k hk _=>hb.block k hk⟩ (fun _ _ _ _ e=>by cases e)
theorem RowsAt.setLow(h:RowsAt W base ok V C){a:Addr}(ha:a.block<base)(u:Value):RowsAt (W.setCell a u) base ok V C :=
 ⟨fun p hp=>ownsRow_setCell_below (h.own p hp) ha u,h.wid,h.apart⟩
theorem RowsAt.less(h:RowsAt W base ok V C){ok':Pth→Prop}(ho:∀p,ok' p→ok p):RowsAt W base ok' V C :=
 ⟨fun p hp=>h.own p (ho p hp),fun p hp=>h.wid p (ho p hp),fun p q hp hq=>h.apart p q (ho p hp) (ho q hq)⟩
theorem RowsAt.congr(h:RowsAt W base ok V C){V':Pth→Value}{C':Pth→List (List Value)}(hV:∀p,ok p→V' p=V p)(hC:∀p,ok p→C' p=C p):RowsAt W base ok V' C' :=
 ⟨fun p hp=>by rw [hV p hp,hC p hp];exact h.own p hp,fun p hp=>by rw [hC p hp];exact h.wid p hp,fun p q hp hq=>by rw [hV p hp,hV q hq];exact h.apart p q hp hq⟩
theorem RowsAt.put (h : RowsAt W base ok V C) (p : Pth) {v' : Value} {xss : List (List Value)} (ho : W'.ownsRow base p.ty p.sz v' xss.length xss.flatten) (hw : ∀ cs ∈ xss, cs.length = p.sz)
 {row:Option Nat} (hg:W.grownBy W' row) (hr:∀q,ok q→q≠p→∀k,(V q).ownBlock=some k→row≠some k) (hb:∀k,v'.ownBlock=some k→row=some k∨W.heap.size≤k):RowsAt W' base (fun q=>ok q∨q=p) (updP V p v') (updP C p xss):=by
 refine⟨fun q hq=>?_,fun q hq=>?_,fun q1 q2 h1 h2 hne k hk=>?_⟩
 · by_cases e:q=p
   · subst e;rw [updP_self,updP_self];exact ho
   · rw [updP_ne _ _ e,updP_ne _ _ e]
     have hq':=hq.resolve_right e;refine (h.own q hq').kept hg ?_;cases e2:(V q).ownBlock with
     | none=>exact .inl rfl
     | some k=>exact .inr (fun e3=>hr q hq' e k e2 e3.symm)
 · by_cases e:q=p
   · subst e;rw [updP_self];exact hw
   · rw [updP_ne _ _ e];exact h.wid q (hq.resolve_right e)
 · by_cases e1:q1=p
   · have e2:q2≠p:=fun e=>hne (e1.trans e.symm)
     rw [e1,updP_self] at hk;rw [updP_ne _ _ e2];intro h3;rcases hb k hk with h4 | h4
     · exact hr q2 (h2.resolve_right e2) e2 k h3 h4
     · have:=(h.lt (h2.resolve_right e2) k h3).2;omega
   · rw [updP_ne _ _ e1] at hk
     by_cases e2:q2=p
     · rw [e2,updP_self]
       intro h3;rcases hb k h3 with h4 | h4
       · exact hr q1 (h1.resolve_right e1) e1 k hk h4
       · have:=(h.lt (h1.resolve_right e1) k hk).2;omega
     · rw [updP_ne _ _ e2];exact h.apart q1 q2 (h1.resolve_right e1) (h2.resolve_right e2) hne k hk
theorem RowsAt.turn (h : RowsAt W base ok V C) {p : Pth} (hp : ok p) {v' : Value} {xss : List (List Value)} (ho : W'.ownsRow base p.ty p.sz v' xss.length xss.flatten) (hw : ∀ cs ∈ xss, cs.length = p.sz)
 (hg:W.grownBy W' (V p).ownBlock) (hb:∀k,v'.ownBlock=some k→(V p).ownBlock=some k∨W.heap.size≤k):RowsAt W' base ok (updP V p v') (updP C p xss) :=
 (h.put p ho hw hg (fun q hq hne k hk e=>h.apart q p hq hp hne k hk e) hb).less (fun _q hq => .inl hq)
theorem RowsAt.cell(h:RowsAt W base ok V C){p:Pth}(hp:ok p){i j:Nat}{cs:List Value}{u:Value}(hi:(C p)[i]?=some cs)(hj:cs[j]?=some u) :
 ∃g c,V p = .slice (some ⟨g,0,none⟩) (C p).length c∧(C p).length≤c∧base≤g∧g<W.heap.size∧W.cell? ⟨g,i * p.sz+j,none⟩=some u∧W.frozen? ⟨g,i * p.sz+j,none⟩=false:=by
 have hil:i<(C p).length:=(List.getElem?_eq_some_iff.1 hi).1;have hjl:j<p.sz:=by rw [←h.wid p hp cs (List.mem_of_getElem? hi)];exact (List.getElem?_eq_some_iff.1 hj).1
 rcases (h.own p hp).2 with⟨h1,h2⟩ | ⟨g,cap,cur,e,h3,h4,h5,h6,h7,h8⟩
 · omega
 · refine⟨g,cap,e,h5,h3,(Array.getElem?_eq_some_iff.1 h4).1,?_,by simp [World.frozen?,h4]⟩
   have hf:=flat_at (C p) (fun i cs hi=>h.wid p hp cs (List.mem_of_getElem? hi)) i j cs hi hjl;rw [hj,←h8,List.getElem?_take] at hf;rw [cell_row h4];split at hf
   · simpa using hf
   · cases hf
end
theorem flatten_set {xss:List (List Value)}{sz i j:Nat}(hw:∀cs∈xss,cs.length=sz){cs:List Value}(hi:xss[i]?=some cs)(hj:j<sz)(u:Value):(xss.set i (cs.set j u)).flatten=xss.flatten.set (i * sz+j) u:=by
 induction xss generalizing i with
 | nil=>simp at hi
 | cons y xss ih =>
   have hy:=hw y (List.mem_cons_self ..);cases i with
   | zero =>
     have e:y=cs:=by simpa using hi
     subst e;rw [List.set_cons_zero,List.flatten_cons,List.flatten_cons,Nat.zero_mul,Nat.zero_add,List.set_append_left _ _ (by omega)]
   | succ i =>
     rw [List.set_cons_succ,List.flatten_cons,List.flatten_cons,ih (fun cs h=>hw cs (List.mem_cons_of_mem _ h)) (by simpa using hi),List.set_append_right _ _ (by rw [hy,Nat.succ_mul];omega),hy]
     congr 2
     rw [Nat.succ_mul];omega
section
variable {W W' : World} {base : Nat} {ok : Pth → Prop} {V : Pth → Value} {C : Pth → List (List Value)}
theorem RowsAt.set(h:RowsAt W base ok V C){p:Pth}(hp:ok p){g n c i j:Nat}(hv:V p = .slice (some ⟨g,0,none⟩) n c){cs:List Value}(hi:(C p)[i]?=some cs)(hj:j<p.sz)(u:Value) :
 RowsAt (W.setCell ⟨g,i * p.sz+j,none⟩ u) base ok V (updP C p ((C p).set i (cs.set j u))):=by
 have hw:=h.wid p hp;have hil:i<(C p).length:=(List.getElem?_eq_some_iff.1 hi).1;have hg:W.grownBy (W.setCell ⟨g,i * p.sz+j,none⟩ u) (V p).ownBlock:=⟨rfl,rfl,rfl,by simp [World.setCell],fun k _ hne=>Below.heap_setCell _ _ _ _ (fun e=>hne (by rw [hv,e];rfl))⟩
 have ho:(W.setCell ⟨g,i * p.sz+j,none⟩ u).ownsRow base p.ty p.sz (V p) ((C p).set i (cs.set j u)).length ((C p).set i (cs.set j u)).flatten:=by
  obtain⟨h0,h1⟩:=h.own p hp;rw [flatten_set hw hi hj,List.length_set];refine⟨by simpa using h0,?_⟩;rcases h1 with⟨e,h2⟩ | ⟨g',cap,cur,e,h3,h4,h5,h6,h7,h8⟩
  · rw [e] at hv;cases hv
  · rw [e] at hv
    cases hv;refine .inr ⟨g,_,cur.setIfInBounds (i * p.sz+j) u,e,h3,heap_set_row h4 _,h5,h6,by simpa using h7,?_⟩;rw [Array.toList_setIfInBounds,List.take_set,h8]
 have h2 := h.turn hp ho (fun x hx => by
  rcases List.mem_or_eq_of_mem_set hx with h3 | h3
  · exact hw x h3
  · rw [h3, List.length_set]; exact hw cs (List.mem_of_getElem? hi)) hg (fun k hk => .inl hk)
 refine h2.congr (fun q _=>?_) (fun q _=>rfl)
 by_cases e:q=p
 · rw [e,updP_self]
 · rw [updP_ne _ _ e]
end

theorem ownsRow_low {W:World}{base base' sz n:Nat}{e:TypeId}{v:Value}{xs:List Value}(h:W.ownsRow base e sz v n xs)(hb:base'≤base):W.ownsRow base' e sz v n xs:=by
 refine⟨h.1,?_⟩;rcases h.2 with h1 | ⟨g,cap,cur,e1,h2,h3⟩
 · exact .inl h1
 · exact .inr ⟨g,cap,cur,e1,Nat.le_trans hb h2,h3⟩
section
variable {W W' : World} {base : Nat} {ok : Pth → Prop} {V : Pth → Value} {C : Pth → List (List Value)}
theorem RowsAt.box(h:RowsAt W base ok V C)(p:Pth){cs:List Value}(hcs:cs.length=p.sz)(hbase:base≤W.heap.size) :
 RowsAt (W.alloc (.cells cs.toArray p.ty)) base (fun q=>ok q∨q=p) (updP V p (.slice (some ⟨W.heap.size,0,none⟩) 1 1)) (updP C p [cs]):=by
 refine h.put p (row:=none) ⟨by simp [hcs],.inr ⟨W.heap.size,1,cs.toArray,rfl,hbase,heap_alloc_new _ _,Nat.le_refl _,by unfold maxLen;decide,by simp [hcs],?_⟩⟩ (fun x hx=>by rw [List.mem_singleton] at hx;rw [hx,hcs]) (World.grownBy_alloc _ _ _) (fun _ _ _ _ _ e=>by cases e) (fun k hk=>by cases hk;exact .inr (Nat.le_refl _));show cs.take (1 * p.sz)=[cs].flatten;rw [Nat.one_mul,←hcs,List.take_length];simp
theorem RowsAt.fresh(h:RowsAt W base ok V C)(p:Pth){v:Value}{n:Nat}{xss:List (List Value)}(ho:W'.ownsRow W.heap.size p.ty p.sz v n xss.flatten)(hn:xss.length=n)(hw:∀cs∈xss,cs.length=p.sz)(hb:Below W.heap.size W W')(hbase:base≤W.heap.size) :
 RowsAt W' base (fun q=>ok q∨q=p) (updP V p v) (updP C p xss):=by
 subst hn;exact h.put p (row:=none) (ownsRow_low ho hbase) hw ⟨hb.os,hb.tape,hb.output,hb.size,fun k hk _=>hb.block k hk⟩ (fun _ _ _ _ _ e=>by cases e) (fun k hk => .inr (ho.lt k hk).1)
end

end Go.Proofs.YtnkogppgacappaaGreatDoor

namespace Go.Proofs.YtnkogppgacappaaGreatDoor
open Go.RowKit

def noBlkP:DBlock:=⟨[],[],⟨0,⟨false,0⟩,[]⟩⟩
def noPhiP:DPhi:=⟨0,[]⟩
def noInsP:DIns:=⟨0,0,⟨false,0⟩,⟨false,0⟩,0,[]⟩
def blkOf(bs:List DBlock)(b:Nat):DBlock:=bs.getD b noBlkP
theorem blkOf_at {bs:List DBlock}{b:Nat}{x:DBlock}(h:bs[b]?=some x):blkOf bs b=x:=by unfold blkOf;rw [List.getD_eq_getElem?_getD,h];rfl
theorem blkOf_out {bs:List DBlock}{b:Nat}(h:bs.length≤b):blkOf bs b=noBlkP:=by unfold blkOf;rw [List.getD_eq_getElem?_getD,List.getElem?_eq_none h];rfl
def cellsV(v:DVal):List Value:=[.bool v.reg,.int .i64 v.n]
def cellsI(x:DIns)(u:Value):List Value:=[.int .i64 x.op,.int .i64 x.dst,.bool x.a.reg,.int .i64 x.a.n,.bool x.b.reg,.int .i64 x.b.n,.int .i64 x.fn,u]
def cellsB(x:DBlock)(p l t:Value):List Value:=[p,l,.int .i64 x.fin.kind,.bool x.fin.on.reg,.int .i64 x.fin.on.n,t]
def okP (bs : List DBlock) : Pth → Prop
 | .blks=>True
 | .phis b=>b<bs.length
 | .src b p=>p<(blkOf bs b).phis.length
 | .list b=>b<bs.length
 | .args b i=>i<(blkOf bs b).list.length
 | .to b=>b<bs.length
 | .vBlk=>False
 | .vPhi=>False
 | .vIns=>False
def elemsP (bs : List DBlock) (V : Pth → Value) : Pth → List (List Value)
 | .blks=>bs.mapIdx fun b x=>cellsB x (V (.phis b)) (V (.list b)) (V (.to b))
 | .phis b=>(blkOf bs b).phis.mapIdx fun i p=>[.int .i64 p.dst,V (.src b i)]
 | .src b p=>((blkOf bs b).phis.getD p noPhiP).src.map cellsV
 | .list b=>(blkOf bs b).list.mapIdx fun i x=>cellsI x (V (.args b i))
 | .args b i=>((blkOf bs b).list.getD i noInsP).args.map cellsV
 | .to b=>(blkOf bs b).fin.to.map fun t=>[.int .i64 t]
 | .vBlk=>[]
 | .vPhi=>[]
 | .vIns=>[]
def FunSt(W:World)(base:Nat)(bs:List DBlock)(V:Pth→Value):Prop:=RowsAt W base (okP bs) V (elemsP bs V)

structure NumB (x:DBlock):Prop where
 kind:I64 x.fin.kind
 on:I64 x.fin.on.n
 «to»:∀t∈x.fin.to,I64 t
 phi:∀p∈x.phis,I64 p.dst∧∀v∈p.src,I64 v.n
 ins:∀y∈x.list,I64 y.op∧I64 y.dst∧I64 y.a.n∧I64 y.b.n∧I64 y.fn∧∀v∈y.args,I64 v.n

theorem RowsAt.read {α : Type} {W : World} {base : Nat} {ok : Pth → Prop} {V : Pth → Value} {C : Pth → List (List Value)} {r : Rp α} (h : RowsAt W base ok V C) {p : Pth} (hp : ok p) {l : List α} (hl : (C p).length = l.length)
 (hr:∀(i:Nat) x,l[i]?=some x→∃cs,(C p)[i]?=some cs∧r (fun b=>base≤b∧b<W.heap.size) W cs x):SlAt (fun b=>base≤b∧b<W.heap.size) W p.sz r (V p) l:=by
 rcases (h.own p hp).2 with⟨e,h2⟩ | ⟨g,cap,cur,e,h3,h4,h5,h6,h7,h8⟩
 · have hl0:l=[]:=List.eq_nil_of_length_eq_zero (by omega)
   subst hl0;rw [e];exact⟨none,0,rfl,Nat.le_refl _,by decide,fun h=>absurd rfl h⟩
 · unfold maxLen at h6
   refine⟨some ⟨g,0,none⟩,cap,by rw [e,hl],by omega,by omega,fun _=>⟨g,0,rfl,⟨h3,(Array.getElem?_eq_some_iff.1 h4).1⟩,fun i x hx=>?_⟩⟩;obtain⟨cs,hc,hcr⟩:=hr i x hx;refine⟨cs,hcr,h.wid p hp cs (List.mem_of_getElem? hc),fun j u hj=>?_⟩;obtain⟨g',c',e',-,-,-,hcell,-⟩:=h.cell hp hc hj;rw [e] at e';cases e';rw [Nat.zero_add];exact hcell
theorem mapIdx_at {α β:Type}(f:Nat→α→β)(l:List α)(i:Nat):(l.mapIdx f)[i]?=(l[i]?).map (f i):=by simp
theorem FunSt.read {W:World}{base:Nat}{bs:List DBlock}{V:Pth→Value}(h:FunSt W base bs V)(hn:∀x∈bs,NumB x):SlAt (fun b=>base≤b∧b<W.heap.size) W 6 rBlock (V .blks) bs:=by
 refine RowsAt.read (r:=rBlock) h (p := .blks) trivial (by simp [elemsP]) (fun b x hx=>?_);have hb:b<bs.length:=(List.getElem?_eq_some_iff.1 hx).1;have hnx:=hn x (List.mem_of_getElem? hx);have hbo:=blkOf_at hx;refine⟨_,by show (bs.mapIdx _)[b]?=_;rw [mapIdx_at,hx];rfl,V (.phis b),V (.list b),_,rfl,?_,?_,V (.to b),rfl,?_,hnx.kind,hnx.on⟩
 · refine RowsAt.read (r:=rPhi) h (p := .phis b) hb (by simp [elemsP,hbo]) (fun i p hp=>?_)
   refine⟨_,by show ((blkOf bs b).phis.mapIdx _)[i]?=_;rw [hbo,mapIdx_at,hp];rfl,V (.src b i),rfl,?_,(hnx.phi p (List.mem_of_getElem? hp)).1⟩;have hpo:(blkOf bs b).phis.getD i noPhiP=p:=by rw [hbo,List.getD_eq_getElem?_getD,hp];rfl
   refine RowsAt.read (r:=rVal) h (p := .src b i) (show i<(blkOf bs b).phis.length by rw [hbo];exact (List.getElem?_eq_some_iff.1 hp).1) (by simp only [elemsP];rw [hpo,List.length_map]) (fun j v hv=>?_);exact⟨cellsV v,by simp only [elemsP];rw [hpo,List.getElem?_map,hv];rfl,rfl,(hnx.phi p (List.mem_of_getElem? hp)).2 v (List.mem_of_getElem? hv)⟩
 · refine RowsAt.read (r:=rIns) h (p := .list b) hb (by simp [elemsP,hbo]) (fun i y hy=>?_)
   obtain⟨n1,n2,n3,n4,n5,n6⟩:=hnx.ins y (List.mem_of_getElem? hy);refine⟨_,by show ((blkOf bs b).list.mapIdx _)[i]?=_;rw [hbo,mapIdx_at,hy];rfl,V (.args b i),rfl,?_,n1,n2,n3,n4,n5⟩;have hpo:(blkOf bs b).list.getD i noInsP=y:=by rw [hbo,List.getD_eq_getElem?_getD,hy];rfl
   refine RowsAt.read (r:=rVal) h (p := .args b i) (show i<(blkOf bs b).list.length by rw [hbo];exact (List.getElem?_eq_some_iff.1 hy).1) (by simp only [elemsP];rw [hpo,List.length_map]) (fun j v hv=>?_);exact⟨cellsV v,by simp only [elemsP];rw [hpo,List.getElem?_map,hv];rfl,rfl,n6 v (List.mem_of_getElem? hv)⟩
 · refine RowsAt.read (r:=rInt) h (p := .to b) hb (by simp [elemsP,hbo]) (fun i t ht=>?_)
   exact⟨[.int .i64 t],by show ((blkOf bs b).fin.to.map _)[i]?=_;rw [hbo,List.getElem?_map,ht];rfl,rfl,hnx.to t (List.mem_of_getElem? ht)⟩

theorem RowsAt.addr {W:World}{base:Nat}{ok:Pth→Prop}{V:Pth→Value}{C:Pth→List (List Value)}(h:RowsAt W base ok V C){p:Pth}(hp:ok p)(hi:0<(C p).length) :
 ∃g c,V p = .slice (some ⟨g,0,none⟩) (C p).length c∧(C p).length≤c∧c≤9223372036854775807∧base≤g∧g<W.heap.size:=by
 rcases (h.own p hp).2 with⟨h1,h2⟩ | ⟨g,cap,cur,e,h3,h4,h5,h6,h7,h8⟩
 · omega
 · unfold maxLen at h6
   exact⟨g,cap,e,h5,by omega,h3,(Array.getElem?_eq_some_iff.1 h4).1⟩
theorem RowsAt.at {W:World}{base:Nat}{ok:Pth→Prop}{V:Pth→Value}{C:Pth→List (List Value)}(h:RowsAt W base ok V C){p:Pth}(hp:ok p){g n c i:Nat}(hv:V p = .slice (some ⟨g,0,none⟩) n c){cs:List Value}(hi:(C p)[i]?=some cs) :
 CellsAt W g (i * p.sz) cs∧∀o,W.frozen? ⟨g,o,none⟩=false:=by
 refine⟨fun j u hj=>?_,fun o=>?_⟩
 · obtain⟨g',c',e,-,-,-,hcell,-⟩:=h.cell hp hi hj
   rw [hv] at e;cases e;exact hcell
 · rcases (h.own p hp).2 with⟨h1,h2⟩ | ⟨g',cap,cur,e,h3,h4,-⟩
   · rw [hv] at h1;cases h1
   · rw [hv] at e
     cases e;simp [World.frozen?,h4]
theorem RowsAt.shape {W:World}{base:Nat}{ok:Pth→Prop}{V:Pth→Value}{C:Pth→List (List Value)}(h:RowsAt W base ok V C){p:Pth}(hp:ok p):∃a c,V p = .slice a (C p).length c:=by
 rcases (h.own p hp).2 with⟨h1,h2⟩ | ⟨g,cap,cur,e,-⟩
 · exact⟨none,0,by rw [h1,h2]⟩
 · exact⟨_,_,e⟩

end Go.Proofs.YtnkogppgacappaaGreatDoor

namespace Go.Proofs.YtnkogppgacappaaGreatDoor
open Go.RowKit

theorem flat_inv {sz : Nat} : ∀ (xss : List (List Value)), (∀ cs ∈ xss, cs.length = sz) → 0 < sz → ∀ (k : Nat) u, xss.flatten[k]? = some u → ∃ i j cs, k = i * sz + j ∧ xss[i]? = some cs ∧ cs[j]? = some u
 | [],_,_,k,u,h=>by simp at h
 | ys :: xss,hw,h0,k,u,h=>by
   have hy:=hw ys (List.mem_cons_self ..);rw [List.flatten_cons] at h;rcases Nat.lt_or_ge k ys.length with hk | hk
   · rw [List.getElem?_append_left hk] at h
     exact⟨0,k,ys,by omega,rfl,h⟩
   · rw [List.getElem?_append_right hk] at h
     obtain⟨i,j,cs,e,h1,h2⟩:=flat_inv xss (fun cs hc=>hw cs (List.mem_cons_of_mem _ hc)) h0 (k - ys.length) u h;exact⟨i+1,j,cs,by rw [Nat.succ_mul];omega,by simpa using h1,h2⟩
theorem list_choice {α β : Type} {P : α → β → Prop} : ∀ (l : List α), (∀ x ∈ l, ∃ y, P x y) → ∃ ys : List β, ys.length = l.length ∧ ∀ (i : Nat) x, l[i]? = some x → ∃ y, ys[i]? = some y ∧ P x y
 | [],_=>⟨[],rfl,fun i x h=>by simp at h⟩
 | a :: l,h=>by
   obtain⟨y,hy⟩:=h a (List.mem_cons_self ..);obtain⟨ys,h1,h2⟩:=list_choice l fun x hx=>h x (List.mem_cons_of_mem _ hx);refine⟨y :: ys,by simp [h1],fun i x hx=>?_⟩;cases i with
   | zero=>cases hx;exact⟨y,rfl,hy⟩
   | succ i=>exact h2 i x (by simpa using hx)
theorem sl_rows {α:Type}{r:Rp α}{S:Nat→Prop}{w:World}{sz:Nat}{ao:Option Addr}{n c:Nat}{l:List α}(h:SlAt S w sz r (.slice ao n c) l)(h0:0<sz) :
 ∃xss:List (List Value),l.length=n∧xss.length=n∧(∀(i:Nat) x,l[i]?=some x→∃cs,xss[i]?=some cs∧r S w cs x)∧(∀cs∈xss,cs.length=sz)∧(ao=Option.none→n=0)∧∀b,ao=some b→∀(j:Nat) u,xss.flatten[j]?=some u→w.cell? (b.add j)=some u:=by
 obtain⟨ao',c',e,h1,h2,h3⟩:=h;cases e
 by_cases hl:l=[]
 · subst hl
   exact⟨[],rfl,rfl,fun i x h=>by simp at h,fun cs h=>absurd h (List.not_mem_nil),fun _=>rfl,fun b _ j u h=>by simp at h⟩
 · obtain⟨b,off,ha,hS,hel⟩:=h3 hl
   subst ha
   obtain ⟨ys, hy1, hy2⟩ := list_choice (P := fun (i : Nat) (cs : List Value) => ∃ x, l[i]? = some x ∧ r S w cs x ∧ cs.length = sz ∧ CellsAt w b (off + i * sz) cs) (List.range l.length) (fun i hi => by
    have hil := List.mem_range.1 hi
    obtain ⟨cs, g1, g2, g3⟩ := hel i l[i] (List.getElem?_eq_getElem hil)
    exact ⟨cs, l[i], List.getElem?_eq_getElem hil, g1, g2, g3⟩)
   rw [List.length_range] at hy1;have hat:∀(i:Nat) x,l[i]?=some x→∃cs,ys[i]?=some cs∧r S w cs x∧cs.length=sz∧CellsAt w b (off+i * sz) cs:=fun i x hx=>by
    have hil:=(List.getElem?_eq_some_iff.1 hx).1;obtain⟨cs,g1,x',g2,g3⟩:=hy2 i i (List.getElem?_range hil);rw [hx] at g2;cases g2;exact⟨cs,g1,g3⟩
   have hw:∀cs∈ys,cs.length=sz:=fun cs hcs=>by
    obtain⟨i,hi,rfl⟩:=List.getElem_of_mem hcs;have hil:i<l.length:=by rw [←hy1];exact hi
    obtain⟨cs',g1,-,g3,-⟩:=hat i l[i] (List.getElem?_eq_getElem hil);rw [List.getElem?_eq_getElem hi] at g1;rw [Option.some.inj g1];exact g3
   refine⟨ys,rfl,hy1,fun i x hx=>?_,hw,(fun e=>by cases e),fun b' e j u hj=>?_⟩
   · obtain⟨cs,g1,g2,-⟩:=hat i x hx
     exact⟨cs,g1,g2⟩
   · cases e
     obtain⟨i,k,cs,rfl,g1,g2⟩:=flat_inv ys hw h0 j u hj;have hil:i<l.length:=by rw [←hy1];exact (List.getElem?_eq_some_iff.1 g1).1
     obtain⟨cs',g3,-,-,g4⟩:=hat i l[i] (List.getElem?_eq_getElem hil);rw [g1] at g3;cases g3;have:=g4 k u g2;rw [show (⟨b,off,none⟩:Addr).add (i * sz+k)=⟨b,off+(i * sz+k),none⟩ by unfold Addr.add;split <;> simp_all,←Nat.add_assoc];exact this

theorem rBlock_one {S:Nat→Prop}{w:World}{cs:List Value}{x:DBlock}(h:rBlock S w cs x):∀u∈cs,u.oneCell'=true:=by
 obtain⟨pa,pc,la,lc,ta,tc,rfl,-⟩:=h.opens;intro u hu;simp only [List.mem_cons,List.not_mem_nil,or_false] at hu;rcases hu with rfl | rfl | rfl | rfl | rfl | rfl <;> rfl
theorem rPhi_one {S:Nat→Prop}{w:World}{cs:List Value}{x:DPhi}(h:rPhi S w cs x):∀u∈cs,u.oneCell'=true:=by
 obtain⟨aa,ac,rfl,-⟩:=h.opens;intro u hu;simp only [List.mem_cons,List.not_mem_nil,or_false] at hu;rcases hu with rfl | rfl <;> rfl
theorem rIns_one {S:Nat→Prop}{w:World}{cs:List Value}{x:DIns}(h:rIns S w cs x):∀u∈cs,u.oneCell'=true:=by
 obtain⟨aa,ac,rfl,-⟩:=h.opens;intro u hu;simp only [List.mem_cons,List.not_mem_nil,or_false] at hu;rcases hu with rfl | rfl | rfl | rfl | rfl | rfl | rfl | rfl <;> rfl
theorem flat_one {l:List (List Value)}(h:∀cs∈l,∀u∈cs,u.oneCell'=true):∀u∈l.flatten,u.oneCell'=true:=by
 intro u hu;obtain⟨cs,h1,h2⟩:=List.mem_flatten.1 hu;exact h cs h1 u h2

end Go.Proofs.YtnkogppgacappaaGreatDoor

namespace Go.Proofs.YtnkogppgacappaaGreatDoor
open Go.RowKit

theorem RowsAt.empty(W:World)(base:Nat)(V:Pth→Value)(C:Pth→List (List Value)):RowsAt W base (fun _=>False) V C:=⟨fun _ h=>h.elim,fun _ h=>h.elim,fun _ _ h=>h.elim⟩
def okK (bs : List DBlock) (k : Nat) : Pth → Prop
 | .blks=>True
 | .phis b=>b<k
 | .src b p=>b<k∧p<(blkOf bs b).phis.length
 | .list b=>b<k
 | .args b i=>b<k∧i<(blkOf bs b).list.length
 | .to b=>b<k
 | _=>False
def copC (bs : List DBlock) (xss : List (List Value)) (k : Nat) (V : Pth → Value) : Pth → List (List Value)
 | .blks=>xss.mapIdx fun b cs=>if b<k then cellsB (blkOf bs b) (V (.phis b)) (V (.list b)) (V (.to b)) else cs
 | p=>elemsP bs V p

def okA (bs : List DBlock) (k j : Nat) : Pth → Prop
 | .blks=>True
 | .vBlk=>True
 | .phis b=>b≤k
 | .src b p=>(b<k∧p<(blkOf bs b).phis.length)∨(b=k∧p<j)
 | .list b=>b<k
 | .args b i=>b<k∧i<(blkOf bs b).list.length
 | .to b=>b<k
 | _=>False
def copA (bs : List DBlock) (xss yss : List (List Value)) (cb : List Value) (k j : Nat) (V : Pth → Value) : Pth → List (List Value)
 | .blks=>copC bs xss k V .blks
 | .vBlk=>[cb]
 | .phis b=>if b=k then yss.mapIdx fun i cs=>if i<j then [.int .i64 ((blkOf bs k).phis.getD i noPhiP).dst,V (.src k i)] else cs else elemsP bs V (.phis b)
 | p=>elemsP bs V p
def okB (bs : List DBlock) (k j : Nat) : Pth → Prop
 | .blks=>True
 | .vBlk=>True
 | .phis b=>b≤k
 | .src b p=>b≤k∧p<(blkOf bs b).phis.length
 | .list b=>b≤k
 | .args b i=>(b<k∧i<(blkOf bs b).list.length)∨(b=k∧i<j)
 | .to b=>b<k
 | _=>False
def copB (bs : List DBlock) (xss zss : List (List Value)) (cb : List Value) (k j : Nat) (V : Pth → Value) : Pth → List (List Value)
 | .blks=>copC bs xss k V .blks
 | .vBlk=>[cb]
 | .list b=>if b=k then zss.mapIdx fun i cs=>if i<j then cellsI ((blkOf bs k).list.getD i noInsP) (V (.args k i)) else cs else elemsP bs V (.list b)
 | p=>elemsP bs V p
theorem copC_congr {bs:List DBlock}{xss:List (List Value)}{k:Nat}{V V':Pth→Value}(h:∀b,b<k→V' (.phis b)=V (.phis b)∧V' (.list b)=V (.list b)∧V' (.to b)=V (.to b)):copC bs xss k V' .blks=copC bs xss k V .blks:=by
 show xss.mapIdx _=xss.mapIdx _;apply List.ext_getElem?;intro i;rw [mapIdx_at,mapIdx_at]
 congr 1
 funext cs
 by_cases hi:i<k
 · rw [if_pos hi,if_pos hi,(h i hi).1,(h i hi).2.1,(h i hi).2.2]
 · rw [if_neg hi,if_neg hi]
theorem mapIdx_none(yss:List (List Value))(f:Nat→List Value):(yss.mapIdx fun i cs=>if i<0 then f i else cs)=yss:=by
 apply List.ext_getElem?;intro i;simp
structure GcSt (W3 wr:World)(base:Nat)(bs:List DBlock)(xss:List (List Value))(v0:Value)(k:Nat)(V:Pth→Value):Prop where
 rows:RowsAt wr base (okK bs k) V (copC bs xss k V)
 blks:V .blks=v0
 low:Below base W3 wr
structure CpA (W3 wr:World)(base:Nat)(bs:List DBlock)(xss yss:List (List Value))(cb:List Value)(v0 pv bv:Value)(k j:Nat)(V:Pth→Value):Prop where
 rows:RowsAt wr base (okA bs k j) V (copA bs xss yss cb k j V)
 blks:V .blks=v0
 phis:V (.phis k)=pv
 box:V .vBlk=bv
 low:Below base W3 wr
structure CpB (W3 wr:World)(base:Nat)(bs:List DBlock)(xss zss:List (List Value))(cb:List Value)(v0 pv lv bv:Value)(k j:Nat)(V:Pth→Value):Prop where
 rows:RowsAt wr base (okB bs k j) V (copB bs xss zss cb k j V)
 blks:V .blks=v0
 phis:V (.phis k)=pv
 list:V (.list k)=lv
 box:V .vBlk=bv
 low:Below base W3 wr

theorem RowsAt.set6 {W:World}{base:Nat}{ok:Pth→Prop}{V:Pth→Value}{C:Pth→List (List Value)}(h:RowsAt W base ok V C){p:Pth}(hp:ok p){g n c i:Nat}(hv:V p = .slice (some ⟨g,0,none⟩) n c){cs:List Value}(hi:(C p)[i]?=some cs)(hz:p.sz=6)(u0 u1 u2 u3 u4 u5:Value) :
 RowsAt ((((((W.setCell ⟨g,i * 6,none⟩ u0).setCell ⟨g,i * 6+1,none⟩ u1).setCell ⟨g,i * 6+2,none⟩ u2).setCell ⟨g,i * 6+3,none⟩ u3).setCell ⟨g,i * 6+4,none⟩ u4).setCell ⟨g,i * 6+5,none⟩ u5) base ok V (updP C p ((C p).set i [u0,u1,u2,u3,u4,u5])):=by
 have hil:i<(C p).length:=(List.getElem?_eq_some_iff.1 hi).1;have hcl:=h.wid p hp cs (List.mem_of_getElem? hi);rw [hz] at hcl;have nx:∀{W:World} {D:Pth→List (List Value)} {ds:List Value} (_:RowsAt W base ok V D) (_:D p=(C p).set i ds) (_:ds.length=6) (j:Nat) (_:j<6) (u:Value),RowsAt (W.setCell ⟨g,i * 6+j,none⟩ u) base ok V (updP D p ((D p).set i (ds.set j u)))∧updP D p ((D p).set i (ds.set j u)) p=(C p).set i (ds.set j u)∧(ds.set j u).length=6:=by
  intro W D ds hr hD hl j hj u;have hd:(D p)[i]?=some ds:=by rw [hD];exact List.getElem?_set_self hil
  refine⟨?_,?_,by rw [List.length_set,hl]⟩
  · have:=hr.set hp hv hd (j:=j) (by rw [hz];exact hj) u
    rw [hz] at this;exact this
  · rw [updP_self,hD,List.set_set]
 have e0:C p=(C p).set i cs:=by
  apply List.ext_getElem?;intro m;rw [List.getElem?_set];split
  · rename_i e
    subst e;exact hi
  · rfl
 obtain⟨r0,e0,l0⟩:=nx h e0 hcl 0 (by decide) u0;obtain⟨r1,e1,l1⟩:=nx r0 e0 l0 1 (by decide) u1;obtain⟨r2,e2,l2⟩:=nx r1 e1 l1 2 (by decide) u2;obtain⟨r3,e3,l3⟩:=nx r2 e2 l2 3 (by decide) u3;obtain⟨r4,e4,l4⟩:=nx r3 e3 l3 4 (by decide) u4;obtain⟨r5,e5,l5⟩:=nx r4 e4 l4 5 (by decide) u5;refine r5.congr (fun q _=>rfl) (fun q _=>?_)
 by_cases hq:q=p
 · subst hq
   rw [e5,updP_self]
   match cs,hcl with
   | [_,_,_,_,_,_],_=>rfl
 · simp only [updP,if_neg hq]

theorem rows_map {α:Type}{r:Rp α}{S:Nat→Prop}{w:World}(g:α→List Value){l:List α}{xss:List (List Value)}(hl:xss.length=l.length)(h:∀(i:Nat) x,l[i]?=some x→∃cs,xss[i]?=some cs∧r S w cs x)(hr:∀cs x,r S w cs x→cs=g x):xss=l.map g:=by
 apply List.ext_getElem?;intro i;rw [List.getElem?_map]
 by_cases hi:i<l.length
 · obtain⟨cs,h1,h2⟩:=h i l[i] (List.getElem?_eq_getElem hi)
   rw [h1,List.getElem?_eq_getElem hi,hr _ _ h2];rfl
 · rw [List.getElem?_eq_none (by omega),List.getElem?_eq_none (by omega)];rfl
theorem cloneVals_src {S:Nat→Prop}{fa:Option Addr}{fn fc:Nat}{l:List DVal}{w W:World}(h:SlAt S w 2 rVal (.slice fa fn fc) l)(hb:Below w.heap.size w W)(hn:fn≤1048576) :
 Calls Tryz.prog 104 #[.slice fa fn fc] W fun e w'=>∃va vc,e = .returned (.slice va fn vc)∧w'.ownsRow W.heap.size 72 2 (.slice va fn vc) fn (l.map cellsV).flatten∧Below W.heap.size W w':=by
 obtain⟨xss,hl,hxl,hxe,hxw,hnil,hc⟩:=sl_rows h (by decide);have e:=rows_map cellsV (by omega) hxe (fun cs x h=>h.1);subst e;refine cloneVal_row fa fn fc _ W ?_ hnil (fun b hb2 j u hj=>?_) (flat_one fun cs hcs u hu=>?_) hn
 · rw [flat_len _ (fun i cs hi=>hxw cs (List.mem_of_getElem? hi)),hxl]
 · have h:=hc b hb2 j u hj
   rw [hb.cell (p:=b.add j) (cell_blk h)];exact h
 · obtain⟨v,_,rfl⟩:=List.mem_map.1 hcs
   simp only [cellsV,List.mem_cons,List.not_mem_nil,or_false] at hu;rcases hu with rfl | rfl <;> rfl

section
variable {W W' : World} {base k : Nat} {bs : List DBlock} {xss yss zss : List (List Value)} {V : Pth → Value} {LB : Nat}
theorem copA_start {p0 u1 u2 u3 u4 u5 pv : Value} {pn : Nat}
 (hr:RowsAt W base (fun q=>okK bs k q∨q = .vBlk) (updP V .vBlk (.slice (some ⟨LB,0,none⟩) 1 1)) (updP (copC bs xss k V) .vBlk [[p0,u1,u2,u3,u4,u5]]))
 (ho:W'.ownsRow W.heap.size 94 2 pv pn yss.flatten) (hyn:yss.length=pn) (hyw:∀cs∈yss,cs.length=2) (hb:Below W.heap.size W W') (hbase:base≤W.heap.size) :
 RowsAt (W'.setCell ⟨LB, 0, none⟩ pv) base (okA bs k 0) (updP (updP V .vBlk (.slice (some ⟨LB, 0, none⟩) 1 1)) (.phis k) pv)
  (copA bs xss yss [pv,u1,u2,u3,u4,u5] k 0 (updP (updP V .vBlk (.slice (some ⟨LB,0,none⟩) 1 1)) (.phis k) pv)):=by
 have h1:=hr.fresh (.phis k) (v:=pv) (n:=pn) (xss:=yss) ho hyn hyw hb hbase;have h2:=h1.set (p := .vBlk) (.inl (.inr rfl)) (g:=LB) (n:=1) (c:=1) (i:=0) (j:=0) (by simp [updP]) (cs:=[p0,u1,u2,u3,u4,u5]) (by simp [updP]) (by decide) pv;refine (h2.less (ok':=okA bs k 0) fun q hq=>?_).congr (fun q _=>rfl) (fun q hq=>?_)
 · cases q with
   | blks=>exact .inl (.inl trivial)
   | vBlk=>exact .inl (.inr rfl)
   | phis b =>
     have hq':b≤k:=hq;rcases Nat.lt_or_ge b k with h | h
     · exact .inl (.inl h)
     · exact .inr (by rw [Nat.le_antisymm hq' h])
   | src b p =>
     rcases hq with h | ⟨_,h⟩
     · exact .inl (.inl h)
     · omega
   | list b=>exact .inl (.inl hq)
   | args b i=>exact .inl (.inl hq)
   | «to» b=>exact .inl (.inl hq)
   | vPhi=>exact absurd hq (by simp [okA])
   | vIns=>exact absurd hq (by simp [okA])
 · cases q with
   | blks=>simp only [updP,copA,reduceCtorEq,if_false];exact copC_congr (fun b hb=>by simp [updP];omega)
   | vBlk=>simp [updP,copA]
   | phis b =>
     by_cases e:b=k
     · subst e;simp only [updP,copA,reduceCtorEq,if_false,if_true];exact mapIdx_none _ _
     · simp [updP,copA,e,copC,elemsP]
   | src b p=>simp [updP,copA,copC,elemsP]
   | list b=>simp [updP,copA,copC,elemsP]
   | args b i=>simp [updP,copA,copC,elemsP]
   | «to» b=>simp [updP,copA,copC,elemsP]
   | vPhi=>simp [updP,copA,copC,elemsP]
   | vIns=>simp [updP,copA,copC,elemsP]
theorem copA_step {cb : List Value} {j P pn c : Nat} {p : DPhi} {v f0 : Value} {m : Nat} {N : Nat}
 (hr:RowsAt W base (okA bs k j) V (copA bs xss yss cb k j V)) (hb:Below W.heap.size W W') (hN:W.heap.size≤N) (ho:W'.ownsRow N 72 2 v m (p.src.map cellsV).flatten) (hm:p.src.length=m)
 (hp:(blkOf bs k).phis[j]?=some p) (hy:yss[j]?=some [.int .i64 p.dst,f0]) (hyl:yss.length=(blkOf bs k).phis.length) (hv:V (.phis k) = .slice (some ⟨P,0,none⟩) pn c) (hbase:base≤W.heap.size) :
 RowsAt (W'.setCell ⟨P,j * 2+1,none⟩ v) base (okA bs k (j+1)) (updP V (.src k j) v) (copA bs xss yss cb k (j+1) (updP V (.src k j) v)):=by
 have h1 := hr.fresh (.src k j) (v := v) (n := m) (xss := p.src.map cellsV) (ownsRow_low ho hN) (by rw [List.length_map, hm]) (fun cs hcs => by
  obtain ⟨x, _, rfl⟩ := List.mem_map.1 hcs; rfl) hb hbase
 have hjy:j<yss.length:=(List.getElem?_eq_some_iff.1 hy).1
 have h2 := h1.set (p := .phis k) (.inl (Nat.le_refl k)) (g := P) (n := pn) (c := c) (i := j) (j := 1) (by rw [updP_ne _ _ (by simp)]; exact hv) (cs := [.int .i64 p.dst, f0]) (by
  rw [updP_ne _ _ (by simp)]; simp only [copA, if_true]; rw [mapIdx_at, hy]; simp) (by simp [Pth.sz]) v
 refine (h2.less (ok':=okA bs k (j+1)) fun q hq=>?_).congr (fun q _=>rfl) (fun q hq=>?_)
 · cases q with
   | blks=>exact .inl trivial
   | vBlk=>exact .inl trivial
   | phis b=>exact .inl hq
   | src b p =>
     rcases hq with h | ⟨e,h⟩
     · exact .inl (.inl h)
     · subst e
       rcases Nat.lt_succ_iff_lt_or_eq.1 h with h | h
       · exact .inl (.inr ⟨rfl,h⟩)
       · exact .inr (by rw [h])
   | list b=>exact .inl hq
   | args b i=>exact .inl hq
   | «to» b=>exact .inl hq
   | vPhi=>exact absurd hq (by simp [okA])
   | vIns=>exact absurd hq (by simp [okA])
 · cases q with
   | blks=>simp only [updP,copA,reduceCtorEq,if_false];exact copC_congr (fun b hb=>by simp [updP])
   | vBlk=>simp [updP,copA]
   | phis b =>
     by_cases e:b=k
     · subst e
       rw [updP_self,updP_ne _ _ (by simp)];simp only [copA,if_true];apply List.ext_getElem?;intro i;rw [mapIdx_at,List.getElem?_set,List.length_mapIdx,mapIdx_at]
       by_cases ei:j=i
       · subst ei
         rw [if_pos rfl,if_pos hjy,hy];have hd:(blkOf bs b).phis.getD j noPhiP=p:=by rw [List.getD_eq_getElem?_getD,hp];rfl
         simp [updP,hp]
       · rw [if_neg ei]
         congr 1
         funext cs
         by_cases h:i<j
         · rw [if_pos (by omega:i<j+1),if_pos h,updP_ne _ _ (by simp;omega)]
         · rw [if_neg (by omega:¬i<j+1),if_neg h]
     · rw [updP_ne _ _ (by simp [e]),updP_ne _ _ (by simp)]
       simp only [copA,if_neg e,elemsP];apply List.ext_getElem?;intro i;rw [mapIdx_at,mapIdx_at,updP_ne _ _ (by simp [e])]
   | src b i =>
     by_cases e:(b=k∧i=j)
     · obtain⟨rfl,rfl⟩:=e
       have hd:(blkOf bs b).phis.getD i noPhiP=p:=by rw [List.getD_eq_getElem?_getD,hp];rfl
       rw [updP_ne _ _ (by simp),updP_self];simp [copA,elemsP,hp]
     · rw [updP_ne _ _ (by simp),updP_ne _ _ (by simp;intro h1 h2;exact e ⟨h1,h2⟩)]
       simp [copA,elemsP]
   | list b=>simp [updP,copA,elemsP]
   | args b i=>simp [updP,copA,elemsP]
   | «to» b=>simp [updP,copA,elemsP]
   | vPhi=>simp [updP,copA,elemsP]
   | vIns=>simp [updP,copA,elemsP]
theorem copB_start {p0 l0 u2 u3 u4 u5 lv : Value} {pn ln : Nat}
 (hr:RowsAt W base (okA bs k pn) V (copA bs xss yss [p0,l0,u2,u3,u4,u5] k pn V))
 (hpn:pn=(blkOf bs k).phis.length) (hyn:yss.length=pn) (hbox:V .vBlk = .slice (some ⟨LB,0,none⟩) 1 1)
 (ho:W'.ownsRow W.heap.size 80 8 lv ln zss.flatten) (hzn:zss.length=ln) (hzw:∀cs∈zss,cs.length=8) (hb:Below W.heap.size W W') (hbase:base≤W.heap.size) :
 RowsAt (W'.setCell ⟨LB,1,none⟩ lv) base (okB bs k 0) (updP V (.list k) lv) (copB bs xss zss [p0,lv,u2,u3,u4,u5] k 0 (updP V (.list k) lv)):=by
 have h1:=hr.fresh (.list k) (v:=lv) (n:=ln) (xss:=zss) ho hzn hzw hb hbase;have h2:=h1.set (p := .vBlk) (.inl trivial) (g:=LB) (n:=1) (c:=1) (i:=0) (j:=1) (by rw [updP_ne _ _ (by simp)];exact hbox) (cs:=[p0,l0,u2,u3,u4,u5]) (by simp [updP,copA]) (by decide) lv;refine (h2.less (ok':=okB bs k 0) fun q hq=>?_).congr (fun q _=>rfl) (fun q hq=>?_)
 · cases q with
   | blks=>exact .inl trivial
   | vBlk=>exact .inl trivial
   | phis b=>exact .inl hq
   | src b p =>
     obtain⟨g1,g2⟩:=hq;rcases Nat.lt_or_ge b k with h | h
     · exact .inl (.inl ⟨h,g2⟩)
     · have e:=Nat.le_antisymm g1 h
       subst e;exact .inl (.inr ⟨rfl,by rw [hpn];exact g2⟩)
   | list b =>
     have hq':b≤k:=hq;rcases Nat.lt_or_ge b k with h | h
     · exact .inl h
     · exact .inr (by rw [Nat.le_antisymm hq' h])
   | args b i =>
     rcases hq with h | ⟨_,h⟩
     · exact .inl h
     · omega
   | «to» b=>exact .inl hq
   | vPhi=>exact absurd hq (by simp [okB])
   | vIns=>exact absurd hq (by simp [okB])
 · cases q with
   | blks=>simp only [updP,copA,copB,reduceCtorEq,if_false];exact copC_congr (fun b hb=>by simp [updP];omega)
   | vBlk=>simp [updP,copA,copB]
   | phis b =>
     by_cases e:b=k
     · subst e
       rw [updP_ne _ _ (by simp),updP_ne _ _ (by simp)];simp only [copA,copB,elemsP,if_true];apply List.ext_getElem?;intro i;rw [mapIdx_at,mapIdx_at]
       by_cases hi:i<pn
       · rw [List.getElem?_eq_getElem (by omega:i<yss.length),List.getElem?_eq_getElem (by omega:i<(blkOf bs b).phis.length)]
         have hd:(blkOf bs b).phis.getD i noPhiP=(blkOf bs b).phis[i]'(by omega):=by rw [List.getD_eq_getElem?_getD,List.getElem?_eq_getElem (by omega:i<(blkOf bs b).phis.length)];rfl
         rw [Option.map_some,Option.map_some,if_pos hi,hd,updP_ne _ _ (by simp)]
       · rw [List.getElem?_eq_none (by omega),List.getElem?_eq_none (by omega)];rfl
     · simp [updP,copA,copB,e,elemsP]
   | src b p=>simp [updP,copA,copB,elemsP]
   | list b =>
     by_cases e:b=k
     · subst e;rw [updP_ne _ _ (by simp),updP_self];simp only [copB,if_true];exact mapIdx_none _ _
     · simp [updP,copA,copB,e,elemsP]
   | args b i=>simp [updP,copA,copB,elemsP]
   | «to» b=>simp [updP,copA,copB,elemsP]
   | vPhi=>simp [updP,copA,copB,elemsP]
   | vIns=>simp [updP,copA,copB,elemsP]
theorem copB_step {cb : List Value} {j P pn c : Nat} {x : DIns} {v f0 : Value} {m : Nat} {N : Nat}
 (hr:RowsAt W base (okB bs k j) V (copB bs xss zss cb k j V)) (hb:Below W.heap.size W W') (hN:W.heap.size≤N) (ho:W'.ownsRow N 72 2 v m (x.args.map cellsV).flatten) (hm:x.args.length=m)
 (hp:(blkOf bs k).list[j]?=some x) (hy:zss[j]?=some (cellsI x f0)) (hyl:zss.length=(blkOf bs k).list.length) (hv:V (.list k) = .slice (some ⟨P,0,none⟩) pn c) (hbase:base≤W.heap.size) :
 RowsAt (W'.setCell ⟨P,j * 8+7,none⟩ v) base (okB bs k (j+1)) (updP V (.args k j) v) (copB bs xss zss cb k (j+1) (updP V (.args k j) v)):=by
 have h1 := hr.fresh (.args k j) (v := v) (n := m) (xss := x.args.map cellsV) (ownsRow_low ho hN) (by rw [List.length_map, hm]) (fun cs hcs => by
  obtain ⟨x, _, rfl⟩ := List.mem_map.1 hcs; rfl) hb hbase
 have hjy:j<zss.length:=(List.getElem?_eq_some_iff.1 hy).1
 have h2 := h1.set (p := .list k) (.inl (Nat.le_refl k)) (g := P) (n := pn) (c := c) (i := j) (j := 7) (by rw [updP_ne _ _ (by simp)]; exact hv) (cs := cellsI x f0) (by
  rw [updP_ne _ _ (by simp)]; simp only [copB, if_true]; rw [mapIdx_at, hy]; simp) (by simp [Pth.sz]) v
 refine (h2.less (ok':=okB bs k (j+1)) fun q hq=>?_).congr (fun q _=>rfl) (fun q hq=>?_)
 · cases q with
   | blks=>exact .inl trivial
   | vBlk=>exact .inl trivial
   | phis b=>exact .inl hq
   | src b p=>exact .inl hq
   | list b=>exact .inl hq
   | args b p =>
     rcases hq with h | ⟨e,h⟩
     · exact .inl (.inl h)
     · subst e
       rcases Nat.lt_succ_iff_lt_or_eq.1 h with h | h
       · exact .inl (.inr ⟨rfl,h⟩)
       · exact .inr (by rw [h])
   | «to» b=>exact .inl hq
   | vPhi=>exact absurd hq (by simp [okB])
   | vIns=>exact absurd hq (by simp [okB])
 · cases q with
   | blks=>simp only [updP,copB,reduceCtorEq,if_false];exact copC_congr (fun b hb=>by simp [updP])
   | vBlk=>simp [updP,copB]
   | list b =>
     by_cases e:b=k
     · subst e
       rw [updP_self,updP_ne _ _ (by simp)];simp only [copB,if_true];apply List.ext_getElem?;intro i;rw [mapIdx_at,List.getElem?_set,List.length_mapIdx,mapIdx_at]
       by_cases ei:j=i
       · subst ei
         rw [if_pos rfl,if_pos hjy,hy];have hd:(blkOf bs b).list.getD j noInsP=x:=by rw [List.getD_eq_getElem?_getD,hp];rfl
         simp [updP,hp,cellsI]
       · rw [if_neg ei]
         congr 1
         funext cs
         by_cases h:i<j
         · rw [if_pos (by omega:i<j+1),if_pos h,updP_ne _ _ (by simp;omega)]
         · rw [if_neg (by omega:¬i<j+1),if_neg h]
     · rw [updP_ne _ _ (by simp [e]),updP_ne _ _ (by simp)]
       simp only [copB,if_neg e,elemsP];apply List.ext_getElem?;intro i;rw [mapIdx_at,mapIdx_at,updP_ne _ _ (by simp [e])]
   | args b i =>
     by_cases e:(b=k∧i=j)
     · obtain⟨rfl,rfl⟩:=e
       have hd:(blkOf bs b).list.getD i noInsP=x:=by rw [List.getD_eq_getElem?_getD,hp];rfl
       rw [updP_ne _ _ (by simp),updP_self];simp [copB,elemsP,hp]
     · rw [updP_ne _ _ (by simp),updP_ne _ _ (by simp;intro h1 h2;exact e ⟨h1,h2⟩)]
       simp [copB,elemsP]
   | phis b=>simp [updP,copB,elemsP]
   | src b i=>simp [updP,copB,elemsP]
   | «to» b=>simp [updP,copB,elemsP]
   | vPhi=>simp [updP,copB,elemsP]
   | vIns=>simp [updP,copB,elemsP]
theorem copC_step {p0 l0 t0 tv : Value} {ln tn R n c : Nat} {x : DBlock} {rs : List Value}
 (hr:RowsAt W base (okB bs k ln) V (copB bs xss zss [p0,l0,.int .i64 x.fin.kind,.bool x.fin.on.reg,.int .i64 x.fin.on.n,t0] k ln V))
 (hx:bs[k]?=some x) (hln:ln=x.list.length) (hzn:zss.length=ln) (hqs:xss[k]?=some rs) (_hxw:xss.length=bs.length)
 (hblk:V .blks = .slice (some ⟨R,0,none⟩) n c) (hbox:V .vBlk = .slice (some ⟨LB,0,none⟩) 1 1) (hphi:V (.phis k)=p0) (hlst:V (.list k)=l0)
 (ho:W'.ownsRow W.heap.size 3 1 tv tn (x.fin.to.map fun t=>[Value.int .i64 t]).flatten) (htn:x.fin.to.length=tn) (hb:Below W.heap.size W W') (hbase:base≤W.heap.size) :
 RowsAt (((((((W'.setCell ⟨LB,5,none⟩ tv).setCell ⟨R,k * 6,none⟩ p0).setCell ⟨R,k * 6+1,none⟩ l0).setCell ⟨R,k * 6+2,none⟩ (.int .i64 x.fin.kind)).setCell ⟨R,k * 6+3,none⟩ (.bool x.fin.on.reg)).setCell ⟨R,k * 6+4,none⟩ (.int .i64 x.fin.on.n)).setCell ⟨R,k * 6+5,none⟩ tv) base (okK bs (k+1)) (updP V (.to k) tv) (copC bs xss (k+1) (updP V (.to k) tv)):=by
 have hxo:=blkOf_at hx
 have h1 := hr.fresh (.to k) (v := tv) (n := tn) (xss := x.fin.to.map fun t => [Value.int .i64 t]) ho (by rw [List.length_map, htn]) (fun cs hcs => by
  obtain ⟨x, _, rfl⟩ := List.mem_map.1 hcs; rfl) hb hbase
 have h2:=h1.set (p := .vBlk) (.inl trivial) (g:=LB) (n:=1) (c:=1) (i:=0) (j:=5) (by rw [updP_ne _ _ (by simp)];exact hbox) (cs:=[p0,l0,.int .i64 x.fin.kind,.bool x.fin.on.reg,.int .i64 x.fin.on.n,t0]) (by simp [updP,copB]) (by decide) tv
 have h3 := h2.set6 (p := .blks) (.inl trivial) (g := R) (n := n) (c := c) (i := k) (by rw [updP_ne _ _ (by simp)]; exact hblk) (cs := rs) (by
  rw [updP_ne _ _ (by simp), updP_ne _ _ (by simp)]; simp only [copB, copC]; rw [mapIdx_at, hqs]; simp) rfl p0 l0 (.int .i64 x.fin.kind) (.bool x.fin.on.reg) (.int .i64 x.fin.on.n) tv
 have hkx:k<xss.length:=(List.getElem?_eq_some_iff.1 hqs).1;refine (h3.less (ok':=okK bs (k+1)) fun q hq=>?_).congr (fun q _=>rfl) (fun q hq=>?_)
 · cases q with
   | blks=>exact .inl trivial
   | vBlk=>exact absurd hq (by simp [okK])
   | phis b=>exact .inl (Nat.lt_succ_iff.1 hq)
   | src b p=>exact .inl ⟨Nat.lt_succ_iff.1 hq.1,hq.2⟩
   | list b=>exact .inl (Nat.lt_succ_iff.1 hq)
   | args b i =>
     obtain⟨g1,g2⟩:=hq;rcases Nat.lt_succ_iff_lt_or_eq.1 g1 with h | h
     · exact .inl (.inl ⟨h,g2⟩)
     · subst h;exact .inl (.inr ⟨rfl,by rw [hln,←hxo];exact g2⟩)
   | «to» b =>
     rcases Nat.lt_succ_iff_lt_or_eq.1 hq with h | h
     · exact .inl h
     · exact .inr (by rw [h])
   | vPhi=>exact absurd hq (by simp [okK])
   | vIns=>exact absurd hq (by simp [okK])
 · cases q with
   | blks =>
     rw [updP_self,updP_ne _ _ (by simp),updP_ne _ _ (by simp)];simp only [copB,copC];apply List.ext_getElem?;intro i;rw [mapIdx_at,List.getElem?_set,List.length_mapIdx,mapIdx_at]
     by_cases ei:k=i
     · subst ei
       rw [if_pos rfl,if_pos hkx,hqs];simp [updP,hxo,cellsB,hphi,hlst]
     · rw [if_neg ei]
       congr 1
       funext cs
       by_cases h:i<k
       · rw [if_pos (by omega:i<k+1),if_pos h,updP_ne _ _ (by simp),updP_ne _ _ (by simp),updP_ne _ _ (by simp;omega)]
       · rw [if_neg (by omega:¬i<k+1),if_neg h]
   | vBlk=>exact absurd hq (by simp [okK])
   | phis b=>simp [updP,copC,copB,elemsP]
   | src b p=>simp [updP,copC,copB,elemsP]
   | list b =>
     by_cases e:b=k
     · subst e
       rw [updP_ne _ _ (by simp),updP_ne _ _ (by simp),updP_ne _ _ (by simp)];simp only [copC,copB,elemsP,if_true];apply List.ext_getElem?;intro i;rw [mapIdx_at,mapIdx_at]
       by_cases hi:i<ln
       · have hil:i<(blkOf bs b).list.length:=by rw [hxo];omega
         rw [List.getElem?_eq_getElem (by omega:i<zss.length),List.getElem?_eq_getElem hil];have hd:(blkOf bs b).list.getD i noInsP=(blkOf bs b).list[i]:=by rw [List.getD_eq_getElem?_getD,List.getElem?_eq_getElem hil];rfl
         rw [Option.map_some,Option.map_some,if_pos hi,hd,updP_ne _ _ (by simp)]
       · rw [List.getElem?_eq_none (by rw [hxo];omega),List.getElem?_eq_none (by omega)];rfl
     · simp [updP,copC,copB,e,elemsP]
   | args b i=>simp [updP,copC,copB,elemsP]
   | «to» b =>
     by_cases e:b=k
     · subst e
       rw [updP_ne _ _ (by simp),updP_ne _ _ (by simp),updP_self];simp [copC,elemsP,hxo]
     · simp [updP,copC,copB,e,elemsP]
   | vPhi=>exact absurd hq (by simp [okK])
   | vIns=>exact absurd hq (by simp [okK])
theorem copC_end(hr:RowsAt W base (okK bs bs.length) V (copC bs xss bs.length V))(hx:xss.length=bs.length):FunSt W base bs V:=by
 refine (hr.less (ok':=okP bs) fun q hq=>?_).congr (fun q _=>rfl) (fun q hq=>?_)
 · cases q with
   | blks=>exact trivial
   | phis b=>exact hq
   | src b p=>exact⟨Nat.lt_of_not_le fun h=>by rw [okP,blkOf_out h] at hq;exact absurd hq (Nat.not_lt_zero _),hq⟩
   | list b=>exact hq
   | args b i=>exact⟨Nat.lt_of_not_le fun h=>by rw [okP,blkOf_out h] at hq;exact absurd hq (Nat.not_lt_zero _),hq⟩
   | «to» b=>exact hq
   | vBlk=>exact hq
   | vPhi=>exact hq
   | vIns=>exact hq
 · cases q with
   | blks =>
     simp only [copC,elemsP];apply List.ext_getElem?;intro i;rw [mapIdx_at,mapIdx_at]
     by_cases hi:i<bs.length
     · rw [List.getElem?_eq_getElem (by omega:i<xss.length),List.getElem?_eq_getElem hi,Option.map_some,Option.map_some,if_pos hi,blkOf_at (List.getElem?_eq_getElem hi)]
     · rw [List.getElem?_eq_none (by omega),List.getElem?_eq_none (by omega)];rfl
   | _=>rfl
end

end Go.Proofs.YtnkogppgacappaaGreatDoor
