/- Where things stand in a list. tidy.Keep, plain: some blocks, in an order. tidy.Keep: what holds between the rounds of its loops. -/
import Derived.Test.YtnkogppgacappaaGreatDoorPChk3
import Derived.Test.YtnkogppgacappaaGreatDoorPRefA
import Derived.Test.YtnkogppgacappaaGreatDoorPRwSt
import Derived.Test.YtnkogppgacappaaGreatDoorPCloneR
namespace Go.Proofs.YtnkogppgacappaaGreatDoor

def plcF (l : List Int) : Nat → Nat → Int
 | 0,_ => -1
 | k+1,x=>if l.getD k 0=(x:Int) then (k:Int) else plcF l k x
theorem plcF_le (l : List Int) (x : Nat) : ∀ k, -1 ≤ plcF l k x ∧ plcF l k x < (k : Int)
 | 0=>⟨Int.le_refl _,by show (-1:Int)<0;omega⟩
 | k+1=>by
   have:=plcF_le l x k;unfold plcF;split <;> omega
def plcRow(l:List Int)(n k:Nat):List Value:=(List.range n).map fun x=>Value.int .i64 (plcF l k x)
theorem plcRow_len(l:List Int)(n k:Nat):(plcRow l n k).length=n:=by simp [plcRow]
theorem plcRow_at(l:List Int)(n k:Nat){x:Nat}(h:x<n):(plcRow l n k)[x]?=some (.int .i64 (plcF l k x)):=by
 unfold plcRow;rw [List.getElem?_map,List.getElem?_range h];rfl
theorem plcRow_zero(l:List Int)(n:Nat):plcRow l n 0=List.replicate n (.int .i64 (-1)):=by
 unfold plcRow;rw [show (fun x=>Value.int .i64 (plcF l 0 x))=fun _=>Value.int .i64 (-1) from rfl,List.map_const'];simp
theorem plcRow_succ(l:List Int)(n k q:Nat)(hk:k<l.length)(hq:l[k]=(q:Int)):(plcRow l n k).set q (.int .i64 (k:Int))=plcRow l n (k+1):=by
 apply List.ext_getElem?;intro i;rw [List.getElem?_set,plcRow_len];have hg:l.getD k 0=(q:Int):=by rw [List.getD_eq_getElem?_getD,List.getElem?_eq_getElem hk,←hq];rfl
 by_cases hi:i<n
 · rw [plcRow_at l n _ hi,plcRow_at l n _ hi,plcF,hg]
   by_cases e:q=i
   · subst e;rw [if_pos rfl,if_pos hi,if_pos rfl]
   · rw [if_neg e,if_neg (by omega)]
 · rw [List.getElem?_eq_none (l:=plcRow l n (k+1)) (by rw [plcRow_len];omega),List.getElem?_eq_none (l:=plcRow l n k) (by rw [plcRow_len];omega)]
   split
   · rw [if_neg (by omega)]
   · rfl

end Go.Proofs.YtnkogppgacappaaGreatDoor

namespace Go.Proofs.YtnkogppgacappaaGreatDoor
open Go.RowKit

def cellsF(x:Int×DVal):List Value:=[.int .i64 x.1,.bool x.2.reg,.int .i64 x.2.n]
def leF(x y:Int×DVal):Bool:=decide (x.1≤y.1)
def fromOne(at_:Nat→Int)(q:Int×DVal):List (Int×DVal):=if 0≤at_ q.1.toNat then [(at_ q.1.toNat,q.2)] else []
def fromTo(at_:Nat→Int)(A:List Int)(src:List DVal)(j:Nat):List (Int×DVal):=((A.zip src).take j).flatMap (fromOne at_)
def fromL(at_:Nat→Int)(A:List Int)(src:List DVal):List (Int×DVal):=(A.zip src).flatMap (fromOne at_)
def keepP(at_:Nat→Int)(A:List Int)(p:DPhi):DPhi:=⟨p.dst,((fromL at_ A p.src).mergeSort leF).map Prod.snd⟩
def keepB(at_:Nat→Int)(A:List Int)(x:DBlock):DBlock:={ x with phis:=x.phis.map (keepP at_ A),fin:={ x.fin with «to»:=x.fin.to.map fun t=>at_ t.toNat } }
def plcO(ord:List Int)(x:Nat):Int:=plcF ord ord.length x
def keepF(bs:List DBlock)(ord:List Int):List DBlock:=ord.map fun b=>keepB (plcO ord) (predsOf bs 0 b.toNat) (blkOf bs b.toNat)

theorem fromTo_succ {at_:Nat→Int}{A:List Int}{src:List DVal}{j:Nat}{a:Int}{v:DVal}(ha:A[j]?=some a)(hv:src[j]?=some v):fromTo at_ A src (j+1)=fromTo at_ A src j++if 0≤at_ a.toNat then [(at_ a.toNat,v)] else []:=by
 have hz:(A.zip src)[j]?=some (a,v):=by rw [List.getElem?_zip_eq_some];exact⟨ha,hv⟩
 unfold fromTo;rw [List.take_add_one,hz];simp [fromOne]
theorem fromTo_all {at_:Nat→Int}{A:List Int}{src:List DVal}(h:src.length≤A.length):fromTo at_ A src src.length=fromL at_ A src:=by
 unfold fromTo fromL;rw [List.take_of_length_le];rw [List.length_zip];omega
theorem fromL_mem {at_:Nat→Int}{A:List Int}{src:List DVal}{x:Int×DVal}(h:x∈fromL at_ A src):∃a v,(a,v)∈A.zip src∧0≤at_ a.toNat∧x=(at_ a.toNat,v):=by
 unfold fromL at h;obtain⟨⟨a,v⟩,h1,h2⟩:=List.mem_flatMap.1 h;unfold fromOne at h2
 by_cases hc:0≤at_ a.toNat
 · rw [if_pos hc,List.mem_singleton] at h2;exact⟨a,v,h1,hc,h2⟩
 · rw [if_neg hc] at h2;exact absurd h2 (List.not_mem_nil)
theorem fromOne_len(at_:Nat→Int)(q:Int×DVal):(fromOne at_ q).length≤1:=by unfold fromOne;split <;> simp
theorem flatMap_len_le {α β : Type} (f : α → List β) (hf : ∀ x, (f x).length ≤ 1) : ∀ l : List α, (l.flatMap f).length ≤ l.length
 | []=>Nat.le_refl _
 | x :: l=>by rw [List.flatMap_cons,List.length_append,List.length_cons];have:=hf x;have:=flatMap_len_le f hf l;omega
theorem fromL_len(at_:Nat→Int)(A:List Int)(src:List DVal):(fromL at_ A src).length≤src.length :=
 Nat.le_trans (flatMap_len_le _ (fromOne_len at_) _) (by rw [List.length_zip];omega)
theorem fromTo_len(at_:Nat→Int)(A:List Int)(src:List DVal)(j:Nat):(fromTo at_ A src j).length≤src.length :=
 Nat.le_trans (flatMap_len_le _ (fromOne_len at_) _) (by rw [List.length_take,List.length_zip];omega)
theorem fromL_nodup {at_ : Nat → Int} : ∀ {A : List Int} {src : List DVal}, A.Nodup → (∀ a ∈ A, ∀ b ∈ A, 0 ≤ at_ a.toNat → at_ a.toNat = at_ b.toNat → a = b) → ((fromL at_ A src).map Prod.fst).Nodup
 | [],_,_,_=>by simp [fromL]
 | _ :: _,[],_,_=>by simp [fromL]
 | a :: A,v :: src,hn,hi=>by
   have ih:=fromL_nodup (at_:=at_) (A:=A) (src:=src) (List.nodup_cons.1 hn).2 (fun x hx y hy=>hi x (List.mem_cons_of_mem _ hx) y (List.mem_cons_of_mem _ hy));have e:fromL at_ (a :: A) (v :: src)=fromOne at_ (a,v)++fromL at_ A src:=by simp [fromL]
   rw [e,List.map_append]
   by_cases hc:0≤at_ a.toNat
   · rw [show fromOne at_ (a,v)=[(at_ a.toNat,v)] from if_pos hc]
     refine List.nodup_append.2 ⟨by simp,ih,fun x hx y hy he=>?_⟩;rw [List.map_singleton,List.mem_singleton] at hx;obtain⟨z,hz,rfl⟩:=List.mem_map.1 hy;obtain⟨b,u,h1,h2,rfl⟩:=fromL_mem hz;have hb:b∈A:=(List.of_mem_zip h1).1;have:=hi a (List.mem_cons_self ..) b (List.mem_cons_of_mem _ hb) hc (by rw [hx] at he;exact he);subst this;exact (List.nodup_cons.1 hn).1 hb
   · rw [show fromOne at_ (a,v)=[] from if_neg hc]
     exact ih

theorem plcF_get (l : List Int) (x : Nat) : ∀ k, 0 ≤ plcF l k x → ∃ i, i < k ∧ plcF l k x = (i : Int) ∧ l.getD i 0 = (x : Int)
 | 0,h=>by exact absurd h (by show ¬(0:Int) ≤ -1;omega)
 | k+1,h=>by
   unfold plcF at h ⊢
   by_cases e:l.getD k 0=(x:Int)
   · rw [if_pos e];exact⟨k,by omega,rfl,e⟩
   · rw [if_neg e] at h ⊢
     obtain⟨i,h1,h2,h3⟩:=plcF_get l x k h;exact⟨i,by omega,h2,h3⟩
theorem plcO_inj {ord:List Int}{x y:Nat}(h:0≤plcO ord x)(he:plcO ord x=plcO ord y):x=y:=by
 obtain⟨i,_,h2,h3⟩:=plcF_get ord x _ h;obtain⟨j,_,h5,h6⟩:=plcF_get ord y _ (by unfold plcO at he;rw [←he];exact h);have:i=j:=by unfold plcO at he;omega
 subst this;omega
theorem plcO_le(ord:List Int)(x:Nat) : -1≤plcO ord x∧plcO ord x<(ord.length:Int):=plcF_le ord x _

def phiUp(at_:Nat→Int)(A:List Int)(x:DBlock)(i:Nat):DBlock:={ x with phis:=x.phis.mapIdx fun m p=>if m<i then keepP at_ A p else p }
def toUp(at_:Nat→Int)(A:List Int)(x:DBlock)(j:Nat):DBlock:={ x with phis:=x.phis.map (keepP at_ A),fin:={ x.fin with «to»:=x.fin.to.mapIdx fun m t=>if m<j then at_ t.toNat else t } }
theorem phiUp_zero(at_:Nat→Int)(A:List Int)(x:DBlock):phiUp at_ A x 0=x:=by
 have:(x.phis.mapIdx fun m p=>if m<0 then keepP at_ A p else p)=x.phis:=by
  apply List.ext_getElem?;intro i;rw [mapIdx_at];simp
 unfold phiUp;rw [this]
theorem phiUp_all(at_:Nat→Int)(A:List Int)(x:DBlock):phiUp at_ A x x.phis.length=toUp at_ A x 0:=by
 have h1:(x.phis.mapIdx fun m p=>if m<x.phis.length then keepP at_ A p else p)=x.phis.map (keepP at_ A):=by
  apply List.ext_getElem?;intro i;rw [mapIdx_at,List.getElem?_map]
  by_cases hi:i<x.phis.length
  · simp only [if_pos hi]
  · rw [List.getElem?_eq_none (by omega)];rfl
 have h2:(x.fin.to.mapIdx fun m t=>if m<0 then at_ t.toNat else t)=x.fin.to:=by
  apply List.ext_getElem?;intro i;rw [mapIdx_at];simp
 unfold phiUp toUp;rw [h1,h2]
theorem toUp_all(at_:Nat→Int)(A:List Int)(x:DBlock):toUp at_ A x x.fin.to.length=keepB at_ A x:=by
 have h1:(x.fin.to.mapIdx fun m t=>if m<x.fin.to.length then at_ t.toNat else t)=x.fin.to.map fun t=>at_ t.toNat:=by
  apply List.ext_getElem?;intro i;rw [mapIdx_at,List.getElem?_map]
  by_cases hi:i<x.fin.to.length
  · simp only [if_pos hi]
  · rw [List.getElem?_eq_none (by omega)];rfl
 unfold toUp keepB;rw [h1]
theorem phiUp_src {at_:Nat→Int}{A:List Int}{x:DBlock}{i:Nat}{p:DPhi}(hp:x.phis[i]?=some p):srcB (phiUp at_ A x i) i (keepP at_ A p).src=phiUp at_ A x (i+1):=by
 have hi:=(List.getElem?_eq_some_iff.1 hp).1;unfold srcB phiUp
 congr 1
 apply List.ext_getElem?;intro m;rw [List.getElem?_set,List.length_mapIdx,mapIdx_at,mapIdx_at]
 by_cases e:i=m
 · subst e
   rw [if_pos rfl,if_pos hi,hp,List.getD_eq_getElem?_getD,mapIdx_at,hp];simp [keepP]
 · rw [if_neg e]
   congr 1
   funext q
   by_cases h:m<i
   · rw [if_pos h,if_pos (by omega)]
   · rw [if_neg h,if_neg (by omega)]
theorem srcB_twice(y:DBlock)(i:Nat)(l l':List DVal)(hi:i<y.phis.length):srcB (srcB y i l) i l'=srcB y i l':=by
 unfold srcB;simp only [List.set_set]
 congr 2
 rw [List.getD_eq_getElem?_getD,List.getElem?_set_self hi];rfl
theorem toUp_set {at_:Nat→Int}{A:List Int}{x:DBlock}{j:Nat}{t:Int}(ht:x.fin.to[j]?=some t):toB (toUp at_ A x j) j (at_ t.toNat)=toUp at_ A x (j+1):=by
 have hj:=(List.getElem?_eq_some_iff.1 ht).1;have e:((x.fin.to.mapIdx fun m t=>if m<j then at_ t.toNat else t).set j (at_ t.toNat))=x.fin.to.mapIdx fun m t=>if m<j+1 then at_ t.toNat else t:=?_
 · unfold toB toUp
   simp only [e]
 apply List.ext_getElem?;intro m;rw [List.getElem?_set,List.length_mapIdx,mapIdx_at,mapIdx_at]
 by_cases e:j=m
 · subst e
   rw [if_pos rfl,if_pos hj,ht];simp
 · rw [if_neg e]
   congr 1
   funext q
   by_cases h:m<j
   · rw [if_pos h,if_pos (by omega)]
   · rw [if_neg h,if_neg (by omega)]

end Go.Proofs.YtnkogppgacappaaGreatDoor

namespace Go.Proofs.YtnkogppgacappaaGreatDoor
open Go.RowKit

structure FunOk (bs:List DBlock):Prop where
 len:bs.length≤1048576
 num:∀x∈bs,NumB x
 small:∀x∈bs,SmallB x
 to2:∀x∈bs,x.fin.to.length≤2
 toIn:∀x∈bs,∀t∈x.fin.to,0≤t∧t<(bs.length:Int)
 toNd:∀x∈bs,x.fin.to.Nodup
 src:∀b,b<bs.length→∀p∈(blkOf bs b).phis,p.src.length=(predsOf bs 0 b).length
theorem FunOk.hto {bs:List DBlock}(h:FunOk bs)(k:Nat)(x:DBlock)(hx:bs[k]?=some x):x.fin.to.length≤2∧∀t∈x.fin.to,0≤t∧t<(bs.length:Int) :=
 ⟨h.to2 x (List.mem_of_getElem? hx),h.toIn x (List.mem_of_getElem? hx)⟩
theorem hits_nodup {«to»:List Int}(h:«to».Nodup)(t i:Nat):(hits «to» t i).length≤1:=by
 unfold hits;rw [List.length_map]
 match hf:«to».filter fun x:Int=>decide (x=(t:Int)) with
 | []=>simp
 | [_]=>simp
 | a :: b :: r =>
   have hn:(«to».filter fun x:Int=>decide (x=(t:Int))).Nodup:=h.filter _;rw [hf] at hn;have ha:a∈«to».filter fun x:Int=>decide (x=(t:Int)):=by rw [hf];simp
   have hb:b∈«to».filter fun x:Int=>decide (x=(t:Int)):=by rw [hf];simp
   have e1:=of_decide_eq_true (List.mem_filter.1 ha).2;have e2:=of_decide_eq_true (List.mem_filter.1 hb).2;rw [List.nodup_cons] at hn;exact absurd (by rw [e1,e2];simp) hn.1
theorem predsOf_ge {l:List DBlock}{s t:Nat}{x:Int}(h:x∈predsOf l s t):(s:Int)≤x:=by
 induction l generalizing s with
 | nil=>simp [predsOf] at h
 | cons b l ih =>
   simp only [predsOf,List.mem_append] at h;rcases h with h | h
   · have:=hits_mem h;omega
   · have:=ih h;omega
theorem predsOf_nodup : ∀ (l : List DBlock) (s t : Nat), (∀ x ∈ l, x.fin.to.Nodup) → (predsOf l s t).Nodup
 | [],_,_,_=>by simp [predsOf]
 | b :: l,s,t,h=>by
   have h1:=hits_nodup (h b (List.mem_cons_self ..)) t s;have h2:=predsOf_nodup l (s+1) t (fun x hx=>h x (List.mem_cons_of_mem _ hx));rw [predsOf];refine List.nodup_append.2 ⟨?_,h2,fun x hx y hy e=>?_⟩
   · match hh:hits b.fin.to t s,h1 with
     | [],_=>simp
     | [_],_=>simp
   · have:=hits_mem hx
     have:=predsOf_ge hy;omega
theorem FunOk.nodup {bs:List DBlock}(h:FunOk bs)(t:Nat):(predsOf bs 0 t).Nodup:=predsOf_nodup bs 0 t h.toNd
theorem ahead_at {bs:List DBlock}{b:Nat}(hb:b<bs.length):(aheadF bs)[b]?=some (predsOf bs 0 b):=by
 unfold aheadF;rw [List.getElem?_map,List.getElem?_range hb];rfl

theorem step_append_row {P : Program} {w : World} {ops : Array Oper} {o : Oper} {a : Act} {K : Act → World → Prop} {Q : Exit → Act → World → Prop} {E : Prop} (hgd : o.guard = none) (s x : Operand) (t : TypeId)
 (ho:o.op = .call { callee := .builtin .append,args:=#[s,x],argTypes:=#[t,t] })
 (base:Nat) (e:TypeId) (i:TypeInfo) (z:Value) (size bytes:Nat) (ht:P.underlying t=some (.slice e)) (hi:P.info? e=some i) (hz:i.zero=some z)
 (hsize:i.size=size) (hby:i.bytes=bytes) (hzs:z.cells.size=size) (hsz:0<size)
 (v:Value) (n:Nat) (xs:List Value) (hs:a.eval s=v) (hown:w.ownsRow base e size v n xs)
 (ad:Addr) (m c:Nat) (news:List Value) (hx:a.eval x = .slice (some ad) m c) (hl:news.length=m * size) (hnews:∀(j:Nat) u,news[j]?=some u→w.cell? (ad.add j)=some u) (h1:∀u∈news,u.oneCell'=true)
 (h63:n+m≤maxLen) (hbytes:(n+m) * bytes≤140737488355328) (hbase:base≤w.heap.size)
 (h:∀v' w',w'.ownsRow base e size v' (n+m) (xs++news)→w.grownBy w' v.ownBlock→(v'.ownBlock=v.ownBlock∨v'.ownBlock=some w.heap.size)→K (a.put o.dst v') w') :
 if Region.wanted o (yielded ops a.tmps)=true then Oper.wp P o a w K Q else E:=by
 have hw:Region.wanted o (yielded ops a.tmps)=true:=by simp [Region.wanted,hgd]
 rw [if_pos hw];obtain⟨v',w',hrun,hown',hgrow,-,hat⟩:=run_append_own_at (P:=P) w base t o.type e i z size bytes ht hi hz hsize hby hzs hsz v n xs hown ad m c news hl hnews h1 h63 hbytes hbase;unfold Oper.wp execOp;simp only [ho,resolve,invoke,builtin,Sem.run_bind,Sem.run_pure,Result.andThen_ok,List.map_toArray,List.map_cons,List.map_nil,hs,hx,hrun];exact h v' w' hown' hgrow hat
theorem ownsRow_at {w:World}{base sz n:Nat}{e:TypeId}{v:Value}{xss:List (List Value)}(h:w.ownsRow base e sz v n xss.flatten)(hw:∀cs∈xss,cs.length=sz){j:Nat}{cs:List Value}(hj:xss[j]?=some cs)(hn:n≠0) :
 ∃g c,v = .slice (some ⟨g,0,none⟩) n c∧CellsAt w g (j * sz) cs:=by
 rcases id h.2 with⟨-,h2⟩ | ⟨g,cap,cur,rfl,-⟩
 · exact absurd h2 hn
 · refine⟨g,cap,rfl,fun m u hu=>?_⟩
   have hm:m<sz:=by rw [←hw cs (List.mem_of_getElem? hj)];exact (List.getElem?_eq_some_iff.1 hu).1
   have hf:=flat_at xss (fun i cs hi=>hw cs (List.mem_of_getElem? hi)) j m cs hj hm;rw [hu] at hf;have hcell:=h.cells (g:=g) rfl (j * sz+m) u hf;rw [show (⟨g,0,none⟩:Addr).add (j * sz+m)=⟨g,j * sz+m,none⟩ by unfold Addr.add;split <;> simp_all] at hcell;exact hcell
def SameV(U V:Pth→Value):Prop:=U .blks=V .blks∧∀b,U (.phis b)=V (.phis b)∧U (.list b)=V (.list b)∧U (.to b)=V (.to b)
theorem SameV.refl(V:Pth→Value):SameV V V:=⟨rfl,fun _=>⟨rfl,rfl,rfl⟩⟩
theorem SameV.src {U V:Pth→Value}(h:SameV U V)(b i:Nat)(v:Value):SameV (updP U (.src b i) v) V :=
 ⟨by rw [updP_ne _ _ (by simp)];exact h.1,fun c=>by rw [updP_ne _ _ (by simp),updP_ne _ _ (by simp),updP_ne _ _ (by simp)];exact h.2 c⟩
theorem SameV.blk {U V:Pth→Value}(h:SameV U V)(v:Value):SameV (updP U .vBlk v) V :=
 ⟨by rw [updP_ne _ _ (by simp)];exact h.1,fun c=>by rw [updP_ne _ _ (by simp),updP_ne _ _ (by simp),updP_ne _ _ (by simp)];exact h.2 c⟩
def nsO(bs:List DBlock)(V:Pth→Value)(ord:List Int)(k:Nat):List (List Value):=(ord.take k).map fun b=>cellsB (blkOf bs b.toNat) (V (.phis b.toNat)) (V (.list b.toNat)) (V (.to b.toNat))
theorem nsO_succ {bs:List DBlock}{V:Pth→Value}{ord:List Int}{k q:Nat}(h:ord[k]?=some (q:Int)):nsO bs V ord (k+1)=nsO bs V ord k++[cellsB (blkOf bs q) (V (.phis q)) (V (.list q)) (V (.to q))]:=by
 unfold nsO;rw [List.take_add_one,h];simp
theorem nsO_len {bs:List DBlock}{V:Pth→Value}{ord:List Int}{k:Nat}(hk:k≤ord.length):(nsO bs V ord k).length=k:=by unfold nsO;rw [List.length_map,List.length_take];omega

def keepX(base:Nat)(S:Nat→Prop)(lo hi:Nat)(b:Nat):Prop:=b<base∨S b∨(lo≤b∧b<hi)
def keepX1(base:Nat)(S:Nat→Prop)(lo hi LB:Nat)(b:Nat):Prop:=keepX base S lo hi b∨b=LB
def keepX3(base:Nat)(S:Nat→Prop)(lo hi LB PB:Nat)(g:Option Nat)(b:Nat):Prop:=keepX1 base S lo hi LB b∨b=PB∨g=some b
structure KpSt (W3 wr:World)(base:Nat)(X:Nat→Prop)(bs:List DBlock)(ord:List Int)(V:Pth→Value)(k:Nat)(bsk:List DBlock)(U:Pth→Value):Prop where
 st:RwSt W3 wr base X (okN bsk) U (elN bsk U (nsO bs V ord k))
 len:bsk.length=bs.length
 blk:∀b,b<bs.length→blkOf bsk b=if (b:Int)∈ord.take k then keepB (plcO ord) (predsOf bs 0 b) (blkOf bs b) else blkOf bs b
 same:SameV U V
structure FrSt (W5 wr:World)(v:Value)(l:List (Int×DVal)):Prop where
 own:wr.ownsRow W5.heap.size 159 3 v l.length (l.map cellsF).flatten
 low:Below W5.heap.size W5 wr
theorem FrSt.snoc {W5 W7 W8 w9:World}{v v':Value}{l:List (Int×DVal)}(h:FrSt W5 W7 v l)(h8:Below W7.heap.size W7 W8)(x:Int×DVal)(ho:w9.ownsRow W5.heap.size 159 3 v' (l.length+1) ((l.map cellsF).flatten++cellsF x))(hg:W8.grownBy w9 v.ownBlock):FrSt W5 w9 v' (l++[x]):=by
 have hz:=Nat.le_trans h.low.size h8.size;refine⟨?_,(h.low.trans (h8.mono h.low.size)).grown hg hz (fun k hk=>(h.own.lt k hk).1)⟩;rw [List.length_append,List.map_append,List.flatten_append];simpa using ho
structure KpIn (Wa wr:World)(base:Nat)(X:Nat→Prop)(bsk:List DBlock)(q:Nat)(y:DBlock)(V:Pth→Value)(ns:List (List Value))(nv:Value)(U:Pth→Value):Prop where
 st:RwSt Wa wr base X (okN (bsk.set q y)) U (elN (bsk.set q y) U ns)
 same:SameV U V
 new:U .vBlk=nv
section
variable {Wa W W' : World} {base : Nat} {X : Nat → Prop} {bsk : List DBlock} {q : Nat} {y : DBlock} {V U : Pth → Value} {ns : List (List Value)} {nv : Value}
theorem KpIn.later(h:KpIn Wa W base X bsk q y V ns nv U)(hb:Below W.heap.size W W'):KpIn Wa W' base X bsk q y V ns nv U:=⟨h.st.later hb,h.same,h.new⟩
theorem KpIn.keep(h:KpIn Wa W base X bsk q y V ns nv U){X':Nat→Prop}(hX:∀b,X' b→b<W.heap.size)(off:∀p,okN (bsk.set q y) p→∀k,(U p).ownBlock=some k→¬X' k):KpIn W W base X' bsk q y V ns nv U:=⟨h.st.keep hX off,h.same,h.new⟩
theorem KpIn.trans {Wb:World}{X':Nat→Prop}{y':DBlock}{U':Pth→Value}(h:KpIn Wa Wb base X bsk q y V ns nv U)(k:KpIn Wb W base X' bsk q y' V ns nv U')(hX:∀b,X b→X' b):KpIn Wa W base X bsk q y' V ns nv U':=⟨h.st.trans k.st hX,k.same,k.new⟩
theorem KpIn.src {i g c n : Nat} (h : KpIn Wa W base X bsk q y V ns nv U) (hq : q < bsk.length) (hi : i < y.phis.length) (hv : V (.phis q) = .slice (some ⟨g, 0, none⟩) n c)
 {v':Value} {l:List DVal} (ho:W'.ownsRow base 72 2 v' l.length (l.map cellsV).flatten) (hg:W.grownBy W' (U (.src q i)).ownBlock) (hbk:∀k,v'.ownBlock=some k→(U (.src q i)).ownBlock=some k∨W.heap.size≤k) :
 KpIn Wa (W'.setCell ⟨g,i * 2+1,none⟩ v') base X bsk q (srcB y i l) V ns nv (updP U (.src q i) v'):=by
 have hqs:q<(bsk.set q y).length:=by simpa using hq
 have hbq:blkOf (bsk.set q y) q=y:=by rw [blkOf_set hq,if_pos rfl]
 have h1:=h.st.setSrc (b:=q) (i:=i) (g:=g) (n:=n) (c:=c) hqs (by rw [hbq];exact hi) (by rw [(h.same.2 q).1];exact hv) ho hg hbk;rw [hbq,List.set_set] at h1;exact⟨h1,h.same.src q i v',by rw [updP_ne _ _ (by simp)];exact h.new⟩
theorem KpIn.to {j g c n:Nat}{t:Int}(h:KpIn Wa W base X bsk q y V ns nv U)(hq:q<bsk.length)(hj:j<y.fin.to.length)(hv:V (.to q) = .slice (some ⟨g,0,none⟩) n c) :
 KpIn Wa (W.setCell ⟨g,j,none⟩ (.int .i64 t)) base X bsk q (toB y j t) V ns nv U:=by
 have hqs:q<(bsk.set q y).length:=by simpa using hq
 have hbq:blkOf (bsk.set q y) q=y:=by rw [blkOf_set hq,if_pos rfl]
 have h1:=h.st.setTo (b:=q) (j:=j) (g:=g) (n:=n) (c:=c) (t:=t) hqs (by rw [hbq];exact hj) (by rw [(h.same.2 q).2.2];exact hv);rw [hbq,List.set_set] at h1;exact⟨h1,h.same,h.new⟩
end
theorem KpSt.start {W3 w:World}{base:Nat}{S:Nat→Prop}{bs:List DBlock}{V:Pth→Value}(h:FunSt w base bs V)(hb:Below w.heap.size w W3)(hbase:base≤w.heap.size)(hS:∀b,S b→b<w.heap.size∧∀q,okP bs q→(V q).ownBlock≠some b)(ord:List Int) :
 KpSt W3 W3 base (keepX base S w.heap.size W3.heap.size) bs ord V 0 bs (updP V .vBlk (.slice none 0 0)):=by
 have hz:=hb.size
 have h0 := RwSt.start (X := keepX base S w.heap.size W3.heap.size) (RowsAt.later h hb) (fun b hx => by
  rcases hx with h1 | h1 | h1
  · omega
  · have := (hS b h1).1; omega
  · exact h1.2) (fun q hq k hk hx => by
  have hl := RowsAt.lt h hq k hk
  rcases hx with h1 | h1 | h1
  · omega
  · exact (hS k h1).2 q hq hk
  · omega) (by omega)
 refine⟨h0.nil .vBlk (fun h=>h),rfl,fun b hb=>by rw [List.take_zero,if_neg (List.not_mem_nil)],(SameV.refl V).blk _⟩
theorem fromL_small(ord:List Int)(hm:ord.length≤1048576)(A:List Int)(src:List DVal):∀x∈fromL (plcO ord) A src,0≤x.1∧x.1≤1048576:=fun x hx=>by
 obtain⟨a,v,-,h2,rfl⟩:=fromL_mem hx;have:=(plcO_le ord a.toNat).2;exact⟨h2,by dsimp only;omega⟩
theorem fromL_keys {bs:List DBlock}(h:FunOk bs)(ord:List Int)(q:Nat)(src:List DVal):((fromL (plcO ord) (predsOf bs 0 q) src).map Prod.fst).Nodup :=
 fromL_nodup (h.nodup q) fun a ha b hb h0 he=>by
  have h1:=(predsOf_mem ha).1;have h2:=(predsOf_mem hb).1;have:=plcO_inj h0 he;omega

theorem KpSt.opens {W3 W:World}{base:Nat}{X:Nat→Prop}{bs:List DBlock}{ord:List Int}{V U:Pth→Value}{k q:Nat}{bsk:List DBlock}(h:KpSt W3 W base X bs ord V k bsk U)(hq:q<bs.length)(hk:ord[k]?=some (q:Int))(hnd:ord.Nodup) :
 blkOf bsk q=blkOf bs q∧KpIn W3 W base X bsk q (blkOf bs q) V (nsO bs V ord k) (U .vBlk) U:=by
 have e:blkOf bsk q=blkOf bs q:=by
  rw [h.blk q hq,if_neg];intro hm;obtain⟨i,hi,hi2⟩:=List.getElem_of_mem hm;have hil:i<ord.length:=by rw [List.length_take] at hi;omega
  have hkl:=(List.getElem?_eq_some_iff.1 hk).1;rw [List.getElem_take] at hi2;have hki:=(List.getElem?_eq_some_iff.1 hk).2;have hik:i<k:=by rw [List.length_take] at hi;omega
  exact (List.pairwise_iff_getElem.1 hnd) i k hil hkl hik (hi2.trans hki.symm)
 have hqk:q<bsk.length:=by rw [h.len];exact hq
 have es:bsk.set q (blkOf bs q)=bsk:=list_set_self (by rw [←e];exact blkOf_self bsk hqk);exact⟨e,by rw [es];exact h.st,h.same,rfl⟩
theorem KpSt.next {W3 Wa W W' : World} {base : Nat} {X X' : Nat → Prop} {bs : List DBlock} {ord : List Int} {V U U' : Pth → Value} {k q : Nat} {bsk : List DBlock} {nv v' : Value} (h : KpSt W3 Wa base X bs ord V k bsk U) (hq : q < bs.length) (hk : ord[k]? = some (q : Int))
 (hin:KpIn Wa W base X' bsk q (keepB (plcO ord) (predsOf bs 0 q) (blkOf bs q)) V (nsO bs V ord k) nv U') (hX:∀b,X b→X' b)
 (ho:W'.ownsRow base 76 6 v' ((nsO bs V ord k).length+1) ((nsO bs V ord k).flatten++cellsB (blkOf bs q) (V (.phis q)) (V (.list q)) (V (.to q)))) (hg:W.grownBy W' nv.ownBlock) (hbk:∀k,v'.ownBlock=some k→nv.ownBlock=some k∨W.heap.size≤k) :
 KpSt W3 W' base X bs ord V (k+1) (bsk.set q (keepB (plcO ord) (predsOf bs 0 q) (blkOf bs q))) (updP U' .vBlk v'):=by
 have hqk:q<bsk.length:=by rw [h.len];exact hq
 have h1:=(h.st.trans hin.st hX).addBlk (v':=v') (cs:=cellsB (blkOf bs q) (V (.phis q)) (V (.list q)) (V (.to q))) rfl ho (by rw [hin.new];exact hg) (by rw [hin.new];exact hbk);refine⟨by rw [nsO_succ hk];exact h1,by rw [List.length_set];exact h.len,fun b hb=>?_,hin.same.blk v'⟩;have hm:(b:Int)∈ord.take (k+1)↔(b:Int)∈ord.take k∨b=q:=by
  rw [List.take_add_one,hk,List.mem_append,Option.toList_some,List.mem_singleton];exact or_congr Iff.rfl Int.ofNat_inj
 rw [blkOf_set hqk]
 by_cases e:b=q
 · subst e;rw [if_pos rfl,if_pos (hm.2 (.inr rfl))]
 · rw [if_neg e,h.blk b hb]
   by_cases hc:(b:Int)∈ord.take k
   · rw [if_pos hc,if_pos (hm.2 (.inl hc))]
   · rw [if_neg hc,if_neg fun h=>(hm.1 h).elim hc e]

theorem KpSt.later {W3 W W':World}{base:Nat}{X:Nat→Prop}{bs:List DBlock}{ord:List Int}{V U:Pth→Value}{k:Nat}{bsk:List DBlock}(h:KpSt W3 W base X bs ord V k bsk U)(hb:Below W.heap.size W W'):KpSt W3 W' base X bs ord V k bsk U:=⟨h.st.later hb,h.len,h.blk,h.same⟩
theorem RowsAt.setOff {W:World}{base:Nat}{ok:Pth→Prop}{V:Pth→Value}{C:Pth→List (List Value)}(h:RowsAt W base ok V C){b o:Nat}(hb:∀p,ok p→(V p).ownBlock≠some b)(u:Value):RowsAt (W.setCell ⟨b,o,none⟩ u) base ok V C :=
 h.off (row:=some b) ⟨rfl,rfl,rfl,by simp [World.setCell],fun k _ hne=>Below.heap_setCell _ _ _ _ (fun e=>hne (by rw [e]))⟩ (fun p hp k hk e=>hb p hp (by rw [hk,e]))
theorem RowsAt.map {W:World}{base:Nat}{ok ok':Pth→Prop}{V:Pth→Value}{C:Pth→List (List Value)}(h:RowsAt W base ok V C)(f:Pth→Pth)(ht:∀p,(f p).ty=p.ty∧(f p).sz=p.sz)(ho:∀p,ok' p→ok (f p))(hi:∀p q,ok' p→ok' q→f p=f q→p=q):RowsAt W base ok' (fun p=>V (f p)) (fun p=>C (f p)) :=
 ⟨fun p hp=>by rw [←(ht p).1,←(ht p).2];exact h.own (f p) (ho p hp),fun p hp=>by rw [←(ht p).2];exact h.wid (f p) (ho p hp),fun p q hp hq hne=>h.apart (f p) (f q) (ho p hp) (ho q hq) fun e=>hne (hi p q hp hq e)⟩
def oldP (ord : List Int) : Pth → Pth
 | .blks => .vBlk
 | .phis b => .phis (ord.getD b 0).toNat
 | .src b p => .src (ord.getD b 0).toNat p
 | .list b => .list (ord.getD b 0).toNat
 | .args b i => .args (ord.getD b 0).toNat i
 | .to b => .to (ord.getD b 0).toNat
 | .vBlk => .blks
 | .vPhi => .vPhi
 | .vIns => .vIns
theorem keepF_at {bs:List DBlock}{ord:List Int}{i:Nat}(hi:i<ord.length):blkOf (keepF bs ord) i=keepB (plcO ord) (predsOf bs 0 (ord.getD i 0).toNat) (blkOf bs (ord.getD i 0).toNat):=by
 have e:ord.getD i 0=ord[i]:=by rw [List.getD_eq_getElem?_getD,List.getElem?_eq_getElem hi];rfl
 refine blkOf_at ?_;unfold keepF;rw [List.getElem?_map,List.getElem?_eq_getElem hi,e];rfl
theorem KpSt.pick {W3 W:World}{base:Nat}{X:Nat→Prop}{bs:List DBlock}{ord:List Int}{V U:Pth→Value}{bsk:List DBlock}(h:KpSt W3 W base X bs ord V ord.length bsk U)(hin:∀x∈ord,0≤x∧x<(bs.length:Int))(hnd:ord.Nodup){W':World}(hr:RowsAt W' base (okN bsk) U (elN bsk U (nsO bs V ord ord.length))) :
 FunSt W' base (keepF bs ord) (fun p=>U (oldP ord p))∧∀q,okP (keepF bs ord) q→okN bsk (oldP ord q):=by
 have hget:∀i,i<ord.length→ord.getD i 0∈ord∧((ord.getD i 0).toNat:Int)=ord.getD i 0∧(ord.getD i 0).toNat<bs.length:=fun i hi=>by
  have e:ord.getD i 0=ord[i]:=by rw [List.getD_eq_getElem?_getD,List.getElem?_eq_getElem hi];rfl
  have hm:ord.getD i 0∈ord:=by rw [e];exact List.getElem_mem hi
  have:=hin _ hm;exact⟨hm,by omega,by omega⟩
 have hblk:∀i,i<ord.length→blkOf (keepF bs ord) i=blkOf bsk (ord.getD i 0).toNat:=fun i hi=>by
  obtain⟨h1,h2,h3⟩:=hget i hi;rw [keepF_at hi,h.blk _ h3,List.take_length,h2,if_pos h1]
 have hlt:∀q b,okP (keepF bs ord) q→(q = .phis b∨(∃p,q = .src b p)∨q = .list b∨(∃p,q = .args b p)∨q = .to b)→b<ord.length:=fun q b hq hb=>by
  have hl:(keepF bs ord).length=ord.length:=by simp [keepF]
  rcases hb with rfl | ⟨p,rfl⟩ | rfl | ⟨p,rfl⟩ | rfl
  · have hq':b<(keepF bs ord).length:=hq
    omega
  · exact Nat.lt_of_not_le fun hle=>by rw [okP,blkOf_out (by omega)] at hq;exact absurd hq (Nat.not_lt_zero _)
  · have hq':b<(keepF bs ord).length:=hq
    omega
  · exact Nat.lt_of_not_le fun hle=>by rw [okP,blkOf_out (by omega)] at hq;exact absurd hq (Nat.not_lt_zero _)
  · have hq':b<(keepF bs ord).length:=hq
    omega
 have hinj:∀b c,b<ord.length→c<ord.length→(ord.getD b 0).toNat=(ord.getD c 0).toNat→b=c:=fun b c hb hc e=>by
  have e1:=(hget b hb).2.1;have e2:=(hget c hc).2.1;have e3:ord.getD b 0=ord.getD c 0:=by omega
  rw [List.getD_eq_getElem?_getD,List.getD_eq_getElem?_getD,List.getElem?_eq_getElem hb,List.getElem?_eq_getElem hc] at e3;have hp:=List.pairwise_iff_getElem.1 hnd;rcases Nat.lt_trichotomy b c with h1 | h1 | h1
  · exact absurd e3 (hp b c hb hc h1)
  · exact h1
  · exact absurd e3.symm (hp c b hc hb h1)
 have hokq:∀q,okP (keepF bs ord) q→okN bsk (oldP ord q):=fun q hq=>by
  cases q with
  | blks=>exact .inr rfl
  | phis b=>exact .inl (by have:=hget b (hlt _ b hq (.inl rfl));show _<bsk.length;rw [h.len];exact this.2.2)
  | src b p=>exact .inl (by show p<(blkOf bsk _).phis.length;rw [←hblk b (hlt _ b hq (.inr (.inl ⟨p,rfl⟩)))];exact hq)
  | list b=>exact .inl (by have:=hget b (hlt _ b hq (.inr (.inr (.inl rfl))));show _<bsk.length;rw [h.len];exact this.2.2)
  | args b p=>exact .inl (by show p<(blkOf bsk _).list.length;rw [←hblk b (hlt _ b hq (.inr (.inr (.inr (.inl ⟨p,rfl⟩)))))];exact hq)
  | «to» b=>exact .inl (by have:=hget b (hlt _ b hq (.inr (.inr (.inr (.inr rfl)))));show _<bsk.length;rw [h.len];exact this.2.2)
  | vBlk=>exact absurd hq id
  | vPhi=>exact absurd hq id
  | vIns=>exact absurd hq id
 have hm := hr.map (ok' := okP (keepF bs ord)) (oldP ord) (fun p => by cases p <;> exact ⟨rfl, rfl⟩) hokq (fun p q hp hq e => by
  cases p <;> cases q <;> first
   | rfl
   | exact absurd hp id
   | exact absurd hq id
   | (simp only [oldP, reduceCtorEq] at e; done)
   | (simp only [oldP, Pth.phis.injEq] at e; rw [hinj _ _ (hlt _ _ hp (.inl rfl)) (hlt _ _ hq (.inl rfl)) e])
   | (simp only [oldP, Pth.src.injEq] at e; rw [hinj _ _ (hlt _ _ hp (.inr (.inl ⟨_, rfl⟩))) (hlt _ _ hq (.inr (.inl ⟨_, rfl⟩))) e.1, e.2])
   | (simp only [oldP, Pth.list.injEq] at e; rw [hinj _ _ (hlt _ _ hp (.inr (.inr (.inl rfl)))) (hlt _ _ hq (.inr (.inr (.inl rfl)))) e])
   | (simp only [oldP, Pth.args.injEq] at e; rw [hinj _ _ (hlt _ _ hp (.inr (.inr (.inr (.inl ⟨_, rfl⟩))))) (hlt _ _ hq (.inr (.inr (.inr (.inl ⟨_, rfl⟩))))) e.1, e.2])
   | (simp only [oldP, Pth.to.injEq] at e; rw [hinj _ _ (hlt _ _ hp (.inr (.inr (.inr (.inr rfl))))) (hlt _ _ hq (.inr (.inr (.inr (.inr rfl))))) e]))
 refine⟨hm.congr (fun q _=>rfl) (fun q hq=>?_),hokq⟩;cases q with
 | blks =>
   show elemsP _ _ _=elN bsk U (nsO bs V ord ord.length) .vBlk;rw [elN_blk];simp only [elemsP,nsO,List.take_length];apply List.ext_getElem?;intro i;rw [mapIdx_at,List.getElem?_map]
   by_cases hi:i<ord.length
   · have e:ord.getD i 0=ord[i]:=by rw [List.getD_eq_getElem?_getD,List.getElem?_eq_getElem hi];rfl
     have hs:=h.same.2 (ord.getD i 0).toNat;rw [blkOf_self (keepF bs ord) (by simp [keepF];exact hi),List.getElem?_eq_getElem hi,Option.map_some,Option.map_some,keepF_at hi,←e];simp only [oldP,hs.1,hs.2.1,hs.2.2];rfl
   · rw [List.getElem?_eq_none (by simp [keepF];omega),List.getElem?_eq_none (by omega)];rfl
 | phis b =>
   show elemsP _ _ _=elN bsk U _ (.phis _);rw [elN_ne (by simp)];simp only [elemsP];rw [hblk b (hlt _ b hq (.inl rfl))];rfl
 | src b p =>
   show elemsP _ _ _=elN bsk U _ (.src _ _);rw [elN_ne (by simp)];simp only [elemsP];rw [hblk b (hlt _ b hq (.inr (.inl ⟨p,rfl⟩)))]
 | list b =>
   show elemsP _ _ _=elN bsk U _ (.list _);rw [elN_ne (by simp)];simp only [elemsP];rw [hblk b (hlt _ b hq (.inr (.inr (.inl rfl))))];rfl
 | args b p =>
   show elemsP _ _ _=elN bsk U _ (.args _ _);rw [elN_ne (by simp)];simp only [elemsP];rw [hblk b (hlt _ b hq (.inr (.inr (.inr (.inl ⟨p,rfl⟩)))))]
 | «to» b =>
   show elemsP _ _ _=elN bsk U _ (.to _);rw [elN_ne (by simp)];simp only [elemsP];rw [hblk b (hlt _ b hq (.inr (.inr (.inr (.inr rfl)))))]
 | vBlk=>exact absurd hq id
 | vPhi=>exact absurd hq id
 | vIns=>exact absurd hq id

def Kept(S:Nat→Prop)(w w':World)(bs:List DBlock)(V:Pth→Value):Prop:=∀b,S b→w'.heap[b]?=w.heap[b]?∧∀q,okP bs q→(V q).ownBlock≠some b

end Go.Proofs.YtnkogppgacappaaGreatDoor
