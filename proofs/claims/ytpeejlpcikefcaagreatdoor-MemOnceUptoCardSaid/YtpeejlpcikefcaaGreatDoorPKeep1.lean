import Derived.Test.YtpeejlpcikefcaaGreatDoorPRwSt
/- Where things stand in a list. tidy.Keep, plain: some blocks, in an order. tidy.Keep: what holds between the rounds of its loops. -/
namespace Go.Proofs.YtpeejlpcikefcaaGreatDoor
section
def ako (l : List Int) : Nat -> Nat -> Int
 | 0,_ => -1
 | k+1,x=>if l.getD k 0=(x:Int) then (k:Int) else ako l k x
theorem aoC (l : List Int) (x : Nat) : ∀ k, -1 <= ako l k x ∧ ako l k x < (k : Int)
 | 0=>⟨Int.le_refl _,by show (-1:Int)<0;omega⟩
 | k+1=>by
   have:=aoC l x k;unfold ako;split <;> omega
def adQ(l:List Int)(n k:Nat):List Value:=(List.range n).map fun x=>Value.int .i64 (ako l k x)
theorem agf(l:List Int)(n k:Nat):(adQ l n k).length=n:=by simp [adQ]
theorem aeA(l:List Int)(n k:Nat){x:Nat}(h:x<n):(adQ l n k)[x]?=some (.int .i64 (ako l k x)):=by
 unfold adQ;rw [Aak,Ab8 h];rfl
theorem alw(l:List Int)(n:Nat):adQ l n 0=List.replicate n (.int .i64 (-1)):=by
 unfold adQ;rw [show (fun x=>Value.int .i64 (ako l 0 x))=fun _=>Value.int .i64 (-1) from rfl,List.map_const'];simp
theorem alx(l:List Int)(n k q:Nat)(hk:k<l.length)(hq:l[k]=(q:Int)):(adQ l n k).set q (.int .i64 (k:Int))=adQ l n (k+1):=by
 apply Aap;intro i;rw [Aa5,agf];have hg:l.getD k 0=(q:Int):=by rw [Aaf,Aaa hk,<-hq];rfl
 by_cases hi:i<n
 . rw [aeA l n _ hi,aeA l n _ hi,ako,hg]
   by_cases e:q=i
   . subst e;rw [if_pos rfl,if_pos hi,if_pos rfl]
   . rw [if_neg e,if_neg (by omega)]
 . rw [Aas (l:=adQ l n (k+1)) (by rw [agf];omega),Aas (l:=adQ l n k) (by rw [agf];omega)]
   split
   . rw [if_neg (by omega)]
   . rfl
end
section
open Go.RowKit
def ads(x:Int×aay):List Value:=[.int .i64 x.1,.bool x.2.reg,.int .i64 x.2.n]
def leF(x y:Int×aay):Bool:=decide (x.1<=y.1)
def acz(at_:Nat->Int)(q:Int×aay):List (Int×aay):=if 0<=at_ q.1.toNat then [(at_ q.1.toNat,q.2)] else []
def acT(at_:Nat->Int)(A:List Int)(src:List aay)(j:Nat):List (Int×aay):=((A.zip src).take j).flatMap (acz at_)
def ac0(at_:Nat->Int)(A:List Int)(src:List aay):List (Int×aay):=(A.zip src).flatMap (acz at_)
def ae2(at_:Nat->Int)(A:List Int)(p:acn):acn:=⟨p.dst,((ac0 at_ A p.src).mergeSort leF).map Prod.snd⟩
def afi(at_:Nat->Int)(A:List Int)(x:DBlock):DBlock:={ x with phis:=x.phis.map (ae2 at_ A),fin:={ x.fin with «to»:=x.fin.to.map fun t=>at_ t.toNat } }
def aa8(ord:List Int)(x:Nat):Int:=ako ord ord.length x
def aa7(bs:List DBlock)(ord:List Int):List DBlock:=ord.map fun b=>afi (aa8 ord) (aaf bs 0 b.toNat) (blkOf bs b.toNat)
variable {at_:Nat->Int}{A:List Int}{src:List aay}
theorem ahG{j:Nat}{a:Int}{v:aay}(ha:A[j]?=some a)(hv:src[j]?=some v):acT at_ A src (j+1)=acT at_ A src j++if 0<=at_ a.toNat then [(at_ a.toNat,v)] else []:=by
 have hz:(A.zip src)[j]?=some (a,v):=by rw [List.getElem?_zip_eq_some];exact⟨ha,hv⟩
 unfold acT;rw [Acb,hz];simp [acz]
theorem anj(h:src.length<=A.length):acT at_ A src src.length=ac0 at_ A src:=by
 unfold acT ac0;rw [Abq];rw [List.length_zip];omega
theorem afI{x:Int×aay}(h:x∈ac0 at_ A src):∃a v,(a,v)∈A.zip src∧0<=at_ a.toNat∧x=(at_ a.toNat,v):=by
 unfold ac0 at h;obtain⟨⟨a,v⟩,h1,h2⟩:=List.mem_flatMap.1 h;unfold acz at h2
 by_cases hc:0<=at_ a.toNat
 . rw [if_pos hc,Aax] at h2;exact⟨a,v,h1,hc,h2⟩
 . rw [if_neg hc] at h2;exact absurd h2 (Aao)
theorem ahH(at_:Nat->Int)(q:Int×aay):(acz at_ q).length<=1:=by unfold acz;split <;> simp
theorem adC {α β : Type} (f : α -> List β) (hf : ∀ x, (f x).length <= 1) : ∀ l : List α, (l.flatMap f).length <= l.length
 | []=>Aac _
 | x :: l=>by rw [List.flatMap_cons,Aau,Aba];have:=hf x;have:=adC f hf l;omega
theorem ahI(at_:Nat->Int)(A:List Int)(src:List aay):(ac0 at_ A src).length<=src.length :=
 Aai (adC _ (ahH at_) _) (by rw [List.length_zip];omega)
theorem aiV(at_:Nat->Int)(A:List Int)(src:List aay)(j:Nat):(acT at_ A src j).length<=src.length :=
 Aai (adC _ (ahH at_) _) (by rw [Aar,List.length_zip];omega)
theorem afj {at_ : Nat -> Int} : ∀ {A : List Int} {src : List aay}, A.Nodup -> (∀ a ∈ A, ∀ b ∈ A, 0 <= at_ a.toNat -> at_ a.toNat = at_ b.toNat -> a = b) -> ((ac0 at_ A src).map Prod.fst).Nodup
 | [],_,_,_=>by simp [ac0]
 | _ :: _,[],_,_=>by simp [ac0]
 | a :: A,v :: src,hn,hi=>by
   have ih:=afj (at_:=at_) (A:=A) (src:=src) (List.nodup_cons.1 hn).2 (fun x hx y hy=>hi x (Aa0 _ hx) y (Aa0 _ hy));have e:ac0 at_ (a :: A) (v :: src)=acz at_ (a,v)++ac0 at_ A src:=by simp [ac0]
   rw [e,Aa8]
   by_cases hc:0<=at_ a.toNat
   . rw [show acz at_ (a,v)=[(at_ a.toNat,v)] from if_pos hc]
     refine List.nodup_append.2 ⟨by simp,ih,fun x hx y hy he=>?_⟩;rw [List.map_singleton,Aax] at hx;obtain⟨z,hz,rfl⟩:=Aal.1 hy;obtain⟨b,u,h1,h2,rfl⟩:=afI hz;have hb:b∈A:=(List.of_mem_zip h1).1;have:=hi a (Aa2 ..) b (Aa0 _ hb) hc (by rw [hx] at he;exact he);subst this;exact (List.nodup_cons.1 hn).1 hb
   . rw [show acz at_ (a,v)=[] from if_neg hc]
     exact ih
theorem afJ (l : List Int) (x : Nat) : ∀ k, 0 <= ako l k x -> ∃ i, i < k ∧ ako l k x = (i : Int) ∧ l.getD i 0 = (x : Int)
 | 0,h=>by exact absurd h (by show ¬(0:Int) <= -1;omega)
 | k+1,h=>by
   unfold ako at h ⊢
   by_cases e:l.getD k 0=(x:Int)
   . rw [if_pos e];exact⟨k,by omega,rfl,e⟩
   . rw [if_neg e] at h ⊢
     obtain⟨i,h1,h2,h3⟩:=afJ l x k h;exact⟨i,by omega,h2,h3⟩
theorem aju {ord:List Int}{x y:Nat}(h:0<=aa8 ord x)(he:aa8 ord x=aa8 ord y):x=y:=by
 obtain⟨i,_,h2,h3⟩:=afJ ord x _ h;obtain⟨j,_,h5,h6⟩:=afJ ord y _ (by unfold aa8 at he;rw [<-he];exact h);have:i=j:=by unfold aa8 at he;omega
 subst this;omega
theorem aoD(ord:List Int)(x:Nat) : -1<=aa8 ord x∧aa8 ord x<(ord.length:Int):=aoC ord x _
def abQ(at_:Nat->Int)(A:List Int)(x:DBlock)(i:Nat):DBlock:={ x with phis:=x.phis.mapIdx fun m p=>if m<i then ae2 at_ A p else p }
def aly(at_:Nat->Int)(A:List Int)(x:DBlock)(j:Nat):DBlock:={ x with phis:=x.phis.map (ae2 at_ A),fin:={ x.fin with «to»:=x.fin.to.mapIdx fun m t=>if m<j then at_ t.toNat else t } }
theorem ank(at_:Nat->Int)(A:List Int)(x:DBlock):abQ at_ A x 0=x:=by
 have:(x.phis.mapIdx fun m p=>if m<0 then ae2 at_ A p else p)=x.phis:=by
  apply Aap;intro i;rw [aai];simp
 unfold abQ;rw [this]
theorem aoE(at_:Nat->Int)(A:List Int)(x:DBlock):abQ at_ A x x.phis.length=aly at_ A x 0:=by
 have h1:(x.phis.mapIdx fun m p=>if m<x.phis.length then ae2 at_ A p else p)=x.phis.map (ae2 at_ A):=by
  apply Aap;intro i;rw [aai,Aak]
  by_cases hi:i<x.phis.length
  . simp only [if_pos hi]
  . rw [Aas (by omega)];rfl
 have h2:(x.fin.to.mapIdx fun m t=>if m<0 then at_ t.toNat else t)=x.fin.to:=by
  apply Aap;intro i;rw [aai];simp
 unfold abQ aly;rw [h1,h2]
theorem aqy(at_:Nat->Int)(A:List Int)(x:DBlock):aly at_ A x x.fin.to.length=afi at_ A x:=by
 have h1:(x.fin.to.mapIdx fun m t=>if m<x.fin.to.length then at_ t.toNat else t)=x.fin.to.map fun t=>at_ t.toNat:=by
  apply Aap;intro i;rw [aai,Aak]
  by_cases hi:i<x.fin.to.length
  . simp only [if_pos hi]
  . rw [Aas (by omega)];rfl
 unfold aly afi;rw [h1]
theorem aoF{x:DBlock}{i:Nat}{p:acn}(hp:x.phis[i]?=some p):aeI (abQ at_ A x i) i (ae2 at_ A p).src=abQ at_ A x (i+1):=by
 have hi:=(Aad.1 hp).1;unfold aeI abQ
 congr 1
 apply Aap;intro m;rw [Aa5,Abf,aai,aai]
 by_cases e:i=m
 . subst e
   rw [if_pos rfl,if_pos hi,hp,Aaf,aai,hp];simp [ae2]
 . rw [if_neg e]
   congr 1
   funext q
   by_cases h:m<i
   . rw [if_pos h,if_pos (by omega)]
   . rw [if_neg h,if_neg (by omega)]
theorem anl(y:DBlock)(i:Nat)(l l':List aay)(hi:i<y.phis.length):aeI (aeI y i l) i l'=aeI y i l':=by
 unfold aeI;simp only [Aaz]
 congr 2
 rw [Aaf,Aa6 hi];rfl
theorem aqz{x:DBlock}{j:Nat}{t:Int}(ht:x.fin.to[j]?=some t):toB (aly at_ A x j) j (at_ t.toNat)=aly at_ A x (j+1):=by
 have hj:=(Aad.1 ht).1;have e:((x.fin.to.mapIdx fun m t=>if m<j then at_ t.toNat else t).set j (at_ t.toNat))=x.fin.to.mapIdx fun m t=>if m<j+1 then at_ t.toNat else t:=?_
 . unfold toB aly
   simp only [e]
 apply Aap;intro m;rw [Aa5,Abf,aai,aai]
 by_cases e:j=m
 . subst e
   rw [if_pos rfl,if_pos hj,ht];simp
 . rw [if_neg e]
   congr 1
   funext q
   by_cases h:m<j
   . rw [if_pos h,if_pos (by omega)]
   . rw [if_neg h,if_neg (by omega)]
end
section
open Go.RowKit
structure acU (bs:List DBlock):Prop where
 len:bs.length<=1048576
 num:∀x∈bs,aos x
 small:∀x∈bs,akb x
 to2:∀x∈bs,x.fin.to.length<=2
 toIn:∀x∈bs,∀t∈x.fin.to,0<=t∧t<(bs.length:Int)
 toNd:∀x∈bs,x.fin.to.Nodup
 src:∀b,b<bs.length->∀p∈(blkOf bs b).phis,p.src.length=(aaf bs 0 b).length
variable {bs:List DBlock}
theorem acU.hto(h:acU bs)(k:Nat)(x:DBlock)(hx:bs[k]?=some x):x.fin.to.length<=2∧∀t∈x.fin.to,0<=t∧t<(bs.length:Int) :=
 ⟨h.to2 x (Aae hx),h.toIn x (Aae hx)⟩
theorem agh {«to»:List Int}(h:«to».Nodup)(t i:Nat):(ae8 «to» t i).length<=1:=by
 unfold ae8;rw [Aah]
 match hf:«to».filter fun x:Int=>decide (x=(t:Int)) with
 | []=>simp
 | [_]=>simp
 | a :: b :: r =>
   have hn:(«to».filter fun x:Int=>decide (x=(t:Int))).Nodup:=h.filter _;rw [hf] at hn;have ha:a∈«to».filter fun x:Int=>decide (x=(t:Int)):=by rw [hf];simp
   have hb:b∈«to».filter fun x:Int=>decide (x=(t:Int)):=by rw [hf];simp
   have e1:=of_decide_eq_true (List.mem_filter.1 ha).2;have e2:=of_decide_eq_true (List.mem_filter.1 hb).2;rw [List.nodup_cons] at hn;exact absurd (by rw [e1,e2];simp) hn.1
theorem anm {l:List DBlock}{s t:Nat}{x:Int}(h:x∈aaf l s t):(s:Int)<=x:=by
 induction l generalizing s with
 | nil=>simp [aaf] at h
 | cons b l ih =>
   simp only [aaf,Aa7] at h;rcases h with h | h
   . have:=ajI h;omega
   . have:=ih h;omega
theorem afK : ∀ (l : List DBlock) (s t : Nat), (∀ x ∈ l, x.fin.to.Nodup) -> (aaf l s t).Nodup
 | [],_,_,_=>by simp [aaf]
 | b :: l,s,t,h=>by
   have h1:=agh (h b (Aa2 ..)) t s;have h2:=afK l (s+1) t (fun x hx=>h x (Aa0 _ hx));rw [aaf];refine List.nodup_append.2 ⟨?_,h2,fun x hx y hy e=>?_⟩
   . match hh:ae8 b.fin.to t s,h1 with
     | [],_=>simp
     | [_],_=>simp
   . have:=ajI hx
     have:=anm hy;omega
theorem acU.nodup(h:acU bs)(t:Nat):(aaf bs 0 t).Nodup:=afK bs 0 t h.toNd
theorem ajv{b:Nat}(hb:b<bs.length):(aheadF bs)[b]?=some (aaf bs 0 b):=by
 unfold aheadF;rw [Aak,Ab8 hb];rfl
theorem adf {P : Program} {w : World} {ops : Array Oper} {o : Oper} {a : Act} {K : Act -> World -> Prop} {Q : Exit -> Act -> World -> Prop} {E : Prop} (aJ : o.guard = none) (s x : Operand) (t : TypeId)
 (ho:o.op = .call { callee := .builtin .append,args:=#[s,x],argTypes:=#[t,t] })
 (base:Nat) (e:TypeId) (i:TypeInfo) (z:Value) (size bytes:Nat) (ht:P.underlying t=some (.slice e)) (hi:P.info? e=some i) (hz:i.zero=some z)
 (ao:i.size=size) (aL:i.bytes=bytes) (aN:z.cells.size=size) (aG:0<size)
 (v:Value) (n:Nat) (xs:List Value) (hs:a.eval s=v) (aB:w.ownsRow base e size v n xs)
 (ad:Addr) (m c:Nat) (news:List Value) (hx:a.eval x = .slice (some ad) m c) (hl:news.length=m * size) (ar:∀(j:Nat) u,news[j]?=some u->w.cell? (ad.add j)=some u) (h1:∀u∈news,u.oneCell'=true)
 (aK:n+m<=maxLen) (ak:(n+m) * bytes<=140737488355328) (ai:base<=w.heap.size)
 (h:∀v' w',w'.ownsRow base e size v' (n+m) (xs++news)->w.grownBy w' v.ownBlock->(v'.ownBlock=v.ownBlock∨v'.ownBlock=some w.heap.size)->K (a.put o.dst v') w') :
 if Region.wanted o (yielded ops a.tmps)=true then Oper.wp P o a w K Q else E:=by
 have hw:Region.wanted o (yielded ops a.tmps)=true:=by simp [Region.wanted,aJ]
 rw [if_pos hw];obtain⟨v',w',ax,aq,av,-,aO⟩:=run_append_own_at (P:=P) w base t o.type e i z size bytes ht hi hz ao aL aN aG v n xs aB ad m c news hl ar h1 aK ak ai;unfold Oper.wp execOp;simp only [ho,resolve,invoke,builtin,Sem.run_bind,Sem.run_pure,Result.andThen_ok,List.map_toArray,Aa3,List.map_nil,hs,hx,ax];exact h v' w' aq av aO
theorem ann {w:World}{base sz n:Nat}{e:TypeId}{v:Value}{xss:List (List Value)}(h:w.ownsRow base e sz v n xss.flatten)(hw:∀cs∈xss,cs.length=sz){j:Nat}{cs:List Value}(hj:xss[j]?=some cs)(hn:n≠0) :
 ∃g c,v = .slice (some ⟨g,0,none⟩) n c∧aal w g (j * sz) cs:=by
 rcases id h.2 with⟨-,h2⟩ | ⟨g,cap,cur,rfl,-⟩
 . exact absurd h2 hn
 . refine⟨g,cap,rfl,fun m u hu=>?_⟩
   have hm:m<sz:=by rw [<-hw cs (Aae hj)];exact (Aad.1 hu).1
   have hf:=aeo xss (fun i cs hi=>hw cs (Aae hi)) j m cs hj hm;rw [hu] at hf;have aj:=h.cells (g:=g) rfl (j * sz+m) u hf;rw [show (⟨g,0,none⟩:Addr).add (j * sz+m)=⟨g,j * sz+m,none⟩ by unfold Addr.add;split <;> simp_all] at aj;exact aj
def ahJ(U V:Pth->Value):Prop:=U .blks=V .blks∧∀b,U (.phis b)=V (.phis b)∧U (.list b)=V (.list b)∧U (.to b)=V (.to b)
theorem ahJ.refl(V:Pth->Value):ahJ V V:=⟨rfl,fun _=>⟨rfl,rfl,rfl⟩⟩
variable {V:Pth->Value}
theorem ahJ.src{U:Pth->Value}(h:ahJ U V)(b i:Nat)(v:Value):ahJ (aaU U (.src b i) v) V :=
 ⟨by rw [aag _ _ (by simp)];exact h.1,fun c=>by rw [aag _ _ (by simp),aag _ _ (by simp),aag _ _ (by simp)];exact h.2 c⟩
theorem ahJ.blk{U:Pth->Value}(h:ahJ U V)(v:Value):ahJ (aaU U .vBlk v) V :=
 ⟨by rw [aag _ _ (by simp)];exact h.1,fun c=>by rw [aag _ _ (by simp),aag _ _ (by simp),aag _ _ (by simp)];exact h.2 c⟩
def nsO(bs:List DBlock)(V:Pth->Value)(ord:List Int)(k:Nat):List (List Value):=(ord.take k).map fun b=>abd (blkOf bs b.toNat) (V (.phis b.toNat)) (V (.list b.toNat)) (V (.to b.toNat))
theorem aqA{ord:List Int}{k q:Nat}(h:ord[k]?=some (q:Int)):nsO bs V ord (k+1)=nsO bs V ord k++[abd (blkOf bs q) (V (.phis q)) (V (.list q)) (V (.to q))]:=by
 unfold nsO;rw [Acb,h];simp
theorem aoG{ord:List Int}{k:Nat}(hk:k<=ord.length):(nsO bs V ord k).length=k:=by unfold nsO;rw [Aah,Aar];omega
def alz(base:Nat)(S:Nat->Prop)(lo hi:Nat)(b:Nat):Prop:=b<base∨S b∨(lo<=b∧b<hi)
def akp(base:Nat)(S:Nat->Prop)(lo hi LB:Nat)(b:Nat):Prop:=alz base S lo hi b∨b=LB
def arH(base:Nat)(S:Nat->Prop)(lo hi LB PB:Nat)(g:Option Nat)(b:Nat):Prop:=akp base S lo hi LB b∨b=PB∨g=some b
structure alA (W3 wr:World)(base:Nat)(X:Nat->Prop)(bs:List DBlock)(ord:List Int)(V:Pth->Value)(k:Nat)(ae:List DBlock)(U:Pth->Value):Prop where
 st:abB W3 wr base X (okN ae) U (elN ae U (nsO bs V ord k))
 len:ae.length=bs.length
 blk:∀b,b<bs.length->blkOf ae b=if (b:Int)∈ord.take k then afi (aa8 ord) (aaf bs 0 b) (blkOf bs b) else blkOf bs b
 same:ahJ U V
structure atn (W5 wr:World)(v:Value)(l:List (Int×aay)):Prop where
 own:wr.ownsRow W5.heap.size 143 3 v l.length (l.map ads).flatten
 low:Below W5.heap.size W5 wr
theorem atn.snoc {W5 W7 W8 w9:World}{v v':Value}{l:List (Int×aay)}(h:atn W5 W7 v l)(h8:Below W7.heap.size W7 W8)(x:Int×aay)(ho:w9.ownsRow W5.heap.size 143 3 v' (l.length+1) ((l.map ads).flatten++ads x))(hg:W8.grownBy w9 v.ownBlock):atn W5 w9 v' (l++[x]):=by
 have hz:=Aai h.low.size h8.size;refine⟨?_,(h.low.trans (h8.mono h.low.size)).grown hg hz (fun k hk=>(h.own.lt k hk).1)⟩;rw [Aau,Aa8,Abs];simpa using ho
structure agR (Wa wr:World)(base:Nat)(X:Nat->Prop)(ae:List DBlock)(q:Nat)(y:DBlock)(V:Pth->Value)(ns:List (List Value))(nv:Value)(U:Pth->Value):Prop where
 st:abB Wa wr base X (okN (ae.set q y)) U (elN (ae.set q y) U ns)
 same:ahJ U V
 new:U .vBlk=nv
section
variable {Wa W W' : World} {base : Nat} {X : Nat -> Prop} {ae : List DBlock} {q : Nat} {y : DBlock} {V U : Pth -> Value} {ns : List (List Value)} {nv : Value}
theorem agR.later(h:agR Wa W base X ae q y V ns nv U)(hb:Below W.heap.size W W'):agR Wa W' base X ae q y V ns nv U:=⟨h.st.later hb,h.same,h.new⟩
theorem agR.keep(h:agR Wa W base X ae q y V ns nv U){X':Nat->Prop}(hX:∀b,X' b->b<W.heap.size)(off:∀p,okN (ae.set q y) p->∀k,(U p).ownBlock=some k->¬X' k):agR W W base X' ae q y V ns nv U:=⟨h.st.keep hX off,h.same,h.new⟩
theorem agR.trans {Wb:World}{X':Nat->Prop}{y':DBlock}{U':Pth->Value}(h:agR Wa Wb base X ae q y V ns nv U)(k:agR Wb W base X' ae q y' V ns nv U')(hX:∀b,X b->X' b):agR Wa W base X ae q y' V ns nv U':=⟨h.st.trans k.st hX,k.same,k.new⟩
theorem agR.src {i g c n : Nat} (h : agR Wa W base X ae q y V ns nv U) (hq : q < ae.length) (hi : i < y.phis.length) (hv : V (.phis q) = .slice (some ⟨g, 0, none⟩) n c)
 {v':Value} {l:List aay} (ho:W'.ownsRow base 41 2 v' l.length (l.map aaA).flatten) (hg:W.grownBy W' (U (.src q i)).ownBlock) (ay:∀k,v'.ownBlock=some k->(U (.src q i)).ownBlock=some k∨W.heap.size<=k) :
 agR Wa (W'.setCell ⟨g,i * 2+1,none⟩ v') base X ae q (aeI y i l) V ns nv (aaU U (.src q i) v'):=by
 have az:q<(ae.set q y).length:=by simpa using hq
 have an:blkOf (ae.set q y) q=y:=by rw [aaT hq,if_pos rfl]
 have h1:=h.st.setSrc (b:=q) (i:=i) (g:=g) (n:=n) (c:=c) az (by rw [an];exact hi) (by rw [(h.same.2 q).1];exact hv) ho hg ay;rw [an,Aaz] at h1;exact⟨h1,h.same.src q i v',by rw [aag _ _ (by simp)];exact h.new⟩
theorem agR.to {j g c n:Nat}{t:Int}(h:agR Wa W base X ae q y V ns nv U)(hq:q<ae.length)(hj:j<y.fin.to.length)(hv:V (.to q) = .slice (some ⟨g,0,none⟩) n c) :
 agR Wa (W.setCell ⟨g,j,none⟩ (.int .i64 t)) base X ae q (toB y j t) V ns nv U:=by
 have az:q<(ae.set q y).length:=by simpa using hq
 have an:blkOf (ae.set q y) q=y:=by rw [aaT hq,if_pos rfl]
 have h1:=h.st.setTo (b:=q) (j:=j) (g:=g) (n:=n) (c:=c) (t:=t) az (by rw [an];exact hj) (by rw [(h.same.2 q).2.2];exact hv);rw [an,Aaz] at h1;exact⟨h1,h.same,h.new⟩
end
variable {W3:World}{base:Nat}{bs:List DBlock}{V:Pth->Value}
theorem alA.start{w:World}{S:Nat->Prop}(h:abJ w base bs V)(hb:Below w.heap.size w W3)(ai:base<=w.heap.size)(hS:∀b,S b->b<w.heap.size∧∀q,okP bs q->(V q).ownBlock≠some b)(ord:List Int) :
 alA W3 W3 base (alz base S w.heap.size W3.heap.size) bs ord V 0 bs (aaU V .vBlk (.slice none 0 0)):=by
 have hz:=hb.size
 have h0 := abB.start (X := alz base S w.heap.size W3.heap.size) (aah.later h hb) (fun b hx => by
  rcases hx with h1 | h1 | h1
  . omega
  . have := (hS b h1).1; omega
  . exact h1.2) (fun q hq k hk hx => by
  have hl := aah.lt h hq k hk
  rcases hx with h1 | h1 | h1
  . omega
  . exact (hS k h1).2 q hq hk
  . omega) (by omega)
 refine⟨h0.nil .vBlk (fun h=>h),rfl,fun b hb=>by rw [List.take_zero,if_neg (Aao)],(ahJ.refl V).blk _⟩
theorem alB(ord:List Int)(hm:ord.length<=1048576)(A:List Int)(src:List aay):∀x∈ac0 (aa8 ord) A src,0<=x.1∧x.1<=1048576:=fun x hx=>by
 obtain⟨a,v,-,h2,rfl⟩:=afI hx;have:=(aoD ord a.toNat).2;exact⟨h2,by dsimp only;omega⟩
theorem ano(h:acU bs)(ord:List Int)(q:Nat)(src:List aay):((ac0 (aa8 ord) (aaf bs 0 q) src).map Prod.fst).Nodup :=
 afj (h.nodup q) fun a ha b hb h0 he=>by
  have h1:=(abr ha).1;have h2:=(abr hb).1;have:=aju h0 he;omega
variable {W:World}{X:Nat->Prop}{ord:List Int}{U:Pth->Value}{k:Nat}{ae:List DBlock}
theorem alA.opens{q:Nat}(h:alA W3 W base X bs ord V k ae U)(hq:q<bs.length)(hk:ord[k]?=some (q:Int))(aC:ord.Nodup) :
 blkOf ae q=blkOf bs q∧agR W3 W base X ae q (blkOf bs q) V (nsO bs V ord k) (U .vBlk) U:=by
 have e:blkOf ae q=blkOf bs q:=by
  rw [h.blk q hq,if_neg];intro hm;obtain⟨i,hi,aD⟩:=Aav hm;have aF:i<ord.length:=by rw [Aar] at hi;omega
  have aH:=(Aad.1 hk).1;rw [List.getElem_take] at aD;have aI:=(Aad.1 hk).2;have aM:i<k:=by rw [Aar] at hi;omega
  exact (Acn.1 aC) i k aF aH aM (aD.trans aI.symm)
 have aw:q<ae.length:=by rw [h.len];exact hq
 have es:ae.set q (blkOf bs q)=ae:=abV (by rw [<-e];exact aap ae aw);exact⟨e,by rw [es];exact h.st,h.same,rfl⟩
variable {W':World}
theorem alA.next{Wa:World}  {X X' : Nat -> Prop}   {V U U' : Pth -> Value} {q:Nat}  {nv v' : Value} (h : alA W3 Wa base X bs ord V k ae U) (hq : q < bs.length) (hk : ord[k]? = some (q : Int))
 (al:agR Wa W base X' ae q (afi (aa8 ord) (aaf bs 0 q) (blkOf bs q)) V (nsO bs V ord k) nv U') (hX:∀b,X b->X' b)
 (ho:W'.ownsRow base 46 6 v' ((nsO bs V ord k).length+1) ((nsO bs V ord k).flatten++abd (blkOf bs q) (V (.phis q)) (V (.list q)) (V (.to q)))) (hg:W.grownBy W' nv.ownBlock) (ay:∀k,v'.ownBlock=some k->nv.ownBlock=some k∨W.heap.size<=k) :
 alA W3 W' base X bs ord V (k+1) (ae.set q (afi (aa8 ord) (aaf bs 0 q) (blkOf bs q))) (aaU U' .vBlk v'):=by
 have aw:q<ae.length:=by rw [h.len];exact hq
 have h1:=(h.st.trans al.st hX).addBlk (v':=v') (cs:=abd (blkOf bs q) (V (.phis q)) (V (.list q)) (V (.to q))) rfl ho (by rw [al.new];exact hg) (by rw [al.new];exact ay);refine⟨by rw [aqA hk];exact h1,by rw [Aat];exact h.len,fun b hb=>?_,al.same.blk v'⟩;have hm:(b:Int)∈ord.take (k+1)↔(b:Int)∈ord.take k∨b=q:=by
  rw [Acb,hk,Aa7,Option.toList_some,Aax];exact or_congr Iff.rfl Int.ofNat_inj
 rw [aaT aw]
 by_cases e:b=q
 . subst e;rw [if_pos rfl,if_pos (hm.2 (.inr rfl))]
 . rw [if_neg e,h.blk b hb]
   by_cases hc:(b:Int)∈ord.take k
   . rw [if_pos hc,if_pos (hm.2 (.inl hc))]
   . rw [if_neg hc,if_neg fun h=>(hm.1 h).elim hc e]
theorem alA.later(h:alA W3 W base X bs ord V k ae U)(hb:Below W.heap.size W W'):alA W3 W' base X bs ord V k ae U:=⟨h.st.later hb,h.len,h.blk,h.same⟩
theorem aah.setOff{ok:Pth->Prop}{C:Pth->List (List Value)}(h:aah W base ok V C){b o:Nat}(hb:∀p,ok p->(V p).ownBlock≠some b)(u:Value):aah (W.setCell ⟨b,o,none⟩ u) base ok V C :=
 h.off (row:=some b) ⟨rfl,rfl,rfl,by simp [World.setCell],fun k _ aA=>Below.heap_setCell _ _ _ _ (fun e=>aA (by rw [e]))⟩ (fun p hp k hk e=>hb p hp (by rw [hk,e]))
theorem aah.map{ok ok':Pth->Prop}{C:Pth->List (List Value)}(h:aah W base ok V C)(f:Pth->Pth)(ht:∀p,(f p).ty=p.ty∧(f p).sz=p.sz)(ho:∀p,ok' p->ok (f p))(hi:∀p q,ok' p->ok' q->f p=f q->p=q):aah W base ok' (fun p=>V (f p)) (fun p=>C (f p)) :=
 ⟨fun p hp=>by rw [<-(ht p).1,<-(ht p).2];exact h.own (f p) (ho p hp),fun p hp=>by rw [<-(ht p).2];exact h.wid (f p) (ho p hp),fun p q hp hq aA=>h.apart (f p) (f q) (ho p hp) (ho q hq) fun e=>aA (hi p q hp hq e)⟩
def aoH (ord : List Int) : Pth -> Pth
 | .blks => .vBlk
 | .phis b => .phis (ord.getD b 0).toNat
 | .src b p => .src (ord.getD b 0).toNat p
 | .list b => .list (ord.getD b 0).toNat
 | .args b i => .args (ord.getD b 0).toNat i
 | .to b => .to (ord.getD b 0).toNat
 | .vBlk => .blks
 | .vPhi => .vPhi
 | .vIns => .vIns
theorem amx{i:Nat}(hi:i<ord.length):blkOf (aa7 bs ord) i=afi (aa8 ord) (aaf bs 0 (ord.getD i 0).toNat) (blkOf bs (ord.getD i 0).toNat):=by
 have e:ord.getD i 0=ord[i]:=by rw [Aaf,Aaa hi];rfl
 refine aa2 ?_;unfold aa7;rw [Aak,Aaa hi,e];rfl
theorem alA.pick(h:alA W3 W base X bs ord V ord.length ae U)(al:∀x∈ord,0<=x∧x<(bs.length:Int))(aC:ord.Nodup)(hr:aah W' base (okN ae) U (elN ae U (nsO bs V ord ord.length))) :
 abJ W' base (aa7 bs ord) (fun p=>U (aoH ord p))∧∀q,okP (aa7 bs ord) q->okN ae (aoH ord q):=by
 have ag:∀i,i<ord.length->ord.getD i 0∈ord∧((ord.getD i 0).toNat:Int)=ord.getD i 0∧(ord.getD i 0).toNat<bs.length:=fun i hi=>by
  have e:ord.getD i 0=ord[i]:=by rw [Aaf,Aaa hi];rfl
  have hm:ord.getD i 0∈ord:=by rw [e];exact Aaq hi
  have:=al _ hm;exact⟨hm,by omega,by omega⟩
 have hblk:∀i,i<ord.length->blkOf (aa7 bs ord) i=blkOf ae (ord.getD i 0).toNat:=fun i hi=>by
  obtain⟨h1,h2,h3⟩:=ag i hi;rw [amx hi,h.blk _ h3,Aa1,h2,if_pos h1]
 have af:∀q b,okP (aa7 bs ord) q->(q = .phis b∨(∃p,q = .src b p)∨q = .list b∨(∃p,q = .args b p)∨q = .to b)->b<ord.length:=fun q b hq hb=>by
  have hl:(aa7 bs ord).length=ord.length:=by simp [aa7]
  rcases hb with rfl | ⟨p,rfl⟩ | rfl | ⟨p,rfl⟩ | rfl
  . have aE:b<(aa7 bs ord).length:=hq
    omega
  . exact Nat.lt_of_not_le fun hle=>by rw [okP,aey (by omega)] at hq;exact absurd hq (Aa4 _)
  . have aE:b<(aa7 bs ord).length:=hq
    omega
  . exact Nat.lt_of_not_le fun hle=>by rw [okP,aey (by omega)] at hq;exact absurd hq (Aa4 _)
  . have aE:b<(aa7 bs ord).length:=hq
    omega
 have ah:∀b c,b<ord.length->c<ord.length->(ord.getD b 0).toNat=(ord.getD c 0).toNat->b=c:=fun b c hb hc e=>by
  have e1:=(ag b hb).2.1;have e2:=(ag c hc).2.1;have e3:ord.getD b 0=ord.getD c 0:=by omega
  rw [Aaf,Aaf,Aaa hb,Aaa hc] at e3;have hp:=Acn.1 aC;rcases Nat.lt_trichotomy b c with h1 | h1 | h1
  . exact absurd e3 (hp b c hb hc h1)
  . exact h1
  . exact absurd e3.symm (hp c b hc hb h1)
 have au:∀q,okP (aa7 bs ord) q->okN ae (aoH ord q):=fun q hq=>by
  cases q with
  | blks=>exact .inr rfl
  | phis b=>exact .inl (by have:=ag b (af _ b hq (.inl rfl));show _<ae.length;rw [h.len];exact this.2.2)
  | src b p=>exact .inl (by show p<(blkOf ae _).phis.length;rw [<-hblk b (af _ b hq (.inr (.inl ⟨p,rfl⟩)))];exact hq)
  | list b=>exact .inl (by have:=ag b (af _ b hq (.inr (.inr (.inl rfl))));show _<ae.length;rw [h.len];exact this.2.2)
  | args b p=>exact .inl (by show p<(blkOf ae _).list.length;rw [<-hblk b (af _ b hq (.inr (.inr (.inr (.inl ⟨p,rfl⟩)))))];exact hq)
  | «to» b=>exact .inl (by have:=ag b (af _ b hq (.inr (.inr (.inr (.inr rfl)))));show _<ae.length;rw [h.len];exact this.2.2)
  | vBlk=>exact absurd hq id
  | vPhi=>exact absurd hq id
  | vIns=>exact absurd hq id
 have hm := hr.map (ok' := okP (aa7 bs ord)) (aoH ord) (fun p => by cases p <;> exact ⟨rfl, rfl⟩) au (fun p q hp hq e => by
  cases p <;> cases q <;> first
   | rfl
   | exact absurd hp id
   | exact absurd hq id
   | (simp only [aoH, reduceCtorEq] at e; done)
   | (simp only [aoH, Pth.phis.injEq] at e; rw [ah _ _ (af _ _ hp (.inl rfl)) (af _ _ hq (.inl rfl)) e])
   | (simp only [aoH, Pth.src.injEq] at e; rw [ah _ _ (af _ _ hp (.inr (.inl ⟨_, rfl⟩))) (af _ _ hq (.inr (.inl ⟨_, rfl⟩))) e.1, e.2])
   | (simp only [aoH, Pth.list.injEq] at e; rw [ah _ _ (af _ _ hp (.inr (.inr (.inl rfl)))) (af _ _ hq (.inr (.inr (.inl rfl)))) e])
   | (simp only [aoH, Pth.args.injEq] at e; rw [ah _ _ (af _ _ hp (.inr (.inr (.inr (.inl ⟨_, rfl⟩))))) (af _ _ hq (.inr (.inr (.inr (.inl ⟨_, rfl⟩))))) e.1, e.2])
   | (simp only [aoH, Pth.to.injEq] at e; rw [ah _ _ (af _ _ hp (.inr (.inr (.inr (.inr rfl))))) (af _ _ hq (.inr (.inr (.inr (.inr rfl))))) e]))
 refine⟨hm.congr (fun q _=>rfl) (fun q hq=>?_),au⟩;cases q with
 | blks =>
   show aae _ _ _=elN ae U (nsO bs V ord ord.length) .vBlk;rw [aeJ];simp only [aae,nsO,Aa1];apply Aap;intro i;rw [aai,Aak]
   by_cases hi:i<ord.length
   . have e:ord.getD i 0=ord[i]:=by rw [Aaf,Aaa hi];rfl
     have hs:=h.same.2 (ord.getD i 0).toNat;rw [aap (aa7 bs ord) (by simp [aa7];exact hi),Aaa hi,Aaw,Aaw,amx hi,<-e];simp only [aoH,hs.1,hs.2.1,hs.2.2];rfl
   . rw [Aas (by simp [aa7];omega),Aas (by omega)];rfl
 | phis b =>
   show aae _ _ _=elN ae U _ (.phis _);rw [aaY (by simp)];simp only [aae];rw [hblk b (af _ b hq (.inl rfl))];rfl
 | src b p =>
   show aae _ _ _=elN ae U _ (.src _ _);rw [aaY (by simp)];simp only [aae];rw [hblk b (af _ b hq (.inr (.inl ⟨p,rfl⟩)))]
 | list b =>
   show aae _ _ _=elN ae U _ (.list _);rw [aaY (by simp)];simp only [aae];rw [hblk b (af _ b hq (.inr (.inr (.inl rfl))))];rfl
 | args b p =>
   show aae _ _ _=elN ae U _ (.args _ _);rw [aaY (by simp)];simp only [aae];rw [hblk b (af _ b hq (.inr (.inr (.inr (.inl ⟨p,rfl⟩)))))]
 | «to» b =>
   show aae _ _ _=elN ae U _ (.to _);rw [aaY (by simp)];simp only [aae];rw [hblk b (af _ b hq (.inr (.inr (.inr (.inr rfl)))))]
 | vBlk=>exact absurd hq id
 | vPhi=>exact absurd hq id
 | vIns=>exact absurd hq id
def asZ(S:Nat->Prop)(w w':World)(bs:List DBlock)(V:Pth->Value):Prop:=∀b,S b->w'.heap[b]?=w.heap[b]?∧∀q,okP bs q->(V q).ownBlock≠some b
end
end Go.Proofs.YtpeejlpcikefcaaGreatDoor
