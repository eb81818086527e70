import Derived.Test.YtgekbfgplclmeaaDoorPRowsG
import Derived.Test.YtgekbfgplclmeaaDoorPRunWf
/- run.walker in memory: its rows, each in a block of its own. -/
namespace Go.Proofs.YtgekbfgplclmeaaDoor
open Go.RowKit
inductive WPth where
 | box
 | mem
 | out
 | frs
 | regs (i:Nat)
 | cnts
 | cnt (k:Nat)
 deriving DecidableEq
def WPth.ty : WPth -> TypeId
 | .box=>80
 | .mem=>3
 | .out=>3
 | .frs=>116
 | .regs _=>3
 | .cnts=>26
 | .cnt _=>3
def WPth.sz : WPth -> Nat
 | .box=>11
 | .frs=>5
 | _=>1
def okW (L K : Nat) : WPth -> Prop
 | .regs i=>i<L
 | .cnt k=>k<K
 | _=>True
def aay(l:List Int):List (List Value):=l.map fun v=>[.int .i64 v]
def frC(V:WPth->Value)(i:Nat)(t:RnF):List Value:=[.int .i64 (t.fn:Int),.int .i64 (t.blk:Int),.int .i64 (t.pos:Int),V (.regs i),.int .i64 t.dst]
def agf(G F A iv:Value)(V:WPth->Value)(s:RnS):List Value:=[G,F,A,V .mem,iv,.int .i64 s.state,.int .i64 s.value,V .out,.int .i64 (s.steps:Int),V .frs,V .cnts]
def walkC (G F A iv : Value) (V : WPth -> Value) (s : RnS) : WPth -> List (List Value)
 | .box=>[agf G F A iv V s]
 | .mem=>aay s.mem
 | .out=>aay s.out
 | .frs=>s.frs.reverse.mapIdx (frC V)
 | .regs i=>aay (s.frs.reverse.getD i RnF.none).regs
 | .cnts=>(List.range s.cnt.length).map fun k=>[V (.cnt k)]
 | .cnt k=>aay (s.cnt.getD k [])
def ako:Rp (List (List Int)):=fun S w cs l=>∃v,cs=[v]∧SlAt S w 1 rRow v l
theorem afo:ako.Mono:=⟨fun _ _ _ _ _ _ hS hw ⟨v,h1,h2⟩=>⟨v,h1,h2.mono aau hS hw⟩⟩
theorem aij {α:Type}{r:Rp α}{S:Nat->Prop}{w:World}{ao:Option Addr}{n c:Nat}{x:α}{l:List α}(h:SlAt S w 1 r (.slice ao n c) (x :: l)) :
 n=l.length+1∧1<=c∧∃b off,ao=some ⟨b,off,none⟩∧(∃cs,r S w cs x∧aaj w b off cs)∧∀az,(l≠[]->az=some ⟨b,off+1,none⟩)->SlAt S w 1 r (.slice az l.length (c - 1)) l:=by
 obtain⟨aV,c2,hv,hc,hm,h⟩:=h;cases hv;obtain⟨b,off,rfl,hb,h⟩:=h (by intro e;cases e);rw [Aaq] at hc;refine⟨rfl,by omega,b,off,rfl,?_,fun az ha=>⟨az,c - 1,rfl,by omega,by omega,fun aU=>⟨b,off+1,ha aU,hb,fun i y hy=>?_⟩⟩⟩
 . obtain⟨cs,h1,-,h3⟩:=h 0 x rfl
   rw [Aa5,Aas] at h3;exact⟨cs,h1,h3⟩
 . obtain⟨cs,h1,h2,h3⟩:=h (i+1) y hy
   refine⟨cs,h1,h2,?_⟩;rw [show off+1+i * 1=off+(i+1) * 1 by omega];exact h3
structure amz (u:aax)(F A iv:Value)(S:Nat->Prop)(W:World)(s:RnS):Prop where
 fs:SlAt S W 4 abT F u.funcs
 ah:SlAt S W 1 ako A (u.funcs.map fun f=>aheadF f.blocks)
 inp:SlAt S W 1 abe iv s.inp
theorem amz.stay {u:aax}{F A iv:Value}{S:Nat->Prop}{W W':World}{s s':RnS}(h:amz u F A iv S W s)(hw:aaD S W W')(hi:s'.inp=s.inp):amz u F A iv S W' s' :=
 ⟨h.fs.mono aan (fun _ h=>h) hw,h.ah.mono afo (fun _ h=>h) hw,by rw [hi];exact h.inp.mono aaf (fun _ h=>h) hw⟩
structure aaG (u:aax)(G F A:Value)(S:Nat->Prop)(W0:World)(base WB:Nat)(W:World)(V:WPth->Value)(iv:Value)(s:RnS):Prop where
 rows:aaZ WPth.ty WPth.sz W base (okW s.frs.length s.cnt.length) V (walkC G F A iv V s)
 box:V .box = .slice (some ⟨WB,0,none⟩) 1 1
 low:Below base W0 W
 rd:amz u F A iv S W s
 lt:∀b,S b->b<W.heap.size
 off:∀p,okW s.frs.length s.cnt.length p->∀k,(V p).ownBlock=some k->¬S k
 hb:base<=W0.heap.size
section
variable {u : aax} {G F A : Value} {S : Nat -> Prop} {W0 : World} {base WB : Nat} {W W' : World} {V : WPth -> Value} {iv : Value} {s : RnS}
theorem aaG.later(h:aaG u G F A S W0 base WB W V iv s)(hb:Below W.heap.size W W'):aaG u G F A S W0 base WB W' V iv s :=
 ⟨h.rows.later hb,h.box,h.low.trans (hb.mono (Aaj h.hb h.low.size)),h.rd.stay (aaD.below' hb) rfl,fun b hS=>Aba (h.lt b hS) hb.size,h.off,h.hb⟩
theorem aaG.boxAt(h:aaG u G F A S W0 base WB W V iv s):base<=WB∧WB<W.heap.size∧aaj W WB 0 (agf G F A iv V s)∧∀j,j<11->W.frozen? ⟨WB,j,none⟩=false:=by
 have aH:okW s.frs.length s.cnt.length .box:=trivial;have hc:∀j v,(agf G F A iv V s)[j]?=some v->base<=WB∧WB<W.heap.size∧W.cell? ⟨WB,j,none⟩=some v∧W.frozen? ⟨WB,j,none⟩=false:=fun j v hj=>by
  obtain⟨g,c,e,-,h1,h2,h3,h4⟩:=h.rows.cell aH (i:=0) (j:=j) (cs:=agf G F A iv V s) (u:=v) rfl hj;rw [h.box] at e;cases e;rw [Aa5,Aac] at h3 h4;exact⟨h1,h2,h3,h4⟩
 obtain⟨h1,h2,-,-⟩:=hc 0 _ rfl;refine⟨h1,h2,fun j v hj=>?_,fun j hj=>?_⟩
 . rw [Aac];exact (hc j v hj).2.2.1
 . have hl:(agf G F A iv V s).length=11:=rfl
   exact (hc j _ (Aaa (by omega))).2.2.2
variable {p:WPth}{l:List Int}{i:Nat}{n:Int}
theorem aaG.numAt(h:aaG u G F A S W0 base WB W V iv s)(hp:okW s.frs.length s.cnt.length p)(h1:p.sz=1)(hl:walkC G F A iv V s p=aay l)(hi:l[i]?=some n) :
 ∃g c,V p = .slice (some ⟨g,0,none⟩) l.length c∧l.length<=c∧base<=g∧g<W.heap.size∧W.cell? ⟨g,i,none⟩=some (.int .i64 n)∧W.frozen? ⟨g,i,none⟩=false:=by
 have hc:(walkC G F A iv V s p)[i]?=some [.int .i64 n]:=by rw [hl];unfold aay;rw [Aap,hi];rfl
 obtain⟨g,c,h2,h3,h4,h5,h6,h7⟩:=h.rows.cell hp hc (j:=0) (u := .int .i64 n) rfl;rw [h1,Aam,Aas] at h6 h7;have hlen:(walkC G F A iv V s p).length=l.length:=by rw [hl];unfold aay;rw [Aal]
 rw [hlen] at h2 h3;exact⟨g,c,h2,h3,h4,h5,h6,h7⟩
theorem aeO(t:RnF)(r:List RnF):(t :: r).reverse[r.length]?=some t:=by simp
theorem abw(t:RnF)(r:List RnF):(t :: r).reverse.getD r.length RnF.none=t:=by rw [Aab,aeO];rfl
variable {t:RnF}{r:List RnF}
theorem aaG.topAt(h:aaG u G F A S W0 base WB W V iv s)(ae:s.frs=t :: r) :
 ∃g c,V .frs = .slice (some ⟨g,0,none⟩) (r.length+1) c∧r.length+1<=c∧base<=g∧g<W.heap.size∧aaj W g (r.length * 5) (frC V r.length t)∧∀j,j<5->W.frozen? ⟨g,r.length * 5+j,none⟩=false:=by
 have aH:okW s.frs.length s.cnt.length .frs:=trivial;have hlen:(walkC G F A iv V s .frs).length=r.length+1:=by show (s.frs.reverse.mapIdx (frC V)).length=_;rw [List.length_mapIdx,Aay,ae];rfl
 have hi:(walkC G F A iv V s .frs)[r.length]?=some (frC V r.length t):=by
  show (s.frs.reverse.mapIdx (frC V))[r.length]?=_;rw [List.getElem?_mapIdx,ae,aeO];rfl
 have ak:∀j v,(frC V r.length t)[j]?=some v->∃g c,V .frs = .slice (some ⟨g,0,none⟩) (r.length+1) c∧r.length+1<=c∧base<=g∧g<W.heap.size∧W.cell? ⟨g,r.length * 5+j,none⟩=some v∧W.frozen? ⟨g,r.length * 5+j,none⟩=false:=fun j v hj=>by
  obtain⟨g,c,h2,h3,h4⟩:=h.rows.cell aH hi hj;rw [hlen] at h2 h3;exact⟨g,c,h2,h3,h4⟩
 obtain⟨g,c,h1,h2,h3,h4,-,-⟩:=ak 0 _ rfl;refine⟨g,c,h1,h2,h3,h4,fun j v hj=>?_,fun j hj=>?_⟩
 . obtain⟨g',c',e,-,-,-,h5,-⟩:=ak j v hj
   rw [h1] at e;cases e;exact h5
 . have hl:(frC V r.length t).length=5:=rfl
   obtain⟨g',c',e,-,-,-,-,h6⟩:=ak j _ (Aaa (by omega));rw [h1] at e;cases e;exact h6
variable {g c j:Nat}{s':RnS}
theorem aaG.put(h : aaG u G F A S W0 base WB W V iv s)  (hp : okW s.frs.length s.cnt.length p) {n:Nat} (hv : V p = .slice (some ⟨g, 0, none⟩) n c) {cs : List Value} (hi : (walkC G F A iv V s p)[i]? = some cs) (hj : j < p.sz) (x : Value)
  (hl:s'.frs.length=s.frs.length) (ax:s'.cnt.length=s.cnt.length) (ay:s'.inp=s.inp) (hC:∀q,okW s.frs.length s.cnt.length q->walkC G F A iv V s' q=abx (walkC G F A iv V s) p ((walkC G F A iv V s p).set i (cs.set j x)) q) :
 aaG u G F A S W0 base WB (W.setCell ⟨g,i * p.sz+j,none⟩ x) V iv s':=by
 have hg:base<=g:=(h.rows.lt hp g (by rw [hv];rfl)).1;have aS:¬S g:=h.off p hp g (by rw [hv];rfl);have ag:aaD S W (W.setCell ⟨g,i * p.sz+j,none⟩ x):=fun b o v hS hc=>by
  rw [World.cell?_of_block (w:=W) (Below.heap_setCell _ _ _ _ (fun e=>aS (by have e:b=g:=e;rw [<-e];exact hS)))];exact hc
 have aI:(W.setCell ⟨g,i * p.sz+j,none⟩ x).heap.size=W.heap.size:=by simp [World.setCell]
 refine⟨?_,h.box,h.low.setCell hg x,h.rd.stay ag ay,fun b hS=>by rw [aI];exact h.lt b hS,fun q hq=>h.off q (by rw [hl,ax] at hq;exact hq),h.hb⟩;rw [hl,ax];exact (h.rows.set hp hv hi hj x).congr (fun q _=>rfl) hC
variable {q:WPth}
theorem ajL{s:RnS}(h1:s'.mem=s.mem)(h2:s'.out=s.out)(h3:s'.frs=s.frs)(h4:s'.cnt=s.cnt)(hq:q ≠ .box):walkC G F A iv V s' q=walkC G F A iv V s q:=by
 cases q with
 | box=>exact absurd rfl hq
 | mem=>show aay _=aay _;rw [h1]
 | out=>show aay _=aay _;rw [h2]
 | frs=>show List.mapIdx _ _=_;rw [h3];rfl
 | regs i=>show aay _=aay _;rw [h3]
 | cnts=>show List.map _ _=_;rw [h4];rfl
 | cnt k=>show aay _=aay _;rw [h4]
theorem aaG.putBox(h : aaG u G F A S W0 base WB W V iv s)  (hj : j < 11) (x : Value)  (h1 : s'.mem = s.mem) (h2 : s'.out = s.out) (h3 : s'.frs = s.frs) (h4 : s'.cnt = s.cnt) (h5 : s'.inp = s.inp)
 (hb:agf G F A iv V s'=(agf G F A iv V s).set j x):aaG u G F A S W0 base WB (W.setCell ⟨WB,j,none⟩ x) V iv s':=by
 have hk := h.put (p := .box) trivial (i := 0) (j := j) (cs := agf G F A iv V s) h.box rfl hj x (s' := s') (by rw [h3]) (by rw [h4]) h5 (fun q _ => by
  by_cases e : q = .box
  . subst e
    rw [aai]
    show [agf G F A iv V s'] = _
    rw [hb]; rfl
  . rw [aae _ _ e]; exact ajL h1 h2 h3 h4 e)
 rw [Aa5,Aac] at hk;exact hk
theorem aaG.putState(h:aaG u G F A S W0 base WB W V iv s)(x:Int):aaG u G F A S W0 base WB (W.setCell ⟨WB,5,none⟩ (.int .i64 x)) V iv { s with state:=x }:=h.putBox (by omega) _ rfl rfl rfl rfl rfl rfl
theorem aaG.putValue(h:aaG u G F A S W0 base WB W V iv s)(x:Int):aaG u G F A S W0 base WB (W.setCell ⟨WB,6,none⟩ (.int .i64 x)) V iv { s with value:=x }:=h.putBox (by omega) _ rfl rfl rfl rfl rfl rfl
theorem aaG.putSteps(h:aaG u G F A S W0 base WB W V iv s)(x:Nat):aaG u G F A S W0 base WB (W.setCell ⟨WB,8,none⟩ (.int .i64 (x:Int))) V iv { s with steps:=x }:=h.putBox (by omega) _ rfl rfl rfl rfl rfl rfl
theorem ahI(t t':RnF)(r:List RnF)(hi:i≠r.length):(t' :: r).reverse.getD i RnF.none=(t :: r).reverse.getD i RnF.none:=by
 rw [List.reverse_cons,List.reverse_cons,Aab,Aab,List.getElem?_append,List.getElem?_append,Aay];split
 . rfl
 . have:i - r.length≠0:=by omega
   obtain⟨k,hk⟩:∃k,i - r.length=k+1:=⟨i - r.length - 1,by omega⟩
   rw [hk];rfl
theorem aiP(V:WPth->Value)(t t':RnF)(r:List RnF):((t' :: r).reverse.mapIdx (frC V))=((t :: r).reverse.mapIdx (frC V)).set r.length (frC V r.length t'):=by
 refine List.ext_getElem? fun i=>?_;rw [Abe,List.getElem?_mapIdx,List.getElem?_mapIdx,List.length_mapIdx,Aay,Aaq]
 by_cases e:r.length=i
 . subst e
   rw [aeO,if_pos rfl,if_pos (by omega)];rfl
 . rw [if_neg e,List.reverse_cons,List.reverse_cons,List.getElem?_append,List.getElem?_append,Aay]
   split
   . rfl
   . obtain⟨k,hk⟩:∃k,i - r.length=k+1:=⟨i - r.length - 1,by omega⟩
     rw [hk];rfl
theorem aaG.putTop(h : aaG u G F A S W0 base WB W V iv s) {t':RnF}  (ae : s.frs = t :: r)  (hv : V .frs = .slice (some ⟨g, 0, none⟩) (r.length + 1) c)  (hj : j < 5) (x : Value)
 (ht:frC V r.length t'=(frC V r.length t).set j x) (hr:t'.regs=t.regs):aaG u G F A S W0 base WB (W.setCell ⟨g,r.length * 5+j,none⟩ x) V iv { s with frs:=t' :: r }:=by
 have hi:(walkC G F A iv V s .frs)[r.length]?=some (frC V r.length t):=by
  show (s.frs.reverse.mapIdx (frC V))[r.length]?=_;rw [List.getElem?_mapIdx,ae,aeO];rfl
 refine h.put (p := .frs) trivial (i:=r.length) (j:=j) hv hi hj x (by rw [ae];rfl) rfl rfl fun q _=>?_
 by_cases e:q = .frs
 . subst e
   rw [aai,<-ht];show (t' :: r).reverse.mapIdx (frC V)=(s.frs.reverse.mapIdx (frC V)).set r.length _;rw [ae,<-aiP]
 . rw [aae _ _ e]
   cases q with
   | frs=>exact absurd rfl e
   | regs i =>
     show aay ((t' :: r).reverse.getD i RnF.none).regs=aay (s.frs.reverse.getD i RnF.none).regs;rw [ae]
     by_cases e2:i=r.length
     . rw [e2,abw,abw,hr]
     . rw [ahI t t' r e2]
   | box=>rfl
   | mem=>rfl
   | out=>rfl
   | cnts=>rfl
   | cnt k=>rfl
theorem aeD(l:List Int)(i:Nat)(x:Int):aay (l.set i x)=(aay l).set i [.int .i64 x]:=by unfold aay;rw [List.map_set]
theorem afK(h:l[i]?=some n):(aay l)[i]?=some [.int .i64 n]:=by unfold aay;rw [Aap,h];rfl
variable {d:Nat}
theorem aaG.putReg(h:aaG u G F A S W0 base WB W V iv s)(ae:s.frs=t :: r)(hv:V (.regs r.length) = .slice (some ⟨g,0,none⟩) t.regs.length c)(hd:d<t.regs.length)(x:Int) :
 aaG u G F A S W0 base WB (W.setCell ⟨g,d,none⟩ (.int .i64 x)) V iv { s with frs:={ t with regs:=t.regs.set d x } :: r }:=by
 have hC:walkC G F A iv V s (.regs r.length)=aay t.regs:=by show aay (s.frs.reverse.getD r.length RnF.none).regs=_;rw [ae,abw]
 have hi:(walkC G F A iv V s (.regs r.length))[d]?=some [.int .i64 t.regs[d]]:=by rw [hC];exact afK (Aaa hd)
 have hk:=h.put (p := .regs r.length) (by rw [ae];exact Aa8 _) (i:=d) (j:=0) hv hi (by show 0<1;omega) (.int .i64 x) (s':={ s with frs:={ t with regs:=t.regs.set d x } :: r }) (by rw [ae];rfl) rfl rfl fun q _=>by
  by_cases e:q = .regs r.length
  . subst e
    rw [aai,hC];show aay (({ t with regs:=t.regs.set d x } :: r).reverse.getD r.length RnF.none).regs=_;rw [abw];exact aeD _ _ _
  . rw [aae _ _ e]
    cases q with
    | frs =>
      show ({ t with regs:=t.regs.set d x } :: r).reverse.mapIdx (frC V)=s.frs.reverse.mapIdx (frC V);rw [ae,aiP V t];refine List.ext_getElem? fun i=>?_;rw [Abe];split
      case isTrue e2 =>
       subst e2;rw [List.getElem?_mapIdx,aeO,List.length_mapIdx,Aay,if_pos (by rw [Aaq];omega)];rfl
      case isFalse=>rfl
    | regs i =>
      show aay (({ t with regs:=t.regs.set d x } :: r).reverse.getD i RnF.none).regs=aay (s.frs.reverse.getD i RnF.none).regs;rw [ae,ahI t _ r (fun e2=>e (by rw [e2]))]
    | box=>rfl
    | mem=>rfl
    | out=>rfl
    | cnts=>rfl
    | cnt k=>rfl
 have h1:(WPth.regs r.length).sz=1:=rfl;rw [h1,Aam,Aas] at hk;exact hk
theorem aaG.putMem(h:aaG u G F A S W0 base WB W V iv s)(hv:V .mem = .slice (some ⟨g,0,none⟩) s.mem.length c)(hd:d<s.mem.length)(x:Int) :
 aaG u G F A S W0 base WB (W.setCell ⟨g,d,none⟩ (.int .i64 x)) V iv { s with mem:=s.mem.set d x }:=by
 have hk:=h.put (p := .mem) trivial (i:=d) (j:=0) hv (afK (Aaa hd)) (by show 0<1;omega) (.int .i64 x) (s':={ s with mem:=s.mem.set d x }) rfl rfl rfl fun q _=>by
  by_cases e:q = .mem
  . subst e
    rw [aai];exact aeD _ _ _
  . rw [aae _ _ e]
    cases q with
    | mem=>exact absurd rfl e
    | _=>rfl
 have h1:WPth.mem.sz=1:=rfl;rw [h1,Aam,Aas] at hk;exact hk
theorem aaG.putCnt(h:aaG u G F A S W0 base WB W V iv s){k:Nat}(hk:s.cnt[k]?=some l)(hv:V (.cnt k) = .slice (some ⟨g,0,none⟩) l.length c)(hd:d<l.length)(x:Int) :
 aaG u G F A S W0 base WB (W.setCell ⟨g,d,none⟩ (.int .i64 x)) V iv { s with cnt:=s.cnt.set k (l.set d x) }:=by
 have aK:=(Aae.1 hk).1;have hC:walkC G F A iv V s (.cnt k)=aay l:=by show aay (s.cnt.getD k [])=_;rw [Aab,hk];rfl
 have hi:(walkC G F A iv V s (.cnt k))[d]?=some [.int .i64 l[d]]:=by rw [hC];exact afK (Aaa hd)
 have hp:=h.put (p := .cnt k) aK (i:=d) (j:=0) hv hi (by show 0<1;omega) (.int .i64 x) (s':={ s with cnt:=s.cnt.set k (l.set d x) }) rfl (by simp) rfl fun q _=>by
  by_cases e:q = .cnt k
  . subst e
    rw [aai,hC];show aay ((s.cnt.set k (l.set d x)).getD k [])=_;rw [Aab,List.getElem?_set_self aK];exact aeD _ _ _
  . rw [aae _ _ e]
    cases q with
    | cnt k' =>
      show aay ((s.cnt.set k (l.set d x)).getD k' [])=aay (s.cnt.getD k' []);rw [Aab,Aab,List.getElem?_set_ne (fun e2=>e (by rw [e2]))]
    | cnts =>
      show (List.range (s.cnt.set k (l.set d x)).length).map _=_;rw [List.length_set];rfl
    | _=>rfl
 have h1:(WPth.cnt k).sz=1:=rfl;rw [h1,Aam,Aas] at hp;exact hp
theorem aaG.build(h : aaG u G F A S W0 base WB W V iv s) {V' : WPth -> Value}  (hr : aaZ WPth.ty WPth.sz W' base (okW s'.frs.length s'.cnt.length) V' (walkC G F A iv V' s')) (hx : V' .box = V .box) (hl : Below base W W') (ag : aaD S W W') (ay : s'.inp = s.inp)
 (aG:∀p,okW s'.frs.length s'.cnt.length p->∀k,(V' p).ownBlock=some k->(∃q,okW s.frs.length s.cnt.length q∧(V q).ownBlock=some k)∨W.heap.size<=k):aaG u G F A S W0 base WB W' V' iv s' :=
 ⟨hr, by rw [hx]; exact h.box, h.low.trans hl, h.rd.stay ag ay, fun b hS => Aba (h.lt b hS) hl.size, fun p hp k hk hS => by
   rcases aG p hp k hk with ⟨q, hq, e⟩ | e
   . exact h.off q hq k e hS
   . have := h.lt k hS; omega, h.hb⟩
theorem aaG.grown(h:aaG u G F A S W0 base WB W V iv s)(hp:okW s.frs.length s.cnt.length p)(hg:W.grownBy W' (V p).ownBlock):aaD S W W'∧Below base W W':=by
 obtain⟨g1,g2,g3,g4,g5⟩:=hg;refine⟨fun b o v hS hc=>?_,g1,g2,g3,g4,fun k hk=>?_⟩
 . rw [World.cell?_of_block (w:=W) (g5 b (h.lt b hS) fun e=>h.off p hp b e.symm hS)];exact hc
 . exact g5 k (Aba hk (Aaj h.hb h.low.size)) fun e=>by have:=(h.rows.lt hp k e.symm).1;omega
theorem aaG.turnRow(h : aaG u G F A S W0 base WB W V iv s)  (hp : okW s.frs.length s.cnt.length p) (aA : p ≠ .box) {v' : Value} {xss : List (List Value)} (ho : W'.ownsRow base p.ty p.sz v' xss.length xss.flatten) (hw : ∀ cs ∈ xss, cs.length = p.sz)
 (hg:W.grownBy W' (V p).ownBlock) (hb:∀k,v'.ownBlock=some k->(V p).ownBlock=some k∨W.heap.size<=k)  (hj:j<11)  (hl:s'.frs.length=s.frs.length) (ax:s'.cnt.length=s.cnt.length) (ay:s'.inp=s.inp)
 (hC:∀q,okW s.frs.length s.cnt.length q->walkC G F A iv (abx V p v') s' q=abx (abx (walkC G F A iv V s) p xss) .box [(agf G F A iv V s).set j v'] q) :
 aaG u G F A S W0 base WB (W'.setCell ⟨WB,j,none⟩ v') (abx V p v') iv s':=by
 obtain⟨k1,k2⟩:=h.grown hp hg;have aR:=h.boxAt.1;have aj:¬S WB:=h.off .box trivial WB (by rw [h.box];rfl);have hr:=h.rows.turn hp ho hw hg hb;have an:abx V p v' .box = .slice (some ⟨WB,0,none⟩) 1 1:=by rw [aae _ _ (Ne.symm aA)];exact h.box
 have aT:(abx (walkC G F A iv V s) p xss .box)[0]?=some (agf G F A iv V s):=by rw [aae _ _ (Ne.symm aA)];rfl
 have aO:=hr.set (p := .box) trivial an aT (j:=j) hj v';have h0:0 * WPth.box.sz+j=j:=by rw [Aa5,Aac]
 rw [h0] at aO;refine h.build (s':=s') ?_ (aae _ _ (Ne.symm aA)) (k2.setCell aR v') (fun b o x hS hc=>?_) ay fun q hq k hk=>?_
 . rw [hl,ax]
   refine aO.congr (fun q _=>rfl) fun q hq=>?_;rw [hC q hq]
   by_cases e:q = .box
   . subst e
     rw [aai,aai,aae _ _ (Ne.symm aA)];rfl
   . rw [aae _ _ e,aae _ _ e]
 . rw [World.cell?_of_block (w:=W') (Below.heap_setCell _ _ _ _ (fun e=>aj (by have e:b=WB:=e;rw [<-e];exact hS)))];exact k1 b o x hS hc
 . rw [hl,ax] at hq
   by_cases e:q=p
   . subst e
     rw [aai] at hk;rcases hb k hk with h5 | h5
     . exact .inl ⟨q,hp,h5⟩
     . exact .inr h5
   . rw [aae _ _ e] at hk
     exact .inl ⟨q,hq,hk⟩
theorem aa5(l:List Int):(aay l).flatten=l.map (Value.int .i64):=by
 unfold aay
 induction l with
 | nil=>rfl
 | cons x l ih=>rw [Aa2,Abb,ih];rfl
theorem aa0(l:List Int):(aay l).length=l.length:=by unfold aay;rw [Aal]
theorem adx(l:List Int):∀cs∈aay l,cs.length=1:=fun cs h=>by
 unfold aay at h;obtain⟨v,-,rfl⟩:=List.mem_map.1 h;rfl
theorem aaG.pushOut(h : aaG u G F A S W0 base WB W V iv s) {v' : Value}  (ho : W'.ownsRow base 3 1 v' (s.out.length + 1) ((s.out ++ [n]).map (Value.int .i64)))
 (hg:W.grownBy W' (V .out).ownBlock) (hb:∀k,v'.ownBlock=some k->(V .out).ownBlock=some k∨W.heap.size<=k) :
 aaG u G F A S W0 base WB (W'.setCell ⟨WB,7,none⟩ v') (abx V .out v') iv { s with out:=s.out++[n] }:=by
 refine h.turnRow (p := .out) trivial (by intro e;cases e) (xss:=aay (s.out++[n])) (by rw [aa5,aa0,Aak];exact ho) (adx _) hg hb (by omega) rfl rfl rfl fun q _=>?_
 by_cases e:q = .box
 . subst e;rw [aai];rfl
 . rw [aae _ _ e]
   by_cases e2:q = .out
   . subst e2;rw [aai];rfl
   . rw [aae _ _ e2]
     cases q with
     | box=>exact absurd rfl e
     | out=>exact absurd rfl e2
     | frs=>rfl
     | mem=>rfl
     | regs i=>rfl
     | cnts=>rfl
     | cnt k=>rfl
theorem ahA{L K:Nat}(hq:okW (L+1) K q):okW L K q∨q = .regs L:=by
 cases q with
 | regs i =>
   have hi:i<L+1:=hq
   by_cases e:i=L
   . exact .inr (by rw [e])
   . exact .inl (show i<L by omega)
 | _=>exact .inl hq
theorem ahz{L K:Nat}(hq:okW L K q):okW (L+1) K q:=by
 cases q with
 | regs i=>have hi:i<L:=hq;exact show i<L+1 by omega
 | _=>exact hq
theorem aaG.push (h : aaG u G F A S W0 base WB W V iv s) {W1 W2 : World} {rv fv : Value} {fn : Nat} {dst : Int} {regs : List Int} (ar : Below W.heap.size W W1) (aM : W1.ownsRow W.heap.size 3 1 rv regs.length (regs.map (Value.int .i64)))
 (aB:W2.ownsRow base WPth.frs.ty 5 fv (s.frs.length+1) (s.frs.reverse.mapIdx (frC V)++[[.int .i64 (fn:Int),.int .i64 0,.int .i64 0,rv,.int .i64 dst]]).flatten)
 (hg:W1.grownBy W2 (V .frs).ownBlock) (hb:∀k,fv.ownBlock=some k->(V .frs).ownBlock=some k∨W1.heap.size<=k) :
 aaG u G F A S W0 base WB (W2.setCell ⟨WB,9,none⟩ fv) (abx (abx V (.regs s.frs.length) rv) .frs fv) iv { s with frs:=⟨fn,0,0,regs,dst⟩ :: s.frs }:=by
 have ai:base<=W.heap.size:=Aaj h.hb h.low.size;have aD:=h.rows.fresh (.regs s.frs.length) (v:=rv) (n:=regs.length) (xss:=aay regs) (by rw [aa5];exact aM) (aa0 _) (adx _) ar ai;have aJ:abx V (.regs s.frs.length) rv .frs=V .frs:=aae _ _ (by intro e;cases e);have aQ:abx V (.regs s.frs.length) rv .box=V .box:=aae _ _ (by intro e;cases e);obtain⟨xss,ad⟩:∃xss,xss=s.frs.reverse.mapIdx (frC V)++[[.int .i64 (fn:Int),.int .i64 0,.int .i64 0,rv,.int .i64 dst]]:=⟨_,rfl⟩
 have av:xss.length=s.frs.length+1:=by rw [ad,Aak,List.length_mapIdx,Aay];rfl
 rw [<-ad] at aB
 have aP := aD.turn (p := .frs) (.inl trivial) (v' := fv) (xss := xss) (by rw [av]; exact aB) (fun cs au => by
  rw [ad] at au
  rcases Aaw.1 au with h1 | h1
  . obtain ⟨i, t, -, rfl⟩ : ∃ (i : Nat) (t : RnF), True ∧ frC V i t = cs := by
     obtain ⟨i, hi, rfl⟩ := Aav h1
     rw [List.getElem_mapIdx]
     exact ⟨i, _, trivial, rfl⟩
    rfl
  . rw [Aau.1 h1]; rfl) (by rw [aJ]; exact hg) (fun k hk => by rw [aJ]; exact hb k hk)
 have an:abx (abx V (.regs s.frs.length) rv) .frs fv .box = .slice (some ⟨WB,0,none⟩) 1 1:=by rw [aae _ _ (by intro e;cases e),aQ];exact h.box
 have aE:(abx (abx (walkC G F A iv V s) (.regs s.frs.length) (aay regs)) .frs xss .box)[0]?=some (agf G F A iv V s):=by
  rw [aae _ _ (by intro e;cases e),aae _ _ (by intro e;cases e)];rfl
 have aw:=aP.set (p := .box) (.inl trivial) an aE (j:=9) (by show 9<11;omega) fv;have h0:0 * WPth.box.sz+9=9:=by rw [Aa5,Aac]
 rw [h0] at aw;have aj:¬S WB:=h.off .box trivial WB (by rw [h.box];rfl);obtain⟨g1,g2,g3,g4,g5⟩:=hg;have aF:Below base W W2:=(ar.mono ai).trans ⟨g1,g2,g3,g4,fun k hk=>g5 k (by have:=ar.size;omega) fun e=>by have:=(h.rows.lt (p := .frs) trivial k e.symm).1;omega⟩;have ag:aaD S W W2:=fun b o v hS hc=>by
  have h1:=aaD.below' (S:=S) ar b o v hS hc;rw [World.cell?_of_block (w:=W1) (g5 b (by have:=h.lt b hS;have:=ar.size;omega) fun e=>h.off .frs trivial b e.symm hS)];exact h1
 refine h.build (s':={ s with frs:=⟨fn,0,0,regs,dst⟩ :: s.frs }) ?_ (by rw [an,h.box]) (aF.setCell h.boxAt.1 fv) (fun b o v hS hc=>?_) rfl fun q hq k hk=>?_
 . refine (aw.less (ok':=okW (s.frs.length+1) s.cnt.length) fun q hq=>ahA hq).congr (fun q _=>rfl) fun q hq=>?_
   cases q with
   | box =>
     rw [aai,aae _ _ (by intro e;cases e),aae _ _ (by intro e;cases e)];show [agf G F A iv _ _]=[(agf G F A iv V s).set 9 fv];unfold agf;rw [aai]
     simp only [aae _ _ (show (WPth.mem : WPth) ≠ .frs by intro e; cases e), aae _ _ (show (WPth.out : WPth) ≠ .frs by intro e; cases e), aae _ _ (show (WPth.cnts : WPth) ≠ .frs by intro e; cases e),
      aae _ _ (show (WPth.mem : WPth) ≠ .regs s.frs.length by intro e; cases e), aae _ _ (show (WPth.out : WPth) ≠ .regs s.frs.length by intro e; cases e), aae _ _ (show (WPth.cnts : WPth) ≠ .regs s.frs.length by intro e; cases e)]
     rfl
   | frs =>
     rw [aae _ _ (by intro e;cases e),aai,ad];show List.mapIdx _ (_ :: s.frs).reverse=_;rw [List.reverse_cons,List.mapIdx_concat,Aay]
     congr 1
     . refine List.ext_getElem? fun i=>?_
       rw [List.getElem?_mapIdx,List.getElem?_mapIdx];cases e:s.frs.reverse[i]? with
       | none=>rfl
       | some t =>
         have hi:i<s.frs.length:=by have:=(Aae.1 e).1;rw [Aay] at this;exact this
         show some _=some _;unfold frC;rw [aae _ _ (by intro e;cases e),aae _ _ (by intro e;cases e;omega)]
     . unfold frC
       rw [aae _ _ (by intro e;cases e),aai];rfl
   | regs i =>
     rw [aae _ _ (by intro e;cases e),aae _ _ (by intro e;cases e)];show aay ((_ :: s.frs).reverse.getD i RnF.none).regs=_
     by_cases e:i=s.frs.length
     . subst e
       rw [aai,abw]
     . rw [aae _ _ (by intro e2;cases e2;exact e rfl)]
       show _=aay (s.frs.reverse.getD i RnF.none).regs;have hi:i<s.frs.length:=by have aW:i<s.frs.length+1:=hq;omega
       rw [List.reverse_cons,Aab,Abh (by rw [Aay];exact hi),<-Aab]
   | mem=>rfl
   | out=>rfl
   | cnts =>
     rw [aae _ _ (by intro e;cases e),aae _ _ (by intro e;cases e),aae _ _ (by intro e;cases e)];show (List.range s.cnt.length).map _=(List.range s.cnt.length).map _;refine List.map_congr_left fun k _=>?_;rw [aae _ _ (by intro e;cases e),aae _ _ (by intro e;cases e)]
   | cnt k=>rfl
 . rw [World.cell?_of_block (w:=W2) (Below.heap_setCell _ _ _ _ (fun e=>aj (by have e:b=WB:=e;rw [<-e];exact hS)))];exact ag b o v hS hc
 . by_cases e:q = .frs
   . subst e
     rw [aai] at hk;rcases hb k hk with h5 | h5
     . exact .inl ⟨.frs,trivial,h5⟩
     . exact .inr (Aaj ar.size h5)
   . rw [aae _ _ e] at hk
     by_cases e2:q = .regs s.frs.length
     . subst e2
       rw [aai] at hk;exact .inr (aM.lt k hk).1
     . rw [aae _ _ e2] at hk
       exact .inl ⟨q,(ahA hq).resolve_right e2,hk⟩
theorem aaG.pop(h:aaG u G F A S W0 base WB W V iv s)(ae:s.frs=t :: r)(hv:V .frs = .slice (some ⟨g,0,none⟩) (r.length+1) c) :
 aaG u G F A S W0 base WB (W.setCell ⟨WB,9,none⟩ (.slice (some ⟨g,0,none⟩) r.length c)) (abx V .frs (.slice (some ⟨g,0,none⟩) r.length c)) iv { s with frs:=r }:=by
 have aN:(V .frs).ownBlock=some g:=by rw [hv];rfl
 have aL:s.frs.length=r.length+1:=by rw [ae];rfl
 obtain⟨xss,ad⟩:∃xss,xss=r.reverse.mapIdx (frC V):=⟨_,rfl⟩
 have av:xss.length=r.length:=by rw [ad,List.length_mapIdx,Aay]
 have aC:walkC G F A iv V s .frs=xss++[frC V r.length t]:=by
  show s.frs.reverse.mapIdx (frC V)=_;rw [ae,List.reverse_cons,List.mapIdx_concat,Aay,ad]
 have al:=h.rows.own .frs trivial;rw [aC,List.flatten_append,Aak,av] at al;have aq:∀cs∈xss,cs.length=5:=fun cs au=>by
  have:=h.rows.wid .frs trivial cs (by rw [aC];exact List.mem_append_left _ au);exact this
 have af:xss.flatten.length=r.length * 5:=by
  rw [<-av];clear aC al av ad
  induction xss with
  | nil=>rfl
  | cons y ys ih=>rw [Abb,Aak,Aaq,Nat.succ_mul,ih fun cs au=>aq cs (Aa3 _ au),aq y (Aa6 ..)];omega
 have aB:W.ownsRow base WPth.frs.ty 5 (.slice (some ⟨g,0,none⟩) r.length c) xss.length xss.flatten:=by
  obtain⟨-,h2⟩:=al;rw [av];refine⟨af,?_⟩;rcases h2 with⟨e,-⟩ | ⟨g',cap,cur,e,h3,h4,h5,h6,h7,h8⟩
  . rw [hv] at e;cases e
  . rw [hv] at e
    cases e;refine .inr ⟨g,c,cur,rfl,h3,h4,by omega,h6,h7,?_⟩;have h9:=congrArg (fun l=>l.take (r.length * 5)) h8;rw [List.take_take,Nat.min_eq_left (by show r.length * 5<=(r.length+[frC V r.length t].length) * 5;omega),List.take_append_of_le_length (by rw [af];exact Aad _),List.take_of_length_le (l:=xss.flatten) (by rw [af];exact Aad _)] at h9;exact h9
 have aD:=h.rows.turn (p := .frs) trivial (W':=W) (v' := .slice (some ⟨g,0,none⟩) r.length c) (xss:=xss) aB aq ⟨rfl,rfl,rfl,Aad _,fun _ _ _=>rfl⟩ (fun k hk=>by rw [aN];exact .inl hk);have an:abx V .frs (.slice (some ⟨g,0,none⟩) r.length c) .box = .slice (some ⟨WB,0,none⟩) 1 1:=by rw [aae _ _ (by intro e;cases e)];exact h.box
 have aE:(abx (walkC G F A iv V s) .frs xss .box)[0]?=some (agf G F A iv V s):=by rw [aae _ _ (by intro e;cases e)];rfl
 have aw:=aD.set (p := .box) trivial an aE (j:=9) (by show 9<11;omega) (.slice (some ⟨g,0,none⟩) r.length c);have h0:0 * WPth.box.sz+9=9:=by rw [Aa5,Aac]
 rw [h0] at aw;have aj:¬S WB:=h.off .box trivial WB (by rw [h.box];rfl);refine h.build (s':={ s with frs:=r }) ?_ (by rw [an,h.box]) ((Below.refl _ _).setCell h.boxAt.1 _) (fun b o v hS hc=>?_) rfl fun q hq k hk=>?_
 . refine (aw.less (ok':=okW r.length s.cnt.length) fun q hq=>by rw [aL];exact ahz hq).congr (fun q _=>rfl) fun q hq=>?_
   cases q with
   | box =>
     rw [aai,aae _ _ (by intro e;cases e)];rfl
   | frs =>
     rw [aae _ _ (by intro e;cases e),aai,ad];rfl
   | regs i =>
     rw [aae _ _ (by intro e;cases e),aae _ _ (by intro e;cases e)];show aay (r.reverse.getD i RnF.none).regs=aay (s.frs.reverse.getD i RnF.none).regs;have hi:i<r.length:=hq;rw [ae,List.reverse_cons,Aab,Aab,Abh (by rw [Aay];exact hi)]
   | mem=>rfl
   | out=>rfl
   | cnts=>rfl
   | cnt k=>rfl
 . rw [World.cell?_of_block (w:=W) (Below.heap_setCell _ _ _ _ (fun e=>aj (by have e:b=WB:=e;rw [<-e];exact hS)))];exact hc
 . by_cases e:q = .frs
   . subst e
     rw [aai] at hk;exact .inl ⟨.frs,trivial,by rw [aN];exact hk⟩
   . rw [aae _ _ e] at hk
     exact .inl ⟨q,by rw [aL];exact ahz hq,hk⟩
theorem aaG.putInp(h:aaG u G F A S W0 base WB W V iv s){iv':Value}(hi:SlAt S W 1 abe iv' l):aaG u G F A S W0 base WB (W.setCell ⟨WB,4,none⟩ iv') V iv' { s with inp:=l }:=by
 have aj:¬S WB:=h.off .box trivial WB (by rw [h.box];rfl);have ag:aaD S W (W.setCell ⟨WB,4,none⟩ iv'):=fun b o v hS hc=>by
  rw [World.cell?_of_block (w:=W) (Below.heap_setCell _ _ _ _ (fun e=>aj (by have e:b=WB:=e;rw [<-e];exact hS)))];exact hc
 have aI:(W.setCell ⟨WB,4,none⟩ iv').heap.size=W.heap.size:=by simp [World.setCell]
 have hr:=h.rows.set (p := .box) trivial h.box (i:=0) (cs:=agf G F A iv V s) rfl (j:=4) (by show 4<11;omega) iv';have h0:0 * WPth.box.sz+4=4:=by rw [Aa5,Aac]
 rw [h0] at hr;refine⟨hr.congr (fun _ _=>rfl) fun q _=>?_,h.box,h.low.setCell h.boxAt.1 iv',⟨h.rd.fs.mono aan (fun _ h=>h) ag,h.rd.ah.mono afo (fun _ h=>h) ag,hi.mono aaf (fun _ h=>h) ag⟩,fun b hS=>by rw [aI];exact h.lt b hS,h.off,h.hb⟩
 by_cases e:q = .box
 . subst e;rw [aai];rfl
 . rw [aae _ _ e]
   cases q with
   | box=>exact absurd rfl e
   | _=>rfl
end
end Go.Proofs.YtgekbfgplclmeaaDoor
