import Derived.Test.YtnkfdeiigplhoaaGreatDoorPRunP
import Derived.Test.YtnkfdeiigplhoaaGreatDoorPRowOps
/- run.walker in memory: its rows, each in a block of its own. The walker's methods: top, val, stop, set. The walker enters a function. -/
set_option maxHeartbeats 2000000
set_option maxRecDepth 100000
namespace Go.Proofs.YtnkfdeiigplhoaaGreatDoor
section
open Go.RowKit
inductive WPth where
 | box
 | mem
 | out
 | frs
 | regs (i:Nat)
 | cnts
 | cnt (k:Nat)
 deriving DecidableEq
def WPth.ty : WPth -> TypeId
 | .box=>78
 | .mem=>3
 | .out=>3
 | .frs=>107
 | .regs _=>3
 | .cnts=>26
 | .cnt _=>3
def WPth.sz : WPth -> Nat
 | .box=>11
 | .frs=>5
 | _=>1
def okW (L K : Nat) : WPth -> Prop
 | .regs i=>i<L
 | .cnt k=>k<K
 | _=>True
def aaF(l:List Int):List (List Value):=l.map fun v=>[.int .i64 v]
def frC(V:WPth->Value)(i:Nat)(t:RnF):List Value:=[.int .i64 (t.fn:Int),.int .i64 (t.blk:Int),.int .i64 (t.pos:Int),V (.regs i),.int .i64 t.dst]
def ahS(G F A iv:Value)(V:WPth->Value)(s:RnS):List Value:=[G,F,A,V .mem,iv,.int .i64 s.state,.int .i64 s.value,V .out,.int .i64 (s.steps:Int),V .frs,V .cnts]
def walkC (G F A iv : Value) (V : WPth -> Value) (s : RnS) : WPth -> List (List Value)
 | .box=>[ahS G F A iv V s]
 | .mem=>aaF s.mem
 | .out=>aaF s.out
 | .frs=>s.frs.reverse.mapIdx (frC V)
 | .regs i=>aaF (s.frs.reverse.getD i RnF.none).regs
 | .cnts=>(List.range s.cnt.length).map fun k=>[V (.cnt k)]
 | .cnt k=>aaF (s.cnt.getD k [])
def anB:Rp (List (List Int)):=fun S w cs l=>∃v,cs=[v]∧SlAt S w 1 rRow v l
theorem ag5:anB.Mono:=⟨fun _ _ _ _ _ _ hS hw ⟨v,h1,h2⟩=>⟨v,h1,h2.mono aax hS hw⟩⟩
theorem akW {α:Type}{r:Rp α}{S:Nat->Prop}{w:World}{ao:Option Addr}{n c:Nat}{x:α}{l:List α}(h:SlAt S w 1 r (.slice ao n c) (x :: l)) :
 n=l.length+1∧1<=c∧∃b off,ao=some ⟨b,off,none⟩∧(∃cs,r S w cs x∧aaj w b off cs)∧∀aX,(l≠[]->aX=some ⟨b,off+1,none⟩)->SlAt S w 1 r (.slice aX l.length (c - 1)) l:=by
 obtain⟨cH,c2,hv,hc,hm,h⟩:=h;cases hv;obtain⟨b,off,rfl,hb,h⟩:=h (by intro e;cases e);rw [Aao] at hc;refine⟨rfl,by omega,b,off,rfl,?_,fun aX ha=>⟨aX,c - 1,rfl,by omega,by omega,fun aB=>⟨b,off+1,ha aB,hb,fun i y hy=>?_⟩⟩⟩
 . obtain⟨cs,h1,-,h3⟩:=h 0 x rfl
   rw [Nat.zero_mul,Aa2] at h3;exact⟨cs,h1,h3⟩
 . obtain⟨cs,h1,h2,h3⟩:=h (i+1) y hy
   refine⟨cs,h1,h2,?_⟩;rw [show off+1+i * 1=off+(i+1) * 1 by omega];exact h3
structure ap1 (u:aaC)(F A iv:Value)(S:Nat->Prop)(W:World)(s:RnS):Prop where
 fs:SlAt S W 4 aaZ F u.funcs
 ah:SlAt S W 1 anB A (u.funcs.map fun f=>aheadF f.blocks)
 inp:SlAt S W 1 aaO iv s.inp
theorem ap1.stay {u:aaC}{F A iv:Value}{S:Nat->Prop}{W W':World}{s s':RnS}(h:ap1 u F A iv S W s)(hw:aav S W W')(hi:s'.inp=s.inp):ap1 u F A iv S W' s' :=
 ⟨h.fs.mono aak (fun _ h=>h) hw,h.ah.mono ag5 (fun _ h=>h) hw,by rw [hi];exact h.inp.mono aae (fun _ h=>h) hw⟩
structure aaQ (u:aaC)(G F A:Value)(S:Nat->Prop)(W0:World)(base WB:Nat)(W:World)(V:WPth->Value)(iv:Value)(s:RnS):Prop where
 rows:abg WPth.ty WPth.sz W base (okW s.frs.length s.cnt.length) V (walkC G F A iv V s)
 box:V .box = .slice (some ⟨WB,0,none⟩) 1 1
 low:Below base W0 W
 rd:ap1 u F A iv S W s
 lt:∀b,S b->b<W.heap.size
 off:∀p,okW s.frs.length s.cnt.length p->∀k,(V p).ownBlock=some k->¬S k
 hb:base<=W0.heap.size
section
variable {u : aaC} {G F A : Value} {S : Nat -> Prop} {W0 : World} {base WB : Nat} {W W' : World} {V : WPth -> Value} {iv : Value} {s : RnS}
theorem aaQ.later(h:aaQ u G F A S W0 base WB W V iv s)(hb:Below W.heap.size W W'):aaQ u G F A S W0 base WB W' V iv s :=
 ⟨h.rows.later hb,h.box,h.low.trans (hb.mono (Aag h.hb h.low.size)),h.rd.stay (aav.below' hb) rfl,fun b hS=>Aap (h.lt b hS) hb.size,h.off,h.hb⟩
theorem aaQ.boxAt(h:aaQ u G F A S W0 base WB W V iv s):base<=WB∧WB<W.heap.size∧aaj W WB 0 (ahS G F A iv V s)∧∀j,j<11->W.frozen? ⟨WB,j,none⟩=false:=by
 have bF:okW s.frs.length s.cnt.length .box:=trivial;have hc:∀j v,(ahS G F A iv V s)[j]?=some v->base<=WB∧WB<W.heap.size∧W.cell? ⟨WB,j,none⟩=some v∧W.frozen? ⟨WB,j,none⟩=false:=fun j v hj=>by
  obtain⟨g,c,e,-,h1,h2,h3,h4⟩:=h.rows.cell bF (i:=0) (j:=j) (cs:=ahS G F A iv V s) (u:=v) rfl hj;rw [h.box] at e;cases e;rw [Nat.zero_mul,Aab] at h3 h4;exact⟨h1,h2,h3,h4⟩
 obtain⟨h1,h2,-,-⟩:=hc 0 _ rfl;refine⟨h1,h2,fun j v hj=>?_,fun j hj=>?_⟩
 . rw [Aab];exact (hc j v hj).2.2.1
 . have hl:(ahS G F A iv V s).length=11:=rfl
   exact (hc j _ (Aaa (by omega))).2.2.2
variable {p:WPth}{l:List Int}{i:Nat}{n:Int}
theorem aaQ.numAt(h:aaQ u G F A S W0 base WB W V iv s)(hp:okW s.frs.length s.cnt.length p)(h1:p.sz=1)(hl:walkC G F A iv V s p=aaF l)(hi:l[i]?=some n) :
 ∃g c,V p = .slice (some ⟨g,0,none⟩) l.length c∧l.length<=c∧base<=g∧g<W.heap.size∧W.cell? ⟨g,i,none⟩=some (.int .i64 n)∧W.frozen? ⟨g,i,none⟩=false:=by
 have hc:(walkC G F A iv V s p)[i]?=some [.int .i64 n]:=by rw [hl];unfold aaF;rw [Aak,hi];rfl
 obtain⟨g,c,h2,h3,h4,h5,h6,h7⟩:=h.rows.cell hp hc (j:=0) (u := .int .i64 n) rfl;rw [h1,Aan,Aa2] at h6 h7;have hlen:(walkC G F A iv V s p).length=l.length:=by rw [hl];unfold aaF;rw [Aal]
 rw [hlen] at h2 h3;exact⟨g,c,h2,h3,h4,h5,h6,h7⟩
theorem agh(t:RnF)(r:List RnF):(t :: r).reverse[r.length]?=some t:=by simp
theorem abV(t:RnF)(r:List RnF):(t :: r).reverse.getD r.length RnF.none=t:=by rw [Aac,agh];rfl
variable {t:RnF}{r:List RnF}
theorem aaQ.topAt(h:aaQ u G F A S W0 base WB W V iv s)(ad:s.frs=t :: r) :
 ∃g c,V .frs = .slice (some ⟨g,0,none⟩) (r.length+1) c∧r.length+1<=c∧base<=g∧g<W.heap.size∧aaj W g (r.length * 5) (frC V r.length t)∧∀j,j<5->W.frozen? ⟨g,r.length * 5+j,none⟩=false:=by
 have bF:okW s.frs.length s.cnt.length .frs:=trivial;have hlen:(walkC G F A iv V s .frs).length=r.length+1:=by show (s.frs.reverse.mapIdx (frC V)).length=_;rw [List.length_mapIdx,Aba,ad];rfl
 have hi:(walkC G F A iv V s .frs)[r.length]?=some (frC V r.length t):=by
  show (s.frs.reverse.mapIdx (frC V))[r.length]?=_;rw [List.getElem?_mapIdx,ad,agh];rfl
 have aE:∀j v,(frC V r.length t)[j]?=some v->∃g c,V .frs = .slice (some ⟨g,0,none⟩) (r.length+1) c∧r.length+1<=c∧base<=g∧g<W.heap.size∧W.cell? ⟨g,r.length * 5+j,none⟩=some v∧W.frozen? ⟨g,r.length * 5+j,none⟩=false:=fun j v hj=>by
  obtain⟨g,c,h2,h3,h4⟩:=h.rows.cell bF hi hj;rw [hlen] at h2 h3;exact⟨g,c,h2,h3,h4⟩
 obtain⟨g,c,h1,h2,h3,h4,-,-⟩:=aE 0 _ rfl;refine⟨g,c,h1,h2,h3,h4,fun j v hj=>?_,fun j hj=>?_⟩
 . obtain⟨g',c',e,-,-,-,h5,-⟩:=aE j v hj
   rw [h1] at e;cases e;exact h5
 . have hl:(frC V r.length t).length=5:=rfl
   obtain⟨g',c',e,-,-,-,-,h6⟩:=aE j _ (Aaa (by omega));rw [h1] at e;cases e;exact h6
variable {g c j:Nat}{s':RnS}
theorem aaQ.put(h : aaQ u G F A S W0 base WB W V iv s)  (hp : okW s.frs.length s.cnt.length p) {n:Nat} (hv : V p = .slice (some ⟨g, 0, none⟩) n c) {cs : List Value} (hi : (walkC G F A iv V s p)[i]? = some cs) (hj : j < p.sz) (x : Value)
  (hl:s'.frs.length=s.frs.length) (aA:s'.cnt.length=s.cnt.length) (aU:s'.inp=s.inp) (hC:∀q,okW s.frs.length s.cnt.length q->walkC G F A iv V s' q=abW (walkC G F A iv V s) p ((walkC G F A iv V s p).set i (cs.set j x)) q) :
 aaQ u G F A S W0 base WB (W.setCell ⟨g,i * p.sz+j,none⟩ x) V iv s':=by
 have hg:base<=g:=(h.rows.lt hp g (by rw [hv];rfl)).1;have cp:¬S g:=h.off p hp g (by rw [hv];rfl);have ax:aav S W (W.setCell ⟨g,i * p.sz+j,none⟩ x):=fun b o v hS hc=>by
  rw [World.cell?_of_block (w:=W) (Below.heap_setCell _ _ _ _ (fun e=>cp (by have e:b=g:=e;rw [<-e];exact hS)))];exact hc
 have bG:(W.setCell ⟨g,i * p.sz+j,none⟩ x).heap.size=W.heap.size:=by simp [World.setCell]
 refine⟨?_,h.box,h.low.setCell hg x,h.rd.stay ax aU,fun b hS=>by rw [bG];exact h.lt b hS,fun q hq=>h.off q (by rw [hl,aA] at hq;exact hq),h.hb⟩;rw [hl,aA];exact (h.rows.set hp hv hi hj x).congr (fun q _=>rfl) hC
variable {q:WPth}
theorem amI{s:RnS}(h1:s'.mem=s.mem)(h2:s'.out=s.out)(h3:s'.frs=s.frs)(h4:s'.cnt=s.cnt)(hq:q ≠ .box):walkC G F A iv V s' q=walkC G F A iv V s q:=by
 cases q with
 | box=>exact absurd rfl hq
 | mem=>show aaF _=aaF _;rw [h1]
 | out=>show aaF _=aaF _;rw [h2]
 | frs=>show List.mapIdx _ _=_;rw [h3];rfl
 | regs i=>show aaF _=aaF _;rw [h3]
 | cnts=>show List.map _ _=_;rw [h4];rfl
 | cnt k=>show aaF _=aaF _;rw [h4]
theorem aaQ.putBox(h : aaQ u G F A S W0 base WB W V iv s)  (hj : j < 11) (x : Value)  (h1 : s'.mem = s.mem) (h2 : s'.out = s.out) (h3 : s'.frs = s.frs) (h4 : s'.cnt = s.cnt) (h5 : s'.inp = s.inp)
 (hb:ahS G F A iv V s'=(ahS G F A iv V s).set j x):aaQ u G F A S W0 base WB (W.setCell ⟨WB,j,none⟩ x) V iv s':=by
 have hk := h.put (p := .box) trivial (i := 0) (j := j) (cs := ahS G F A iv V s) h.box rfl hj x (s' := s') (by rw [h3]) (by rw [h4]) h5 (fun q _ => by
  by_cases e : q = .box
  . subst e
    rw [aar]
    show [ahS G F A iv V s'] = _
    rw [hb]; rfl
  . rw [aai _ _ e]; exact amI h1 h2 h3 h4 e)
 rw [Nat.zero_mul,Aab] at hk;exact hk
theorem aaQ.putState(h:aaQ u G F A S W0 base WB W V iv s)(x:Int):aaQ u G F A S W0 base WB (W.setCell ⟨WB,5,none⟩ (.int .i64 x)) V iv { s with state:=x }:=h.putBox (by omega) _ rfl rfl rfl rfl rfl rfl
theorem aaQ.putValue(h:aaQ u G F A S W0 base WB W V iv s)(x:Int):aaQ u G F A S W0 base WB (W.setCell ⟨WB,6,none⟩ (.int .i64 x)) V iv { s with value:=x }:=h.putBox (by omega) _ rfl rfl rfl rfl rfl rfl
theorem aaQ.putSteps(h:aaQ u G F A S W0 base WB W V iv s)(x:Nat):aaQ u G F A S W0 base WB (W.setCell ⟨WB,8,none⟩ (.int .i64 (x:Int))) V iv { s with steps:=x }:=h.putBox (by omega) _ rfl rfl rfl rfl rfl rfl
theorem aj0(t t':RnF)(r:List RnF)(hi:i≠r.length):(t' :: r).reverse.getD i RnF.none=(t :: r).reverse.getD i RnF.none:=by
 rw [Abt,Abt,Aac,Aac,List.getElem?_append,List.getElem?_append,Aba];split
 . rfl
 . have:i - r.length≠0:=by omega
   obtain⟨k,hk⟩:∃k,i - r.length=k+1:=⟨i - r.length - 1,by omega⟩
   rw [hk];rfl
theorem aly(V:WPth->Value)(t t':RnF)(r:List RnF):((t' :: r).reverse.mapIdx (frC V))=((t :: r).reverse.mapIdx (frC V)).set r.length (frC V r.length t'):=by
 refine Abk fun i=>?_;rw [List.getElem?_set,List.getElem?_mapIdx,List.getElem?_mapIdx,List.length_mapIdx,Aba,Aao]
 by_cases e:r.length=i
 . subst e
   rw [agh,if_pos rfl,if_pos (by omega)];rfl
 . rw [if_neg e,Abt,Abt,List.getElem?_append,List.getElem?_append,Aba]
   split
   . rfl
   . obtain⟨k,hk⟩:∃k,i - r.length=k+1:=⟨i - r.length - 1,by omega⟩
     rw [hk];rfl
theorem aaQ.putTop(h : aaQ u G F A S W0 base WB W V iv s) {t':RnF}  (ad : s.frs = t :: r)  (hv : V .frs = .slice (some ⟨g, 0, none⟩) (r.length + 1) c)  (hj : j < 5) (x : Value)
 (ht:frC V r.length t'=(frC V r.length t).set j x) (hr:t'.regs=t.regs):aaQ u G F A S W0 base WB (W.setCell ⟨g,r.length * 5+j,none⟩ x) V iv { s with frs:=t' :: r }:=by
 have hi:(walkC G F A iv V s .frs)[r.length]?=some (frC V r.length t):=by
  show (s.frs.reverse.mapIdx (frC V))[r.length]?=_;rw [List.getElem?_mapIdx,ad,agh];rfl
 refine h.put (p := .frs) trivial (i:=r.length) (j:=j) hv hi hj x (by rw [ad];rfl) rfl rfl fun q _=>?_
 by_cases e:q = .frs
 . subst e
   rw [aar,<-ht];show (t' :: r).reverse.mapIdx (frC V)=(s.frs.reverse.mapIdx (frC V)).set r.length _;rw [ad,<-aly]
 . rw [aai _ _ e]
   cases q with
   | frs=>exact absurd rfl e
   | regs i =>
     show aaF ((t' :: r).reverse.getD i RnF.none).regs=aaF (s.frs.reverse.getD i RnF.none).regs;rw [ad]
     by_cases e2:i=r.length
     . rw [e2,abV,abV,hr]
     . rw [aj0 t t' r e2]
   | box=>rfl
   | mem=>rfl
   | out=>rfl
   | cnts=>rfl
   | cnt k=>rfl
theorem af3(l:List Int)(i:Nat)(x:Int):aaF (l.set i x)=(aaF l).set i [.int .i64 x]:=by unfold aaF;rw [List.map_set]
theorem ahu(h:l[i]?=some n):(aaF l)[i]?=some [.int .i64 n]:=by unfold aaF;rw [Aak,h];rfl
variable {d:Nat}
theorem aaQ.putReg(h:aaQ u G F A S W0 base WB W V iv s)(ad:s.frs=t :: r)(hv:V (.regs r.length) = .slice (some ⟨g,0,none⟩) t.regs.length c)(hd:d<t.regs.length)(x:Int) :
 aaQ u G F A S W0 base WB (W.setCell ⟨g,d,none⟩ (.int .i64 x)) V iv { s with frs:={ t with regs:=t.regs.set d x } :: r }:=by
 have hC:walkC G F A iv V s (.regs r.length)=aaF t.regs:=by show aaF (s.frs.reverse.getD r.length RnF.none).regs=_;rw [ad,abV]
 have hi:(walkC G F A iv V s (.regs r.length))[d]?=some [.int .i64 t.regs[d]]:=by rw [hC];exact ahu (Aaa hd)
 have hk:=h.put (p := .regs r.length) (by rw [ad];exact Abc _) (i:=d) (j:=0) hv hi (by show 0<1;omega) (.int .i64 x) (s':={ s with frs:={ t with regs:=t.regs.set d x } :: r }) (by rw [ad];rfl) rfl rfl fun q _=>by
  by_cases e:q = .regs r.length
  . subst e
    rw [aar,hC];show aaF (({ t with regs:=t.regs.set d x } :: r).reverse.getD r.length RnF.none).regs=_;rw [abV];exact af3 _ _ _
  . rw [aai _ _ e]
    cases q with
    | frs =>
      show ({ t with regs:=t.regs.set d x } :: r).reverse.mapIdx (frC V)=s.frs.reverse.mapIdx (frC V);rw [ad,aly V t];refine Abk fun i=>?_;rw [List.getElem?_set];split
      case isTrue e2 =>
       subst e2;rw [List.getElem?_mapIdx,agh,List.length_mapIdx,Aba,if_pos (by rw [Aao];omega)];rfl
      case isFalse=>rfl
    | regs i =>
      show aaF (({ t with regs:=t.regs.set d x } :: r).reverse.getD i RnF.none).regs=aaF (s.frs.reverse.getD i RnF.none).regs;rw [ad,aj0 t _ r (fun e2=>e (by rw [e2]))]
    | box=>rfl
    | mem=>rfl
    | out=>rfl
    | cnts=>rfl
    | cnt k=>rfl
 have h1:(WPth.regs r.length).sz=1:=rfl;rw [h1,Aan,Aa2] at hk;exact hk
theorem aaQ.putMem(h:aaQ u G F A S W0 base WB W V iv s)(hv:V .mem = .slice (some ⟨g,0,none⟩) s.mem.length c)(hd:d<s.mem.length)(x:Int) :
 aaQ u G F A S W0 base WB (W.setCell ⟨g,d,none⟩ (.int .i64 x)) V iv { s with mem:=s.mem.set d x }:=by
 have hk:=h.put (p := .mem) trivial (i:=d) (j:=0) hv (ahu (Aaa hd)) (by show 0<1;omega) (.int .i64 x) (s':={ s with mem:=s.mem.set d x }) rfl rfl rfl fun q _=>by
  by_cases e:q = .mem
  . subst e
    rw [aar];exact af3 _ _ _
  . rw [aai _ _ e]
    cases q with
    | mem=>exact absurd rfl e
    | _=>rfl
 have h1:WPth.mem.sz=1:=rfl;rw [h1,Aan,Aa2] at hk;exact hk
theorem aaQ.putCnt(h:aaQ u G F A S W0 base WB W V iv s){k:Nat}(hk:s.cnt[k]?=some l)(hv:V (.cnt k) = .slice (some ⟨g,0,none⟩) l.length c)(hd:d<l.length)(x:Int) :
 aaQ u G F A S W0 base WB (W.setCell ⟨g,d,none⟩ (.int .i64 x)) V iv { s with cnt:=s.cnt.set k (l.set d x) }:=by
 have bV:=(Aae.1 hk).1;have hC:walkC G F A iv V s (.cnt k)=aaF l:=by show aaF (s.cnt.getD k [])=_;rw [Aac,hk];rfl
 have hi:(walkC G F A iv V s (.cnt k))[d]?=some [.int .i64 l[d]]:=by rw [hC];exact ahu (Aaa hd)
 have hp:=h.put (p := .cnt k) bV (i:=d) (j:=0) hv hi (by show 0<1;omega) (.int .i64 x) (s':={ s with cnt:=s.cnt.set k (l.set d x) }) rfl (by simp) rfl fun q _=>by
  by_cases e:q = .cnt k
  . subst e
    rw [aar,hC];show aaF ((s.cnt.set k (l.set d x)).getD k [])=_;rw [Aac,List.getElem?_set_self bV];exact af3 _ _ _
  . rw [aai _ _ e]
    cases q with
    | cnt k' =>
      show aaF ((s.cnt.set k (l.set d x)).getD k' [])=aaF (s.cnt.getD k' []);rw [Aac,Aac,List.getElem?_set_ne (fun e2=>e (by rw [e2]))]
    | cnts =>
      show (List.range (s.cnt.set k (l.set d x)).length).map _=_;rw [List.length_set];rfl
    | _=>rfl
 have h1:(WPth.cnt k).sz=1:=rfl;rw [h1,Aan,Aa2] at hp;exact hp
theorem aaQ.build(h : aaQ u G F A S W0 base WB W V iv s) {V' : WPth -> Value}  (hr : abg WPth.ty WPth.sz W' base (okW s'.frs.length s'.cnt.length) V' (walkC G F A iv V' s')) (hx : V' .box = V .box) (hl : Below base W W') (ax : aav S W W') (aU : s'.inp = s.inp)
 (bD:∀p,okW s'.frs.length s'.cnt.length p->∀k,(V' p).ownBlock=some k->(∃q,okW s.frs.length s.cnt.length q∧(V q).ownBlock=some k)∨W.heap.size<=k):aaQ u G F A S W0 base WB W' V' iv s' :=
 ⟨hr, by rw [hx]; exact h.box, h.low.trans hl, h.rd.stay ax aU, fun b hS => Aap (h.lt b hS) hl.size, fun p hp k hk hS => by
   rcases bD p hp k hk with ⟨q, hq, e⟩ | e
   . exact h.off q hq k e hS
   . have := h.lt k hS; omega, h.hb⟩
theorem aaQ.grown(h:aaQ u G F A S W0 base WB W V iv s)(hp:okW s.frs.length s.cnt.length p)(hg:W.grownBy W' (V p).ownBlock):aav S W W'∧Below base W W':=by
 obtain⟨g1,g2,g3,g4,g5⟩:=hg;refine⟨fun b o v hS hc=>?_,g1,g2,g3,g4,fun k hk=>?_⟩
 . rw [World.cell?_of_block (w:=W) (g5 b (h.lt b hS) fun e=>h.off p hp b e.symm hS)];exact hc
 . exact g5 k (Aap hk (Aag h.hb h.low.size)) fun e=>by have:=(h.rows.lt hp k e.symm).1;omega
theorem aaQ.turnRow(h : aaQ u G F A S W0 base WB W V iv s)  (hp : okW s.frs.length s.cnt.length p) (bd : p ≠ .box) {v' : Value} {xss : List (List Value)} (ho : W'.ownsRow base p.ty p.sz v' xss.length xss.flatten) (hw : ∀ cs ∈ xss, cs.length = p.sz)
 (hg:W.grownBy W' (V p).ownBlock) (hb:∀k,v'.ownBlock=some k->(V p).ownBlock=some k∨W.heap.size<=k)  (hj:j<11)  (hl:s'.frs.length=s.frs.length) (aA:s'.cnt.length=s.cnt.length) (aU:s'.inp=s.inp)
 (hC:∀q,okW s.frs.length s.cnt.length q->walkC G F A iv (abW V p v') s' q=abW (abW (walkC G F A iv V s) p xss) .box [(ahS G F A iv V s).set j v'] q) :
 aaQ u G F A S W0 base WB (W'.setCell ⟨WB,j,none⟩ v') (abW V p v') iv s':=by
 obtain⟨k1,k2⟩:=h.grown hp hg;have a7:=h.boxAt.1;have aD:¬S WB:=h.off .box trivial WB (by rw [h.box];rfl);have hr:=h.rows.turn hp ho hw hg hb;have aH:abW V p v' .box = .slice (some ⟨WB,0,none⟩) 1 1:=by rw [aai _ _ (Ne.symm bd)];exact h.box
 have cr:(abW (walkC G F A iv V s) p xss .box)[0]?=some (ahS G F A iv V s):=by rw [aai _ _ (Ne.symm bd)];rfl
 have bY:=hr.set (p := .box) trivial aH cr (j:=j) hj v';have h0:0 * WPth.box.sz+j=j:=by rw [Nat.zero_mul,Aab]
 rw [h0] at bY;refine h.build (s':=s') ?_ (aai _ _ (Ne.symm bd)) (k2.setCell a7 v') (fun b o x hS hc=>?_) aU fun q hq k hk=>?_
 . rw [hl,aA]
   refine bY.congr (fun q _=>rfl) fun q hq=>?_;rw [hC q hq]
   by_cases e:q = .box
   . subst e
     rw [aar,aar,aai _ _ (Ne.symm bd)];rfl
   . rw [aai _ _ e,aai _ _ e]
 . rw [World.cell?_of_block (w:=W') (Below.heap_setCell _ _ _ _ (fun e=>aD (by have e:b=WB:=e;rw [<-e];exact hS)))];exact k1 b o x hS hc
 . rw [hl,aA] at hq
   by_cases e:q=p
   . subst e
     rw [aar] at hk;rcases hb k hk with h5 | h5
     . exact .inl ⟨q,hp,h5⟩
     . exact .inr h5
   . rw [aai _ _ e] at hk
     exact .inl ⟨q,hq,hk⟩
theorem abm(l:List Int):(aaF l).flatten=l.map (Value.int .i64):=by
 unfold aaF
 induction l with
 | nil=>rfl
 | cons x l ih=>rw [Aa9,Abm,ih];rfl
theorem abi(l:List Int):(aaF l).length=l.length:=by unfold aaF;rw [Aal]
theorem aey(l:List Int):∀cs∈aaF l,cs.length=1:=fun cs h=>by
 unfold aaF at h;obtain⟨v,-,rfl⟩:=Aau.1 h;rfl
theorem aaQ.pushOut(h : aaQ u G F A S W0 base WB W V iv s) {v' : Value}  (ho : W'.ownsRow base 3 1 v' (s.out.length + 1) ((s.out ++ [n]).map (Value.int .i64)))
 (hg:W.grownBy W' (V .out).ownBlock) (hb:∀k,v'.ownBlock=some k->(V .out).ownBlock=some k∨W.heap.size<=k) :
 aaQ u G F A S W0 base WB (W'.setCell ⟨WB,7,none⟩ v') (abW V .out v') iv { s with out:=s.out++[n] }:=by
 refine h.turnRow (p := .out) trivial (by intro e;cases e) (xss:=aaF (s.out++[n])) (by rw [abm,abi,Aai];exact ho) (aey _) hg hb (by omega) rfl rfl rfl fun q _=>?_
 by_cases e:q = .box
 . subst e;rw [aar];rfl
 . rw [aai _ _ e]
   by_cases e2:q = .out
   . subst e2;rw [aar];rfl
   . rw [aai _ _ e2]
     cases q with
     | box=>exact absurd rfl e
     | out=>exact absurd rfl e2
     | frs=>rfl
     | mem=>rfl
     | regs i=>rfl
     | cnts=>rfl
     | cnt k=>rfl
theorem ajR{L K:Nat}(hq:okW (L+1) K q):okW L K q∨q = .regs L:=by
 cases q with
 | regs i =>
   have hi:i<L+1:=hq
   by_cases e:i=L
   . exact .inr (by rw [e])
   . exact .inl (show i<L by omega)
 | _=>exact .inl hq
theorem ajQ{L K:Nat}(hq:okW L K q):okW (L+1) K q:=by
 cases q with
 | regs i=>have hi:i<L:=hq;exact show i<L+1 by omega
 | _=>exact hq
theorem aaQ.push (h : aaQ u G F A S W0 base WB W V iv s) {W1 W2 : World} {rv fv : Value} {fn : Nat} {dst : Int} {regs : List Int} (ag : Below W.heap.size W W1) (aV : W1.ownsRow W.heap.size 3 1 rv regs.length (regs.map (Value.int .i64)))
 (be:W2.ownsRow base WPth.frs.ty 5 fv (s.frs.length+1) (s.frs.reverse.mapIdx (frC V)++[[.int .i64 (fn:Int),.int .i64 0,.int .i64 0,rv,.int .i64 dst]]).flatten)
 (hg:W1.grownBy W2 (V .frs).ownBlock) (hb:∀k,fv.ownBlock=some k->(V .frs).ownBlock=some k∨W1.heap.size<=k) :
 aaQ u G F A S W0 base WB (W2.setCell ⟨WB,9,none⟩ fv) (abW (abW V (.regs s.frs.length) rv) .frs fv) iv { s with frs:=⟨fn,0,0,regs,dst⟩ :: s.frs }:=by
 have aj:base<=W.heap.size:=Aag h.hb h.low.size;have aY:=h.rows.fresh (.regs s.frs.length) (v:=rv) (n:=regs.length) (xss:=aaF regs) (by rw [abm];exact aV) (abi _) (aey _) ag aj;have bQ:abW V (.regs s.frs.length) rv .frs=V .frs:=aai _ _ (by intro e;cases e);have cf:abW V (.regs s.frs.length) rv .box=V .box:=aai _ _ (by intro e;cases e);obtain⟨xss,ae⟩:∃xss,xss=s.frs.reverse.mapIdx (frC V)++[[.int .i64 (fn:Int),.int .i64 0,.int .i64 0,rv,.int .i64 dst]]:=⟨_,rfl⟩
 have ay:xss.length=s.frs.length+1:=by rw [ae,Aai,List.length_mapIdx,Aba];rfl
 rw [<-ae] at be
 have bO := aY.turn (p := .frs) (.inl trivial) (v' := fv) (xss := xss) (by rw [ay]; exact be) (fun cs af => by
  rw [ae] at af
  rcases Aaz.1 af with h1 | h1
  . obtain ⟨i, t, -, rfl⟩ : ∃ (i : Nat) (t : RnF), True ∧ frC V i t = cs := by
     obtain ⟨i, hi, rfl⟩ := Aa1 h1
     rw [List.getElem_mapIdx]
     exact ⟨i, _, trivial, rfl⟩
    rfl
  . rw [Aaq.1 h1]; rfl) (by rw [bQ]; exact hg) (fun k hk => by rw [bQ]; exact hb k hk)
 have aH:abW (abW V (.regs s.frs.length) rv) .frs fv .box = .slice (some ⟨WB,0,none⟩) 1 1:=by rw [aai _ _ (by intro e;cases e),cf];exact h.box
 have bw:(abW (abW (walkC G F A iv V s) (.regs s.frs.length) (aaF regs)) .frs xss .box)[0]?=some (ahS G F A iv V s):=by
  rw [aai _ _ (by intro e;cases e),aai _ _ (by intro e;cases e)];rfl
 have aN:=bO.set (p := .box) (.inl trivial) aH bw (j:=9) (by show 9<11;omega) fv;have h0:0 * WPth.box.sz+9=9:=by rw [Nat.zero_mul,Aab]
 rw [h0] at aN;have aD:¬S WB:=h.off .box trivial WB (by rw [h.box];rfl);obtain⟨g1,g2,g3,g4,g5⟩:=hg;have bB:Below base W W2:=(ag.mono aj).trans ⟨g1,g2,g3,g4,fun k hk=>g5 k (by have:=ag.size;omega) fun e=>by have:=(h.rows.lt (p := .frs) trivial k e.symm).1;omega⟩;have ax:aav S W W2:=fun b o v hS hc=>by
  have h1:=aav.below' (S:=S) ag b o v hS hc;rw [World.cell?_of_block (w:=W1) (g5 b (by have:=h.lt b hS;have:=ag.size;omega) fun e=>h.off .frs trivial b e.symm hS)];exact h1
 refine h.build (s':={ s with frs:=⟨fn,0,0,regs,dst⟩ :: s.frs }) ?_ (by rw [aH,h.box]) (bB.setCell h.boxAt.1 fv) (fun b o v hS hc=>?_) rfl fun q hq k hk=>?_
 . refine (aN.less (ok':=okW (s.frs.length+1) s.cnt.length) fun q hq=>ajR hq).congr (fun q _=>rfl) fun q hq=>?_
   cases q with
   | box =>
     rw [aar,aai _ _ (by intro e;cases e),aai _ _ (by intro e;cases e)];show [ahS G F A iv _ _]=[(ahS G F A iv V s).set 9 fv];unfold ahS;rw [aar]
     simp only [aai _ _ (show (WPth.mem : WPth) ≠ .frs by intro e; cases e), aai _ _ (show (WPth.out : WPth) ≠ .frs by intro e; cases e), aai _ _ (show (WPth.cnts : WPth) ≠ .frs by intro e; cases e),
      aai _ _ (show (WPth.mem : WPth) ≠ .regs s.frs.length by intro e; cases e), aai _ _ (show (WPth.out : WPth) ≠ .regs s.frs.length by intro e; cases e), aai _ _ (show (WPth.cnts : WPth) ≠ .regs s.frs.length by intro e; cases e)]
     rfl
   | frs =>
     rw [aai _ _ (by intro e;cases e),aar,ae];show List.mapIdx _ (_ :: s.frs).reverse=_;rw [Abt,List.mapIdx_concat,Aba]
     congr 1
     . refine Abk fun i=>?_
       rw [List.getElem?_mapIdx,List.getElem?_mapIdx];cases e:s.frs.reverse[i]? with
       | none=>rfl
       | some t =>
         have hi:i<s.frs.length:=by have:=(Aae.1 e).1;rw [Aba] at this;exact this
         show some _=some _;unfold frC;rw [aai _ _ (by intro e;cases e),aai _ _ (by intro e;cases e;omega)]
     . unfold frC
       rw [aai _ _ (by intro e;cases e),aar];rfl
   | regs i =>
     rw [aai _ _ (by intro e;cases e),aai _ _ (by intro e;cases e)];show aaF ((_ :: s.frs).reverse.getD i RnF.none).regs=_
     by_cases e:i=s.frs.length
     . subst e
       rw [aar,abV]
     . rw [aai _ _ (by intro e2;cases e2;exact e rfl)]
       show _=aaF (s.frs.reverse.getD i RnF.none).regs;have hi:i<s.frs.length:=by have cN:i<s.frs.length+1:=hq;omega
       rw [Abt,Aac,Abi (by rw [Aba];exact hi),<-Aac]
   | mem=>rfl
   | out=>rfl
   | cnts =>
     rw [aai _ _ (by intro e;cases e),aai _ _ (by intro e;cases e),aai _ _ (by intro e;cases e)];show (List.range s.cnt.length).map _=(List.range s.cnt.length).map _;refine Ab0 fun k _=>?_;rw [aai _ _ (by intro e;cases e),aai _ _ (by intro e;cases e)]
   | cnt k=>rfl
 . rw [World.cell?_of_block (w:=W2) (Below.heap_setCell _ _ _ _ (fun e=>aD (by have e:b=WB:=e;rw [<-e];exact hS)))];exact ax b o v hS hc
 . by_cases e:q = .frs
   . subst e
     rw [aar] at hk;rcases hb k hk with h5 | h5
     . exact .inl ⟨.frs,trivial,h5⟩
     . exact .inr (Aag ag.size h5)
   . rw [aai _ _ e] at hk
     by_cases e2:q = .regs s.frs.length
     . subst e2
       rw [aar] at hk;exact .inr (aV.lt k hk).1
     . rw [aai _ _ e2] at hk
       exact .inl ⟨q,(ajR hq).resolve_right e2,hk⟩
theorem aaQ.pop(h:aaQ u G F A S W0 base WB W V iv s)(ad:s.frs=t :: r)(hv:V .frs = .slice (some ⟨g,0,none⟩) (r.length+1) c) :
 aaQ u G F A S W0 base WB (W.setCell ⟨WB,9,none⟩ (.slice (some ⟨g,0,none⟩) r.length c)) (abW V .frs (.slice (some ⟨g,0,none⟩) r.length c)) iv { s with frs:=r }:=by
 have bX:(V .frs).ownBlock=some g:=by rw [hv];rfl
 have bW:s.frs.length=r.length+1:=by rw [ad];rfl
 obtain⟨xss,ae⟩:∃xss,xss=r.reverse.mapIdx (frC V):=⟨_,rfl⟩
 have ay:xss.length=r.length:=by rw [ae,List.length_mapIdx,Aba]
 have bo:walkC G F A iv V s .frs=xss++[frC V r.length t]:=by
  show s.frs.reverse.mapIdx (frC V)=_;rw [ad,Abt,List.mapIdx_concat,Aba,ae]
 have an:=h.rows.own .frs trivial;rw [bo,List.flatten_append,Aai,ay] at an;have aI:∀cs∈xss,cs.length=5:=fun cs af=>by
  have:=h.rows.wid .frs trivial cs (by rw [bo];exact List.mem_append_left _ af);exact this
 have au:xss.flatten.length=r.length * 5:=by
  rw [<-ay];clear bo an ay ae
  induction xss with
  | nil=>rfl
  | cons y ys ih=>rw [Abm,Aai,Aao,Nat.succ_mul,ih fun cs af=>aI cs (Abb _ af),aI y (Aa7 ..)];omega
 have be:W.ownsRow base WPth.frs.ty 5 (.slice (some ⟨g,0,none⟩) r.length c) xss.length xss.flatten:=by
  obtain⟨-,h2⟩:=an;rw [ay];refine⟨au,?_⟩;rcases h2 with⟨e,-⟩ | ⟨g',cap,cur,e,h3,h4,h5,h6,h7,h8⟩
  . rw [hv] at e;cases e
  . rw [hv] at e
    cases e;refine .inr ⟨g,c,cur,rfl,h3,h4,by omega,h6,h7,?_⟩;have h9:=congrArg (fun l=>l.take (r.length * 5)) h8;rw [List.take_take,Abr (by show r.length * 5<=(r.length+[frC V r.length t].length) * 5;omega),List.take_append_of_le_length (by rw [au];exact Aad _),Aby (l:=xss.flatten) (by rw [au];exact Aad _)] at h9;exact h9
 have aY:=h.rows.turn (p := .frs) trivial (W':=W) (v' := .slice (some ⟨g,0,none⟩) r.length c) (xss:=xss) be aI ⟨rfl,rfl,rfl,Aad _,fun _ _ _=>rfl⟩ (fun k hk=>by rw [bX];exact .inl hk);have aH:abW V .frs (.slice (some ⟨g,0,none⟩) r.length c) .box = .slice (some ⟨WB,0,none⟩) 1 1:=by rw [aai _ _ (by intro e;cases e)];exact h.box
 have bw:(abW (walkC G F A iv V s) .frs xss .box)[0]?=some (ahS G F A iv V s):=by rw [aai _ _ (by intro e;cases e)];rfl
 have aN:=aY.set (p := .box) trivial aH bw (j:=9) (by show 9<11;omega) (.slice (some ⟨g,0,none⟩) r.length c);have h0:0 * WPth.box.sz+9=9:=by rw [Nat.zero_mul,Aab]
 rw [h0] at aN;have aD:¬S WB:=h.off .box trivial WB (by rw [h.box];rfl);refine h.build (s':={ s with frs:=r }) ?_ (by rw [aH,h.box]) ((Below.refl _ _).setCell h.boxAt.1 _) (fun b o v hS hc=>?_) rfl fun q hq k hk=>?_
 . refine (aN.less (ok':=okW r.length s.cnt.length) fun q hq=>by rw [bW];exact ajQ hq).congr (fun q _=>rfl) fun q hq=>?_
   cases q with
   | box =>
     rw [aar,aai _ _ (by intro e;cases e)];rfl
   | frs =>
     rw [aai _ _ (by intro e;cases e),aar,ae];rfl
   | regs i =>
     rw [aai _ _ (by intro e;cases e),aai _ _ (by intro e;cases e)];show aaF (r.reverse.getD i RnF.none).regs=aaF (s.frs.reverse.getD i RnF.none).regs;have hi:i<r.length:=hq;rw [ad,Abt,Aac,Aac,Abi (by rw [Aba];exact hi)]
   | mem=>rfl
   | out=>rfl
   | cnts=>rfl
   | cnt k=>rfl
 . rw [World.cell?_of_block (w:=W) (Below.heap_setCell _ _ _ _ (fun e=>aD (by have e:b=WB:=e;rw [<-e];exact hS)))];exact hc
 . by_cases e:q = .frs
   . subst e
     rw [aar] at hk;exact .inl ⟨.frs,trivial,by rw [bX];exact hk⟩
   . rw [aai _ _ e] at hk
     exact .inl ⟨q,by rw [bW];exact ajQ hq,hk⟩
theorem aaQ.putInp(h:aaQ u G F A S W0 base WB W V iv s){iv':Value}(hi:SlAt S W 1 aaO iv' l):aaQ u G F A S W0 base WB (W.setCell ⟨WB,4,none⟩ iv') V iv' { s with inp:=l }:=by
 have aD:¬S WB:=h.off .box trivial WB (by rw [h.box];rfl);have ax:aav S W (W.setCell ⟨WB,4,none⟩ iv'):=fun b o v hS hc=>by
  rw [World.cell?_of_block (w:=W) (Below.heap_setCell _ _ _ _ (fun e=>aD (by have e:b=WB:=e;rw [<-e];exact hS)))];exact hc
 have bG:(W.setCell ⟨WB,4,none⟩ iv').heap.size=W.heap.size:=by simp [World.setCell]
 have hr:=h.rows.set (p := .box) trivial h.box (i:=0) (cs:=ahS G F A iv V s) rfl (j:=4) (by show 4<11;omega) iv';have h0:0 * WPth.box.sz+4=4:=by rw [Nat.zero_mul,Aab]
 rw [h0] at hr;refine⟨hr.congr (fun _ _=>rfl) fun q _=>?_,h.box,h.low.setCell h.boxAt.1 iv',⟨h.rd.fs.mono aak (fun _ h=>h) ax,h.rd.ah.mono ag5 (fun _ h=>h) ax,hi.mono aae (fun _ h=>h) ax⟩,fun b hS=>by rw [bG];exact h.lt b hS,h.off,h.hb⟩
 by_cases e:q = .box
 . subst e;rw [aar];rfl
 . rw [aai _ _ e]
   cases q with
   | box=>exact absurd rfl e
   | _=>rfl
end
end
section
open Go.RowKit Go.Sort
section
variable {u : aaC} {G F A : Value} {S : Nat -> Prop} {W0 : World} {base WB : Nat} {W : World} {V : WPth -> Value} {iv : Value} {s : RnS}
theorem agr(h:aaQ u G F A S W0 base WB W V iv s){n g c:Nat}(hv:V .frs = .slice (some ⟨g,0,none⟩) (n+1) c)(hn:n+1<=30) :
 Calls Tryz.prog 53 #[.pointer (some ⟨WB,0,none⟩)] W fun e w'=>e = .returned (.pointer (some ⟨g,n * 5,none⟩))∧Below W.heap.size W w':=by
 obtain⟨-,-,hc,-⟩:=h.boxAt;have c9:=hc 9 _ rfl;rw [Aab,hv] at c9;have zb:=aac c9;have cM:(0:Int)<=(n:Int):=by omega
 have hw:IntKind.i64.wrap ((n:Int)+1 - 1)=(n:Int):=by rw [IntKind.wrap_i64];omega
 clear h hc hv;go_enter Tryz.func53,Tryz.ntmps53;go_wp2_with fail;go_quiet (fail);go_wp2_with fail;go_ret;exact⟨rfl,bE⟩
theorem akb(h:aaQ u G F A S W0 base WB W V iv s){t:RnF}{r:List RnF}(ad:s.frs=t :: r)(hn:r.length+1<=30)(b:Bool)(x:Int)(hx:b=true->0<=x∧x<(t.regs.length:Int)) :
 Calls Tryz.prog 85 #[.pointer (some ⟨WB,0,none⟩),.agg #[.bool b,.int .i64 x]] W fun e w'=>e = .returned (.int .i64 (aaS t.regs ⟨b,x⟩))∧Below W.heap.size W w':=by
 obtain⟨W1,ar⟩:∃W1,W1=W.alloc (.cells #[.bool b,.int .i64 x] 55):=⟨_,rfl⟩
 have ag:Below W.heap.size W W1:=by rw [ar];exact bE
 have bI:W1.heap[W.heap.size]?=some (.cells #[.bool b,.int .i64 x] 55 (0,0)):=by rw [ar];exact heap_alloc_new _ _
 obtain⟨x0,x1⟩:=(aah (cs:=[_,_]) bI).get2;rw [Aab] at x1;have h1:=h.later ag;obtain⟨XB,a6⟩:∃XB,XB=W.heap.size:=⟨_,rfl⟩
 rw [<-a6] at x0 x1;have zX:=aac x0;have aJ:=hid ag;have HW:Hid (W1=W.alloc (.cells #[.bool b,.int .i64 x] 55)∧XB=W.heap.size):=⟨ar,a6⟩
 cases b with
 | false =>
   have Hr:Hid (aaS t.regs ⟨false,x⟩=x):=rfl;clear h h1 ag bI ar a6 hx;go_enter Tryz.func85,Tryz.ntmps85;go_upto_region 1 with (fail)
   rw [<-HW.out.1,<-HW.out.2];clear HW;go_wp2_with fail;go_ret;exact⟨aaA Hr.out.symm,aJ.out⟩
 | true =>
   obtain⟨k,rfl⟩:∃k:Nat,x=(k:Int):=Aas (hx rfl).1;have hk:k<t.regs.length:=by have:=(hx rfl).2;omega
   obtain⟨RB,rc,hR,-,-,-,hc,-⟩:=h1.numAt (p := .regs r.length) (by rw [ad];exact Abc _) rfl (l:=t.regs) (by show aaF (s.frs.reverse.getD r.length RnF.none).regs=_;rw [ad,abV]) (Aaa hk);obtain⟨g,fc,hv,-,-,-,af,-⟩:=h1.topAt ad;have c3:=af 3 _ rfl;rw [hR] at c3;have Hr:Hid (aaS t.regs ⟨true,(k:Int)⟩=t.regs[k]):=by
    show _=_;unfold aaS;rw [if_pos rfl,Aaj,Aac,Aaa hk];rfl
   have bK:Hid (∀m d os,CallsIn Fence.wide m Tryz.prog 53 #[.pointer (some ⟨WB,0,none⟩)] (grow (redrawn W1 d) os) fun e cC=>e = .returned (.pointer (some ⟨g,r.length * 5,none⟩))∧∃p:Regrown,cC=grow (redrawn W1 p.d) p.os):=fun m d os =>
    CallsIn.regrown_of (callsIn_wide (n:=m).2 (agr (h1.later (below_regrown W1 d os)) hv hn))
   obtain⟨n,aB⟩:∃n,n=r.length:=⟨_,rfl⟩
   obtain⟨v,b5⟩:∃v,v=t.regs[k]:=⟨_,rfl⟩
   obtain⟨L,aK⟩:∃L,L=t.regs.length:=⟨_,rfl⟩
   rw [<-aB] at c3 bK;rw [<-b5] at hc Hr;rw [<-aK] at c3 hk;have k0:=cell_regrown x0;have k1:=cell_regrown x1;have k2:=cell_regrown c3;have k3:=cell_regrown hc;have z1:=aac c3;have z2:=aac hc;have cu:(k:Int)<(L:Int):=by omega
   clear h h1 ag bI ar a6 hx ad hR hv af aB b5 aK;go_enter Tryz.func85,Tryz.ntmps85;go_upto_region 1 with (fail)
   rw [<-HW.out.1,<-HW.out.2];clear HW;go_upto_region 2 with (fail)
   refine aaD (by kernel_rfl) (by kernel_rfl) ?_
   repeat (gi_big_quiet_step (fail))
   refine wpQuietIn_step (fun _ _ _ _=>trivial) (fun K hK=>?_);go_simp;refine⟨_,fun _=>bK.out _ _ _,hK _ ?_⟩;clear hK K
   repeat (gi_big_quiet_step (fail))
   refine wpQuietIn_nil ?_;intro W7 cy;obtain⟨rg,bZ⟩:=cy;have cg:Below W1.heap.size W1 W7:=by rw [bZ];exact below_regrown _ _ _
   clear bZ k0 k1 k2 k3;go_wp2_with fail;go_ret;exact⟨aaA Hr.out.symm,aJ.out.trans (cg.mono aJ.out.size)⟩
theorem acr(h:aaQ u G F A S W0 base WB W V iv s)(x:Int) :
 Calls Tryz.prog 30 #[.pointer (some ⟨WB,0,none⟩),.int .i64 x] W fun e w'=>e = .returned (.bool false)∧aaQ u G F A S W0 base WB w' V iv (s.stop x):=by
 obtain⟨-,zb,hc,aF⟩:=h.boxAt;have f5:=aF 5 (by omega);have c5:=hc 5 _ rfl;rw [Aab] at c5;have H:=hid (h.putState x);clear h hc aF;go_enter Tryz.func30,Tryz.ntmps30;go_wp2_with fail;go_ret;exact⟨rfl,H.out⟩
theorem adQ(h:aaQ u G F A S W0 base WB W V iv s){t:RnF}{r:List RnF}(ad:s.frs=t :: r)(hn:r.length+1<=30)(d x:Int)(hd:d<(t.regs.length:Int)) :
 Calls Tryz.prog 86 #[.pointer (some ⟨WB,0,none⟩),.int .i64 d,.int .i64 x] W fun e w'=>e = .returned (.tuple #[])∧aaQ u G F A S W0 base WB w' V iv { s with frs:={ t with regs:=afk t.regs d x } :: r }:=by
 by_cases h0:0<=d
 . obtain⟨k,rfl⟩:∃k:Nat,d=(k:Int):=Aas h0
   have hk:k<t.regs.length:=by omega
   have hs:afk t.regs (k:Int) x=t.regs.set k x:=by unfold afk;rw [if_pos h0,Aaj]
   rw [hs];obtain⟨g,fc,hv,-⟩:=h.topAt ad;have HT:=hid (agr h hv hn);obtain⟨RB,rc,hR,-⟩:=h.numAt (p := .regs r.length) (by rw [ad];exact Abc _) rfl (l:=t.regs) (by show aaF (s.frs.reverse.getD r.length RnF.none).regs=_;rw [ad,abV]) (Aaa hk);have HF:Hid (∀W1,Below W.heap.size W W1->W1.cell? ⟨g,r.length * 5+3,none⟩=some (.slice (some ⟨RB,0,none⟩) t.regs.length rc)∧W1.frozen? ⟨RB,k,none⟩=false∧W1.cell? ⟨RB,k,none⟩=some (.int .i64 t.regs[k])∧aaQ u G F A S W0 base WB (W1.setCell ⟨RB,k,none⟩ (.int .i64 x)) V iv { s with frs:={ t with regs:=t.regs.set k x } :: r }):=fun W1 hb=>by
    have h1:=h.later hb;obtain⟨g',cI,b4,-,-,-,af,-⟩:=h1.topAt ad;rw [hv] at b4;cases b4;have c3:=af 3 _ rfl;rw [hR] at c3;obtain⟨cG,cP,bN,-,-,-,aS,aF⟩:=h1.numAt (p := .regs r.length) (by rw [ad];exact Abc _) rfl (l:=t.regs) (by show aaF (s.frs.reverse.getD r.length RnF.none).regs=_;rw [ad,abV]) (Aaa hk);rw [hR] at bN;cases bN;exact⟨c3,aF,aS,h1.putReg ad hR hk x⟩
   obtain⟨n,aB⟩:∃n,n=r.length:=⟨_,rfl⟩
   obtain⟨L,aK⟩:∃L,L=t.regs.length:=⟨_,rfl⟩
   have b8:Hid (∀W1,Below W.heap.size W W1->W1.cell? ⟨g,n * 5+3,none⟩=some (.slice (some ⟨RB,0,none⟩) L rc)∧W1.frozen? ⟨RB,k,none⟩=false∧W1.cell? ⟨RB,k,none⟩=some (.int .i64 t.regs[k])∧aaQ u G F A S W0 base WB (W1.setCell ⟨RB,k,none⟩ (.int .i64 x)) V iv { s with frs:={ t with regs:=t.regs.set k x } :: r }):=by rw [aB,aK];exact HF.out
   rw [<-aB] at HT;have cu:(k:Int)<(L:Int):=by rw [aK];exact hd
   clear h hv h0 hs HF hR aB aK hd ad;go_enter Tryz.func86,Tryz.ntmps86;go_wp2_with (first | (go_at_call 53;refine HT.out.mono ?_;rintro e W1 ⟨rfl,ag⟩;obtain⟨c3,aF,aS,bU⟩:=b8.out W1 ag;have HK:=hid bU;have z1:=aac c3;have z2:=aac aS;clear ag bU));go_end0;exact⟨rfl,HK.out⟩
 . have hs:afk t.regs d x=t.regs:=by unfold afk;rw [if_neg h0]
   have b0:{ s with frs:={ t with regs:=t.regs } :: r }=s:=by rw [show ({ t with regs:=t.regs }:RnF)=t from rfl,<-ad]
   rw [hs,b0];have H:=hid h;have cL:¬0<=d:=h0;clear h hs b0;go_enter Tryz.func86,Tryz.ntmps86;go_wp2_with fail;go_end0;exact⟨rfl,H.out⟩
end
end
section
open Go.RowKit Go.Sort
theorem abS {W:World}{base sz n:Nat}{e:TypeId}{v:Value}{xs:List Value}(h:W.ownsRow base e sz v n xs):∃a c,v = .slice a n c:=by
 rcases h.2 with⟨h1,h2⟩ | ⟨g,cap,cur,e1,-⟩
 . exact⟨none,0,by rw [h1,h2]⟩
 . exact⟨_,_,e1⟩
theorem apK:(Tryz.prog.info? 107).map (fun i=>(i.zero,i.size,i.bytes))=some (some (.agg #[.int .i64 0,.int .i64 0,.int .i64 0,.slice none 0 0,.int .i64 0]),5,56):=by kernel_rfl
section
variable {u : aaC} {G F A : Value} {S : Nat -> Prop} {W0 : World} {base WB : Nat} {W : World} {V : WPth -> Value} {iv : Value} {s : RnS}
theorem ag8 (h : aaQ u G F A S W0 base WB W V iv s) {fn : Nat} {f : aao} (hf : u.funcs[fn]? = some f) {fa : Option Addr} {fl fc : Nat} (hF : F = .slice fa fl fc) (hr : 0 <= f.regs ∧ f.regs <= 100) (dst : Int) {SA : Nat -> Prop} {aa : Option Addr} {ac : Nat} {al : List Int}
 (ha:SlAt SA W 1 aaO (.slice aa al.length ac) al) (cJ:(al.length:Int)<=f.regs) {cl:List Int} (hc:s.cnt[fn]?=some cl) (aA:0<cl.length∧∀v∈cl,0<=v∧v<=1000000) (hd:s.frs.length<=30) :
 Calls Tryz.prog 27 #[.pointer (some ⟨WB,0,none⟩),.int .i64 (fn:Int),.int .i64 dst,.slice aa al.length ac] W fun e w'=>e = .returned (.tuple #[])∧∃V',aaQ u G F A S W0 base WB w' V' iv (s.enter u fn dst al):=by
 subst hF;obtain⟨-,zb,a7,aF⟩:=h.boxAt;have c1:=a7 1 _ rfl;rw [Aab] at c1;have cj:fn<u.funcs.length:=(Aae.1 hf).1;have bS:u.funcs[fn]=f:=(Aae.1 hf).2;obtain⟨fb,ai,xa,xc,rfl,af,-,-,-⟩:=acF h.rd.fs cj;rw [bS] at af;obtain⟨-,-,d2,-⟩:=af.get4;have cm:fl=u.funcs.length:=by
  obtain⟨ao,c,e,-⟩:=h.rd.fs;cases e;rfl
 subst cm;obtain⟨R,hR⟩:∃R:Nat,f.regs=(R:Int):=Aas hr.1;rw [hR] at d2;have zf:=aac d2;have aY:(0:Int)<=(R:Int):=by omega
 have bO:(R:Int)<=100:=by omega
 have ck:(fn:Int)<(u.funcs.length:Int):=by omega
 have Hh:=hid h;have Ha:=hid ha;have bq:al.length<=R:=by omega
 have cw:=run_make_row' (P:=Tryz.prog) 26 3 (.int .i64 0) 8 Tryz.underlying26 acA rfl .i64 .i64 R (by omega) (by omega);obtain⟨i0,cq,cz,cA,cB⟩:=info_parts apK;have az:Hid (abt u fn al=al++List.replicate (R - al.length) 0):=by
  show _=_;unfold abt aci;rw [Aac,hf];show al++List.replicate (f.regs.toNat - al.length) 0=_;rw [hR,Aaj]
 have aL:=hid aA;have Hc:=hid hc;have Hf:=hid hf;clear h ha a7 aF af hf bS aA hc;go_enter Tryz.func27,Tryz.ntmps27;go_upto_region 1 with (fail)
 clear cw;obtain⟨W1,ar⟩:∃W1,W1=W.alloc (.cells (madeCells #[.int .i64 0] R) 3):=⟨_,rfl⟩
 have ag:Below W.heap.size W W1:=by rw [ar];exact bE
 have bk:W1.heap[W.heap.size]?=some (.cells (List.replicate R (Value.int .i64 0)).toArray 3 (0,0)):=by rw [ar,heap_alloc_new,abn]
 have cb:W1.heap.size=W.heap.size+1:=by rw [ar];simp
 rw [<-ar];obtain⟨RB,bp⟩:∃RB,RB=W.heap.size:=⟨_,rfl⟩
 rw [<-bp] at bk ⊢;have bJ:Hid (RB=W.heap.size∧W1.heap.size=RB+1):=⟨bp,by omega⟩
 have aJ:=hid ag;have b7:=hid bk;clear ar cb bp ag bk
 go_upto_region 2 with (
  with_reducible refine wpList_copy_splice rfl (.tmp 19) (.tmp 20) 26 26 rfl 3 Tryz.underlying26 aht _ _ R R al.length ac rfl rfl RB 0 (List.replicate R (Value.int .i64 0)) 3 b7.out (al.map (Value.int .i64)) ?_ ?_ ?_ ?_ W.heap.size W aJ.out ?_ ?_
  . rw [Aal]; exact (Abr bq).symm
  . intro h0
    rw [Aal] at h0
    refine ⟨rfl, ?_⟩
    obtain ⟨ao, c', e, -, -, hh⟩ := Ha.out
    cases e
    obtain ⟨b, off, rfl, -, hh⟩ := hh (fun e => by rw [e] at h0; simp at h0)
    refine ⟨_, rfl, fun j v hj => ?_⟩
    rw [Aak] at hj
    cases e : al[j]? with
    | none => rw [e] at hj; cases hj
    | some y =>
      rw [e] at hj
      cases hj
      obtain ⟨cs, ⟨rfl, -⟩, -, h3⟩ := hh j y e
      have h4 := h3 0 _ rfl
      rw [Aa2, Aan] at h4
      rw [Addr.add_lit]
      exact aab h4 aJ.out
  . simp; omega
  . intro v hv
    obtain ⟨y, -, rfl⟩ := Aau.1 hv
    rfl
  . exact Nat.le_of_eq bJ.out.1.symm
  intro w2 bT bR
  have bh := hid bR
  clear bR)
 have h2:=Hh.out.later bh.out;obtain⟨-,cD,aQ,aT⟩:=h2.boxAt;have c9:=aQ 9 _ rfl;rw [Aab] at c9;obtain⟨W3,aZ⟩:∃W3,W3=w2.alloc (.cells #[.int .i64 (fn:Int),.int .i64 0,.int .i64 0,.slice (some ⟨RB,0,none⟩) R R,.int .i64 dst] 107):=⟨_,rfl⟩
 have aO:Below w2.heap.size w2 W3:=by rw [aZ];exact bE
 have bl:W3.heap[w2.heap.size]?=some (.cells #[.int .i64 (fn:Int),.int .i64 0,.int .i64 0,.slice (some ⟨RB,0,none⟩) R R,.int .i64 dst] 107 (0,0)):=by rw [aZ];exact heap_alloc_new _ _
 obtain⟨BB,bm⟩:∃BB,BB=w2.heap.size:=⟨_,rfl⟩
 rw [<-bm] at bl;obtain⟨g0,g1,g2,g3,g4⟩:W3.cell? ⟨BB,0,none⟩=some (.int .i64 (fn:Int))∧W3.cell? ⟨BB,1,none⟩=some (.int .i64 0)∧W3.cell? ⟨BB,2,none⟩=some (.int .i64 0)∧W3.cell? ⟨BB,3,none⟩=some (.slice (some ⟨RB,0,none⟩) R R)∧W3.cell? ⟨BB,4,none⟩=some (.int .i64 dst):=by
  have hh:=aah (cs:=[_,_,_,_,_]) bl;have a0:=hh 0 _ rfl;have a1:=hh 1 _ rfl;have a2:=hh 2 _ rfl;have a3:=hh 3 _ rfl;have a4:=hh 4 _ rfl;rw [Aab] at a0 a1 a2 a3 a4;exact⟨a0,a1,a2,a3,a4⟩
 have aw:Below W.heap.size W W3:=bh.out.trans (aO.mono bh.out.size);have b1:splice (List.replicate R (Value.int .i64 0)) 0 (al.map (Value.int .i64))=(abt u fn al).map (Value.int .i64):=by
  rw [az.out,Aav,List.map_replicate];unfold splice;simp
 have bf:(abt u fn al).length=R:=by rw [az.out,Aai,Aa6];omega
 have aV:W3.ownsRow W.heap.size 3 1 (.slice (some ⟨RB,0,none⟩) R R) (abt u fn al).length ((abt u fn al).map (Value.int .i64)):=by
  refine⟨by rw [Aal,Aan],.inr ⟨RB,R,((abt u fn al).map (Value.int .i64)).toArray,by rw [bf],Nat.le_of_eq bJ.out.1.symm,?_,Nat.le_of_eq bf,by unfold maxLen;omega,by simp [bf],by simp;exact Aby (by simp)⟩⟩;have aG:=bT.out;rw [b1] at aG;have cv:=(Aax.1 aG).1;rw [aO.block RB cv];exact aG
 have ay:(walkC G (.slice (some ⟨fb,ai,none⟩) u.funcs.length fc) A iv V s .frs).length=s.frs.length:=by show (s.frs.reverse.mapIdx (frC V)).length=_;rw [List.length_mapIdx,Aba]
 have an:W3.ownsRow base 107 5 (V .frs) s.frs.length (walkC G (.slice (some ⟨fb,ai,none⟩) u.funcs.length fc) A iv V s .frs).flatten:=by
  have h:=(Hh.out.later aw).rows.own .frs trivial;rw [ay] at h;exact h
 have aj:base<=W3.heap.size:=Aag (Aag Hh.out.hb Hh.out.low.size) aw.size;have bt:∀k,(V .frs).ownBlock=some k->k≠WB:=fun k hk e=>Hh.out.rows.apart .frs .box trivial trivial (by intro e;cases e) k hk (by rw [Hh.out.box,e];rfl);have f9:W3.frozen? ⟨WB,9,none⟩=false:=by rw [World.frozen?_of_block (w:=w2) (aO.block WB cD)];exact aT 9 (by omega)
 have bj:=aab c9 aO;have cE:=aac bj
 have aq := hid (fun (w' : World) (v' : Value) (e1 : w'.ownsRow base 107 5 v' (s.frs.length + 1) ((walkC G (.slice (some ⟨fb, ai, none⟩) u.funcs.length fc) A iv V s .frs).flatten ++ [.int .i64 (fn : Int), .int .i64 0, .int .i64 0, .slice (some ⟨RB, 0, none⟩) R R, .int .i64 dst])) (e2 : W3.grownBy w' (V .frs).ownBlock) (e3 : v'.ownBlock = (V .frs).ownBlock ∨ v'.ownBlock = some W3.heap.size) =>
  Hh.out.push (rv := .slice (some ⟨RB, 0, none⟩) R R) (fv := v') (fn := fn) (dst := dst) (regs := abt u fn al) (W1 := W3) (W2 := w') aw aV (by rw [List.flatten_append, Abm, List.flatten_nil, Abe]; exact e1) e2 (fun k hk => by
   rcases e3 with e | e
   . rw [e] at hk; exact .inl hk
   . rw [e] at hk; cases hk; exact .inr (Aad _)))
 have HB:Hid (BB=w2.heap.size∧W3=w2.alloc (.cells #[.int .i64 (fn:Int),.int .i64 0,.int .i64 0,.slice (some ⟨RB,0,none⟩) R R,.int .i64 dst] 107)):=⟨bm,aZ⟩
 have cF:=hid bt;have aC:=hid an;have aM:Hid (∀w':World,W3.grownBy w' (V .frs).ownBlock->w'.cell? ⟨WB,9,none⟩=some (V .frs)∧w'.frozen? ⟨WB,9,none⟩=false):=fun w' hg=>by
  have aP:=hg.block WB cE fun e=>bt WB e.symm rfl;exact⟨by rw [World.cell?_of_block (w:=W3) aP];exact bj,by rw [World.frozen?_of_block (w:=W3) aP];exact f9⟩
 obtain⟨fv,bz⟩:∃fv,fv=V .frs:=⟨_,rfl⟩
 obtain⟨xs,b6⟩:∃xs,xs=(walkC G (.slice (some ⟨fb,ai,none⟩) u.funcs.length fc) A iv V s .frs).flatten:=⟨_,rfl⟩
 rw [<-b6] at aq aC;rw [<-bz] at c9 aC aM aq;have HN:Hid (s.frs.length<=30):=hd;have HE:Hid (fv=V .frs):=bz;clear h2 aQ aT aZ bm aO bl aw b1 bf aV ay an bt f9 bj bT hd bz b6
 go_upto_region 3 with (
  refine wpList_append_own_at _ rfl (.tmp 26) (.tmp 31) 76 rfl base 107 i0 _ 5 56 Tryz.underlying76 cq cz cA cB rfl (by decide) fv s.frs.length xs rfl (by rw [<- HB.out.2]; exact aC.out) ⟨w2.heap.size, 0, none⟩ 1 1 [.int .i64 (fn : Int), .int .i64 0, .int .i64 0, .slice (some ⟨RB, 0, none⟩) R R, .int .i64 dst] rfl rfl ?_ ?_ ?_ ?_ (by rw [<- HB.out.2]; exact aj) ?_
  . intro j v hj
    rw [Addr.add_lit, Aab, <- HB.out.2, <- HB.out.1]
    match j, hj with
    | 0, hj => cases hj; exact g0
    | 1, hj => cases hj; exact g1
    | 2, hj => cases hj; exact g2
    | 3, hj => cases hj; exact g3
    | 4, hj => cases hj; exact g4
  . intro v hv
    simp at hv
    rcases hv with rfl | rfl | rfl | rfl <;> rfl
  . unfold maxLen; have := HN.out; omega
  . have := HN.out; omega
  intro v' w' av ak bC bu
  rw [<- HB.out.2] at ak bu
  obtain ⟨va, vc, rfl⟩ := abS av
  obtain ⟨bL, ca⟩ := aM.out w' ak
  have HP := hid (aq.out w' _ av ak bu)
  have z9 := aac bL
  clear av ak bC bu c9 g0 g1 g2 g3 g4)
 obtain⟨W5,br⟩:∃W5,W5=w'.setCell ⟨WB,9,none⟩ (.slice va (s.frs.length+1) vc):=⟨_,rfl⟩
 rw [<-br];have H5:=HP.out;rw [<-br] at H5;obtain⟨V5,bP⟩:∃V5,V5=abW (abW V (.regs s.frs.length) (.slice (some ⟨RB,0,none⟩) R R)) .frs (.slice va (s.frs.length+1) vc):=⟨_,rfl⟩
 rw [<-bP] at H5;obtain⟨-,cQ,aR,bA⟩:=H5.boxAt;have a8:okW (s.frs.length+1) s.cnt.length (.cnt fn):=(Aae.1 Hc.out).1;obtain⟨v0,bg⟩:∃v0,cl[0]?=some v0:=⟨cl[0]'aL.out.1,Aaa _⟩
 have bM:walkC G (.slice (some ⟨fb,ai,none⟩) u.funcs.length fc) A iv V5 { s with frs:=⟨fn,0,0,abt u fn al,dst⟩ :: s.frs } (.cnt fn)=aaF cl:=by
  show aaF (s.cnt.getD fn [])=_;rw [Aac,Hc.out];rfl
 obtain⟨CB,cc,bx,-,-,-,aS,cK⟩:=H5.numAt (p := .cnt fn) a8 rfl bM bg;have ct:okW (s.frs.length+1) s.cnt.length .cnts:=trivial;have af:(walkC G (.slice (some ⟨fb,ai,none⟩) u.funcs.length fc) A iv V5 { s with frs:=⟨fn,0,0,abt u fn al,dst⟩ :: s.frs } .cnts)[fn]?=some [V5 (.cnt fn)]:=by
  show ((List.range s.cnt.length).map fun k=>[V5 (.cnt k)])[fn]?=_;rw [Aak,Aa4 (show fn<s.cnt.length from a8)];rfl
 obtain⟨TB,tc,bH,-,-,-,b2,-⟩:=H5.rows.cell ct af (j:=0) (u:=V5 (.cnt fn)) rfl;have b3:(walkC G (.slice (some ⟨fb,ai,none⟩) u.funcs.length fc) A iv V5 { s with frs:=⟨fn,0,0,abt u fn al,dst⟩ :: s.frs } .cnts).length=s.cnt.length:=by
  show ((List.range s.cnt.length).map fun k=>[V5 (.cnt k)]).length=_;rw [Aal,List.length_range]
 rw [b3] at bH;have aW:WPth.cnts.sz=1:=rfl;rw [aW,Aan,Aa2,bx] at b2;have b9:=aR 10 _ rfl;rw [Aab,bH] at b9;have zT:=aac b2;have zC:=aac aS;have cx:0<=v0∧v0<=1000000:=aL.out.2 v0 (Aam bg);have cO:IntKind.i64.wrap (v0+1)=v0+1:=by rw [IntKind.wrap_i64];omega
 have cn:(fn:Int)<(s.cnt.length:Int):=by have:fn<s.cnt.length:=a8;omega
 have ch:(0:Int)<(cl.length:Int):=by have:=aL.out.1;omega
 have HF:=hid (H5.putCnt (k:=fn) (l:=cl) Hc.out bx (d:=0) aL.out.1 (v0+1));have HR:Hid ({ ({ s with frs:=⟨fn,0,0,abt u fn al,dst⟩ :: s.frs }:RnS) with cnt:=s.cnt.set fn (cl.set 0 (v0+1)) }=s.enter u fn dst al):=by
  show _=_;unfold RnS.enter acL;have e1:cl.set 0 (v0+1)=cl.modify 0 (·+1):=by
   refine Abk fun i=>?_;rw [List.getElem?_set,List.getElem?_modify]
   by_cases e:0=i
   . subst e
     rw [if_pos rfl,if_pos aL.out.1,bg];simp
   . cases cl[i]? <;> simp [e]
  have e2:s.cnt.set fn (cl.set 0 (v0+1))=s.cnt.modify fn (fun r=>r.modify 0 (·+1)):=by
   rw [e1];refine Abk fun i=>?_;rw [List.getElem?_set,List.getElem?_modify]
   by_cases e:fn=i
   . subst e
     rw [if_pos rfl,if_pos (show fn<s.cnt.length from a8),Hc.out];simp
   . cases s.cnt[i]? <;> simp [e]
  rw [e2]
 clear br bP H5 aR bA bM bx af bH b3 aW bg HP bL ca HE;go_wp2_with fail;go_end0;exact⟨rfl,_,HR.out ▸ HF.out⟩
end
end
end Go.Proofs.YtnkfdeiigplhoaaGreatDoor
