import Derived.Test.YtpeejlpcikefcaaGreatDoorPStUp
import Derived.Test.YtpeejlpcikefcaaGreatDoorPMemF
/- The memory of a checked unit. turneryref6.StillDone, plainly. mem.known: what the memory holds between two instructions. mem.unread: what the memory holds between two instructions; cells and what they tell. -/
namespace Go.Proofs.YtpeejlpcikefcaaGreatDoor
section
open Go.RowKit
theorem agM {u:adL}(h:(aav u).1=0):u.globals.length<=10∧(∀g∈u.globals,0<=g.size∧g.size<=200∧(g.init.length:Int)<=g.size) ∧
 wordsUp u.globals u.globals.length=((apE u.globals).length:Int)∧(apE u.globals).length<=200:=by
 obtain⟨h1,-,h2,-,-⟩:=acm h;have h3:∀g∈u.globals,0<=g.size∧g.size<=200∧(g.init.length:Int)<=g.size:=by
  intro g hg;obtain⟨k,hk,rfl⟩:=Aav hg;have h4:=h2 k;unfold ad1 at h4;rw [Aaa hk] at h4;obtain⟨-,-,a1,a2,a3,-⟩:=agc h4;exact⟨by omega,a2,a3⟩
 have h4:((apE u.globals).length:Int)=wordsUp u.globals u.globals.length:=anL (fun g hg=>(h3 g hg).2.2) _ (Aac _);have h5:=ahu (Aac u.globals.length) (fun j _=>h2 j);exact⟨h1,h3,h4.symm,by omega⟩
end
section
open Go.RowKit
structure ab1 (W:World)(base:Nat)(S:Nat->Prop)(v:Value)(L:List aaJ)(xs:List (List Value)):Prop where
 row:ac7 W base 49 8 v xs
 len:xs.length=L.length
 rd:∀(i:Nat) cs y,xs[i]?=some cs->L[i]?=some y->acb S W cs y
section
variable {W W' : World} {base : Nat} {S : Nat -> Prop} {v : Value} {L : List aaJ} {xs : List (List Value)}
theorem ab1.nil(W:World)(base:Nat)(S:Nat->Prop):ab1 W base S (.slice none 0 0) [] []:=⟨⟨World.ownsRow_nil _ _ _ _,fun cs h=>by cases h⟩,rfl,fun i cs y h=>by simp at h⟩
theorem ab1.later(h:ab1 W base S v L xs)(hb:Below W.heap.size W W'):ab1 W' base S v L xs :=
 ⟨h.row.off (Kp.of hb),h.len,fun i cs y h1 h2=>aax.out _ _ _ _ _ _ (fun _ h=>h) (aaS.below' hb) (h.rd i cs y h1 h2)⟩
theorem ab1.snoc {w9 : World} {v' : Value} {cs : List Value} {y : aaJ} (h : ab1 W base S v L xs) (hb : Below W.heap.size W W') (ag : cs.length = 8) (hy : acb S W cs y) (ae : w9.ownsRow base 49 8 v' (xs.length + 1) (xs.flatten ++ cs)) (hg : W'.grownBy w9 v.ownBlock)
 (hS:∀c,S c->c<base):ab1 w9 base S v' (L++[y]) (xs++[cs]):=by
 have hk:Kp (fun c=>c<base) W w9:=(Kp.of hb).trans ⟨hg.os,hg.tape,hg.output,hg.size,fun c hc hF=>hg.block c hc fun e=>by have:=(h.row.lt c e.symm).1;omega⟩;have aL:aaS S W w9:=hk.stays hS;refine⟨⟨?_,?_⟩,by rw [Aau,Aau,h.len];rfl,fun i aH y' h1 h2=>?_⟩
 . rw [Abs,show (xs++[cs]).length=xs.length+1 by simp]
   simpa using ae
 . intro c hc
   rcases Aa7.1 hc with h3 | h3
   . exact h.row.wid c h3
   . rw [Aax] at h3;rw [h3];exact ag
 . rcases Nat.lt_trichotomy i xs.length with h3 | h3 | h3
   . rw [Abj h3] at h1
     rw [Abj (by rw [<-h.len];exact h3)] at h2;exact aax.out _ _ _ _ _ _ (fun _ h=>h) aL (h.rd i aH y' h1 h2)
   . subst h3
     rw [Abu (Aac _)] at h1;rw [h.len,Abu (Aac _)] at h2;simp only [Nat.sub_self,Ab2,Option.some.injEq] at h1 h2;subst h1;subst h2;exact aax.out _ _ _ _ _ _ (fun _ h=>h) aL hy
   . rw [Aas (by simp;omega)] at h1;cases h1
theorem ab1.read(h:ab1 W base S v L xs){S':Nat->Prop}(hS:∀c,S c->S' c)(hb:∀c,base<=c->S' c):SlAt S' W 8 acb v L:=by
 rcases h.row.own.2 with⟨h1,h2⟩ | ⟨g,cap,cur,e1,h3,h4,h5,h6,-⟩
 . have hl:L=[]:=Aa9 (by rw [<-h.len];exact h2)
   rw [h1,hl];exact⟨none,0,rfl,Aac _,by decide,fun h=>absurd rfl h⟩
 . unfold maxLen at h6
   refine⟨some ⟨g,0,none⟩,cap,by rw [e1,h.len],by rw [<-h.len];omega,by omega,fun _=>⟨g,0,rfl,hb g h3,fun i x hx=>?_⟩⟩;obtain⟨cs,ag⟩:∃cs,xs[i]?=some cs:=⟨_,Aaa (by rw [h.len];exact (Aad.1 hx).1)⟩
   obtain⟨g3,c3,e3,-,-,-,aA,-⟩:=h.row.at ag (by decide);rw [e1] at e3;have aR:g=g3:=by injection e3 with e4;injection e4 with e5;injection e5
   exact⟨cs,aax.out _ _ _ _ _ _ hS (aaS.refl _ _) (h.rd i cs x ag hx),h.row.wid cs (Aae ag),by rw [Aab,aR];exact aA⟩
end
end
section
open Go.RowKit
variable {W:World}{base:Nat}{S:Nat->Prop}{v:Value}{L:List aaJ}{xs:List (List Value)}
theorem ab1.shape(h:ab1 W base S v L xs):∀cs∈xs,atc cs:=fun cs ag=>by
 obtain⟨i,hi⟩:=List.mem_iff_getElem?.1 ag;have aO:=(Aad.1 hi).1;obtain⟨v,rfl,⟨a,c,rfl,-⟩,-⟩:=h.rd i cs _ hi (Aaa (by rw [<-h.len];exact aO));exact⟨_,_,_,_,_,_,_,_,_,_,rfl⟩
theorem ab1.kp{W':World}(h:ab1 W base S v L xs){F:Nat->Prop}(hk:Kp F W W')(hv:∀c,v.ownBlock=some c->F c)(hS:∀c,S c->F c):ab1 W' base S v L xs :=
 ⟨h.row.off (hk.less hv),h.len,fun i cs y h1 h2=>aax.out _ _ _ _ _ _ (fun _ h=>h) (hk.stays hS) (h.rd i cs y h1 h2)⟩
theorem ab1.slice(h:ab1 W base S v L xs):∃a c,v = .slice a xs.length c:=aao h.row.own
structure adj (w:World)(WB:Nat)(S:Nat->Prop)(wr:World)(vo vw:Value)(xs:List (List Value))(s:List (aay×aay)×List aaJ):Prop where
 below:Below w.heap.size w wr
 wb:WB=w.heap.size
 cell:wr.heap[WB]?=some (.cells #[vw] 71 (0,0))
 out:ab1 wr (WB+1) S vo s.2 xs
 words:ac7 wr (WB+1) 74 4 vw (s.1.map abg)
 apart:∀c,vw.ownBlock=some c->vo.ownBlock≠some c
section
variable {w wr W' : World} {WB : Nat} {S : Nat -> Prop} {vo vw : Value} {xs : List (List Value)} {s : List (aay × aay) × List aaJ}
theorem adj.size(h:adj w WB S wr vo vw xs s):WB<wr.heap.size:=(Aag.1 h.cell).1
theorem adj.get(h:adj w WB S wr vo vw xs s):wr.cell? ⟨WB,0,none⟩=some vw∧∀o,wr.frozen? ⟨WB,o,none⟩=false:=by
 have h1:=(aad (cs:=[_]) h.cell).get1;exact⟨h1,fun o=>aaq h.cell o⟩
theorem adj.later(h:adj w WB S wr vo vw xs s)(hb:Below wr.heap.size wr W'):adj w WB S W' vo vw xs s :=
 ⟨h.below.trans (hb.mono h.below.size),h.wb,(hb.block WB h.size).trans h.cell,h.out.later hb,h.words.off (Kp.of hb),h.apart⟩
theorem adj.kp(h:adj w WB S wr vo vw xs s){F:Nat->Prop}(hk:Kp F wr W')(hS:∀c,S c->c<w.heap.size)(hF:∀c,c<w.heap.size->F c)(hW:F WB)(ho:∀c,vo.ownBlock=some c->F c)(hv:∀c,vw.ownBlock=some c->F c):adj w WB S W' vo vw xs s :=
 ⟨h.below.trans (hk.below fun b hb=>⟨Aay hb h.below.size,hF b hb⟩),h.wb,(hk.block WB h.size hW).trans h.cell,h.out.kp hk ho fun c hc=>hF c (hS c hc),h.words.off (hk.less hv),h.apart⟩
theorem adj.put(h:adj w WB S wr vo vw xs s)(hS:∀c,S c->c<w.heap.size){v':Value}{T:List (aay×aay)}(hw:ac7 wr (WB+1) 74 4 v' (T.map abg))(ha:∀c,v'.ownBlock=some c->vo.ownBlock≠some c) :
 adj w WB S (wr.setCell ⟨WB,0,none⟩ v') vo v' xs (T,s.2):=by
 have hk:Kp (fun c=>c≠WB) wr (wr.setCell ⟨WB,0,none⟩ v'):=aaQ wr WB 0 v';have aE:=h.wb;refine⟨h.below.trans (hk.below fun b hb=>⟨Aay hb h.below.size,by omega⟩),h.wb,aak h.cell v',h.out.kp hk (fun c hc e=>by have:=(h.out.row.lt c hc).1;omega) (fun c hc e=>by have:=hS c hc;omega),hw.off (hk.less fun c hc e=>by have:=(hw.lt c hc).1;omega),ha⟩
theorem adj.low(h:adj w WB S wr vo vw xs s):(∀c,vo.ownBlock=some c->WB<c∧c<wr.heap.size)∧∀c,vw.ownBlock=some c->WB<c∧c<wr.heap.size :=
 ⟨fun c hc=>by have:=h.out.row.lt c hc;omega,fun c hc=>by have:=h.words.lt c hc;omega⟩
theorem adj.push(h:adj w WB S wr vo vw xs s)(hS:∀c,S c->c<w.heap.size){w4 w9:World}(hb:Below wr.heap.size wr w4){v':Value}{x:aay×aay}(ae:w9.ownsRow (WB+1) 74 4 v' (s.1.length+1) ((s.1.map abg).flatten++abg x))(hg:w4.grownBy w9 vw.ownBlock)(aq:v'.ownBlock=vw.ownBlock∨v'.ownBlock=some w4.heap.size) :
 adj w WB S (w9.setCell ⟨WB,0,none⟩ v') vo v' xs (s.1++[x],s.2):=by
 have h4:=h.later hb;have hk:Kp (fun c=>vw.ownBlock≠some c) w4 w9:=⟨hg.os,hg.tape,hg.output,hg.size,fun c hc hF=>hg.block c hc fun e=>hF e.symm⟩
 have ad:=h4.low;have aE:=h.wb;have h9:adj w WB S w9 vo vo xs ([],s.2)->True:=fun _=>trivial;have aF:ab1 w9 (WB+1) S vo s.2 xs:=h4.out.kp hk (fun c hc e=>h.apart c e hc) (fun c hc e=>by have:=(ad.2 c e).1;have:=hS c hc;omega);have aj:w9.heap[WB]?=some (.cells #[vw] 71 (0,0)):=(hk.block WB h4.size fun e=>by have:=(ad.2 WB e).1;omega).trans h4.cell;have al:ac7 w9 (WB+1) 74 4 v' ((s.1++[x]).map abg):=by
  refine⟨?_,fun cs ag=>?_⟩
  . rw [Aa8,Abs,Aau,Aah]
    simpa using ae
  . obtain⟨y,-,rfl⟩:=Aal.1 ag
    rfl
 have ax:Below w.heap.size w w9:=h4.below.trans (hk.below fun b hb=>⟨Aay hb h4.below.size,fun e=>by have:=(ad.2 b e).1;omega⟩);have ai:Kp (fun c=>c≠WB) w9 (w9.setCell ⟨WB,0,none⟩ v'):=aaQ w9 WB 0 v';refine⟨ax.trans (ai.below fun b hb=>⟨Aay hb ax.size,by omega⟩),h.wb,aak aj v',aF.kp ai (fun c hc e=>by have:=(aF.row.lt c hc).1;omega) (fun c hc e=>by have:=hS c hc;omega),al.off (ai.less fun c hc e=>by have:=(al.lt c hc).1;omega),fun c hc e=>?_⟩;rcases aq with h1 | h1
 . exact h.apart c (by rw [<-h1];exact hc) e
 . rw [h1] at hc
   injection hc with hc;have:=(ad.1 c e).2;omega
theorem adj.snoc(h:adj w WB S wr vo vw xs s)(hS:∀c,S c->c<w.heap.size){w4 w9:World}(hb:Below wr.heap.size wr w4){v':Value}{cs:List Value}{y:aaJ}(ag:cs.length=8)(hy:acb S wr cs y)(ae:w9.ownsRow (WB+1) 49 8 v' (xs.length+1) (xs.flatten++cs))(hg:w4.grownBy w9 vo.ownBlock)(aq:v'.ownBlock=vo.ownBlock∨v'.ownBlock=some w4.heap.size) :
 adj w WB S w9 v' vw (xs++[cs]) (s.1,s.2++[y]):=by
 have h4:=h.later hb;have hk:Kp (fun c=>vo.ownBlock≠some c) w4 w9:=⟨hg.os,hg.tape,hg.output,hg.size,fun c hc hF=>hg.block c hc fun e=>hF e.symm⟩
 have ad:=h4.low;have aE:=h.wb;refine⟨h4.below.trans (hk.below fun b hb=>⟨Aay hb h4.below.size,fun e=>by have:=(ad.1 b e).1;omega⟩),h.wb,(hk.block WB h4.size fun e=>by have:=(ad.1 WB e).1;omega).trans h4.cell,h.out.snoc hb ag hy ae hg (fun c hc=>by have:=hS c hc;omega),h4.words.off (hk.less fun c hc e=>h.apart c hc e),fun c hc e=>?_⟩;rcases aq with h1 | h1
 . exact h.apart c hc (by rw [<-h1];exact e)
 . rw [h1] at e
   injection e with e;have:=(ad.2 c hc).2;omega
theorem adj.start {w W:World}{S:Nat->Prop}(hW:W=w.alloc (.cells #[.slice none 0 0] 71))(hb:Below w.heap.size w W):adj w w.heap.size S W (.slice none 0 0) (.slice none 0 0) [] ([],[]) :=
 ⟨hb,rfl,by rw [hW];exact heap_alloc_new _ _,ab1.nil _ _ _,⟨World.ownsRow_nil _ _ _ _,fun cs h=>by cases h⟩,fun c hc=>by cases hc⟩
end
end
section
open Go.RowKit
variable {S:Nat->Prop}{w:World}{v:Value}
theorem arq{l l':List aay}(h:SlAt S w 2 agd v l)(h':SlAt S w 2 agd v l'):l=l':=by
 obtain⟨ao,c,rfl,-,-,hr⟩:=h;obtain⟨aS,c',e,-,-,aP⟩:=h';injection e with e1 e2 e3;subst e1;refine List.ext_getElem e2 (fun i h1 h2=>?_);obtain⟨b,off,ea,-,aq⟩:=hr (fun e=>by rw [e] at h1;simp at h1);obtain⟨b',aN,ay,-,aD⟩:=aP (fun e=>by rw [e] at h2;simp at h2);rw [ea] at ay;injection ay with ay;injection ay with e4 e5;subst e4 e5;obtain⟨cs,⟨hc,-⟩,-,aj⟩:=aq i _ (Aaa h1);obtain⟨aH,⟨aQ,-⟩,-,ak⟩:=aD i _ (Aaa h2);subst hc aQ;have a0:=(aj 0 _ rfl).symm.trans (ak 0 _ rfl);have a1:=(aj 1 _ rfl).symm.trans (ak 1 _ rfl);injection a0 with a0;injection a0 with a0;injection a1 with a1;injection a1 with _ a1;generalize l[i]=x at a0 a1 ⊢;generalize l'[i]=z at a0 a1 ⊢;cases x;cases z;cases a0;cases a1;rfl
theorem asN{cs:List Value}{y z:aaJ}(h:acb S w cs y)(h':acb S w cs z):y=z:=by
 obtain⟨v,rfl,ha,-⟩:=h;obtain⟨v',e,aJ,-⟩:=h';obtain⟨yo,yd,⟨ar,an⟩,⟨br,bn⟩,yf,aM⟩:=y;obtain⟨zo,zd,⟨cr,cn⟩,⟨dr,dn⟩,zf,aG⟩:=z;dsimp only at e ha aJ;simp only [List.cons.injEq,Value.int.injEq,Value.bool.injEq,and_true,true_and] at e;obtain⟨rfl,rfl,rfl,rfl,rfl,rfl,rfl,rfl⟩:=e;rw [arq ha aJ]
theorem atN(S:Nat->Prop)(w:World):∃dec:List Value->aaJ,∀cs y,acb S w cs y->dec cs=y:=by
 classical
 exact ⟨fun cs => if h : ∃ y, acb S w cs y then h.choose else ⟨0, 0, ⟨false, 0⟩, ⟨false, 0⟩, 0, []⟩, fun cs y h => by
  have hx : ∃ y, acb S w cs y := ⟨y, h⟩
  dsimp only
  rw [dif_pos hx]
  exact asN hx.choose_spec h⟩
theorem apT{a:Option Addr}{n c:Nat}{l:List aaJ}(h:SlAt S w 8 acb (.slice a n c) l):∃E:List (List Value),E.length=l.length∧ar9 S w a E∧∀(i:Nat) cs y,E[i]?=some cs->l[i]?=some y->acb S w cs y:=by
 obtain⟨ao,c',e,-,-,hr⟩:=h;injection e with e1 e2 e3;subst e1
 by_cases hl:l=[]
 . subst hl
   exact⟨[],rfl,fun i cs h=>by simp at h,fun i cs y h=>by simp at h⟩
 . obtain⟨b,off,ea,hS,aq⟩:=hr hl
   have h1:∀i:Nat,∃cs,∀y,l[i]?=some y->acb S w cs y∧cs.length=8∧aal w b (off+i * 8) cs:=fun i=>by
    cases hi:l[i]? with
    | none=>exact⟨[],fun y h=>by cases h⟩
    | some x =>
      obtain⟨cs,q1,q2,q3⟩:=aq i x hi;exact⟨cs,fun y h=>by cases h;exact⟨q1,q2,q3⟩⟩
   have hE:∀(i:Nat) cs,((List.range l.length).map fun i=>(h1 i).choose)[i]?=some cs->cs=(h1 i).choose∧∃y,l[i]?=some y:=fun i cs h=>by
    rw [Aak] at h;cases hi:(List.range l.length)[i]? with
    | none=>rw [hi] at h;cases h
    | some j =>
      rw [hi] at h;obtain⟨aI,hj⟩:=Aad.1 hi;rw [List.getElem_range] at hj;subst hj;simp only [Aaw,Option.some.injEq] at h;rw [List.length_range] at aI;exact⟨h.symm,_,Aaa aI⟩
   refine⟨(List.range l.length).map fun i=>(h1 i).choose,by simp,fun i cs h=>?_,fun i cs y h hy=>?_⟩
   . obtain⟨rfl,y,hy⟩:=hE i cs h
     obtain⟨-,q2,q3⟩:=(h1 i).choose_spec y hy;exact⟨b,off,ea,hS,q2,q3⟩
   . obtain⟨rfl,-⟩:=hE i cs h
     exact ((h1 i).choose_spec y hy).1
variable {W:World}{base:Nat}
theorem amW{l:List aay}(h:ac7 W base 41 2 v (l.map aaA))(hn:∀x∈l,I64 x.n):SlAt (fun c=>c<W.heap.size) W 2 agd v l:=by
 rcases h.own.2 with⟨h1,h2⟩ | ⟨g,cap,cur,e1,h3,h4,h5,h6,h7,h8⟩
 . rw [Aah] at h2
   have hl:l=[]:=Aa9 h2;subst hl;exact⟨none,0,h1,Aac _,by decide,fun h=>absurd rfl h⟩
 . unfold maxLen at h6
   rw [Aah] at e1 h5;refine⟨some ⟨g,0,none⟩,cap,e1,h5,by omega,fun _=>⟨g,0,rfl,(Aag.1 h4).1,fun i x hx=>⟨aaA x,⟨rfl,hn x (Aae hx)⟩,rfl,fun j u hj=>?_⟩⟩⟩;obtain⟨g',c',e2,-,-,-,ag,-⟩:=h.at (i:=i) (cs:=aaA x) (by rw [Aak,hx];rfl) (by decide)
   rw [e1] at e2;injection e2 with e2;injection e2 with e2;injection e2 with e2;subst e2;rw [Aab];exact ag j u hj
theorem ac7.isCells{sz:Nat}{e:TypeId}{xss:List (List Value)}(h:ac7 W base e sz v xss):∀c,v.ownBlock=some c->∃o:Obj,W.heap[c]?=some o∧o.isCells=true:=fun c hc=>by
 rcases h.own.2 with⟨h1,-⟩ | ⟨g',cap',cur,h1,h2,h3,-⟩
 . rw [h1] at hc;cases hc
 . rw [h1] at hc;cases hc;exact⟨_,h3,rfl⟩
theorem ab1.rev{W':World}{L:List aaJ}{xs:List (List Value)}(h:ab1 W base S v L xs)(hr:ac7 W' base 49 8 v xs.reverse)(hk:Kp (fun b=>v.ownBlock≠some b) W W')(hS:∀c,S c->c<base):ab1 W' base S v L.reverse xs.reverse:=by
 refine⟨hr,by simp [h.len],fun i cs y h1 h2=>?_⟩;have hi:i<xs.length:=by have:=(Aad.1 h1).1;simpa using this
 rw [List.getElem?_reverse hi] at h1;rw [List.getElem?_reverse (by rw [<-h.len];exact hi),<-h.len] at h2;exact aax.out _ _ _ _ _ _ (fun _ h=>h) (hk.stays fun c hc e=>by have:=(h.row.lt c e).1;have:=hS c hc;omega) (h.rd _ cs y h1 h2)
theorem apU (words : Int) : ∀ (ys : List aaJ) (s : List aay × List aaJ), (ys.foldl (aa1 words) s).1.length <= s.1.length + ys.length ∧ (ys.foldl (aa1 words) s).2.length <= s.2.length + ys.length
 | [],s=>⟨Aac _,Aac _⟩
 | y :: ys,s=>by
   have h:=apU words ys (aa1 words s y);have h1:(aa1 words s y).1.length<=s.1.length+1∧(aa1 words s y).2.length<=s.2.length+1:=by
    unfold aa1
    repeat' split
    all_goals (constructor <;> simp)
   rw [List.foldl_cons,Aba];omega
theorem arU (words : Int) : ∀ (ys : List aaJ) (s : List aay × List aaJ), (∀ y ∈ ys, I64 y.a.n) -> (∀ v ∈ s.1, I64 v.n) -> ∀ v ∈ (ys.foldl (aa1 words) s).1, I64 v.n
 | [],s,_,h=>h
 | y :: ys,s,hy,h=>by
   refine arU words ys (aa1 words s y) (fun z hz=>hy z (Aa0 _ hz)) (fun v hv=>?_);have h0:=hy y (Aa2 ..);unfold aa1 at hv
   repeat' split at hv
   all_goals first
    | exact h v hv
    | (simp at hv;exact hv.elim (fun q=>h v q) (fun q=>by rw [q];exact h0))
    | (simp at hv;subst hv;exact h0)
    | (simp at hv)
structure aeY (w:World)(WD OB LB B:Nat)(words:Int)(S:Nat->Prop)(Wr wr:World)(vo vl:Value)(xs:List (List Value))(s:List aay×List aaJ):Prop where
 below:Below w.heap.size w wr
 lo:WD=w.heap.size∧OB=w.heap.size+1∧LB=w.heap.size+2∧w.heap.size+3<=B
 big:B<=wr.heap.size
 wd:wr.heap[WD]?=some (.cells #[.int .i64 words] 3 (0,0))
 ob:wr.heap[OB]?=some (.cells #[vo] 39 (0,0))
 lb:wr.heap[LB]?=some (.cells #[vl] 47 (0,0))
 out:ab1 wr B S vo s.2 xs
 vals:ac7 wr B 41 2 vl (s.1.map aaA)
 apart:∀c,vl.ownBlock=some c->vo.ownBlock≠some c
 ko:KeepsOthers Wr wr
 ke:acQ B (fun k=>k=OB∨k=LB) Wr wr
section
variable {w Wr wr W' : World} {WD OB LB B : Nat} {words : Int} {S : Nat -> Prop} {vo vl : Value} {xs : List (List Value)} {s : List aay × List aaJ}
theorem aeY.again(h:aeY w WD OB LB B words S Wr wr vo vl xs s):aeY w WD OB LB B words S wr wr vo vl xs s :=
 ⟨h.below,h.lo,h.big,h.wd,h.ob,h.lb,h.out,h.vals,h.apart,KeepsOthers.refl _,acQ.refl _ _ _⟩
theorem aeY.low(h:aeY w WD OB LB B words S Wr wr vo vl xs s):(∀c,vo.ownBlock=some c->B<=c∧c<wr.heap.size)∧∀c,vl.ownBlock=some c->B<=c∧c<wr.heap.size :=
 ⟨fun c hc=>h.out.row.lt c hc,fun c hc=>h.vals.lt c hc⟩
theorem aeY.later(h:aeY w WD OB LB B words S Wr wr vo vl xs s)(hb:Below wr.heap.size wr W'):aeY w WD OB LB B words S Wr W' vo vl xs s:=by
 have hl:=h.lo;have hB:=h.big;exact⟨h.below.trans (hb.mono h.below.size),hl,Aai hB hb.size,(hb.block WD (by omega)).trans h.wd,(hb.block OB (by omega)).trans h.ob,(hb.block LB (by omega)).trans h.lb,h.out.later hb,h.vals.off (Kp.of hb),h.apart,h.ko.trans (acE hb),adx h.ke (alP hb hB)⟩
theorem aeY.put(h:aeY w WD OB LB B words S Wr wr vo vl xs s)(hS:∀c,S c->c<w.heap.size){v':Value}{T:List aay}(hw:ac7 wr B 41 2 v' (T.map aaA))(ha:∀c,v'.ownBlock=some c->vo.ownBlock≠some c) :
 aeY w WD OB LB B words S Wr (wr.setCell ⟨LB,0,none⟩ v') vo v' xs (T,s.2):=by
 have hl:=h.lo;have hB:=h.big;have hk:Kp (fun c=>c≠LB) wr (wr.setCell ⟨LB,0,none⟩ v'):=aaQ wr LB 0 v';exact⟨h.below.trans (hk.below fun b hb=>⟨by omega,by omega⟩),hl,Aai hB hk.size,(hk.block WD (by omega) (by omega)).trans h.wd,(hk.block OB (by omega) (by omega)).trans h.ob,aak h.lb v',h.out.kp hk (fun c hc e=>by have:=(h.out.row.lt c hc).1;omega) (fun c hc e=>by have:=hS c hc;omega),hw.off (hk.less fun c hc e=>by have:=(hw.lt c hc).1;omega),ha,h.ko.trans (KeepsOthers.setCell _ _ _),adx h.ke (ah3 _ _ (.inr rfl))⟩
theorem aeY.push(h:aeY w WD OB LB B words S Wr wr vo vl xs s)(hS:∀c,S c->c<w.heap.size){w4 w9:World}(hb:Below wr.heap.size wr w4){v':Value}{x:aay}(ae:w9.ownsRow B 41 2 v' (s.1.length+1) ((s.1.map aaA).flatten++aaA x))(hg:w4.grownBy w9 vl.ownBlock)(aq:v'.ownBlock=vl.ownBlock∨v'.ownBlock=some w4.heap.size) :
 aeY w WD OB LB B words S Wr (w9.setCell ⟨LB,0,none⟩ v') vo v' xs (s.1++[x],s.2):=by
 have h4:=h.later hb;have hl:=h.lo;have hB:=h4.big;have ad:=h4.low;have hk:Kp (fun c=>vl.ownBlock≠some c) w4 w9:=⟨hg.os,hg.tape,hg.output,hg.size,fun c hc hF=>hg.block c hc fun e=>hF e.symm⟩
 have af:∀c,c<B->vl.ownBlock≠some c:=fun c hc e=>by have:=(ad.2 c e).1;omega
 have h9:aeY w WD OB LB B words S Wr w9 vo vo xs ([],s.2)->True:=fun _=>trivial;have ah:ab1 w9 B S vo s.2 xs:=h4.out.kp hk (fun c hc e=>h.apart c e hc) (fun c hc=>af c (by have:=hS c hc;omega));have al:ac7 w9 B 41 2 v' ((s.1++[x]).map aaA):=by
  refine⟨?_,fun cs ag=>?_⟩
  . rw [Aa8,Abs,Aau,Aah]
    simpa using ae
  . obtain⟨y,-,rfl⟩:=Aal.1 ag
    rfl
 have az : KeepsOthers Wr w9 := h4.ko.trans ⟨hg.size, fun k o aw hc => by
  rw [hk.block k (Aag.1 aw).1 (fun e => by
   obtain ⟨o', q1, q2⟩ := h4.vals.isCells k e
   rw [aw] at q1
   cases q1
   rw [hc] at q2
   cases q2)]
  exact aw⟩
 have aB:acQ B (fun k=>k=OB∨k=LB) Wr w9:=adx h4.ke ⟨hg.size,fun b au _=>hk.block b (by omega) (af b au)⟩;have ai:Kp (fun c=>c≠LB) w9 (w9.setCell ⟨LB,0,none⟩ v'):=aaQ w9 LB 0 v';have aC:=hg.size;refine⟨(h4.below.trans (hk.below fun b au=>⟨by omega,af b (by omega)⟩)).trans (ai.below fun b au=>⟨by omega,by omega⟩),hl,Aai hB (Aai aC ai.size),(ai.block WD (by omega) (by omega)).trans ((hk.block WD (by omega) (af WD (by omega))).trans h4.wd),(ai.block OB (by omega) (by omega)).trans ((hk.block OB (by omega) (af OB (by omega))).trans h4.ob),aak ((hk.block LB (by omega) (af LB (by omega))).trans h4.lb) v',ah.kp ai (fun c hc e=>by have:=(ah.row.lt c hc).1;omega) (fun c hc e=>by have:=hS c hc;omega),al.off (ai.less fun c hc e=>by have:=(al.lt c hc).1;omega),fun c hc e=>?_,az.trans (KeepsOthers.setCell _ _ _),adx aB (ah3 _ _ (.inr rfl))⟩;rcases aq with h1 | h1
 . exact h.apart c (by rw [<-h1];exact hc) e
 . rw [h1] at hc
   injection hc with hc;have:=(ad.1 c e).2;omega
theorem aeY.snoc(h:aeY w WD OB LB B words S Wr wr vo vl xs s)(hS:∀c,S c->c<w.heap.size){w4 w9:World}(hb:Below wr.heap.size wr w4){v':Value}{cs:List Value}{y:aaJ}(ag:cs.length=8)(hy:acb S wr cs y)(ae:w9.ownsRow B 49 8 v' (xs.length+1) (xs.flatten++cs))(hg:w4.grownBy w9 vo.ownBlock)(aq:v'.ownBlock=vo.ownBlock∨v'.ownBlock=some w4.heap.size) :
 aeY w WD OB LB B words S Wr (w9.setCell ⟨OB,0,none⟩ v') v' vl (xs++[cs]) (s.1,s.2++[y]):=by
 have h4:=h.later hb;have hl:=h.lo;have hB:=h4.big;have ad:=h4.low;have hk:Kp (fun c=>vo.ownBlock≠some c) w4 w9:=⟨hg.os,hg.tape,hg.output,hg.size,fun c hc hF=>hg.block c hc fun e=>hF e.symm⟩
 have af:∀c,c<B->vo.ownBlock≠some c:=fun c hc e=>by have:=(ad.1 c e).1;omega
 have ah:ab1 w9 B S v' (s.2++[y]) (xs++[cs]):=h.out.snoc hb ag hy ae hg (fun c hc=>by have:=hS c hc;omega);have av:ac7 w9 B 41 2 vl (s.1.map aaA):=h4.vals.off (hk.less fun c hc e=>h.apart c hc e)
 have az : KeepsOthers Wr w9 := h4.ko.trans ⟨hg.size, fun k o aw hc => by
  rw [hk.block k (Aag.1 aw).1 (fun e => by
   obtain ⟨o', q1, q2⟩ := h4.out.row.isCells k e
   rw [aw] at q1
   cases q1
   rw [hc] at q2
   cases q2)]
  exact aw⟩
 have aB:acQ B (fun k=>k=OB∨k=LB) Wr w9:=adx h4.ke ⟨hg.size,fun b au _=>hk.block b (by omega) (af b au)⟩;have ai:Kp (fun c=>c≠OB) w9 (w9.setCell ⟨OB,0,none⟩ v'):=aaQ w9 OB 0 v';have aC:=hg.size;refine⟨(h4.below.trans (hk.below fun b au=>⟨by omega,af b (by omega)⟩)).trans (ai.below fun b au=>⟨by omega,by omega⟩),hl,Aai hB (Aai aC ai.size),(ai.block WD (by omega) (by omega)).trans ((hk.block WD (by omega) (af WD (by omega))).trans h4.wd),aak ((hk.block OB (by omega) (af OB (by omega))).trans h4.ob) v',(ai.block LB (by omega) (by omega)).trans ((hk.block LB (by omega) (af LB (by omega))).trans h4.lb),ah.kp ai (fun c hc e=>by have:=(ah.row.lt c hc).1;omega) (fun c hc e=>by have:=hS c hc;omega),av.off (ai.less fun c hc e=>by have:=(av.lt c hc).1;omega),fun c hc e=>?_,az.trans (KeepsOthers.setCell _ _ _),adx aB (ah3 _ _ (.inl rfl))⟩;rcases aq with h1 | h1
 . exact h.apart c hc (by rw [<-h1];exact e)
 . rw [h1] at e
   injection e with e;have:=(ad.2 c hc).2;omega
theorem aeY.grown(h:aeY w WD OB LB B words S Wr wr vo vl xs s)(hS:∀c,S c->c<w.heap.size){row:Option Nat}(hg:wr.grownBy W' row)(hr:∀r,row=some r->B<=r∧∃o:Obj,wr.heap[r]?=some o∧o.isCells=false):aeY w WD OB LB B words S W' W' vo vl xs s:=by
 have hl:=h.lo;have hB:=h.big;have hk:Kp (fun c=>row≠some c) wr W':=⟨hg.os,hg.tape,hg.output,hg.size,fun c hc hF=>hg.block c hc fun e=>hF e.symm⟩
 have af:∀c,c<B->row≠some c:=fun c hc e=>by have:=(hr c e).1;omega
 have aK:∀c,(∃o:Obj,wr.heap[c]?=some o∧o.isCells=true)->row≠some c:=fun c ⟨o,q1,q2⟩ e=>by
  obtain⟨-,o',q3,q4⟩:=hr c e;rw [q1] at q3;cases q3;rw [q2] at q4;cases q4
 exact⟨h.below.trans (hk.below fun b au=>⟨by omega,af b (by omega)⟩),hl,Aai hB hg.size,(hk.block WD (by omega) (af WD (by omega))).trans h.wd,(hk.block OB (by omega) (af OB (by omega))).trans h.ob,(hk.block LB (by omega) (af LB (by omega))).trans h.lb,h.out.kp hk (fun c hc=>aK c (h.out.row.isCells c hc)) (fun c hc=>af c (by have:=hS c hc;omega)),h.vals.off (hk.less fun c hc=>aK c (h.vals.isCells c hc)),h.apart,KeepsOthers.refl _,acQ.refl _ _ _⟩
end
end
end Go.Proofs.YtpeejlpcikefcaaGreatDoor
