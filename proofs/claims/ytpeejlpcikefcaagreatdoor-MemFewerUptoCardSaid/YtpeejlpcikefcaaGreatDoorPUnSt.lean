import Derived.Test.YtpeejlpcikefcaaGreatDoorPStUp
import Derived.Test.YtpeejlpcikefcaaGreatDoorPMemF
/- The memory of a checked unit. turneryref6.StillDone, plainly. mem.known: what the memory holds between two instructions. mem.unread: what the memory holds between two instructions; cells and what they tell. -/
namespace Go.Proofs.YtpeejlpcikefcaaGreatDoor
section
open Go.RowKit
theorem alb {u:adz}(h:(aat u).1=0):u.globals.length<=10∧(∀g∈u.globals,0<=g.size∧g.size<=200∧(g.init.length:Int)<=g.size) ∧
 abm u.globals u.globals.length=((apK u.globals).length:Int)∧(apK u.globals).length<=200:=by
 obtain⟨h1,-,h2,-,-⟩:=acq h;have h3:∀g∈u.globals,0<=g.size∧g.size<=200∧(g.init.length:Int)<=g.size:=by
  intro g hg;obtain⟨k,hk,rfl⟩:=Aav hg;have h4:=h2 k;unfold ad1 at h4;rw [Aaa hk] at h4;obtain⟨-,-,a1,a2,a3,-⟩:=agh h4;exact⟨by omega,a2,a3⟩
 have h4:((apK u.globals).length:Int)=abm u.globals u.globals.length:=anG (fun g hg=>(h3 g hg).2.2) _ (Aac _);have h5:=aht (Aac u.globals.length) (fun j _=>h2 j);exact⟨h1,h3,h4.symm,by omega⟩
end
section
open Go.RowKit
structure ab2 (W:World)(base:Nat)(S:Nat->Prop)(v:Value)(L:List aaK)(xs:List (List Value)):Prop where
 row:ade W base 49 8 v xs
 len:xs.length=L.length
 rd:∀(i:Nat) cs y,xs[i]?=some cs->L[i]?=some y->acs S W cs y
section
variable {W W' : World} {base : Nat} {S : Nat -> Prop} {v : Value} {L : List aaK} {xs : List (List Value)}
theorem ab2.nil(W:World)(base:Nat)(S:Nat->Prop):ab2 W base S (.slice none 0 0) [] []:=⟨⟨World.ownsRow_nil _ _ _ _,fun cs h=>by cases h⟩,rfl,fun i cs y h=>by simp at h⟩
theorem ab2.later(h:ab2 W base S v L xs)(hb:Below W.heap.size W W'):ab2 W' base S v L xs :=
 ⟨h.row.off (Kp.of hb),h.len,fun i cs y h1 h2=>aay.out _ _ _ _ _ _ (fun _ h=>h) (aaS.below' hb) (h.rd i cs y h1 h2)⟩
theorem ab2.snoc {w9 : World} {v' : Value} {cs : List Value} {y : aaK} (h : ab2 W base S v L xs) (hb : Below W.heap.size W W') (ag : cs.length = 8) (hy : acs S W cs y) (ae : w9.ownsRow base 49 8 v' (xs.length + 1) (xs.flatten ++ cs)) (hg : W'.grownBy w9 v.ownBlock)
 (hS:∀c,S c->c<base):ab2 w9 base S v' (L++[y]) (xs++[cs]):=by
 have hk:Kp (fun c=>c<base) W w9:=(Kp.of hb).trans ⟨hg.os,hg.tape,hg.output,hg.size,fun c hc hF=>hg.block c hc fun e=>by have:=(h.row.lt c e.symm).1;omega⟩;have aH:aaS S W w9:=hk.stays hS;refine⟨⟨?_,?_⟩,by rw [Aau,Aau,h.len];rfl,fun i aF y' h1 h2=>?_⟩
 . rw [Abu,show (xs++[cs]).length=xs.length+1 by simp]
   simpa using ae
 . intro c hc
   rcases Aa7.1 hc with h3 | h3
   . exact h.row.wid c h3
   . rw [Aax] at h3;rw [h3];exact ag
 . rcases Nat.lt_trichotomy i xs.length with h3 | h3 | h3
   . rw [Abl h3] at h1
     rw [Abl (by rw [<-h.len];exact h3)] at h2;exact aay.out _ _ _ _ _ _ (fun _ h=>h) aH (h.rd i aF y' h1 h2)
   . subst h3
     rw [Aby (Aac _)] at h1;rw [h.len,Aby (Aac _)] at h2;simp only [Nat.sub_self,Ab3,Option.some.injEq] at h1 h2;subst h1;subst h2;exact aay.out _ _ _ _ _ _ (fun _ h=>h) aH hy
   . rw [Aap (by simp;omega)] at h1;cases h1
theorem ab2.read(h:ab2 W base S v L xs){S':Nat->Prop}(hS:∀c,S c->S' c)(hb:∀c,base<=c->S' c):SlAt S' W 8 acs v L:=by
 rcases h.row.own.2 with⟨h1,h2⟩ | ⟨g,cap,cur,e1,h3,h4,h5,h6,-⟩
 . have hl:L=[]:=Aba (by rw [<-h.len];exact h2)
   rw [h1,hl];exact⟨none,0,rfl,Aac _,by decide,fun h=>absurd rfl h⟩
 . unfold maxLen at h6
   refine⟨some ⟨g,0,none⟩,cap,by rw [e1,h.len],by rw [<-h.len];omega,by omega,fun _=>⟨g,0,rfl,hb g h3,fun i x hx=>?_⟩⟩;obtain⟨cs,ag⟩:∃cs,xs[i]?=some cs:=⟨_,Aaa (by rw [h.len];exact (Aad.1 hx).1)⟩
   obtain⟨g3,c3,e3,-,-,-,aD,-⟩:=h.row.at ag (by decide);rw [e1] at e3;have aP:g=g3:=by injection e3 with e4;injection e4 with e5;injection e5
   exact⟨cs,aay.out _ _ _ _ _ _ hS (aaS.refl _ _) (h.rd i cs x ag hx),h.row.wid cs (Aae ag),by rw [Aab,aP];exact aD⟩
end
end
section
open Go.RowKit
variable {W:World}{base:Nat}{S:Nat->Prop}{v:Value}{L:List aaK}{xs:List (List Value)}
theorem ab2.shape(h:ab2 W base S v L xs):∀cs∈xs,atk cs:=fun cs ag=>by
 obtain⟨i,hi⟩:=Acl.1 ag;have aO:=(Aad.1 hi).1;obtain⟨v,rfl,⟨a,c,rfl,-⟩,-⟩:=h.rd i cs _ hi (Aaa (by rw [<-h.len];exact aO));exact⟨_,_,_,_,_,_,_,_,_,_,rfl⟩
theorem ab2.kp{W':World}(h:ab2 W base S v L xs){F:Nat->Prop}(hk:Kp F W W')(hv:∀c,v.ownBlock=some c->F c)(hS:∀c,S c->F c):ab2 W' base S v L xs :=
 ⟨h.row.off (hk.less hv),h.len,fun i cs y h1 h2=>aay.out _ _ _ _ _ _ (fun _ h=>h) (hk.stays hS) (h.rd i cs y h1 h2)⟩
theorem ab2.slice(h:ab2 W base S v L xs):∃a c,v = .slice a xs.length c:=aap h.row.own
structure adn (w:World)(WB:Nat)(S:Nat->Prop)(wr:World)(vo vw:Value)(xs:List (List Value))(s:List (aaA×aaA)×List aaK):Prop where
 below:Below w.heap.size w wr
 wb:WB=w.heap.size
 cell:wr.heap[WB]?=some (.cells #[vw] 71 (0,0))
 out:ab2 wr (WB+1) S vo s.2 xs
 words:ade wr (WB+1) 74 4 vw (s.1.map abl)
 apart:∀c,vw.ownBlock=some c->vo.ownBlock≠some c
section
variable {w wr W' : World} {WB : Nat} {S : Nat -> Prop} {vo vw : Value} {xs : List (List Value)} {s : List (aaA × aaA) × List aaK}
theorem adn.size(h:adn w WB S wr vo vw xs s):WB<wr.heap.size:=(Aag.1 h.cell).1
theorem adn.get(h:adn w WB S wr vo vw xs s):wr.cell? ⟨WB,0,none⟩=some vw∧∀o,wr.frozen? ⟨WB,o,none⟩=false:=by
 have h1:=(aad (cs:=[_]) h.cell).get1;exact⟨h1,fun o=>aaq h.cell o⟩
theorem adn.later(h:adn w WB S wr vo vw xs s)(hb:Below wr.heap.size wr W'):adn w WB S W' vo vw xs s :=
 ⟨h.below.trans (hb.mono h.below.size),h.wb,(hb.block WB h.size).trans h.cell,h.out.later hb,h.words.off (Kp.of hb),h.apart⟩
theorem adn.kp(h:adn w WB S wr vo vw xs s){F:Nat->Prop}(hk:Kp F wr W')(hS:∀c,S c->c<w.heap.size)(hF:∀c,c<w.heap.size->F c)(hW:F WB)(ho:∀c,vo.ownBlock=some c->F c)(hv:∀c,vw.ownBlock=some c->F c):adn w WB S W' vo vw xs s :=
 ⟨h.below.trans (hk.below fun b hb=>⟨Aay hb h.below.size,hF b hb⟩),h.wb,(hk.block WB h.size hW).trans h.cell,h.out.kp hk ho fun c hc=>hF c (hS c hc),h.words.off (hk.less hv),h.apart⟩
theorem adn.put(h:adn w WB S wr vo vw xs s)(hS:∀c,S c->c<w.heap.size){v':Value}{T:List (aaA×aaA)}(hw:ade wr (WB+1) 74 4 v' (T.map abl))(ha:∀c,v'.ownBlock=some c->vo.ownBlock≠some c) :
 adn w WB S (wr.setCell ⟨WB,0,none⟩ v') vo v' xs (T,s.2):=by
 have hk:Kp (fun c=>c≠WB) wr (wr.setCell ⟨WB,0,none⟩ v'):=aaP wr WB 0 v';have aE:=h.wb;refine⟨h.below.trans (hk.below fun b hb=>⟨Aay hb h.below.size,by omega⟩),h.wb,aak h.cell v',h.out.kp hk (fun c hc e=>by have:=(h.out.row.lt c hc).1;omega) (fun c hc e=>by have:=hS c hc;omega),hw.off (hk.less fun c hc e=>by have:=(hw.lt c hc).1;omega),ha⟩
theorem adn.low(h:adn w WB S wr vo vw xs s):(∀c,vo.ownBlock=some c->WB<c∧c<wr.heap.size)∧∀c,vw.ownBlock=some c->WB<c∧c<wr.heap.size :=
 ⟨fun c hc=>by have:=h.out.row.lt c hc;omega,fun c hc=>by have:=h.words.lt c hc;omega⟩
theorem adn.push(h:adn w WB S wr vo vw xs s)(hS:∀c,S c->c<w.heap.size){w4 w9:World}(hb:Below wr.heap.size wr w4){v':Value}{x:aaA×aaA}(ae:w9.ownsRow (WB+1) 74 4 v' (s.1.length+1) ((s.1.map abl).flatten++abl x))(hg:w4.grownBy w9 vw.ownBlock)(aq:v'.ownBlock=vw.ownBlock∨v'.ownBlock=some w4.heap.size) :
 adn w WB S (w9.setCell ⟨WB,0,none⟩ v') vo v' xs (s.1++[x],s.2):=by
 have h4:=h.later hb;have hk:Kp (fun c=>vw.ownBlock≠some c) w4 w9:=⟨hg.os,hg.tape,hg.output,hg.size,fun c hc hF=>hg.block c hc fun e=>hF e.symm⟩
 have ad:=h4.low;have aE:=h.wb;have h9:adn w WB S w9 vo vo xs ([],s.2)->True:=fun _=>trivial;have aJ:ab2 w9 (WB+1) S vo s.2 xs:=h4.out.kp hk (fun c hc e=>h.apart c e hc) (fun c hc e=>by have:=(ad.2 c e).1;have:=hS c hc;omega);have aj:w9.heap[WB]?=some (.cells #[vw] 71 (0,0)):=(hk.block WB h4.size fun e=>by have:=(ad.2 WB e).1;omega).trans h4.cell;have ak:ade w9 (WB+1) 74 4 v' ((s.1++[x]).map abl):=by
  refine⟨?_,fun cs ag=>?_⟩
  . rw [Aa9,Abu,Aau,Aah]
    simpa using ae
  . obtain⟨y,-,rfl⟩:=Aal.1 ag
    rfl
 have ax:Below w.heap.size w w9:=h4.below.trans (hk.below fun b hb=>⟨Aay hb h4.below.size,fun e=>by have:=(ad.2 b e).1;omega⟩);have ah:Kp (fun c=>c≠WB) w9 (w9.setCell ⟨WB,0,none⟩ v'):=aaP w9 WB 0 v';refine⟨ax.trans (ah.below fun b hb=>⟨Aay hb ax.size,by omega⟩),h.wb,aak aj v',aJ.kp ah (fun c hc e=>by have:=(aJ.row.lt c hc).1;omega) (fun c hc e=>by have:=hS c hc;omega),ak.off (ah.less fun c hc e=>by have:=(ak.lt c hc).1;omega),fun c hc e=>?_⟩;rcases aq with h1 | h1
 . exact h.apart c (by rw [<-h1];exact hc) e
 . rw [h1] at hc
   injection hc with hc;have:=(ad.1 c e).2;omega
theorem adn.snoc(h:adn w WB S wr vo vw xs s)(hS:∀c,S c->c<w.heap.size){w4 w9:World}(hb:Below wr.heap.size wr w4){v':Value}{cs:List Value}{y:aaK}(ag:cs.length=8)(hy:acs S wr cs y)(ae:w9.ownsRow (WB+1) 49 8 v' (xs.length+1) (xs.flatten++cs))(hg:w4.grownBy w9 vo.ownBlock)(aq:v'.ownBlock=vo.ownBlock∨v'.ownBlock=some w4.heap.size) :
 adn w WB S w9 v' vw (xs++[cs]) (s.1,s.2++[y]):=by
 have h4:=h.later hb;have hk:Kp (fun c=>vo.ownBlock≠some c) w4 w9:=⟨hg.os,hg.tape,hg.output,hg.size,fun c hc hF=>hg.block c hc fun e=>hF e.symm⟩
 have ad:=h4.low;have aE:=h.wb;refine⟨h4.below.trans (hk.below fun b hb=>⟨Aay hb h4.below.size,fun e=>by have:=(ad.1 b e).1;omega⟩),h.wb,(hk.block WB h4.size fun e=>by have:=(ad.1 WB e).1;omega).trans h4.cell,h.out.snoc hb ag hy ae hg (fun c hc=>by have:=hS c hc;omega),h4.words.off (hk.less fun c hc e=>h.apart c hc e),fun c hc e=>?_⟩;rcases aq with h1 | h1
 . exact h.apart c hc (by rw [<-h1];exact e)
 . rw [h1] at e
   injection e with e;have:=(ad.2 c hc).2;omega
theorem adn.start {w W:World}{S:Nat->Prop}(hW:W=w.alloc (.cells #[.slice none 0 0] 71))(hb:Below w.heap.size w W):adn w w.heap.size S W (.slice none 0 0) (.slice none 0 0) [] ([],[]) :=
 ⟨hb,rfl,by rw [hW];exact heap_alloc_new _ _,ab2.nil _ _ _,⟨World.ownsRow_nil _ _ _ _,fun cs h=>by cases h⟩,fun c hc=>by cases hc⟩
end
end
section
open Go.RowKit
variable {S:Nat->Prop}{w:World}{v:Value}
theorem arB{l l':List aaA}(h:SlAt S w 2 agi v l)(h':SlAt S w 2 agi v l'):l=l':=by
 obtain⟨ao,c,rfl,-,-,hr⟩:=h;obtain⟨aS,c',e,-,-,aN⟩:=h';injection e with e1 e2 e3;subst e1;refine List.ext_getElem e2 (fun i h1 h2=>?_);obtain⟨b,off,ea,-,aq⟩:=hr (fun e=>by rw [e] at h1;simp at h1);obtain⟨b',aQ,ay,-,aA⟩:=aN (fun e=>by rw [e] at h2;simp at h2);rw [ea] at ay;injection ay with ay;injection ay with e4 e5;subst e4 e5;obtain⟨cs,⟨hc,-⟩,-,aj⟩:=aq i _ (Aaa h1);obtain⟨aF,⟨aR,-⟩,-,al⟩:=aA i _ (Aaa h2);subst hc aR;have a0:=(aj 0 _ rfl).symm.trans (al 0 _ rfl);have a1:=(aj 1 _ rfl).symm.trans (al 1 _ rfl);injection a0 with a0;injection a0 with a0;injection a1 with a1;injection a1 with _ a1;generalize l[i]=x at a0 a1 ⊢;generalize l'[i]=z at a0 a1 ⊢;cases x;cases z;cases a0;cases a1;rfl
theorem asV{cs:List Value}{y z:aaK}(h:acs S w cs y)(h':acs S w cs z):y=z:=by
 obtain⟨v,rfl,ha,-⟩:=h;obtain⟨v',e,aI,-⟩:=h';obtain⟨yo,yd,⟨ar,an⟩,⟨br,bn⟩,yf,aL⟩:=y;obtain⟨zo,zd,⟨cr,cn⟩,⟨dr,dn⟩,zf,aG⟩:=z;dsimp only at e ha aI;simp only [List.cons.injEq,Value.int.injEq,Value.bool.injEq,and_true,true_and] at e;obtain⟨rfl,rfl,rfl,rfl,rfl,rfl,rfl,rfl⟩:=e;rw [arB ha aI]
theorem atT(S:Nat->Prop)(w:World):∃dec:List Value->aaK,∀cs y,acs S w cs y->dec cs=y:=by
 classical
 exact ⟨fun cs => if h : ∃ y, acs S w cs y then h.choose else ⟨0, 0, ⟨false, 0⟩, ⟨false, 0⟩, 0, []⟩, fun cs y h => by
  have hx : ∃ y, acs S w cs y := ⟨y, h⟩
  dsimp only
  rw [dif_pos hx]
  exact asV hx.choose_spec h⟩
theorem apX{a:Option Addr}{n c:Nat}{l:List aaK}(h:SlAt S w 8 acs (.slice a n c) l):∃E:List (List Value),E.length=l.length∧asj S w a E∧∀(i:Nat) cs y,E[i]?=some cs->l[i]?=some y->acs S w cs y:=by
 obtain⟨ao,c',e,-,-,hr⟩:=h;injection e with e1 e2 e3;subst e1
 by_cases hl:l=[]
 . subst hl
   exact⟨[],rfl,fun i cs h=>by simp at h,fun i cs y h=>by simp at h⟩
 . obtain⟨b,off,ea,hS,aq⟩:=hr hl
   have h1:∀i:Nat,∃cs,∀y,l[i]?=some y->acs S w cs y∧cs.length=8∧aal w b (off+i * 8) cs:=fun i=>by
    cases hi:l[i]? with
    | none=>exact⟨[],fun y h=>by cases h⟩
    | some x =>
      obtain⟨cs,q1,q2,q3⟩:=aq i x hi;exact⟨cs,fun y h=>by cases h;exact⟨q1,q2,q3⟩⟩
   have hE:∀(i:Nat) cs,((List.range l.length).map fun i=>(h1 i).choose)[i]?=some cs->cs=(h1 i).choose∧∃y,l[i]?=some y:=fun i cs h=>by
    rw [Aak] at h;cases hi:(List.range l.length)[i]? with
    | none=>rw [hi] at h;cases h
    | some j =>
      rw [hi] at h;obtain⟨aM,hj⟩:=Aad.1 hi;rw [List.getElem_range] at hj;subst hj;simp only [Aaw,Option.some.injEq] at h;rw [List.length_range] at aM;exact⟨h.symm,_,Aaa aM⟩
   refine⟨(List.range l.length).map fun i=>(h1 i).choose,by simp,fun i cs h=>?_,fun i cs y h hy=>?_⟩
   . obtain⟨rfl,y,hy⟩:=hE i cs h
     obtain⟨-,q2,q3⟩:=(h1 i).choose_spec y hy;exact⟨b,off,ea,hS,q2,q3⟩
   . obtain⟨rfl,-⟩:=hE i cs h
     exact ((h1 i).choose_spec y hy).1
variable {W:World}{base:Nat}
theorem amU{l:List aaA}(h:ade W base 41 2 v (l.map aaz))(hn:∀x∈l,I64 x.n):SlAt (fun c=>c<W.heap.size) W 2 agi v l:=by
 rcases h.own.2 with⟨h1,h2⟩ | ⟨g,cap,cur,e1,h3,h4,h5,h6,h7,h8⟩
 . rw [Aah] at h2
   have hl:l=[]:=Aba h2;subst hl;exact⟨none,0,h1,Aac _,by decide,fun h=>absurd rfl h⟩
 . unfold maxLen at h6
   rw [Aah] at e1 h5;refine⟨some ⟨g,0,none⟩,cap,e1,h5,by omega,fun _=>⟨g,0,rfl,(Aag.1 h4).1,fun i x hx=>⟨aaz x,⟨rfl,hn x (Aae hx)⟩,rfl,fun j u hj=>?_⟩⟩⟩;obtain⟨g',c',e2,-,-,-,ag,-⟩:=h.at (i:=i) (cs:=aaz x) (by rw [Aak,hx];rfl) (by decide)
   rw [e1] at e2;injection e2 with e2;injection e2 with e2;injection e2 with e2;subst e2;rw [Aab];exact ag j u hj
theorem ade.isCells{sz:Nat}{e:TypeId}{xss:List (List Value)}(h:ade W base e sz v xss):∀c,v.ownBlock=some c->∃o:Obj,W.heap[c]?=some o∧o.isCells=true:=fun c hc=>by
 rcases h.own.2 with⟨h1,-⟩ | ⟨g',cap',cur,h1,h2,h3,-⟩
 . rw [h1] at hc;cases hc
 . rw [h1] at hc;cases hc;exact⟨_,h3,rfl⟩
theorem ab2.rev{W':World}{L:List aaK}{xs:List (List Value)}(h:ab2 W base S v L xs)(hr:ade W' base 49 8 v xs.reverse)(hk:Kp (fun b=>v.ownBlock≠some b) W W')(hS:∀c,S c->c<base):ab2 W' base S v L.reverse xs.reverse:=by
 refine⟨hr,by simp [h.len],fun i cs y h1 h2=>?_⟩;have hi:i<xs.length:=by have:=(Aad.1 h1).1;simpa using this
 rw [List.getElem?_reverse hi] at h1;rw [List.getElem?_reverse (by rw [<-h.len];exact hi),<-h.len] at h2;exact aay.out _ _ _ _ _ _ (fun _ h=>h) (hk.stays fun c hc e=>by have:=(h.row.lt c e).1;have:=hS c hc;omega) (h.rd _ cs y h1 h2)
theorem apY (words : Int) : ∀ (ys : List aaK) (s : List aaA × List aaK), (ys.foldl (aa0 words) s).1.length <= s.1.length + ys.length ∧ (ys.foldl (aa0 words) s).2.length <= s.2.length + ys.length
 | [],s=>⟨Aac _,Aac _⟩
 | y :: ys,s=>by
   have h:=apY words ys (aa0 words s y);have h1:(aa0 words s y).1.length<=s.1.length+1∧(aa0 words s y).2.length<=s.2.length+1:=by
    unfold aa0
    repeat' split
    all_goals (constructor <;> simp)
   rw [List.foldl_cons,Aa8];omega
theorem ar4 (words : Int) : ∀ (ys : List aaK) (s : List aaA × List aaK), (∀ y ∈ ys, I64 y.a.n) -> (∀ v ∈ s.1, I64 v.n) -> ∀ v ∈ (ys.foldl (aa0 words) s).1, I64 v.n
 | [],s,_,h=>h
 | y :: ys,s,hy,h=>by
   refine ar4 words ys (aa0 words s y) (fun z hz=>hy z (Aa2 _ hz)) (fun v hv=>?_);have h0:=hy y (Aa3 ..);unfold aa0 at hv
   repeat' split at hv
   all_goals first
    | exact h v hv
    | (simp at hv;exact hv.elim (fun q=>h v q) (fun q=>by rw [q];exact h0))
    | (simp at hv;subst hv;exact h0)
    | (simp at hv)
structure aeZ (w:World)(WD OB LB B:Nat)(words:Int)(S:Nat->Prop)(Wr wr:World)(vo vl:Value)(xs:List (List Value))(s:List aaA×List aaK):Prop where
 below:Below w.heap.size w wr
 lo:WD=w.heap.size∧OB=w.heap.size+1∧LB=w.heap.size+2∧w.heap.size+3<=B
 big:B<=wr.heap.size
 wd:wr.heap[WD]?=some (.cells #[.int .i64 words] 3 (0,0))
 ob:wr.heap[OB]?=some (.cells #[vo] 39 (0,0))
 lb:wr.heap[LB]?=some (.cells #[vl] 47 (0,0))
 out:ab2 wr B S vo s.2 xs
 vals:ade wr B 41 2 vl (s.1.map aaz)
 apart:∀c,vl.ownBlock=some c->vo.ownBlock≠some c
 ko:KeepsOthers Wr wr
 ke:acP B (fun k=>k=OB∨k=LB) Wr wr
section
variable {w Wr wr W' : World} {WD OB LB B : Nat} {words : Int} {S : Nat -> Prop} {vo vl : Value} {xs : List (List Value)} {s : List aaA × List aaK}
theorem aeZ.again(h:aeZ w WD OB LB B words S Wr wr vo vl xs s):aeZ w WD OB LB B words S wr wr vo vl xs s :=
 ⟨h.below,h.lo,h.big,h.wd,h.ob,h.lb,h.out,h.vals,h.apart,KeepsOthers.refl _,acP.refl _ _ _⟩
theorem aeZ.low(h:aeZ w WD OB LB B words S Wr wr vo vl xs s):(∀c,vo.ownBlock=some c->B<=c∧c<wr.heap.size)∧∀c,vl.ownBlock=some c->B<=c∧c<wr.heap.size :=
 ⟨fun c hc=>h.out.row.lt c hc,fun c hc=>h.vals.lt c hc⟩
theorem aeZ.later(h:aeZ w WD OB LB B words S Wr wr vo vl xs s)(hb:Below wr.heap.size wr W'):aeZ w WD OB LB B words S Wr W' vo vl xs s:=by
 have hl:=h.lo;have hB:=h.big;exact⟨h.below.trans (hb.mono h.below.size),hl,Aai hB hb.size,(hb.block WD (by omega)).trans h.wd,(hb.block OB (by omega)).trans h.ob,(hb.block LB (by omega)).trans h.lb,h.out.later hb,h.vals.off (Kp.of hb),h.apart,h.ko.trans (acE hb),adw h.ke (alP hb hB)⟩
theorem aeZ.put(h:aeZ w WD OB LB B words S Wr wr vo vl xs s)(hS:∀c,S c->c<w.heap.size){v':Value}{T:List aaA}(hw:ade wr B 41 2 v' (T.map aaz))(ha:∀c,v'.ownBlock=some c->vo.ownBlock≠some c) :
 aeZ w WD OB LB B words S Wr (wr.setCell ⟨LB,0,none⟩ v') vo v' xs (T,s.2):=by
 have hl:=h.lo;have hB:=h.big;have hk:Kp (fun c=>c≠LB) wr (wr.setCell ⟨LB,0,none⟩ v'):=aaP wr LB 0 v';exact⟨h.below.trans (hk.below fun b hb=>⟨by omega,by omega⟩),hl,Aai hB hk.size,(hk.block WD (by omega) (by omega)).trans h.wd,(hk.block OB (by omega) (by omega)).trans h.ob,aak h.lb v',h.out.kp hk (fun c hc e=>by have:=(h.out.row.lt c hc).1;omega) (fun c hc e=>by have:=hS c hc;omega),hw.off (hk.less fun c hc e=>by have:=(hw.lt c hc).1;omega),ha,h.ko.trans (KeepsOthers.setCell _ _ _),adw h.ke (ah0 _ _ (.inr rfl))⟩
theorem aeZ.push(h:aeZ w WD OB LB B words S Wr wr vo vl xs s)(hS:∀c,S c->c<w.heap.size){w4 w9:World}(hb:Below wr.heap.size wr w4){v':Value}{x:aaA}(ae:w9.ownsRow B 41 2 v' (s.1.length+1) ((s.1.map aaz).flatten++aaz x))(hg:w4.grownBy w9 vl.ownBlock)(aq:v'.ownBlock=vl.ownBlock∨v'.ownBlock=some w4.heap.size) :
 aeZ w WD OB LB B words S Wr (w9.setCell ⟨LB,0,none⟩ v') vo v' xs (s.1++[x],s.2):=by
 have h4:=h.later hb;have hl:=h.lo;have hB:=h4.big;have ad:=h4.low;have hk:Kp (fun c=>vl.ownBlock≠some c) w4 w9:=⟨hg.os,hg.tape,hg.output,hg.size,fun c hc hF=>hg.block c hc fun e=>hF e.symm⟩
 have af:∀c,c<B->vl.ownBlock≠some c:=fun c hc e=>by have:=(ad.2 c e).1;omega
 have h9:aeZ w WD OB LB B words S Wr w9 vo vo xs ([],s.2)->True:=fun _=>trivial;have ai:ab2 w9 B S vo s.2 xs:=h4.out.kp hk (fun c hc e=>h.apart c e hc) (fun c hc=>af c (by have:=hS c hc;omega));have ak:ade w9 B 41 2 v' ((s.1++[x]).map aaz):=by
  refine⟨?_,fun cs ag=>?_⟩
  . rw [Aa9,Abu,Aau,Aah]
    simpa using ae
  . obtain⟨y,-,rfl⟩:=Aal.1 ag
    rfl
 have aC : KeepsOthers Wr w9 := h4.ko.trans ⟨hg.size, fun k o aw hc => by
  rw [hk.block k (Aag.1 aw).1 (fun e => by
   obtain ⟨o', q1, q2⟩ := h4.vals.isCells k e
   rw [aw] at q1
   cases q1
   rw [hc] at q2
   cases q2)]
  exact aw⟩
 have az:acP B (fun k=>k=OB∨k=LB) Wr w9:=adw h4.ke ⟨hg.size,fun b au _=>hk.block b (by omega) (af b au)⟩;have ah:Kp (fun c=>c≠LB) w9 (w9.setCell ⟨LB,0,none⟩ v'):=aaP w9 LB 0 v';have aB:=hg.size;refine⟨(h4.below.trans (hk.below fun b au=>⟨by omega,af b (by omega)⟩)).trans (ah.below fun b au=>⟨by omega,by omega⟩),hl,Aai hB (Aai aB ah.size),(ah.block WD (by omega) (by omega)).trans ((hk.block WD (by omega) (af WD (by omega))).trans h4.wd),(ah.block OB (by omega) (by omega)).trans ((hk.block OB (by omega) (af OB (by omega))).trans h4.ob),aak ((hk.block LB (by omega) (af LB (by omega))).trans h4.lb) v',ai.kp ah (fun c hc e=>by have:=(ai.row.lt c hc).1;omega) (fun c hc e=>by have:=hS c hc;omega),ak.off (ah.less fun c hc e=>by have:=(ak.lt c hc).1;omega),fun c hc e=>?_,aC.trans (KeepsOthers.setCell _ _ _),adw az (ah0 _ _ (.inr rfl))⟩;rcases aq with h1 | h1
 . exact h.apart c (by rw [<-h1];exact hc) e
 . rw [h1] at hc
   injection hc with hc;have:=(ad.1 c e).2;omega
theorem aeZ.snoc(h:aeZ w WD OB LB B words S Wr wr vo vl xs s)(hS:∀c,S c->c<w.heap.size){w4 w9:World}(hb:Below wr.heap.size wr w4){v':Value}{cs:List Value}{y:aaK}(ag:cs.length=8)(hy:acs S wr cs y)(ae:w9.ownsRow B 49 8 v' (xs.length+1) (xs.flatten++cs))(hg:w4.grownBy w9 vo.ownBlock)(aq:v'.ownBlock=vo.ownBlock∨v'.ownBlock=some w4.heap.size) :
 aeZ w WD OB LB B words S Wr (w9.setCell ⟨OB,0,none⟩ v') v' vl (xs++[cs]) (s.1,s.2++[y]):=by
 have h4:=h.later hb;have hl:=h.lo;have hB:=h4.big;have ad:=h4.low;have hk:Kp (fun c=>vo.ownBlock≠some c) w4 w9:=⟨hg.os,hg.tape,hg.output,hg.size,fun c hc hF=>hg.block c hc fun e=>hF e.symm⟩
 have af:∀c,c<B->vo.ownBlock≠some c:=fun c hc e=>by have:=(ad.1 c e).1;omega
 have ai:ab2 w9 B S v' (s.2++[y]) (xs++[cs]):=h.out.snoc hb ag hy ae hg (fun c hc=>by have:=hS c hc;omega);have av:ade w9 B 41 2 vl (s.1.map aaz):=h4.vals.off (hk.less fun c hc e=>h.apart c hc e)
 have aC : KeepsOthers Wr w9 := h4.ko.trans ⟨hg.size, fun k o aw hc => by
  rw [hk.block k (Aag.1 aw).1 (fun e => by
   obtain ⟨o', q1, q2⟩ := h4.out.row.isCells k e
   rw [aw] at q1
   cases q1
   rw [hc] at q2
   cases q2)]
  exact aw⟩
 have az:acP B (fun k=>k=OB∨k=LB) Wr w9:=adw h4.ke ⟨hg.size,fun b au _=>hk.block b (by omega) (af b au)⟩;have ah:Kp (fun c=>c≠OB) w9 (w9.setCell ⟨OB,0,none⟩ v'):=aaP w9 OB 0 v';have aB:=hg.size;refine⟨(h4.below.trans (hk.below fun b au=>⟨by omega,af b (by omega)⟩)).trans (ah.below fun b au=>⟨by omega,by omega⟩),hl,Aai hB (Aai aB ah.size),(ah.block WD (by omega) (by omega)).trans ((hk.block WD (by omega) (af WD (by omega))).trans h4.wd),aak ((hk.block OB (by omega) (af OB (by omega))).trans h4.ob) v',(ah.block LB (by omega) (by omega)).trans ((hk.block LB (by omega) (af LB (by omega))).trans h4.lb),ai.kp ah (fun c hc e=>by have:=(ai.row.lt c hc).1;omega) (fun c hc e=>by have:=hS c hc;omega),av.off (ah.less fun c hc e=>by have:=(av.lt c hc).1;omega),fun c hc e=>?_,aC.trans (KeepsOthers.setCell _ _ _),adw az (ah0 _ _ (.inl rfl))⟩;rcases aq with h1 | h1
 . exact h.apart c hc (by rw [<-h1];exact e)
 . rw [h1] at e
   injection e with e;have:=(ad.2 c hc).2;omega
theorem aeZ.grown(h:aeZ w WD OB LB B words S Wr wr vo vl xs s)(hS:∀c,S c->c<w.heap.size){row:Option Nat}(hg:wr.grownBy W' row)(hr:∀r,row=some r->B<=r∧∃o:Obj,wr.heap[r]?=some o∧o.isCells=false):aeZ w WD OB LB B words S W' W' vo vl xs s:=by
 have hl:=h.lo;have hB:=h.big;have hk:Kp (fun c=>row≠some c) wr W':=⟨hg.os,hg.tape,hg.output,hg.size,fun c hc hF=>hg.block c hc fun e=>hF e.symm⟩
 have af:∀c,c<B->row≠some c:=fun c hc e=>by have:=(hr c e).1;omega
 have aK:∀c,(∃o:Obj,wr.heap[c]?=some o∧o.isCells=true)->row≠some c:=fun c ⟨o,q1,q2⟩ e=>by
  obtain⟨-,o',q3,q4⟩:=hr c e;rw [q1] at q3;cases q3;rw [q2] at q4;cases q4
 exact⟨h.below.trans (hk.below fun b au=>⟨by omega,af b (by omega)⟩),hl,Aai hB hg.size,(hk.block WD (by omega) (af WD (by omega))).trans h.wd,(hk.block OB (by omega) (af OB (by omega))).trans h.ob,(hk.block LB (by omega) (af LB (by omega))).trans h.lb,h.out.kp hk (fun c hc=>aK c (h.out.row.isCells c hc)) (fun c hc=>af c (by have:=hS c hc;omega)),h.vals.off (hk.less fun c hc=>aK c (h.vals.isCells c hc)),h.apart,KeepsOthers.refl _,acP.refl _ _ _⟩
end
end
end Go.Proofs.YtpeejlpcikefcaaGreatDoor
