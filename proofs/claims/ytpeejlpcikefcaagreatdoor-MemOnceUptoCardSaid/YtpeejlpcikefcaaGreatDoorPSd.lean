import Derived.Test.YtpeejlpcikefcaaGreatDoorPGEach
import Derived.Test.YtpeejlpcikefcaaGreatDoorPRefU
/- calls.CopyBlock, plain: the rows of a block. calls.CopyBlock: the walk, with all rows. calls.CopyFunc: the walk, with all rows. A unit's functions in memory, each with all its rows. A unit's functions in memory, each with its row of blocks in a part of memory of its own. turneryref5.Clone, with the rows of blocks known apart. A cloned unit whose blocks' lists are laid anew, one by one. -/
set_option maxHeartbeats 8000000
set_option maxRecDepth 100000
namespace Go.Proofs.YtpeejlpcikefcaaGreatDoor
section
open Go.RowKit
def akN (b n : Nat) : Pth -> Prop
 | .phis c=>c=b
 | .src c i=>c=b∧i<n
 | _=>False
def akO (b n : Nat) : Pth -> Prop
 | .list c=>c=b
 | .args c i=>c=b∧i<n
 | _=>False
def as2 (b : Nat) : Pth -> Prop
 | .to c=>c=b
 | _=>False
def okX (b : Nat) (x : DBlock) : Pth -> Prop
 | .phis c=>c=b
 | .src c i=>c=b∧i<x.phis.length
 | .list c=>c=b
 | .args c i=>c=b∧i<x.list.length
 | .to c=>c=b
 | _=>False
def elX (x : DBlock) (V : Pth -> Value) : Pth -> List (List Value)
 | .phis c=>x.phis.mapIdx fun i p=>[.int .i64 p.dst,V (.src c i)]
 | .src _ i=>(x.phis.getD i abu).src.map aaA
 | .list c=>x.list.mapIdx fun i y=>abN y (V (.args c i))
 | .args _ i=>(x.list.getD i abM).args.map aaA
 | .to _=>x.fin.to.map fun t=>[.int .i64 t]
 | _=>[]
def aej(x:DBlock)(k:Nat):DBlock:={ x with phis:=x.phis.take k }
def aek(x:DBlock)(k:Nat):DBlock:={ x with list:=x.list.take k }
theorem afW {α:Type}{l:List α}{k:Nat}{x:α}(h:l[k]?=some x):l.take (k+1)=l.take k++[x]:=by rw [Acb,h];rfl
theorem aea {α β:Type}(f:Nat->α->β)(l:List α)(x:α):(l++[x]).mapIdx f=l.mapIdx f++[f l.length x]:=by
 rw [List.mapIdx_append];simp
theorem aby {α β:Type}{f g:Nat->α->β}{l:List α}(h:∀i x,l[i]?=some x->f i x=g i x):l.mapIdx f=l.mapIdx g:=by
 apply Aap;intro i;rw [Abr,Abr];cases hx:l[i]? with
 | none=>rfl
 | some x=>rw [Aaw,Aaw,h i x hx]
section
variable {W W5 W6 W9 : World} {base b k : Nat} {x : DBlock} {V : Pth -> Value}
theorem aq8 (hr : aah W base (akN b k) V (elX (aej x k) V)) {p : acn} (hp : x.phis[k]? = some p) (ao : Below W.heap.size W W5) {sv : Value} {B5 fn : Nat} (hs : W5.ownsRow B5 41 2 sv fn (p.src.map aaA).flatten) (aB : p.src.length = fn) (c8 : W.heap.size <= B5) (aj : base <= W.heap.size)
 {PB:Nat} (aI:W.heap.size<=PB∧PB<B5) (aH:Kp (fun c=>c≠PB) W5 W6) {v':Value} (aE:W9.ownsRow base 115 2 v' (k+1) ((elX (aej x k) V (.phis b)).flatten++[.int .i64 p.dst,sv])) (hg:W6.grownBy W9 (V (.phis b)).ownBlock)
 (aL:v'.ownBlock=(V (.phis b)).ownBlock∨v'.ownBlock=some W6.heap.size) :
 aah W9 base (akN b (k+1)) (aaU (aaU V (.src b k) sv) (.phis b) v') (elX (aej x (k+1)) (aaU (aaU V (.src b k) sv) (.phis b) v')):=by
 have av:=(Aad.1 hp).1;have r5:=hr.later ao;have de:=ao.size;have cG:¬akN b k (.src b k):=fun h=>Abp _ h.2;have r6:aah W6 base (akN b k) V (elX (aej x k) V):=aah.kp r5 aH fun q hq c hc e=>by have:=(hr.lt hq c hc).2;omega
 have a8:W6.ownsRow base 41 2 sv (p.src.map aaA).length (p.src.map aaA).flatten:=by
  rw [Aah,aB];refine ab3 ?_ (Aai aj c8);refine⟨hs.1,?_⟩;rcases hs.2 with h1 | ⟨g,cap,cur,e1,h3,h4,h5⟩
  . exact .inl h1
  . exact .inr ⟨g,cap,cur,e1,h3,(aH.block g (Aag.1 h4).1 (by omega)).trans h4,h5⟩
 have bA:∀c,sv.ownBlock=some c->B5<=c:=fun c hc=>(hs.lt c hc).1
 -- the sources' row beside the others
 have r7:aah W6 base (fun q=>akN b k q∨q = .src b k) (aaU V (.src b k) sv) (aaU (elX (aej x k) V) (.src b k) (p.src.map aaA)):=by
  refine⟨fun q hq=>?_,fun q hq=>?_,fun q1 q2 h1 h2 ai c hc=>?_⟩
  . by_cases e:q = .src b k
    . subst e;rw [aaj,aaj];exact a8
    . rw [aag _ _ e,aag _ _ e];exact r6.own q (hq.resolve_right e)
  . by_cases e:q = .src b k
    . subst e;rw [aaj];intro cs ag;obtain⟨v,_,rfl⟩:=Aal.1 ag;rfl
    . rw [aag _ _ e];exact r6.wid q (hq.resolve_right e)
  . by_cases e1:q1 = .src b k
    . have e2:q2 ≠ .src b k:=fun e=>ai (e1.trans e.symm)
      rw [e1,aaj] at hc;rw [aag _ _ e2];intro h3;have:=bA c hc;have:=(hr.lt (h2.resolve_right e2) c h3).2;omega
    . rw [aag _ _ e1] at hc
      by_cases e2:q2 = .src b k
      . rw [e2,aaj]
        intro h3;have:=bA c h3;have:=(hr.lt (h1.resolve_right e1) c hc).2;omega
      . rw [aag _ _ e2];exact r6.apart q1 q2 (h1.resolve_right e1) (h2.resolve_right e2) ai c hc
 have bd:(Pth.phis b:Pth) ≠ .src b k:=by simp
 have aS:(elX (aej x k) V (.phis b)++[[.int .i64 p.dst,sv]]:List (List Value)).flatten=(elX (aej x k) V (.phis b)).flatten++[.int .i64 p.dst,sv]:=by simp
 have hlen:(elX (aej x k) V (.phis b)++[[.int .i64 p.dst,sv]]:List (List Value)).length=k+1:=by simp [elX,aej];omega
 have r9 := r7.put (.phis b) (v' := v') (xss := elX (aej x k) V (.phis b) ++ [[.int .i64 p.dst, sv]]) (by rw [aS, hlen]; exact aE) (fun cs ag => by
  rcases Aa7.1 ag with h | h
  . exact hr.wid (.phis b) rfl cs h
  . rw [Aax] at h; rw [h]; rfl) hg (fun q hq ai c hc e => by
  rcases hq with hq | rfl
  . rw [aag _ _ (fun e => by subst e; exact cG hq)] at hc
    exact hr.apart q (.phis b) hq rfl ai c hc e
  . rw [aaj] at hc
    have := bA c hc
    have := (hr.lt (p := .phis b) rfl c e).2
    omega) (fun c hc => by
  rcases aL with h | h
  . exact .inl (by rw [<- h]; exact hc)
  . rw [h] at hc; cases hc; exact .inr (Aac _))
 refine (r9.less (ok':=akN b (k+1)) fun q hq=>?_).congr (fun q _=>rfl) (fun q hq=>?_)
 . cases q with
   | phis c=>exact .inr (by rw [show c=b from hq])
   | src c i =>
     obtain⟨rfl,hi⟩:=hq;rcases Abk.1 hi with h | h
     . exact .inl (.inl ⟨rfl,h⟩)
     . exact .inl (.inr (by rw [h]))
   | _=>exact absurd hq (by simp [akN])
 . cases q with
   | phis c =>
     obtain rfl:c=b:=hq;rw [aaj];show (x.phis.take (k+1)).mapIdx _=(x.phis.take k).mapIdx _++_;rw [afW hp,aea]
     congr 1
     . refine aby fun i y hi=>?_
       have cR:i<k:=by have:=(Aad.1 hi).1;rw [Aar] at this;omega
       rw [aag _ _ (by simp),aag _ _ (by simp;omega)]
     . rw [Aar,Abt (by omega),aag _ _ (by simp),aaj]
   | src c i =>
     obtain⟨rfl,hi⟩:=hq;rw [aag _ _ (by simp)];show ((x.phis.take (k+1)).getD i abu).src.map aaA=_;rcases Abk.1 hi with h | h
     . rw [aag _ _ (by simp;omega)]
       show _=((x.phis.take k).getD i abu).src.map aaA;rw [Aaf,Aaf,Abh,Abh,if_pos (by omega),if_pos h]
     . subst h
       rw [aaj,Aaf,Abh,if_pos (by omega),hp];rfl
   | _=>exact absurd hq (by simp [akN])
theorem aq9 (hr : aah W base (akO b k) V (elX (aek x k) V)) {y : aaJ} (hp : x.list[k]? = some y) (ao : Below W.heap.size W W5) {sv : Value} {B5 fn : Nat} (hs : W5.ownsRow B5 41 2 sv fn (y.args.map aaA).flatten) (aB : y.args.length = fn) (c8 : W.heap.size <= B5) (aj : base <= W.heap.size)
 {PB:Nat} (aI:W.heap.size<=PB∧PB<B5) (aH:Kp (fun c=>c≠PB) W5 W6) {v':Value} (aE:W9.ownsRow base 49 8 v' (k+1) ((elX (aek x k) V (.list b)).flatten++abN y sv)) (hg:W6.grownBy W9 (V (.list b)).ownBlock)
 (aL:v'.ownBlock=(V (.list b)).ownBlock∨v'.ownBlock=some W6.heap.size) :
 aah W9 base (akO b (k+1)) (aaU (aaU V (.args b k) sv) (.list b) v') (elX (aek x (k+1)) (aaU (aaU V (.args b k) sv) (.list b) v')):=by
 have av:=(Aad.1 hp).1;have r5:=hr.later ao;have de:=ao.size;have cG:¬akO b k (.args b k):=fun h=>Abp _ h.2;have r6:aah W6 base (akO b k) V (elX (aek x k) V):=aah.kp r5 aH fun q hq c hc e=>by have:=(hr.lt hq c hc).2;omega
 have a8:W6.ownsRow base 41 2 sv (y.args.map aaA).length (y.args.map aaA).flatten:=by
  rw [Aah,aB];refine ab3 ?_ (Aai aj c8);refine⟨hs.1,?_⟩;rcases hs.2 with h1 | ⟨g,cap,cur,e1,h3,h4,h5⟩
  . exact .inl h1
  . exact .inr ⟨g,cap,cur,e1,h3,(aH.block g (Aag.1 h4).1 (by omega)).trans h4,h5⟩
 have bA:∀c,sv.ownBlock=some c->B5<=c:=fun c hc=>(hs.lt c hc).1;have r7:aah W6 base (fun q=>akO b k q∨q = .args b k) (aaU V (.args b k) sv) (aaU (elX (aek x k) V) (.args b k) (y.args.map aaA)):=by
  refine⟨fun q hq=>?_,fun q hq=>?_,fun q1 q2 h1 h2 ai c hc=>?_⟩
  . by_cases e:q = .args b k
    . subst e;rw [aaj,aaj];exact a8
    . rw [aag _ _ e,aag _ _ e];exact r6.own q (hq.resolve_right e)
  . by_cases e:q = .args b k
    . subst e;rw [aaj];intro cs ag;obtain⟨v,_,rfl⟩:=Aal.1 ag;rfl
    . rw [aag _ _ e];exact r6.wid q (hq.resolve_right e)
  . by_cases e1:q1 = .args b k
    . have e2:q2 ≠ .args b k:=fun e=>ai (e1.trans e.symm)
      rw [e1,aaj] at hc;rw [aag _ _ e2];intro h3;have:=bA c hc;have:=(hr.lt (h2.resolve_right e2) c h3).2;omega
    . rw [aag _ _ e1] at hc
      by_cases e2:q2 = .args b k
      . rw [e2,aaj]
        intro h3;have:=bA c h3;have:=(hr.lt (h1.resolve_right e1) c hc).2;omega
      . rw [aag _ _ e2];exact r6.apart q1 q2 (h1.resolve_right e1) (h2.resolve_right e2) ai c hc
 have aS:(elX (aek x k) V (.list b)++[abN y sv]:List (List Value)).flatten=(elX (aek x k) V (.list b)).flatten++abN y sv:=by simp
 have hlen:(elX (aek x k) V (.list b)++[abN y sv]:List (List Value)).length=k+1:=by simp [elX,aek];omega
 have r9 := r7.put (.list b) (v' := v') (xss := elX (aek x k) V (.list b) ++ [abN y sv]) (by rw [aS, hlen]; exact aE) (fun cs ag => by
  rcases Aa7.1 ag with h | h
  . exact hr.wid (.list b) rfl cs h
  . rw [Aax] at h; rw [h]; rfl) hg (fun q hq ai c hc e => by
  rcases hq with hq | rfl
  . rw [aag _ _ (fun e => by subst e; exact cG hq)] at hc
    exact hr.apart q (.list b) hq rfl ai c hc e
  . rw [aaj] at hc
    have := bA c hc
    have := (hr.lt (p := .list b) rfl c e).2
    omega) (fun c hc => by
  rcases aL with h | h
  . exact .inl (by rw [<- h]; exact hc)
  . rw [h] at hc; cases hc; exact .inr (Aac _))
 refine (r9.less (ok':=akO b (k+1)) fun q hq=>?_).congr (fun q _=>rfl) (fun q hq=>?_)
 . cases q with
   | list c=>exact .inr (by rw [show c=b from hq])
   | args c i =>
     obtain⟨rfl,hi⟩:=hq;rcases Abk.1 hi with h | h
     . exact .inl (.inl ⟨rfl,h⟩)
     . exact .inl (.inr (by rw [h]))
   | _=>exact absurd hq (by simp [akO])
 . cases q with
   | list c =>
     obtain rfl:c=b:=hq;rw [aaj];show (x.list.take (k+1)).mapIdx _=(x.list.take k).mapIdx _++_;rw [afW hp,aea]
     congr 1
     . refine aby fun i y hi=>?_
       have cR:i<k:=by have:=(Aad.1 hi).1;rw [Aar] at this;omega
       rw [aag _ _ (by simp),aag _ _ (by simp;omega)]
     . rw [Aar,Abt (by omega),aag _ _ (by simp),aaj]
   | args c i =>
     obtain⟨rfl,hi⟩:=hq;rw [aag _ _ (by simp)];show ((x.list.take (k+1)).getD i abM).args.map aaA=_;rcases Abk.1 hi with h | h
     . rw [aag _ _ (by simp;omega)]
       show _=((x.list.take k).getD i abM).args.map aaA;rw [Aaf,Aaf,Abh,Abh,if_pos (by omega),if_pos h]
     . subst h
       rw [aaj,Aaf,Abh,if_pos (by omega),hp];rfl
   | _=>exact absurd hq (by simp [akO])
end
theorem aah.join {W : World} {base B : Nat} {ok ok' : Pth -> Prop} {V V' : Pth -> Value} {C C' : Pth -> List (List Value)} (P : Pth -> Bool) (h : aah W base ok V C) (h' : aah W B ok' V' C') (hB : base <= B) (aw : ∀ q, ok q -> ∀ c, (V q).ownBlock = some c -> c < B)
 (h0:∀q,ok q->P q=false) (h1:∀q,ok' q->P q=true):aah W base (fun q=>ok q∨ok' q) (fun q=>if P q=true then V' q else V q) (fun q=>if P q=true then C' q else C q):=by
 have key:∀q,ok q∨ok' q->(ok' q∧P q=true)∨(ok q∧¬P q=true):=fun q hq=>by
  rcases hq with h2 | h2
  . exact .inr ⟨h2,by rw [h0 q h2];simp⟩
  . exact .inl ⟨h2,h1 q h2⟩
 refine⟨fun q hq=>?_,fun q hq=>?_,fun q1 q2 g1 g2 ai c hc=>?_⟩
 . rcases key q hq with⟨h2,e⟩ | ⟨h2,e⟩
   . simp only [if_pos e];exact ab3 (h'.own q h2) hB
   . simp only [if_neg e];exact h.own q h2
 . rcases key q hq with⟨h2,e⟩ | ⟨h2,e⟩
   . simp only [if_pos e];exact h'.wid q h2
   . simp only [if_neg e];exact h.wid q h2
 . rcases key q1 g1 with⟨h2,e⟩ | ⟨h2,e⟩
   . simp only [if_pos e] at hc
     rcases key q2 g2 with⟨h3,e'⟩ | ⟨h3,e'⟩
     . simp only [if_pos e'];exact h'.apart q1 q2 h2 h3 ai c hc
     . simp only [if_neg e']
       intro h4;have:=(h'.lt h2 c hc).1;have:=aw q2 h3 c h4;omega
   . simp only [if_neg e] at hc
     rcases key q2 g2 with⟨h3,e'⟩ | ⟨h3,e'⟩
     . simp only [if_pos e']
       intro h4;have:=(h'.lt h3 c h4).1;have:=aw q1 h2 c hc;omega
     . simp only [if_neg e'];exact h.apart q1 q2 h2 h3 ai c hc
end
section
open Go.RowKit
theorem anE {fn : Func} {t : Nat} (aB : fn.results = #[.cell t 46]) {tmps : Array Value} {W : World} {UO : Nat} {u0 u1 u2 u3 u4 u5 : Value}
 (h2:tmps.getD t undef = .pointer (some ⟨UO,0,none⟩)) (hF:aal W UO 0 [u0,u1,u2,u3,u4,u5]) :
 (results fn tmps).run Tryz.prog W = .ok (.agg #[u0,u1,u2,u3,u4,u5]) W:=by
 obtain⟨a0,a1,a2,a3,a4,a5⟩:=hF.get6;simp only [Acl] at h2;simp [results,aB,h2,go_sem,a0,a1,a2,a3,a4,a5]
theorem aah.nilX1(W:World)(base b:Nat)(x:DBlock):aah W base (akN b 0) (fun _ => .slice none 0 0) (elX (aej x 0) fun _ => .slice none 0 0):=by
 refine⟨fun q hq=>?_,fun q hq=>?_,fun q1 q2 _ _ _ c hc=>by cases hc⟩
 . cases q with
   | phis c=>exact World.ownsRow_nil _ _ _ _
   | src c i=>exact absurd hq.2 (Aa4 _)
   | _=>exact absurd hq (by simp [akN])
 . cases q with
   | phis c=>intro cs ag;cases ag
   | src c i=>exact absurd hq.2 (Aa4 _)
   | _=>exact absurd hq (by simp [akN])
theorem aah.nilX2(W:World)(base b:Nat)(x:DBlock):aah W base (akO b 0) (fun _ => .slice none 0 0) (elX (aek x 0) fun _ => .slice none 0 0):=by
 refine⟨fun q hq=>?_,fun q hq=>?_,fun q1 q2 _ _ _ c hc=>by cases hc⟩
 . cases q with
   | list c=>exact World.ownsRow_nil _ _ _ _
   | args c i=>exact absurd hq.2 (Aa4 _)
   | _=>exact absurd hq (by simp [akO])
 . cases q with
   | list c=>intro cs ag;cases ag
   | args c i=>exact absurd hq.2 (Aa4 _)
   | _=>exact absurd hq (by simp [akO])
theorem ajJ {S:Nat->Prop}{fa:Option Addr}{fn fc:Nat}{l:List Int}{w W:World}(h:SlAt S w 1 acx (.slice fa fn fc) l)(hb:Below w.heap.size w W)(hn:fn<=1048576) :
 Calls Tryz.prog 28 #[.slice fa fn fc] W fun e w'=>∃va vc,e = .returned (.slice va fn vc)∧w'.ownsRow W.heap.size 3 1 (.slice va fn vc) fn (l.map fun t=>[Value.int .i64 t]).flatten∧Below W.heap.size W w':=by
 obtain⟨xss,hl,dS,dK,dG,bf,hc⟩:=aez h (by decide);have e:=ajt (fun t=>[Value.int .i64 t]) (by omega) dK (fun cs x h=>h.1);subst e;refine agz fa fn fc _ W ?_ bf (fun b dI j u hj=>?_) (adq fun cs ag u hu=>?_) hn
 . rw [abl _ (fun i cs hi=>dG cs (Aae hi)),dS]
 . have h:=hc b dI j u hj
   rw [hb.cell (p:=b.add j) (abv h)];exact h
 . obtain⟨v,_,rfl⟩:=Aal.1 ag
   rw [Aax] at hu;rw [hu];rfl
def isL : Pth -> Bool
 | .list _=>true
 | .args _ _=>true
 | _=>false
def isT : Pth -> Bool
 | .to _=>true
 | _=>false
theorem anF {W W1 W2 W3 : World} {base B2 B3 b : Nat} {x : DBlock} {V V2 : Pth -> Value} {tv : Value} (h1 : aah W1 base (akN b x.phis.length) V (elX x V)) (h2 : aah W2 B2 (akO b x.list.length) V2 (elX x V2)) {tn : Nat} (h3 : W3.ownsRow B3 3 1 tv tn (x.fin.to.map fun t => [Value.int .i64 t]).flatten) (aX : x.fin.to.length = tn)
 (g1:base<=B2∧W1.heap.size<=B2) (g2:B2<=B3∧W2.heap.size<=B3) {F:Nat->Prop} (k1:Kp F W1 W) (k2:Kp F W2 W) (k3:Kp F W3 W) (hF:∀c,base<=c->F c) :
 aah W base (okX b x) (fun q=>if isT q=true then tv else if isL q=true then V2 q else V q) (elX x fun q=>if isT q=true then tv else if isL q=true then V2 q else V q):=by
 have r1:aah W base (akN b x.phis.length) V (elX x V):=aah.kp h1 k1 fun q hq c hc=>hF c (h1.lt hq c hc).1;have r2:aah W B2 (akO b x.list.length) V2 (elX x V2):=aah.kp h2 k2 fun q hq c hc=>hF c (Aai g1.1 (h2.lt hq c hc).1);have r3:aah W B3 (as2 b) (fun _=>tv) (elX x V):=by
  refine⟨fun q hq=>?_,fun q hq=>?_,fun q1 q2 e1 e2 ai=>?_⟩
  . cases q with
    | «to» c =>
      show W.ownsRow B3 3 1 tv (x.fin.to.map _).length (x.fin.to.map _).flatten;rw [Aah,aX];refine⟨h3.1,?_⟩;rcases h3.2 with h4 | ⟨g,cap,cur,e1,h5,h6,h7⟩
      . exact .inl h4
      . exact .inr ⟨g,cap,cur,e1,h5,(k3.block g (Aag.1 h6).1 (hF g (by omega))).trans h6,h7⟩
    | _=>exact absurd hq (by simp [as2])
  . cases q with
    | «to» c=>intro cs ag;obtain⟨t,_,rfl⟩:=Aal.1 ag;rfl
    | _=>exact absurd hq (by simp [as2])
  . cases q1 with
    | «to» c =>
      cases q2 with
      | «to» c'=>exact absurd (by rw [show c=b from e1,show c'=b from e2]) ai
      | _=>exact absurd e2 (by simp [as2])
    | _=>exact absurd e1 (by simp [as2])
 have j1:=aah.join isL r1 r2 g1.1 (fun q hq c hc=>Aay (h1.lt hq c hc).2 g1.2) (fun q hq=>by cases q <;> first | rfl | exact absurd hq (by simp [akN])) (fun q hq=>by cases q <;> first | rfl | exact absurd hq (by simp [akO]))
 have j2 := aah.join isT j1 r3 (Aai g1.1 g2.1) (fun q hq c hc => by
  rcases hq with hq | hq
  . have e : isL q = false := by cases q <;> first | rfl | exact absurd hq (by simp [akN])
    simp only [e, Aca, if_false] at hc
    have := (h1.lt hq c hc).2
    omega
  . have e : isL q = true := by cases q <;> first | rfl | exact absurd hq (by simp [akO])
    simp only [e, if_true] at hc
    have := (h2.lt hq c hc).2
    omega) (fun q hq => by cases q <;> first | rfl | exact absurd hq (by simp [akN, akO])) (fun q hq => by cases q <;> first | rfl | exact absurd hq (by simp [as2]))
 refine (j2.less (ok':=okX b x) fun q hq=>?_).congr (fun q _=>rfl) (fun q hq=>?_)
 . cases q with
   | phis c=>exact .inl (.inl hq)
   | src c i=>exact .inl (.inl hq)
   | list c=>exact .inl (.inr hq)
   | args c i=>exact .inl (.inr hq)
   | «to» c=>exact .inr hq
   | _=>exact absurd hq (by simp [okX])
 . cases q <;> first | rfl | exact absurd hq (by simp [okX])
theorem akP {S : Nat -> Prop} (b : Nat) (x : DBlock) (pa la ta : Option Addr) (p q tn pc lc tc : Nat) (w : World) (hp : SlAt S w 2 amd (.slice pa p pc) x.phis) (hl : SlAt S w 8 acb (.slice la q lc) x.list) (ht : SlAt S w 1 acx (.slice ta tn tc) x.fin.to)
 (bk:akb x) (bd:x.phis.length=p) (dh:x.list.length=q) (aX:x.fin.to.length=tn) :
 Calls Tryz.prog 65 #[.agg #[.slice pa p pc,.slice la q lc,.int .i64 x.fin.kind,.bool x.fin.on.reg,.int .i64 x.fin.on.n,.slice ta tn tc]] w fun e w' =>
  ∃V,e = .returned (.agg #[V (.phis b),V (.list b),.int .i64 x.fin.kind,.bool x.fin.on.reg,.int .i64 x.fin.on.n,V (.to b)])∧aah w' w.heap.size (okX b x) V (elX x V)∧Below w.heap.size w w':=by
 obtain⟨ip,dF,c6,cL,db⟩:=info_parts aob;obtain⟨ii,et,cC,cI,cO⟩:=info_parts ahr;have eE:p<=1048576:=by rw [<-bd];exact bk.phis
 have eA:q<=1048576:=by rw [<-dh];exact bk.list
 have dO:tn<=1048576:=by rw [<-aX];exact bk.to
 obtain⟨ek,bK⟩:∃ek,ek=x.fin.kind:=⟨_,rfl⟩
 obtain⟨er,bD⟩:∃er,er=x.fin.on.reg:=⟨_,rfl⟩
 obtain⟨en,bH⟩:∃en,en=x.fin.on.n:=⟨_,rfl⟩
 rw [<-bK,<-bD,<-bH];have Hp:=hid hp;have Hl:=hid hl;have Ht:=hid ht;have cr:=hid bk;have HN:Hid (x.phis.length=p∧x.list.length=q∧x.fin.to.length=tn):=⟨bd,dh,aX⟩
 clear hp hl ht bk bK bD bH bd dh aX;go_enter Tryz.func65,Tryz.ntmps65;go_upto_region 1 with (fail)
 obtain⟨W,hW⟩:∃W,W=(w.alloc (.cells #[.slice pa p pc,.slice la q lc,.int .i64 ek,.bool er,.int .i64 en,.slice ta tn tc] 46)).alloc (.cells #[.slice none 0 0,.slice none 0 0,.int .i64 0,.bool false,.int .i64 0,.slice none 0 0] 46):=⟨_,rfl⟩
 obtain⟨bt,h0,h1⟩:=abE w (.cells #[.slice pa p pc,.slice la q lc,.int .i64 ek,.bool er,.int .i64 en,.slice ta tn tc] 46) (.cells #[.slice none 0 0,.slice none 0 0,.int .i64 0,.bool false,.int .i64 0,.slice none 0 0] 46);rw [<-hW] at bt h0 h1 ⊢;have bS:Below w.heap.size w W:=by rw [hW];exact bE
 obtain⟨UB,bu⟩:∃UB,UB=w.heap.size:=⟨_,rfl⟩
 obtain⟨UO,bB⟩:∃UO,UO=w.heap.size+1:=⟨_,rfl⟩
 rw [<-bB] at h1 ⊢;rw [<-bu] at h0 ⊢;have aA:Hid (UB=w.heap.size∧UO=w.heap.size+1∧W.heap.size=w.heap.size+2):=⟨bu,bB,bt⟩
 have H0:=hid h0;have H1:=hid h1;have bm:=hid bS;have c0:=(aad (cs:=[_,_,_,_,_,_]) h0).get6.1;have zB:=aac c0;clear hW h0 h1 bS bu bB bt;go_wp2_with fail;clear c0 zB;go_loopw [3,12] (fun s3 s12 wr=>∃(k:Nat) (V:Pth->Value) (va:Option Addr) (vc:Nat),k<=p∧s12 = .int .i64 (k:Int)∧s3 = .slice va k vc∧V (.phis b) = .slice va k vc∧aah wr W.heap.size (akN b k) V (elX (aej x k) V)∧Below W.heap.size W wr) (fun _ s12 _=>p - (intOf s12).toNat)
 case atStart=>exact⟨0,_,none,0,Aaj _,rfl,rfl,rfl,aah.nilX1 _ _ _ _,Below.refl _ _⟩
 case round =>
  obtain⟨wo,bZ⟩:∃wo:World,wo=wr:=⟨_,rfl⟩
  subst bZ;obtain⟨k,V,va,vc,hk,rfl,rfl,dE,az,hb⟩:=hrel;have ad:=hid az;have Hb:=hid hb;have bY:=hid dE;have cm:=hb.size;clear az dE
  by_cases bg:k<p
  . have av:k<x.phis.length:=by rw [HN.out.1];exact bg
    obtain⟨ph,bW⟩:∃ph,x.phis[k]?=some ph:=⟨_,Aaa av⟩
    obtain⟨gb,off,fa,fc,rfl,d0,d1,aK,hI,-⟩:=ata ((Hp.out.later ace (bm.out.trans (hb.mono bm.out.size)))) av;have e9:x.phis[k]=ph:=by rw [Aaa av] at bW;exact Option.some.inj bW
    rw [e9] at d0 d1 aK hI;obtain⟨fn,aB⟩:∃fn,fn=ph.src.length:=⟨_,rfl⟩
    obtain⟨d,hd⟩:∃d,d=ph.dst:=⟨_,rfl⟩
    rw [<-aB] at d1 aK;rw [<-hd] at d0;have bw:fn<=1048576:=by rw [aB];exact cr.out.src ph (Aae bW)
    have zg:=aac d0;have cD:=hid aK;have dZ:=hid bW;have HD:Hid (fn=ph.src.length∧d=ph.dst):=⟨aB,hd⟩
    clear av bW aK hI e9 aB hd hb;go_upto_region 5 with (fail)
    obtain⟨PB,aI⟩:∃PB,PB=wo.heap.size:=⟨_,rfl⟩
    obtain⟨W4,ay⟩:∃W4,W4=wo.alloc (.cells #[.int .i64 d,.slice fa fn fc] 115):=⟨_,rfl⟩
    have aJ:W4.heap[PB]?=some (.cells #[.int .i64 d,.slice fa fn fc] 115 (0,0)):=by rw [ay,aI];exact heap_alloc_new _ _
    have aD:Below wo.heap.size wo W4:=by rw [ay];exact bE
    rw [<-ay,<-aI];have aV:Hid (PB=wo.heap.size∧W4.heap.size=PB+1):=⟨aI,by rw [ay,aI];simp⟩
    obtain⟨p0,p1⟩:=(aad (cs:=[_,_]) aJ).get2;rw [Aab] at p1;have zP:=aac p0;have f1:=aaq aJ 1;have dd:=hid (ac5 cD.out aD bw);have bF:=hid aJ;have aq:=hid aD;clear aI ay aJ aD d0 d1 zg;go_upto_region 6 with (go_at_call 84;refine dd.out.mono ?_;rintro e w5 ⟨sa,sc,rfl,b9,ao⟩;have cZ:=hid b9;have cb:=hid ao;have p0:=aab p0 ao;have p1:=aab p1 ao;have f1:=(ao.frozen (p:=⟨PB,1,none⟩) zP).trans f1;have zP:=aac p0;clear b9 ao)
    obtain⟨W6,aR⟩:∃W6,W6=w5.setCell ⟨PB,1,none⟩ (.slice sa fn sc):=⟨_,rfl⟩
    have bU:W6.heap[PB]?=some (.cells #[.int .i64 d,.slice sa fn sc] 115 (0,0)):=by
     rw [aR,aak (i:=1) ((cb.out.block PB (Aag.1 bF.out).1).trans bF.out)];rfl
    have aH:Kp (fun c=>c≠PB) w5 W6:=by rw [aR];exact aaQ _ _ _ _
    have a8:W6.heap.size=w5.heap.size:=by rw [aR];simp [World.setCell]
    rw [<-aR];obtain⟨dT,ep⟩:=(aad (cs:=[_,_]) bU).get2;rw [Aab] at ep;have ej:=aac dT;have aC:Hid (Below wo.heap.size wo w5):=aq.out.trans (cb.out.mono aq.out.size);have bP:=hid aH;have bx:=hid a8;have ax:W6.ownsRow W.heap.size 115 2 (.slice va k vc) k (elX (aej x k) V (.phis b)).flatten:=by
     have h:=(aah.kp (ad.out.later aC.out) aH fun q' dk c hc e=>by have:=(ad.out.lt dk c hc).2;have:=aV.out;omega).own (.phis b) rfl;rw [bY.out,show (elX (aej x k) V (.phis b)).length=k by simp [elX,aej];have:=HN.out.1;omega] at h;exact h
    have aU:=hid ax;clear aR bU aH a8 p0 p1 f1 zP ax;go_wp2_with (at_builtin;refine wpList_append_own_at _ rfl _ _ 38 rfl W.heap.size 115 ip (.agg #[.int .i64 0,.slice none 0 0]) 2 32 Tryz.underlying38 dF c6 cL db rfl (by decide) (.slice va k vc) k (elX (aej x k) V (.phis b)).flatten rfl ?_ ⟨W6.heap.size,0,none⟩ 1 1 [.int .i64 d,.slice sa fn sc] rfl rfl ?_ ?_ ?_ ?_ ?_ ?_)
    . exact aan aU.out bE
    . intro m u hu;exact aaB _ _ _ rfl m u hu
    . intro u hu
      simp only [Aam,Aao,or_false] at hu;rcases hu with rfl | rfl <;> rfl
    . unfold maxLen;omega
    . omega
    . have:=aC.out.size;have:=bx.out;simp;omega
    . intro v' w9 af ae _ aL
      obtain⟨bj,bl,rfl⟩:=aao af;have dy:=ae.size;have ah:=aq8 (sv := .slice sa fn sc) (fn:=fn) (PB:=PB) (v' := .slice bj (k+1) bl) ad.out dZ.out aC.out cZ.out HD.out.1.symm (by have:=aV.out;omega) cm ⟨by rw [aV.out.1];exact Aac _,by have:=aV.out;omega⟩ (bP.out.trans (Kp.of (Below.alloc (Below.refl _ _) (Aac _) _))) (by rw [<-HD.out.2];exact af) (by rw [bY.out];exact ae) (by rw [bY.out];rcases aL with h | h;exact .inl h;exact .inr (h.trans (by simp)));have aP:Below W.heap.size W w9:=by
       refine Below.grown ?_ ae (by simp;have:=aC.out.size;have:=bx.out;omega) (fun c hc=>by rw [<-bY.out] at hc;exact (ad.out.lt (p := .phis b) rfl c hc).1);refine Below.alloc ?_ (by have:=aC.out.size;have:=bx.out;omega) _;exact (Hb.out.trans (aC.out.mono cm)).trans (bP.out.below fun c hc=>⟨by have:=aC.out.size;omega,by have:=aV.out;omega⟩)
      have al:=hid ah;have bq:=hid aP;clear af ae aL ah aP dy;go_wp2_with fail;go_roundw
      case rel=>exact⟨k+1,_,bj,bl,by omega,by go_num,rfl,aaj _ _ _,al.out,bq.out⟩
      case measure=>simp [intOf];omega
  . have ee:p=k:=by omega
    subst ee;have bM:aej x p=x:=by
     unfold aej;rw [Abq (by rw [HN.out.1];exact Aac _)]
    obtain⟨WA,ef⟩:∃WA:World,WA=wo:=⟨_,rfl⟩
    subst ef;have cT:=ad.out;rw [bM] at cT;have eu:=hid cT;have eb:=hb;have c1:=aab (by have h:=(aad (cs:=[_,_,_,_,_,_]) H0.out) 1 _ rfl;rw [Aab] at h;exact h) hb;have zB:=aac c1;have cH:Hid (W.heap.size<=WA.heap.size):=hb.size;clear bM cT hb eb hk bg ad;go_wp2_with fail;clear c1 zB;go_loopw [6,28] (fun s6 s28 wr=>∃(k:Nat) (V2:Pth->Value) (ua:Option Addr) (uc:Nat),k<=q∧s28 = .int .i64 (k:Int)∧s6 = .slice ua k uc∧V2 (.list b) = .slice ua k uc∧aah wr WA.heap.size (akO b k) V2 (elX (aek x k) V2)∧Below WA.heap.size WA wr) (fun _ s28 _=>q - (intOf s28).toNat)
    case atStart=>exact⟨0,_,none,0,Aaj _,rfl,rfl,rfl,aah.nilX2 _ _ _ _,Below.refl _ _⟩
    case round =>
     obtain⟨wo,bZ⟩:∃wo:World,wo=wr:=⟨_,rfl⟩
     subst bZ;obtain⟨k,V2,ua,uc,hk,rfl,rfl,dx,az,hb⟩:=hrel;have ad:=hid az;have du:=hid hb;have cf:=hid dx;have ca:=hb.size;clear az dx
     by_cases hkq:k<q
     . have av:k<x.list.length:=by rw [HN.out.2.1];exact hkq
       obtain⟨y,hy⟩:∃y,x.list[k]?=some y:=⟨_,Aaa av⟩
       obtain⟨gb,off,fa,fc,rfl,ag,aK,hI⟩:=ama ((Hl.out.later aax (bm.out.trans ((Hb.out.trans (hb.mono cH.out)).mono bm.out.size)))) av;have e9:x.list[k]=y:=by rw [Aaa av] at hy;exact Option.some.inj hy
       rw [e9] at ag aK;obtain⟨fn,aB⟩:∃fn,fn=y.args.length:=⟨_,rfl⟩
       obtain⟨op,hop⟩:∃op,op=y.op:=⟨_,rfl⟩
       obtain⟨d,hd⟩:∃d,d=y.dst:=⟨_,rfl⟩
       obtain⟨ar,cz⟩:∃ar,ar=y.a.reg:=⟨_,rfl⟩
       obtain⟨an,cB⟩:∃an,an=y.a.n:=⟨_,rfl⟩
       obtain⟨br,df⟩:∃br,br=y.b.reg:=⟨_,rfl⟩
       obtain⟨bn,aP⟩:∃bn,bn=y.b.n:=⟨_,rfl⟩
       obtain⟨yf,cP⟩:∃yf,yf=y.fn:=⟨_,rfl⟩
       rw [<-aB,<-hop,<-hd,<-cz,<-cB,<-df,<-aP,<-cP] at ag;rw [<-aB] at aK;have bw:fn<=1048576:=by rw [aB];exact cr.out.args y (Aae hy)
       obtain⟨d0,d1,d2,d3,d4,d5,d6,d7⟩:=ag.get8;have zg:=aac d0;have cD:=hid aK;have Hy:=hid hy;have HD:Hid (fn=y.args.length∧abN y=fun u=>[.int .i64 op,.int .i64 d,.bool ar,.int .i64 an,.bool br,.int .i64 bn,.int .i64 yf,u]):=⟨aB,by rw [hop,hd,cz,cB,df,aP,cP];rfl⟩
       clear av hy aK hI e9 aB hop hd cz cB df aP cP hb ag;go_upto_region 12 with (fail)
       obtain⟨PB,aI⟩:∃PB,PB=wo.heap.size:=⟨_,rfl⟩
       obtain⟨W4,ay⟩:∃W4,W4=wo.alloc (.cells #[.int .i64 op,.int .i64 d,.bool ar,.int .i64 an,.bool br,.int .i64 bn,.int .i64 yf,.slice fa fn fc] 49):=⟨_,rfl⟩
       have aJ:W4.heap[PB]?=some (.cells #[.int .i64 op,.int .i64 d,.bool ar,.int .i64 an,.bool br,.int .i64 bn,.int .i64 yf,.slice fa fn fc] 49 (0,0)):=by rw [ay,aI];exact heap_alloc_new _ _
       have aD:Below wo.heap.size wo W4:=by rw [ay];exact bE
       rw [<-ay,<-aI];have aV:Hid (PB=wo.heap.size∧W4.heap.size=PB+1):=⟨aI,by rw [ay,aI];simp⟩
       have p5:=(aad (cs:=[_,_,_,_,_,_,_,_]) aJ) 7 _ rfl;rw [Aab] at p5;have zP:=aac p5;have f5:=aaq aJ 7;have dd:=hid (ac5 cD.out aD bw);have bF:=hid aJ;have aq:=hid aD;clear aI ay aJ aD d0 d1 d2 d3 d4 d5 d6 d7 zg;go_upto_region 13 with (go_at_call 84;refine dd.out.mono ?_;rintro e w5 ⟨sa,sc,rfl,b9,ao⟩;have cZ:=hid b9;have cb:=hid ao;have p5:=aab p5 ao;have f5:=(ao.frozen (p:=⟨PB,7,none⟩) zP).trans f5;have zP:=aac p5;clear b9 ao)
       obtain⟨W6,aR⟩:∃W6,W6=w5.setCell ⟨PB,7,none⟩ (.slice sa fn sc):=⟨_,rfl⟩
       have bU:W6.heap[PB]?=some (.cells #[.int .i64 op,.int .i64 d,.bool ar,.int .i64 an,.bool br,.int .i64 bn,.int .i64 yf,.slice sa fn sc] 49 (0,0)):=by
        rw [aR,aak (i:=7) ((cb.out.block PB (Aag.1 bF.out).1).trans bF.out)];rfl
       have aH:Kp (fun c=>c≠PB) w5 W6:=by rw [aR];exact aaQ _ _ _ _
       have a8:W6.heap.size=w5.heap.size:=by rw [aR];simp [World.setCell]
       rw [<-aR];obtain⟨m0,m1,m2,m3,m4,m5,m6,m7⟩:=(aad (cs:=[_,_,_,_,_,_,_,_]) bU).get8;rw [Aab] at m1 m2 m3 m4 m5 m6 m7;have ej:=aac m0;have aC:Hid (Below wo.heap.size wo w5):=aq.out.trans (cb.out.mono aq.out.size);have bP:=hid aH;have bx:=hid a8;have ax:W6.ownsRow WA.heap.size 49 8 (.slice ua k uc) k (elX (aek x k) V2 (.list b)).flatten:=by
        have h:=(aah.kp (ad.out.later aC.out) aH fun q' dk c hc e=>by have:=(ad.out.lt dk c hc).2;have:=aV.out;omega).own (.list b) rfl;rw [cf.out,show (elX (aek x k) V2 (.list b)).length=k by simp [elX,aek];have:=HN.out.2.1;omega] at h;exact h
       have aU:=hid ax;clear aR bU aH a8 p5 f5 zP ax;go_wp2_with (at_builtin;refine wpList_append_own_at _ rfl _ _ 39 rfl WA.heap.size 49 ii (.agg #[.int .i64 0,.int .i64 0,.bool false,.int .i64 0,.bool false,.int .i64 0,.int .i64 0,.slice none 0 0]) 8 80 Tryz.underlying39 et cC cI cO rfl (by decide) (.slice ua k uc) k (elX (aek x k) V2 (.list b)).flatten rfl ?_ ⟨W6.heap.size,0,none⟩ 1 1 [.int .i64 op,.int .i64 d,.bool ar,.int .i64 an,.bool br,.int .i64 bn,.int .i64 yf,.slice sa fn sc] rfl rfl ?_ ?_ ?_ ?_ ?_ ?_)
       . exact aan aU.out bE
       . intro m u hu;exact aaB _ _ _ rfl m u hu
       . intro u hu
         simp only [Aam,Aao,or_false] at hu;rcases hu with rfl | rfl | rfl | rfl | rfl | rfl | rfl | rfl <;> rfl
       . unfold maxLen;omega
       . omega
       . have:=aC.out.size;have:=bx.out;simp;omega
       . intro v' w9 af ae _ aL
         obtain⟨bj,bl,rfl⟩:=aao af;have ah:=aq9 (sv := .slice sa fn sc) (fn:=fn) (PB:=PB) (v' := .slice bj (k+1) bl) ad.out Hy.out aC.out cZ.out HD.out.1.symm (by have:=aV.out;omega) ca ⟨by rw [aV.out.1];exact Aac _,by have:=aV.out;omega⟩ (bP.out.trans (Kp.of (Below.alloc (Below.refl _ _) (Aac _) _))) (by rw [HD.out.2];exact af) (by rw [cf.out];exact ae) (by rw [cf.out];rcases aL with h | h;exact .inl h;exact .inr (h.trans (by simp)));have aP:Below WA.heap.size WA w9:=by
          refine Below.grown ?_ ae (by simp;have:=aC.out.size;have:=bx.out;omega) (fun c hc=>by rw [<-cf.out] at hc;exact (ad.out.lt (p := .list b) rfl c hc).1);refine Below.alloc ?_ (by have:=aC.out.size;have:=bx.out;omega) _;exact (du.out.trans (aC.out.mono ca)).trans (bP.out.below fun c hc=>⟨by have:=aC.out.size;omega,by have:=aV.out;omega⟩)
         have al:=hid ah;have bq:=hid aP;clear af ae aL ah aP;go_wp2_with fail;go_roundw
         case rel=>exact⟨k+1,_,bj,bl,by omega,by go_num,rfl,aaj _ _ _,al.out,bq.out⟩
         case measure=>simp [intOf];omega
     . have ec:q=k:=by omega
       subst ec;have bR:aek x q=x:=by
        unfold aek;rw [Abq (by rw [HN.out.2.1];exact Aac _)]
       have be:=ad.out;rw [bR] at be;have cN:=hid be;have cw:Below W.heap.size W wo:=Hb.out.trans (hb.mono cH.out);have aM:=(cw.block UB (Aag.1 H0.out).1).trans H0.out;have aY:=(cw.block UO (Aag.1 H1.out).1).trans H1.out;obtain⟨WB,dL⟩:∃WB:World,WB=wo:=⟨_,rfl⟩
       subst dL;obtain⟨c0,c1,c2,c3,c4,c5⟩:=(aad (cs:=[_,_,_,_,_,_]) aM).get6;rw [Aab] at c1 c2 c3 c4 c5;have f0:=aaq aM 0;have f1:=aaq aM 1;have zB:=aac c0;have cj:=hid aM;have cv:=hid aY;have ei:=hid cw;have dN:Hid (WA.heap.size<=WB.heap.size):=hb.size;clear bR be cw aM aY hb hk hkq ad;go_upto_region 16 with (fail)
       obtain⟨W7,bG⟩:∃W7,W7=(WB.setCell ⟨UB,0,none⟩ (.slice va p vc)).setCell ⟨UB,1,none⟩ (.slice ua q uc):=⟨_,rfl⟩
       have a7:W7.heap[UB]?=some (.cells #[.slice va p vc,.slice ua q uc,.int .i64 ek,.bool er,.int .i64 en,.slice ta tn tc] 46 (0,0)):=by
        rw [bG,aak (i:=1) (aak (i:=0) cj.out _)];rfl
       have cS:Kp (fun c=>c≠UB) WB W7:=by rw [bG];exact aaD (aaQ _ _ _ _) _ _
       have ds:W7.heap.size=WB.heap.size:=by rw [bG];simp [World.setCell]
       have bQ:=(cS.block UO (by have:=(Aag.1 cv.out).1;omega) (by have:=aA.out;omega)).trans cv.out;rw [<-bG];have cx:Below w.heap.size w W7:=by
        rw [bG];have h1:w.heap.size<=UB:=by have:=aA.out;omega
        exact ((bm.out.trans (ei.out.mono bm.out.size)).setCell (p:=⟨UB,0,none⟩) h1 _).setCell (p:=⟨UB,1,none⟩) h1 _
       have p5:=(aad (cs:=[_,_,_,_,_,_]) a7) 5 _ rfl;rw [Aab] at p5;have f5:=aaq a7 5;have z7:=aac p5;have ea:=hid (ajJ Ht.out cx dO);have bL:=hid a7;have bz:=hid bQ;have dY:=hid cS;have el:=hid ds;have dz:=hid cx;clear bG a7 cS ds bQ cx c0 c1 c2 c3 c4 c5 f0 f1 zB;go_upto_region 17 with (go_at_call 28;refine ea.out.mono ?_;rintro e w8 ⟨xa,xc,rfl,dn,cq⟩;have dH:=hid dn;have bI:=hid cq;have p5:=aab p5 cq;have f5:=(cq.frozen (p:=⟨UB,5,none⟩) z7).trans f5;have z7:=aac p5;clear dn cq)
       obtain⟨W9,bN⟩:∃W9,W9=w8.setCell ⟨UB,5,none⟩ (.slice xa tn xc):=⟨_,rfl⟩
       have aQ:W9.heap[UB]?=some (.cells #[.slice va p vc,.slice ua q uc,.int .i64 ek,.bool er,.int .i64 en,.slice xa tn xc] 46 (0,0)):=by
        rw [bN,aak (i:=5) ((bI.out.block UB (Aag.1 bL.out).1).trans bL.out)];rfl
       have bJ:Kp (fun c=>c≠UB) w8 W9:=by rw [bN];exact aaQ _ _ _ _
       have dA:W9.heap.size=w8.heap.size:=by rw [bN];simp [World.setCell]
       have ai:¬UO=UB:=by have:=aA.out;omega
       have au:=(bJ.block UO (by have:=(Aag.1 bz.out).1;have:=bI.out.size;omega) ai).trans ((bI.out.block UO (Aag.1 bz.out).1).trans bz.out);rw [<-bN];obtain⟨c0,c1,c2,c3,c4,c5⟩:=(aad (cs:=[_,_,_,_,_,_]) aQ).get6;obtain⟨o0,o1,o2,o3,o4,o5⟩:=(aad (cs:=[_,_,_,_,_,_]) au).get6;rw [Aab] at c1 c2 c3 c4 c5 o1 o2 o3 o4 o5;have z0:=aaq au 0;have z1:=aaq au 1;have z2:=aaq au 2;have z3:=aaq au 3;have z4:=aaq au 4;have z5:=aaq au 5;have eC:=aac c0;have ev:=aac o0;have di:=hid au;have dq:=hid bJ;have eg:=hid dA;clear bN aQ bJ dA au p5 f5 z7 ai;go_wp2_with fail;have cK:=auf (u0 := .slice va p vc) (u1 := .slice ua q uc) (u2 := .int .i64 ek) (u3 := .bool er) (u4 := .int .i64 en) (u5 := .slice xa tn xc) (aad (cs:=[_,_,_,_,_,_]) di.out);refine bodyPost_ret (anE rfl rfl cK) rfl ⟨fun q=>if isT q=true then .slice xa tn xc else if isL q=true then V2 q else V q,?_,?_,?_⟩
       . show _=Ending.returned (.agg #[V (.phis b),V2 (.list b),_,_,_,.slice xa tn xc])
         rw [bY.out,cf.out]
       all_goals
        have hu:=aA.out;have a1:=cH.out;have a2:=dN.out;have a3:=el.out;have a4:=bI.out.size;have a5:=eg.out;have kO:Kp (fun c=>c≠UB∧c≠UO) W9 ((((((W9.setCell ⟨UO,0,none⟩ (.slice va p vc)).setCell ⟨UO,1,none⟩ (.slice ua q uc)).setCell ⟨UO,2,none⟩ (.int .i64 ek)).setCell ⟨UO,3,none⟩ (.bool er)).setCell ⟨UO,4,none⟩ (.int .i64 en)).setCell ⟨UO,5,none⟩ (.slice xa tn xc)) :=
         (aaD (aaD (aaD (aaD (aaD (aaQ W9 UO 0 _) _ _) _ _) _ _) _ _) _ _).less fun c h=>h.2
        have k9:Kp (fun c=>c≠UB∧c≠UO) w8 W9:=dq.out.less fun c h=>h.1;have k7:Kp (fun c=>c≠UB∧c≠UO) WB W7:=dY.out.less fun c h=>h.1;have dD:Kp (fun c=>c≠UB∧c≠UO) W7 w8:=Kp.of bI.out
       . have dJ := anF (x := x) (by rw [HN.out.1]; exact eu.out) (by rw [HN.out.2.1]; exact cN.out) dH.out HN.out.2.2 ⟨a1, Aac _⟩ ⟨by omega, by omega⟩
          (((((Kp.of (F:=fun c=>c≠UB∧c≠UO) du.out).trans k7).trans dD).trans k9).trans kO) (((k7.trans dD).trans k9).trans kO) (k9.trans kO) (fun c hc=>by omega)
         exact aah.low dJ (by omega)
       . have h1:w.heap.size<=UB:=by omega
         have h2:w.heap.size<=UO:=by omega
         have hb:=(dz.out.trans (bI.out.mono dz.out.size))
         have dV:=hb.trans (dq.out.below fun c hc=>⟨by omega,by omega⟩);exact (((((dV.setCell (p:=⟨UO,0,none⟩) h2 _).setCell (p:=⟨UO,1,none⟩) h2 _).setCell (p:=⟨UO,2,none⟩) h2 _).setCell (p:=⟨UO,3,none⟩) h2 _).setCell (p:=⟨UO,4,none⟩) h2 _).setCell (p:=⟨UO,5,none⟩) h2 _
end
section
open Go.RowKit
def isK (k : Nat) : Pth -> Bool
 | .phis c=>c == k
 | .src c _=>c == k
 | .list c=>c == k
 | .args c _=>c == k
 | .to c=>c == k
 | _=>false
variable {bs:List DBlock}{k:Nat}
theorem agp{b:Nat}(h:b<k):blkOf (bs.take k) b=blkOf bs b:=by
 unfold blkOf;rw [Aaf,Aaf,Abh,if_pos h]
theorem abW{b:Nat}(h:k<=b):blkOf (bs.take k) b=aor:=aey (by rw [Aar];omega)
theorem ara{wr w2 w6 w9 : World} {base B:Nat}  {x : DBlock} {V V2 : Pth -> Value} (h : abJ wr base (bs.take k) V) (hx : bs[k]? = some x) (hb : Below wr.heap.size wr w2) (h2 : aah w2 B (okX k x) V2 (elX x V2)) (hB : wr.heap.size <= B) (aj : base <= wr.heap.size)
 (h6:Below w2.heap.size w2 w6) {v':Value} (aE:w9.ownsRow base 46 6 v' (k+1) ((aae (bs.take k) V .blks).flatten++abd x (V2 (.phis k)) (V2 (.list k)) (V2 (.to k)))) (hg:w6.grownBy w9 (V .blks).ownBlock)
 (aL:v'.ownBlock=(V .blks).ownBlock∨v'.ownBlock=some w6.heap.size):abJ w9 base (bs.take (k+1)) (aaU (fun q=>if isK k q=true then V2 q else V q) .blks v'):=by
 have av:=(Aad.1 hx).1;have dR:blkOf bs k=x:=aa2 hx;have hn:∀q,okP (bs.take k) q->isK k q=false:=fun q hq=>by
  cases q with
  | blks=>rfl
  | phis c=>have:c<_:=hq;rw [Aar] at this;show (c == k)=false;simp;omega
  | src c i =>
    by_cases hc:c<k
    . show (c == k)=false;simp;omega
    . have h3:i<(blkOf (bs.take k) c).phis.length:=hq
      rw [abW (by omega)] at h3;exact absurd h3 (Aa4 _)
  | list c=>have:c<_:=hq;rw [Aar] at this;show (c == k)=false;simp;omega
  | args c i =>
    by_cases hc:c<k
    . show (c == k)=false;simp;omega
    . have h3:i<(blkOf (bs.take k) c).list.length:=hq
      rw [abW (by omega)] at h3;exact absurd h3 (Aa4 _)
  | «to» c=>have:c<_:=hq;rw [Aar] at this;show (c == k)=false;simp;omega
  | _=>exact absurd hq (by simp [okP])
 have hy:∀q,okX k x q->isK k q=true:=fun q hq=>by
  cases q with
  | phis c=>show (c == k)=true;simp;exact hq
  | src c i=>show (c == k)=true;simp;exact hq.1
  | list c=>show (c == k)=true;simp;exact hq
  | args c i=>show (c == k)=true;simp;exact hq.1
  | «to» c=>show (c == k)=true;simp;exact hq
  | _=>exact absurd hq (by simp [okX])
 have j:=aah.join (isK k) (aah.later h hb) h2 (Aai aj hB) (fun q hq c hc=>Aay (aah.lt h hq c hc).2 hB) hn hy;have j6:=aah.later j h6;have aS:(aae (bs.take k) V .blks++[abd x (V2 (.phis k)) (V2 (.list k)) (V2 (.to k))]:List (List Value)).flatten=(aae (bs.take k) V .blks).flatten++abd x (V2 (.phis k)) (V2 (.list k)) (V2 (.to k)):=by simp
 have hlen:(aae (bs.take k) V .blks++[abd x (V2 (.phis k)) (V2 (.list k)) (V2 (.to k))]:List (List Value)).length=k+1:=by simp [aae];omega
 have r9 := j6.put .blks (v' := v') (xss := aae (bs.take k) V .blks ++ [abd x (V2 (.phis k)) (V2 (.list k)) (V2 (.to k))]) (by rw [aS, hlen]; exact aE) (fun cs ag => by
  rcases Aa7.1 ag with h3 | h3
  . exact aah.wid h .blks trivial cs h3
  . rw [Aax] at h3; rw [h3]; rfl) hg (fun q hq ai c hc e => by
  rcases hq with hq | hq
  . simp only [hn q hq, Aca, if_false] at hc
    exact aah.apart h q .blks hq trivial ai c hc e
  . simp only [hy q hq, if_true] at hc
    have := (h2.lt hq c hc).1
    have := (aah.lt h (p := .blks) trivial c e).2
    omega) (fun c hc => by
  rcases aL with h3 | h3
  . exact .inl (by rw [<- h3]; exact hc)
  . rw [h3] at hc; cases hc; exact .inr (Aac _))
 have bp:∀c,c<k->blkOf (bs.take (k+1)) c=blkOf (bs.take k) c:=fun c hc=>by rw [agp (by omega),agp hc]
 have bo:blkOf (bs.take (k+1)) k=x:=by rw [agp (by omega),dR]
 have aO:∀c,c<(bs.take (k+1)).length->c=k∨c<k:=fun c hc=>by rw [Aar] at hc;omega
 have aK:∀c,c<k->c<(bs.take k).length:=fun c hc=>by rw [Aar];omega
 refine (r9.less (ok':=okP (bs.take (k+1))) fun q hq=>?_).congr (fun q _=>rfl) (fun q hq=>?_)
 . cases q with
   | blks=>exact .inr rfl
   | phis c =>
     rcases aO c hq with h3 | h3
     . exact .inl (.inr h3)
     . exact .inl (.inl (aK c h3))
   | src c i =>
     by_cases hc:c<k
     . exact .inl (.inl (by show i<_;rw [<-bp c hc];exact hq))
     . by_cases e:c=k
       . subst e;exact .inl (.inr ⟨rfl,by have h3:i<_:=hq;rw [bo] at h3;exact h3⟩)
       . have h3:i<(blkOf (bs.take (k+1)) c).phis.length:=hq
         rw [abW (by omega)] at h3;exact absurd h3 (Aa4 _)
   | list c =>
     rcases aO c hq with h3 | h3
     . exact .inl (.inr h3)
     . exact .inl (.inl (aK c h3))
   | args c i =>
     by_cases hc:c<k
     . exact .inl (.inl (by show i<_;rw [<-bp c hc];exact hq))
     . by_cases e:c=k
       . subst e;exact .inl (.inr ⟨rfl,by have h3:i<_:=hq;rw [bo] at h3;exact h3⟩)
       . have h3:i<(blkOf (bs.take (k+1)) c).list.length:=hq
         rw [abW (by omega)] at h3;exact absurd h3 (Aa4 _)
   | «to» c =>
     rcases aO c hq with h3 | h3
     . exact .inl (.inr h3)
     . exact .inl (.inl (aK c h3))
   | _=>exact absurd hq (by simp [okP])
 . cases q with
   | blks =>
     rw [aaj];show (bs.take (k+1)).mapIdx _=(bs.take k).mapIdx _++_;rw [afW hx,aea]
     congr 1
     . refine aby fun i y hi=>?_
       have cR:i<k:=by have:=(Aad.1 hi).1;rw [Aar] at this;omega
       have hf:(i == k)=false:=by simp;omega
       simp only [aaU,isK,hf,reduceCtorEq,if_false,Aca]
     . rw [Aar,Abt (by omega)]
       simp only [aaU,isK,reduceCtorEq,if_false,beq_self_eq_true,if_true]
   | phis c =>
     rw [aag _ _ (by simp)];rcases aO c hq with h3 | h3
     . subst h3
       have hf:isK c (.phis c)=true:=by simp [isK]
       simp only [hf,if_true,aae,elX,bo];refine aby fun i y _=>?_;simp [aaU,isK]
     . have hf:isK k (.phis c)=false:=by simp [isK];omega
       simp only [hf,Aca,if_false,aae,bp c h3];refine aby fun i y _=>?_;have:¬c=k:=by omega
       simp [aaU,isK,this]
   | src c i =>
     rw [aag _ _ (by simp)]
     by_cases hc:c<k
     . have hf:isK k (.src c i)=false:=by simp [isK];omega
       simp only [hf,Aca,if_false,aae,bp c hc]
     . by_cases e:c=k
       . subst e
         have hf:isK c (.src c i)=true:=by simp [isK]
         simp only [hf,if_true,aae,elX,bo]
       . have h3:i<(blkOf (bs.take (k+1)) c).phis.length:=hq
         rw [abW (by omega)] at h3;exact absurd h3 (Aa4 _)
   | list c =>
     rw [aag _ _ (by simp)];rcases aO c hq with h3 | h3
     . subst h3
       have hf:isK c (.list c)=true:=by simp [isK]
       simp only [hf,if_true,aae,elX,bo];refine aby fun i y _=>?_;simp [aaU,isK]
     . have hf:isK k (.list c)=false:=by simp [isK];omega
       simp only [hf,Aca,if_false,aae,bp c h3];refine aby fun i y _=>?_;have:¬c=k:=by omega
       simp [aaU,isK,this]
   | args c i =>
     rw [aag _ _ (by simp)]
     by_cases hc:c<k
     . have hf:isK k (.args c i)=false:=by simp [isK];omega
       simp only [hf,Aca,if_false,aae,bp c hc]
     . by_cases e:c=k
       . subst e
         have hf:isK c (.args c i)=true:=by simp [isK]
         simp only [hf,if_true,aae,elX,bo]
       . have h3:i<(blkOf (bs.take (k+1)) c).list.length:=hq
         rw [abW (by omega)] at h3;exact absurd h3 (Aa4 _)
   | «to» c =>
     rw [aag _ _ (by simp)];rcases aO c hq with h3 | h3
     . subst h3
       have hf:isK c (.to c)=true:=by simp [isK]
       simp only [hf,if_true,aae,elX,bo]
     . have hf:isK k (.to c)=false:=by simp [isK];omega
       simp only [hf,Aca,if_false,aae,bp c h3]
   | _=>exact absurd hq (by simp [okP])
theorem akQ {S:Nat->Prop}(nm:ByteArray)(p r:Int)(ba:Option Addr)(n bc:Nat)(bs:List DBlock)(w:World)(hb:SlAt S w 6 aa0 (.slice ba n bc) bs)(aP:bs.length=n)(hn:n<=1048576)(bk:∀x∈bs,akb x) :
 Calls Tryz.prog 29 #[.agg #[.string nm,.int .i64 p,.int .i64 r,.slice ba n bc]] w fun e w' =>
  ∃V,e = .returned (.agg #[.string nm,.int .i64 p,.int .i64 r,V .blks])∧abJ w' w.heap.size bs V∧Below w.heap.size w w':=by
 obtain⟨ib,ed,cy,cU,cA⟩:=info_parts ahy;have Hb:=hid hb;have bq:=hid aP;have cr:=hid bk;clear hb aP bk;go_enter Tryz.func29,Tryz.ntmps29;go_upto_region 1 with (fail)
 obtain⟨W,hW⟩:∃W,W=(w.alloc (.cells #[.string nm,.int .i64 p,.int .i64 r,.slice ba n bc] 37)).alloc (.cells #[.string ⟨#[]⟩,.int .i64 0,.int .i64 0,.slice none 0 0] 37):=⟨_,rfl⟩
 obtain⟨bt,h0,h1⟩:=abE w (.cells #[.string nm,.int .i64 p,.int .i64 r,.slice ba n bc] 37) (.cells #[.string ⟨#[]⟩,.int .i64 0,.int .i64 0,.slice none 0 0] 37);rw [<-hW] at bt h0 h1 ⊢;have bS:Below w.heap.size w W:=by rw [hW];exact bE
 obtain⟨UB,bu⟩:∃UB,UB=w.heap.size:=⟨_,rfl⟩
 obtain⟨UO,bB⟩:∃UO,UO=w.heap.size+1:=⟨_,rfl⟩
 rw [<-bB] at h1 ⊢;rw [<-bu] at h0 ⊢;have aA:Hid (UB=w.heap.size∧UO=w.heap.size+1∧W.heap.size=w.heap.size+2):=⟨bu,bB,bt⟩
 have H0:=hid h0;have H1:=hid h1;have bm:=hid bS;have c3:=(aad (cs:=[_,_,_,_]) h0) 3 _ rfl;rw [Aab] at c3;have f3:=aaq h0 3;have zB:=aac c3;clear hW h0 h1 bS bu bB bt;go_upto_region 3 with (fail)
 obtain⟨W3,cc⟩:∃W3,W3=W.setCell ⟨UB,3,none⟩ (.slice none 0 0):=⟨_,rfl⟩
 have bT:W3.heap[UB]?=some (.cells #[.string nm,.int .i64 p,.int .i64 r,.slice none 0 0] 37 (0,0)):=by rw [cc,aak (i:=3) H0.out];rfl
 have dg:Kp (fun c=>c≠UB) W W3:=by rw [cc];exact aaQ _ _ _ _
 have dC:W3.heap.size=W.heap.size:=by rw [cc];simp [World.setCell]
 rw [<-cc];have b8:=(dg.block UO (Aag.1 H1.out).1 (by have:=aA.out;omega)).trans H1.out;have dr:Below w.heap.size w W3:=bm.out.trans (dg.below fun c hc=>⟨by have:=aA.out;omega,by have:=aA.out;omega⟩);have cE:=hid bT;have b6:=hid b8;have dt:=hid dC;have dU:=hid dr;have bf:abJ W3 W.heap.size (bs.take 0) (fun _ => .slice none 0 0):=by
  refine⟨fun q hq=>?_,fun q hq=>?_,fun q1 q2 _ _ _ c hc=>by cases hc⟩
  . cases q with
    | blks=>exact World.ownsRow_nil _ _ _ _
    | phis c=>exact absurd (show c<0 from hq) (Aa4 _)
    | src c i=>exact absurd (show i<0 from hq) (Aa4 _)
    | list c=>exact absurd (show c<0 from hq) (Aa4 _)
    | args c i=>exact absurd (show i<0 from hq) (Aa4 _)
    | «to» c=>exact absurd (show c<0 from hq) (Aa4 _)
    | _=>exact absurd hq (by simp [okP])
  . cases q with
    | blks=>intro cs ag;cases ag
    | phis c=>exact absurd (show c<0 from hq) (Aa4 _)
    | src c i=>exact absurd (show i<0 from hq) (Aa4 _)
    | list c=>exact absurd (show c<0 from hq) (Aa4 _)
    | args c i=>exact absurd (show i<0 from hq) (Aa4 _)
    | «to» c=>exact absurd (show c<0 from hq) (Aa4 _)
    | _=>exact absurd hq (by simp [okP])
 have dj:=hid bf;clear cc bT dg dC b8 dr bf c3 f3 zB;go_wp2_with fail;go_loopw [11] (fun s11 wr=>∃(k:Nat) (V:Pth->Value) (va:Option Addr) (vc:Nat),k<=n∧s11 = .int .i64 (k:Int)∧V .blks = .slice va k vc∧abJ wr W.heap.size (bs.take k) V∧wr.heap[UB]?=some (.cells #[.string nm,.int .i64 p,.int .i64 r,.slice va k vc] 37 (0,0))∧Kp (fun c=>c<W.heap.size∧c≠UB) W3 wr) (fun s11 _=>n - (intOf s11).toNat)
 case atStart=>exact⟨0,_,none,0,Aaj _,rfl,rfl,dj.out,cE.out,Kp.refl _ _⟩
 case round =>
  obtain⟨wo,bZ⟩:∃wo:World,wo=wr:=⟨_,rfl⟩
  subst bZ;obtain⟨k,V,va,vc,hk,rfl,ck,a6,aM,bg⟩:=hrel;have cm:W.heap.size<=wo.heap.size:=by have:=bg.size;have:=dt.out;omega
  have aw:Below w.heap.size w wo:=dU.out.trans (bg.below fun c hc=>⟨by have:=aA.out;have:=dt.out;omega,by have:=aA.out;omega⟩)
  by_cases hkn:k<n
  . have av:k<bs.length:=by rw [bq.out];exact hkn
    obtain⟨x,hx⟩:∃x,bs[k]?=some x:=⟨_,Aaa av⟩
    obtain⟨gb,off,pa,pc,la,lc,ta,tc,rfl,ag,hp,hl,ht,eo,dW⟩:=amg (Hb.out.later aat aw) av;have e9:bs[k]=x:=by rw [Aaa av] at hx;exact Option.some.inj hx
    rw [e9] at ag hp hl ht;obtain⟨pn,bd⟩:∃pn,pn=x.phis.length:=⟨_,rfl⟩
    obtain⟨ln,ct⟩:∃ln,ln=x.list.length:=⟨_,rfl⟩
    obtain⟨tn,aX⟩:∃tn,tn=x.fin.to.length:=⟨_,rfl⟩
    obtain⟨ek,bK⟩:∃ek,ek=x.fin.kind:=⟨_,rfl⟩
    obtain⟨er,bD⟩:∃er,er=x.fin.on.reg:=⟨_,rfl⟩
    obtain⟨en,bH⟩:∃en,en=x.fin.on.n:=⟨_,rfl⟩
    rw [<-bd,<-ct,<-aX,<-bK,<-bD,<-bH] at ag;rw [<-bd] at hp;rw [<-ct] at hl;rw [<-aX] at ht;obtain⟨d0,d1,d2,d3,d4,d5⟩:=ag.get6;have zg:=aac d0;have k3:=(aad (cs:=[_,_,_,_]) aM) 3 _ rfl;rw [Aab] at k3;have g3:=aaq aM 3;have zU:=aac k3;have aW:=hid a6;have cj:=hid aM;have dP:=hid bg;have bC:=hid ck;have Hx:=hid hx;have Hp:=hid hp;have Hl:=hid hl;have Ht:=hid ht;have aN:Hid (pn=x.phis.length∧ln=x.list.length∧tn=x.fin.to.length∧ek=x.fin.kind∧er=x.fin.on.reg∧en=x.fin.on.n):=⟨bd,ct,aX,bK,bD,bH⟩
    clear av hx ag hp hl ht eo dW e9 bd ct aX bK bD bH a6 aM bg ck;go_upto_region 6 with (fail)
    obtain⟨BB,bV⟩:∃BB,BB=wo.heap.size:=⟨_,rfl⟩
    obtain⟨W4,ay⟩:∃W4,W4=wo.alloc (.cells #[.slice pa pn pc,.slice la ln lc,.int .i64 ek,.bool er,.int .i64 en,.slice ta tn tc] 46):=⟨_,rfl⟩
    have aJ:W4.heap[BB]?=some (.cells #[.slice pa pn pc,.slice la ln lc,.int .i64 ek,.bool er,.int .i64 en,.slice ta tn tc] 46 (0,0)):=by rw [ay,bV];exact heap_alloc_new _ _
    have aD:Below wo.heap.size wo W4:=by rw [ay];exact bE
    rw [<-ay,<-bV];have ez:Hid (BB=wo.heap.size∧W4.heap.size=BB+1):=⟨bV,by rw [ay,bV];simp⟩
    obtain⟨b0,b1,b2,b3,b4,b5⟩:=(aad (cs:=[_,_,_,_,_,_]) aJ).get6;rw [Aab] at b1 b2 b3 b4 b5;have dw:=aab k3 aD;have dM:=(aD.frozen (p:=⟨UB,3,none⟩) zU).trans g3;have dp:=aac dw;have eD:=aac b0;have cV:=akP (S:=S) k x pa la ta pn ln tn pc lc tc W4.drew (Hp.out.later ace aD.drew) (Hl.out.later aax aD.drew) (Ht.out.later aaw aD.drew) (cr.out x (Aae Hx.out)) aN.out.1.symm aN.out.2.1.symm aN.out.2.2.1.symm;rw [<-aN.out.2.2.2.1,<-aN.out.2.2.2.2.1,<-aN.out.2.2.2.2.2] at cV;have dX:=hid cV;have aq:=hid aD;have bF:=hid aJ;have b7:=hid aw;clear bV ay aJ aD cV aw d0 d1 d2 d3 d4 d5 zg k3 g3 zU
    go_region_law
     ((first
       | (go_simp; go_at_call 65; refine dX.out.mono ?_; rintro e w5 ⟨V2, rfl, be, ao⟩
          have aZ : Below W4.heap.size W4 w5 := (Below.refl W4.heap.size W4).drew.trans ao
          obtain ⟨da, cW, cp⟩ := aah.shape (p := .phis k) be rfl
          obtain ⟨cY, dc, cu⟩ := aah.shape (p := .list k) be rfl
          obtain ⟨c7, dm, cn⟩ := aah.shape (p := .to k) be rfl
          rw [show (elX x V2 (.phis k)).length = pn by simp [elX]; exact aN.out.1.symm] at cp
          rw [show (elX x V2 (.list k)).length = ln by simp [elX]; exact aN.out.2.1.symm] at cu
          rw [show (elX x V2 (.to k)).length = tn by simp [elX]; exact aN.out.2.2.1.symm] at cn
          rw [cp, cu, cn]
          have k5 := aab dw aZ
          have g5 := (aZ.frozen (p := ⟨UB, 3, none⟩) dp).trans dM
          have cF := aac k5
          have cN := hid be
          have ak := hid aZ
          have HX : Hid (V2 (.phis k) = .slice da pn cW ∧ V2 (.list k) = .slice cY ln dc ∧ V2 (.to k) = .slice c7 tn dm) := ⟨cp, cu, cn⟩
          clear be ao aZ cp cu cn)
       | (refine adf rfl _ _ 35 rfl W.heap.size 46 ib (.agg #[.slice none 0 0, .slice none 0 0, .int .i64 0, .bool false, .int .i64 0, .slice none 0 0]) 6 96 Tryz.underlying35 ed cy cU cA rfl (by decide) (.slice va k vc) k (aae (bs.take k) V .blks).flatten rfl ?_ ⟨w5.heap.size, 0, none⟩ 1 1 [.slice da pn cW, .slice cY ln dc, .int .i64 ek, .bool er, .int .i64 en, .slice c7 tn dm] rfl rfl ?_ ?_ ?_ ?_ ?_ ?_
          . have h := aah.own aW.out .blks trivial
            rw [bC.out, show (aae (bs.take k) V .blks).length = k by simp [aae]; have := bq.out; omega] at h
            exact aan (aan h (aq.out.trans (ak.out.mono aq.out.size))) bE
          . intro m u hu; exact aaB w5 _ _ rfl m u hu
          . intro u hu; simp only [Aam, Aao, or_false] at hu; rcases hu with rfl | rfl | rfl | rfl | rfl | rfl <;> rfl
          . unfold maxLen; omega
          . omega
          . have := aq.out.size; have := ak.out.size; simp; omega
          intro v9 w9 af ae cg
          obtain ⟨bj, bl, rfl⟩ := aao af
          have dy : w5.heap.size <= w9.heap.size := Aai (by simp) ae.size
          have ai : ∀ c, (Value.slice va k vc).ownBlock = some c -> W.heap.size <= c := fun c hc => by rw [<- bC.out] at hc; exact (aah.lt aW.out (p := .blks) trivial c hc).1
          have aG : ∀ c, c < w5.heap.size -> (Value.slice va k vc).ownBlock ≠ some c -> w9.heap[c]? = w5.heap[c]? := fun c h1 h2 => (ae.block c (by simp; omega) (fun e => h2 e.symm)).trans (Below.heap_alloc w5 _ _ h1)
          have cM : (Value.slice va k vc).ownBlock ≠ some UB := fun e => by have := ai UB e; have := aA.out; omega
          have k9 := (World.cell?_of_block (w := w5) (a := ⟨UB, 3, none⟩) (aG UB cF cM)).trans k5
          have g9 := (World.frozen?_of_block (w := w5) (a := ⟨UB, 3, none⟩) (aG UB cF cM)).trans g5
          have ey := aac k9
          have bO := hid af
          have aF := hid ae
          have cQ := hid cg
          have bh := hid aG
          have cJ := hid ai
          clear af ae cg aG ai)))
    all_goals
     have ah := ara (v' := .slice bj (k + 1) bl) aW.out Hx.out (aq.out.trans (ak.out.mono aq.out.size)) cN.out (by have := aq.out.size; exact this) cm (Below.alloc (Below.refl _ _) (Aac _) (.cells #[.slice da pn cW, .slice cY ln dc, .int .i64 ek, .bool er, .int .i64 en, .slice c7 tn dm] 46)) (by
      rw [HX.out.1, HX.out.2.1, HX.out.2.2]
      unfold abd
      rw [<- aN.out.2.2.2.1, <- aN.out.2.2.2.2.1, <- aN.out.2.2.2.2.2]
      exact bO.out) (by rw [bC.out]; exact aF.out) (by rw [bC.out]; rcases cQ.out with h | h; exact .inl h; exact .inr (h.trans (by simp)))
     have aQ:w9.heap[UB]?=some (.cells #[.string nm,.int .i64 p,.int .i64 r,.slice va k vc] 37 (0,0)) :=
      (bh.out UB cF cM).trans ((ak.out.block UB dp).trans ((aq.out.block UB (Aag.1 cj.out).1).trans cj.out))
     have bX:Kp (fun c=>c<W.heap.size∧c≠UB) wo w9:=by
      refine⟨aF.out.os.trans (ak.out.os.trans aq.out.os),aF.out.tape.trans (ak.out.tape.trans aq.out.tape),aF.out.output.trans (ak.out.output.trans aq.out.output),by have:=aq.out.size;have:=ak.out.size;omega,fun c hc hF=>?_⟩;have:=aq.out.size;have:=ak.out.size;exact (bh.out c (by omega) (fun e=>by have:=cJ.out c e;omega)).trans ((ak.out.block c (by omega)).trans (aq.out.block c hc))
     have al:=hid ah;have c9:=hid aQ;have cX:=hid bX;clear ah aQ bX k5 g5;go_wp2_with fail;go_roundw
     case rel =>
      refine⟨k+1,_,bj,bl,by omega,by go_num,aaj _ _ _,aah.setOff al.out (fun q hq e=>by have:=(aah.lt al.out hq UB e).1;have:=aA.out;omega) _,?_,?_⟩
      . rw [aak (i:=3) c9.out];rfl
      . exact (dP.out.trans cX.out).trans ((aaQ w9 UB 3 _).less fun c h=>h.2)
     case measure=>simp [intOf];omega
  . have eh:n=k:=by omega
    subst eh;have aY:=(bg.block UO (by have:=(Aag.1 b6.out).1;exact this) (by have:=aA.out;omega)).trans b6.out;obtain⟨c0,c1,c2,c3⟩:=(aad (cs:=[_,_,_,_]) aM).get4;obtain⟨o0,o1,o2,o3⟩:=(aad (cs:=[_,_,_,_]) aY).get4;rw [Aab] at c1 c2 c3 o1 o2 o3;have z0:=aaq aY 0;have z1:=aaq aY 1;have z2:=aaq aY 2;have z3:=aaq aY 3;have zB:=aac c0;have zO:=aac o0;have cv:=hid aY;have aW:=hid a6;have b7:=hid aw;have bC:=hid ck;clear aY aM a6 aw ck bg hk hkn;go_wp2_with fail;have cK:=asW (u0 := .string nm) (u1 := .int .i64 p) (u2 := .int .i64 r) (u3 := .slice va n vc) (aad (cs:=[_,_,_,_]) cv.out);refine bodyPost_ret (adP rfl rfl cK) rfl ⟨V,?_,?_,?_⟩
    . show _=Ending.returned (.agg #[.string nm,.int .i64 p,.int .i64 r,V .blks])
      rw [bC.out]
    . have hf:=aW.out
      rw [Abq (by rw [bq.out];exact Aac _)] at hf;have hO:∀q,okP bs q->(V q).ownBlock≠some UO:=fun q hq e=>by have:=(aah.lt hf hq UO e).1;have:=aA.out;omega
      exact aah.low ((((aah.setOff hf (o:=0) hO (.string nm)).setOff (o:=1) hO (.int .i64 p)).setOff (o:=2) hO (.int .i64 r)).setOff (o:=3) hO (.slice va n vc)) (by have:=aA.out;omega)
    . have h2:w.heap.size<=UO:=by have:=aA.out;omega
      exact (((b7.out.setCell (p:=⟨UO,0,none⟩) h2 _).setCell (p:=⟨UO,1,none⟩) h2 _).setCell (p:=⟨UO,2,none⟩) h2 _).setCell (p:=⟨UO,3,none⟩) h2 _
end
section
open Go.RowKit
def abT(f:aaz)(u:Value):List Value:=[.string f.name,.int .i64 f.params,.int .i64 f.regs,u]
structure adH (W:World)(base:Nat)(v:Value)(fs:List aaz)(V:Nat->Pth->Value):Prop where
 row:ac7 W base 37 4 v (fs.mapIdx fun k f=>abT f (V k .blks))
 fn:∀(k:Nat) f,fs[k]?=some f->abJ W base f.blocks (V k)
 apart:∀(j k:Nat) f g,fs[j]?=some f->fs[k]?=some g->j≠k->∀p q,okP f.blocks p->okP g.blocks q->∀c,(V j p).ownBlock=some c->(V k q).ownBlock≠some c
 off:∀(k:Nat) f,fs[k]?=some f->∀p,okP f.blocks p->∀c,(V k p).ownBlock=some c->v.ownBlock≠some c
section
variable {W W' : World} {base : Nat} {v : Value} {fs : List aaz} {V : Nat -> Pth -> Value}
theorem adH.nil(W:World)(base:Nat)(V:Nat->Pth->Value):adH W base (.slice none 0 0) [] V :=
 ⟨⟨World.ownsRow_nil _ _ _ _,fun cs h=>by cases h⟩,fun k f h=>by simp at h,fun j k f g h=>by simp at h,fun k f h=>by simp at h⟩
theorem adH.kp(h:adH W base v fs V){F:Nat->Prop}(hk:Kp F W W')(hv:∀c,v.ownBlock=some c->F c)(hV:∀(k:Nat) f,fs[k]?=some f->∀p,okP f.blocks p->∀c,(V k p).ownBlock=some c->F c):adH W' base v fs V :=
 ⟨h.row.off (hk.less hv),fun k f hf=>aah.kp (h.fn k f hf) hk fun p hp c hc=>hV k f hf p hp c hc,h.apart,h.off⟩
theorem adH.lt(h:adH W base v fs V):(∀c,v.ownBlock=some c->base<=c∧c<W.heap.size)∧∀(k:Nat) f,fs[k]?=some f->∀p,okP f.blocks p->∀c,(V k p).ownBlock=some c->base<=c∧c<W.heap.size :=
 ⟨h.row.lt,fun k f hf _ hp c hc=>aah.lt (h.fn k f hf) hp c hc⟩
theorem adH.setLow(h:adH W base v fs V){a:Addr}(ha:a.block<base)(u:Value):adH (W.setCell a u) base v fs V:=by
 obtain⟨h1,h2⟩:=h.lt;exact h.kp (F:=fun c=>c≠a.block) ((Kp.refl _ _).set (fun e=>e rfl) _) (fun c hc e=>by have:=(h1 c hc).1;omega) (fun k f hf p hp c hc e=>by have:=(h2 k f hf p hp c hc).1;omega)
theorem adH.next {w2 w6 w9 : World} {B k : Nat} {f : aaz} {V2 : Pth -> Value} (h : adH W base v (fs.take k) V) (hx : fs[k]? = some f) (hb : Below W.heap.size W w2) (h2 : abJ w2 B f.blocks V2) (hB : W.heap.size <= B) (aj : base <= W.heap.size) (h6 : Below w2.heap.size w2 w6)
 {v':Value} (aE:w9.ownsRow base 37 4 v' (k+1) (((fs.take k).mapIdx fun k f=>abT f (V k .blks)).flatten++abT f (V2 .blks))) (hg:w6.grownBy w9 v.ownBlock) (aL:v'.ownBlock=v.ownBlock∨v'.ownBlock=some w6.heap.size) :
 adH w9 base v' (fs.take (k+1)) (fun j=>if j=k then V2 else V j):=by
 have av:=(Aad.1 hx).1;have aO:=h.lt;have eB:=hb.size;have ew:=h6.size;have bJ:Kp (fun c=>v.ownBlock≠some c) w6 w9:=⟨hg.os,hg.tape,hg.output,hg.size,fun c hc hF=>hg.block c hc fun e=>hF e.symm⟩
 have hk:Kp (fun c=>v.ownBlock≠some c) W w9:=((Kp.of hb).trans (Kp.of h6)).trans bJ;have aT:∀(j:Nat) g,(fs.take (k+1))[j]?=some g->(j=k∧g=f)∨(j<k∧(fs.take k)[j]?=some g):=fun j g hj=>by
  rw [Abh] at hj;split at hj
  . rename_i h3
    rcases Abk.1 h3 with h4 | h4
    . exact .inr ⟨h4,by rw [Abh,if_pos h4];exact hj⟩
    . subst h4;rw [hx] at hj;exact .inl ⟨rfl,(Option.some.inj hj).symm⟩
  . cases hj
 have dQ : abJ w9 base f.blocks V2 := aah.low (aah.kp (aah.later h2 h6) bJ fun p hp c hc e => by
  have := (aah.lt h2 hp c hc).1
  have := (aO.1 c e).2
  omega) (Aai aj hB)
 have dB:∀c,v'.ownBlock=some c->v.ownBlock=some c∨w6.heap.size<=c:=fun c hc=>by
  rcases aL with h3 | h3
  . exact .inl (by rw [<-h3];exact hc)
  . rw [h3] at hc;cases hc;exact .inr (Aac _)
 have dv:((fs.take (k+1)).mapIdx fun j g=>abT g ((if j=k then V2 else V j) .blks))=((fs.take k).mapIdx fun k f=>abT f (V k .blks))++[abT f (V2 .blks)]:=by
  rw [afW hx,aea]
  congr 1
  . refine aby fun i y hi=>?_
    have cR:i<k:=by have:=(Aad.1 hi).1;rw [Aar] at this;omega
    rw [if_neg (by omega)]
  . rw [Aar,Abt (by omega),if_pos rfl]
 refine⟨⟨?_,?_⟩,fun j g hj=>?_,fun i j g1 g2 e1 e2 ai p q hp hq c hc=>?_,fun j g hj p hp c hc e=>?_⟩
 . rw [dv,Abs,show (((fs.take k).mapIdx fun k f=>abT f (V k .blks))++[abT f (V2 .blks)]).length=k+1 by simp;omega]
   simpa using aE
 . rw [dv]
   intro cs ag;rcases Aa7.1 ag with h3 | h3
   . exact h.row.wid cs h3
   . rw [Aax] at h3;rw [h3];rfl
 . rcases aT j g hj with⟨rfl,rfl⟩ | ⟨h3,h4⟩
   . simp only [if_true];exact dQ
   . simp only [if_neg (show ¬j=k by omega)]
     exact aah.kp (h.fn j g h4) hk fun p hp c hc e=>h.off j g h4 p hp c hc e
 . rcases aT i g1 e1 with⟨rfl,rfl⟩ | ⟨h3,h4⟩
   . simp only [if_true] at hc
     rcases aT j g2 e2 with⟨rfl,rfl⟩ | ⟨h5,h6'⟩
     . exact absurd rfl ai
     . simp only [if_neg (show ¬j=i by omega)]
       intro h7;have:=(aah.lt h2 hp c hc).1;have:=(aO.2 j g2 h6' q hq c h7).2;omega
   . simp only [if_neg (show ¬i=k by omega)] at hc
     rcases aT j g2 e2 with⟨rfl,rfl⟩ | ⟨h5,h6'⟩
     . simp only [if_true]
       intro h7;have:=(aah.lt h2 hq c h7).1;have:=(aO.2 i g1 h4 p hp c hc).2;omega
     . simp only [if_neg (show ¬j=k by omega)]
       exact h.apart i j g1 g2 h4 h6' ai p q hp hq c hc
 . rcases aT j g hj with⟨rfl,rfl⟩ | ⟨h3,h4⟩
   . simp only [if_true] at hc
     rcases dB c e with h7 | h7
     . have:=(aah.lt h2 hp c hc).1
       have:=(aO.1 c h7).2;omega
     . have:=(aah.lt h2 hp c hc).2
       omega
   . simp only [if_neg (show ¬j=k by omega)] at hc
     rcases dB c e with h7 | h7
     . exact h.off j g h4 p hp c hc h7
     . have:=(aO.2 j g h4 p hp c hc).2
       omega
theorem adH.shape(h:adH W base v fs V):∃a c,v = .slice a fs.length c:=by
 rcases h.row.own.2 with⟨h1,h2⟩ | ⟨g,cap,cur,e1,-⟩
 . have:fs.length=0:=by simpa using h2
   exact⟨none,0,by rw [h1,this]⟩
 . exact⟨some ⟨g,0,none⟩,cap,by rw [e1,Abf]⟩
end
end
section
open Go.RowKit
end
section
open Go.RowKit
end
section
open Go.RowKit
end
end Go.Proofs.YtpeejlpcikefcaaGreatDoor
