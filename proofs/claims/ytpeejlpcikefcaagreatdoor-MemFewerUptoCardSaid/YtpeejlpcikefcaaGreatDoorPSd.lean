import Derived.Test.YtpeejlpcikefcaaGreatDoorPGEach
import Derived.Test.YtpeejlpcikefcaaGreatDoorPRefU
/- calls.CopyBlock, plain: the rows of a block. calls.CopyBlock: the walk, with all rows. calls.CopyFunc: the walk, with all rows. A unit's functions in memory, each with all its rows. A unit's functions in memory, each with its row of blocks in a part of memory of its own. turneryref5.Clone, with the rows of blocks known apart. A cloned unit whose blocks' lists are laid anew, one by one. -/
set_option maxHeartbeats 8000000
set_option maxRecDepth 100000
namespace Go.Proofs.YtpeejlpcikefcaaGreatDoor
section
open Go.RowKit
def akN (b n : Nat) : Pth -> Prop
 | .phis c=>c=b
 | .src c i=>c=b∧i<n
 | _=>False
def akO (b n : Nat) : Pth -> Prop
 | .list c=>c=b
 | .args c i=>c=b∧i<n
 | _=>False
def ata (b : Nat) : Pth -> Prop
 | .to c=>c=b
 | _=>False
def okX (b : Nat) (x : DBlock) : Pth -> Prop
 | .phis c=>c=b
 | .src c i=>c=b∧i<x.phis.length
 | .list c=>c=b
 | .args c i=>c=b∧i<x.list.length
 | .to c=>c=b
 | _=>False
def elX (x : DBlock) (V : Pth -> Value) : Pth -> List (List Value)
 | .phis c=>x.phis.mapIdx fun i p=>[.int .i64 p.dst,V (.src c i)]
 | .src _ i=>(x.phis.getD i abw).src.map aaz
 | .list c=>x.list.mapIdx fun i y=>abN y (V (.args c i))
 | .args _ i=>(x.list.getD i abM).args.map aaz
 | .to _=>x.fin.to.map fun t=>[.int .i64 t]
 | _=>[]
def aek(x:DBlock)(k:Nat):DBlock:={ x with phis:=x.phis.take k }
def ael(x:DBlock)(k:Nat):DBlock:={ x with list:=x.list.take k }
theorem af0 {α:Type}{l:List α}{k:Nat}{x:α}(h:l[k]?=some x):l.take (k+1)=l.take k++[x]:=by rw [Ab7,h];rfl
theorem ad9 {α β:Type}(f:Nat->α->β)(l:List α)(x:α):(l++[x]).mapIdx f=l.mapIdx f++[f l.length x]:=by
 rw [List.mapIdx_append];simp
theorem abA {α β:Type}{f g:Nat->α->β}{l:List α}(h:∀i x,l[i]?=some x->f i x=g i x):l.mapIdx f=l.mapIdx g:=by
 apply Aao;intro i;rw [Abt,Abt];cases hx:l[i]? with
 | none=>rfl
 | some x=>rw [Aaw,Aaw,h i x hx]
section
variable {W W5 W6 W9 : World} {base b k : Nat} {x : DBlock} {V : Pth -> Value}
theorem arj (hr : aah W base (akN b k) V (elX (aek x k) V)) {p : acr} (hp : x.phis[k]? = some p) (au : Below W.heap.size W W5) {sv : Value} {B5 fn : Nat} (hs : W5.ownsRow B5 41 2 sv fn (p.src.map aaz).flatten) (aB : p.src.length = fn) (dh : W.heap.size <= B5) (aj : base <= W.heap.size)
 {PB:Nat} (aH:W.heap.size<=PB∧PB<B5) (aL:Kp (fun c=>c≠PB) W5 W6) {v':Value} (aC:W9.ownsRow base 115 2 v' (k+1) ((elX (aek x k) V (.phis b)).flatten++[.int .i64 p.dst,sv])) (hg:W6.grownBy W9 (V (.phis b)).ownBlock)
 (aK:v'.ownBlock=(V (.phis b)).ownBlock∨v'.ownBlock=some W6.heap.size) :
 aah W9 base (akN b (k+1)) (aaU (aaU V (.src b k) sv) (.phis b) v') (elX (aek x (k+1)) (aaU (aaU V (.src b k) sv) (.phis b) v')):=by
 have av:=(Aad.1 hp).1;have r5:=hr.later au;have c9:=au.size;have cT:¬akN b k (.src b k):=fun h=>Abq _ h.2;have r6:aah W6 base (akN b k) V (elX (aek x k) V):=aah.kp r5 aL fun q hq c hc e=>by have:=(hr.lt hq c hc).2;omega
 have a7:W6.ownsRow base 41 2 sv (p.src.map aaz).length (p.src.map aaz).flatten:=by
  rw [Aah,aB];refine ab4 ?_ (Aai aj dh);refine⟨hs.1,?_⟩;rcases hs.2 with h1 | ⟨g,cap,cur,e1,h3,h4,h5⟩
  . exact .inl h1
  . exact .inr ⟨g,cap,cur,e1,h3,(aL.block g (Aag.1 h4).1 (by omega)).trans h4,h5⟩
 have bx:∀c,sv.ownBlock=some c->B5<=c:=fun c hc=>(hs.lt c hc).1
 -- the sources' row beside the others
 have r7:aah W6 base (fun q=>akN b k q∨q = .src b k) (aaU V (.src b k) sv) (aaU (elX (aek x k) V) (.src b k) (p.src.map aaz)):=by
  refine⟨fun q hq=>?_,fun q hq=>?_,fun q1 q2 h1 h2 ai c hc=>?_⟩
  . by_cases e:q = .src b k
    . subst e;rw [aaj,aaj];exact a7
    . rw [aag _ _ e,aag _ _ e];exact r6.own q (hq.resolve_right e)
  . by_cases e:q = .src b k
    . subst e;rw [aaj];intro cs ag;obtain⟨v,_,rfl⟩:=Aal.1 ag;rfl
    . rw [aag _ _ e];exact r6.wid q (hq.resolve_right e)
  . by_cases e1:q1 = .src b k
    . have e2:q2 ≠ .src b k:=fun e=>ai (e1.trans e.symm)
      rw [e1,aaj] at hc;rw [aag _ _ e2];intro h3;have:=bx c hc;have:=(hr.lt (h2.resolve_right e2) c h3).2;omega
    . rw [aag _ _ e1] at hc
      by_cases e2:q2 = .src b k
      . rw [e2,aaj]
        intro h3;have:=bx c h3;have:=(hr.lt (h1.resolve_right e1) c hc).2;omega
      . rw [aag _ _ e2];exact r6.apart q1 q2 (h1.resolve_right e1) (h2.resolve_right e2) ai c hc
 have a6:(Pth.phis b:Pth) ≠ .src b k:=by simp
 have aV:(elX (aek x k) V (.phis b)++[[.int .i64 p.dst,sv]]:List (List Value)).flatten=(elX (aek x k) V (.phis b)).flatten++[.int .i64 p.dst,sv]:=by simp
 have hlen:(elX (aek x k) V (.phis b)++[[.int .i64 p.dst,sv]]:List (List Value)).length=k+1:=by simp [elX,aek];omega
 have r9 := r7.put (.phis b) (v' := v') (xss := elX (aek x k) V (.phis b) ++ [[.int .i64 p.dst, sv]]) (by rw [aV, hlen]; exact aC) (fun cs ag => by
  rcases Aa7.1 ag with h | h
  . exact hr.wid (.phis b) rfl cs h
  . rw [Aax] at h; rw [h]; rfl) hg (fun q hq ai c hc e => by
  rcases hq with hq | rfl
  . rw [aag _ _ (fun e => by subst e; exact cT hq)] at hc
    exact hr.apart q (.phis b) hq rfl ai c hc e
  . rw [aaj] at hc
    have := bx c hc
    have := (hr.lt (p := .phis b) rfl c e).2
    omega) (fun c hc => by
  rcases aK with h | h
  . exact .inl (by rw [<- h]; exact hc)
  . rw [h] at hc; cases hc; exact .inr (Aac _))
 refine (r9.less (ok':=akN b (k+1)) fun q hq=>?_).congr (fun q _=>rfl) (fun q hq=>?_)
 . cases q with
   | phis c=>exact .inr (by rw [show c=b from hq])
   | src c i =>
     obtain⟨rfl,hi⟩:=hq;rcases Abm.1 hi with h | h
     . exact .inl (.inl ⟨rfl,h⟩)
     . exact .inl (.inr (by rw [h]))
   | _=>exact absurd hq (by simp [akN])
 . cases q with
   | phis c =>
     obtain rfl:c=b:=hq;rw [aaj];show (x.phis.take (k+1)).mapIdx _=(x.phis.take k).mapIdx _++_;rw [af0 hp,ad9]
     congr 1
     . refine abA fun i y hi=>?_
       have dm:i<k:=by have:=(Aad.1 hi).1;rw [Aat] at this;omega
       rw [aag _ _ (by simp),aag _ _ (by simp;omega)]
     . rw [Aat,Abw (by omega),aag _ _ (by simp),aaj]
   | src c i =>
     obtain⟨rfl,hi⟩:=hq;rw [aag _ _ (by simp)];show ((x.phis.take (k+1)).getD i abw).src.map aaz=_;rcases Abm.1 hi with h | h
     . rw [aag _ _ (by simp;omega)]
       show _=((x.phis.take k).getD i abw).src.map aaz;rw [Aaf,Aaf,Abk,Abk,if_pos (by omega),if_pos h]
     . subst h
       rw [aaj,Aaf,Abk,if_pos (by omega),hp];rfl
   | _=>exact absurd hq (by simp [akN])
theorem ark (hr : aah W base (akO b k) V (elX (ael x k) V)) {y : aaK} (hp : x.list[k]? = some y) (au : Below W.heap.size W W5) {sv : Value} {B5 fn : Nat} (hs : W5.ownsRow B5 41 2 sv fn (y.args.map aaz).flatten) (aB : y.args.length = fn) (dh : W.heap.size <= B5) (aj : base <= W.heap.size)
 {PB:Nat} (aH:W.heap.size<=PB∧PB<B5) (aL:Kp (fun c=>c≠PB) W5 W6) {v':Value} (aC:W9.ownsRow base 49 8 v' (k+1) ((elX (ael x k) V (.list b)).flatten++abN y sv)) (hg:W6.grownBy W9 (V (.list b)).ownBlock)
 (aK:v'.ownBlock=(V (.list b)).ownBlock∨v'.ownBlock=some W6.heap.size) :
 aah W9 base (akO b (k+1)) (aaU (aaU V (.args b k) sv) (.list b) v') (elX (ael x (k+1)) (aaU (aaU V (.args b k) sv) (.list b) v')):=by
 have av:=(Aad.1 hp).1;have r5:=hr.later au;have c9:=au.size;have cT:¬akO b k (.args b k):=fun h=>Abq _ h.2;have r6:aah W6 base (akO b k) V (elX (ael x k) V):=aah.kp r5 aL fun q hq c hc e=>by have:=(hr.lt hq c hc).2;omega
 have a7:W6.ownsRow base 41 2 sv (y.args.map aaz).length (y.args.map aaz).flatten:=by
  rw [Aah,aB];refine ab4 ?_ (Aai aj dh);refine⟨hs.1,?_⟩;rcases hs.2 with h1 | ⟨g,cap,cur,e1,h3,h4,h5⟩
  . exact .inl h1
  . exact .inr ⟨g,cap,cur,e1,h3,(aL.block g (Aag.1 h4).1 (by omega)).trans h4,h5⟩
 have bx:∀c,sv.ownBlock=some c->B5<=c:=fun c hc=>(hs.lt c hc).1;have r7:aah W6 base (fun q=>akO b k q∨q = .args b k) (aaU V (.args b k) sv) (aaU (elX (ael x k) V) (.args b k) (y.args.map aaz)):=by
  refine⟨fun q hq=>?_,fun q hq=>?_,fun q1 q2 h1 h2 ai c hc=>?_⟩
  . by_cases e:q = .args b k
    . subst e;rw [aaj,aaj];exact a7
    . rw [aag _ _ e,aag _ _ e];exact r6.own q (hq.resolve_right e)
  . by_cases e:q = .args b k
    . subst e;rw [aaj];intro cs ag;obtain⟨v,_,rfl⟩:=Aal.1 ag;rfl
    . rw [aag _ _ e];exact r6.wid q (hq.resolve_right e)
  . by_cases e1:q1 = .args b k
    . have e2:q2 ≠ .args b k:=fun e=>ai (e1.trans e.symm)
      rw [e1,aaj] at hc;rw [aag _ _ e2];intro h3;have:=bx c hc;have:=(hr.lt (h2.resolve_right e2) c h3).2;omega
    . rw [aag _ _ e1] at hc
      by_cases e2:q2 = .args b k
      . rw [e2,aaj]
        intro h3;have:=bx c h3;have:=(hr.lt (h1.resolve_right e1) c hc).2;omega
      . rw [aag _ _ e2];exact r6.apart q1 q2 (h1.resolve_right e1) (h2.resolve_right e2) ai c hc
 have aV:(elX (ael x k) V (.list b)++[abN y sv]:List (List Value)).flatten=(elX (ael x k) V (.list b)).flatten++abN y sv:=by simp
 have hlen:(elX (ael x k) V (.list b)++[abN y sv]:List (List Value)).length=k+1:=by simp [elX,ael];omega
 have r9 := r7.put (.list b) (v' := v') (xss := elX (ael x k) V (.list b) ++ [abN y sv]) (by rw [aV, hlen]; exact aC) (fun cs ag => by
  rcases Aa7.1 ag with h | h
  . exact hr.wid (.list b) rfl cs h
  . rw [Aax] at h; rw [h]; rfl) hg (fun q hq ai c hc e => by
  rcases hq with hq | rfl
  . rw [aag _ _ (fun e => by subst e; exact cT hq)] at hc
    exact hr.apart q (.list b) hq rfl ai c hc e
  . rw [aaj] at hc
    have := bx c hc
    have := (hr.lt (p := .list b) rfl c e).2
    omega) (fun c hc => by
  rcases aK with h | h
  . exact .inl (by rw [<- h]; exact hc)
  . rw [h] at hc; cases hc; exact .inr (Aac _))
 refine (r9.less (ok':=akO b (k+1)) fun q hq=>?_).congr (fun q _=>rfl) (fun q hq=>?_)
 . cases q with
   | list c=>exact .inr (by rw [show c=b from hq])
   | args c i =>
     obtain⟨rfl,hi⟩:=hq;rcases Abm.1 hi with h | h
     . exact .inl (.inl ⟨rfl,h⟩)
     . exact .inl (.inr (by rw [h]))
   | _=>exact absurd hq (by simp [akO])
 . cases q with
   | list c =>
     obtain rfl:c=b:=hq;rw [aaj];show (x.list.take (k+1)).mapIdx _=(x.list.take k).mapIdx _++_;rw [af0 hp,ad9]
     congr 1
     . refine abA fun i y hi=>?_
       have dm:i<k:=by have:=(Aad.1 hi).1;rw [Aat] at this;omega
       rw [aag _ _ (by simp),aag _ _ (by simp;omega)]
     . rw [Aat,Abw (by omega),aag _ _ (by simp),aaj]
   | args c i =>
     obtain⟨rfl,hi⟩:=hq;rw [aag _ _ (by simp)];show ((x.list.take (k+1)).getD i abM).args.map aaz=_;rcases Abm.1 hi with h | h
     . rw [aag _ _ (by simp;omega)]
       show _=((x.list.take k).getD i abM).args.map aaz;rw [Aaf,Aaf,Abk,Abk,if_pos (by omega),if_pos h]
     . subst h
       rw [aaj,Aaf,Abk,if_pos (by omega),hp];rfl
   | _=>exact absurd hq (by simp [akO])
end
theorem aah.join {W : World} {base B : Nat} {ok ok' : Pth -> Prop} {V V' : Pth -> Value} {C C' : Pth -> List (List Value)} (P : Pth -> Bool) (h : aah W base ok V C) (h' : aah W B ok' V' C') (hB : base <= B) (az : ∀ q, ok q -> ∀ c, (V q).ownBlock = some c -> c < B)
 (h0:∀q,ok q->P q=false) (h1:∀q,ok' q->P q=true):aah W base (fun q=>ok q∨ok' q) (fun q=>if P q=true then V' q else V q) (fun q=>if P q=true then C' q else C q):=by
 have key:∀q,ok q∨ok' q->(ok' q∧P q=true)∨(ok q∧¬P q=true):=fun q hq=>by
  rcases hq with h2 | h2
  . exact .inr ⟨h2,by rw [h0 q h2];simp⟩
  . exact .inl ⟨h2,h1 q h2⟩
 refine⟨fun q hq=>?_,fun q hq=>?_,fun q1 q2 g1 g2 ai c hc=>?_⟩
 . rcases key q hq with⟨h2,e⟩ | ⟨h2,e⟩
   . simp only [if_pos e];exact ab4 (h'.own q h2) hB
   . simp only [if_neg e];exact h.own q h2
 . rcases key q hq with⟨h2,e⟩ | ⟨h2,e⟩
   . simp only [if_pos e];exact h'.wid q h2
   . simp only [if_neg e];exact h.wid q h2
 . rcases key q1 g1 with⟨h2,e⟩ | ⟨h2,e⟩
   . simp only [if_pos e] at hc
     rcases key q2 g2 with⟨h3,e'⟩ | ⟨h3,e'⟩
     . simp only [if_pos e'];exact h'.apart q1 q2 h2 h3 ai c hc
     . simp only [if_neg e']
       intro h4;have:=(h'.lt h2 c hc).1;have:=az q2 h3 c h4;omega
   . simp only [if_neg e] at hc
     rcases key q2 g2 with⟨h3,e'⟩ | ⟨h3,e'⟩
     . simp only [if_pos e']
       intro h4;have:=(h'.lt h3 c h4).1;have:=az q1 h2 c hc;omega
     . simp only [if_neg e'];exact h.apart q1 q2 h2 h3 ai c hc
end
section
open Go.RowKit
theorem anz {fn : Func} {t : Nat} (aB : fn.results = #[.cell t 46]) {tmps : Array Value} {W : World} {UO : Nat} {u0 u1 u2 u3 u4 u5 : Value}
 (h2:tmps.getD t undef = .pointer (some ⟨UO,0,none⟩)) (hF:aal W UO 0 [u0,u1,u2,u3,u4,u5]) :
 (results fn tmps).run Tryz.prog W = .ok (.agg #[u0,u1,u2,u3,u4,u5]) W:=by
 obtain⟨a0,a1,a2,a3,a4,a5⟩:=hF.get6;simp only [Acn] at h2;simp [results,aB,h2,go_sem,a0,a1,a2,a3,a4,a5]
theorem aah.nilX1(W:World)(base b:Nat)(x:DBlock):aah W base (akN b 0) (fun _ => .slice none 0 0) (elX (aek x 0) fun _ => .slice none 0 0):=by
 refine⟨fun q hq=>?_,fun q hq=>?_,fun q1 q2 _ _ _ c hc=>by cases hc⟩
 . cases q with
   | phis c=>exact World.ownsRow_nil _ _ _ _
   | src c i=>exact absurd hq.2 (Aa4 _)
   | _=>exact absurd hq (by simp [akN])
 . cases q with
   | phis c=>intro cs ag;cases ag
   | src c i=>exact absurd hq.2 (Aa4 _)
   | _=>exact absurd hq (by simp [akN])
theorem aah.nilX2(W:World)(base b:Nat)(x:DBlock):aah W base (akO b 0) (fun _ => .slice none 0 0) (elX (ael x 0) fun _ => .slice none 0 0):=by
 refine⟨fun q hq=>?_,fun q hq=>?_,fun q1 q2 _ _ _ c hc=>by cases hc⟩
 . cases q with
   | list c=>exact World.ownsRow_nil _ _ _ _
   | args c i=>exact absurd hq.2 (Aa4 _)
   | _=>exact absurd hq (by simp [akO])
 . cases q with
   | list c=>intro cs ag;cases ag
   | args c i=>exact absurd hq.2 (Aa4 _)
   | _=>exact absurd hq (by simp [akO])
theorem ajD {S:Nat->Prop}{fa:Option Addr}{fn fc:Nat}{l:List Int}{w W:World}(h:SlAt S w 1 acz (.slice fa fn fc) l)(hb:Below w.heap.size w W)(hn:fn<=1048576) :
 Calls Tryz.prog 28 #[.slice fa fn fc] W fun e w'=>∃va vc,e = .returned (.slice va fn vc)∧w'.ownsRow W.heap.size 3 1 (.slice va fn vc) fn (l.map fun t=>[Value.int .i64 t]).flatten∧Below W.heap.size W w':=by
 obtain⟨xss,hl,dR,dS,ej,bg,hc⟩:=aeB h (by decide);have e:=ajn (fun t=>[Value.int .i64 t]) (by omega) dS (fun cs x h=>h.1);subst e;refine agB fa fn fc _ W ?_ bg (fun b ei j u hj=>?_) (adr fun cs ag u hu=>?_) hn
 . rw [abp _ (fun i cs hi=>ej cs (Aae hi)),dR]
 . have h:=hc b ei j u hj
   rw [hb.cell (p:=b.add j) (aby h)];exact h
 . obtain⟨v,_,rfl⟩:=Aal.1 ag
   rw [Aax] at hu;rw [hu];rfl
def isL : Pth -> Bool
 | .list _=>true
 | .args _ _=>true
 | _=>false
def isT : Pth -> Bool
 | .to _=>true
 | _=>false
theorem anA {W W1 W2 W3 : World} {base B2 B3 b : Nat} {x : DBlock} {V V2 : Pth -> Value} {tv : Value} (h1 : aah W1 base (akN b x.phis.length) V (elX x V)) (h2 : aah W2 B2 (akO b x.list.length) V2 (elX x V2)) {tn : Nat} (h3 : W3.ownsRow B3 3 1 tv tn (x.fin.to.map fun t => [Value.int .i64 t]).flatten) (aY : x.fin.to.length = tn)
 (g1:base<=B2∧W1.heap.size<=B2) (g2:B2<=B3∧W2.heap.size<=B3) {F:Nat->Prop} (k1:Kp F W1 W) (k2:Kp F W2 W) (k3:Kp F W3 W) (hF:∀c,base<=c->F c) :
 aah W base (okX b x) (fun q=>if isT q=true then tv else if isL q=true then V2 q else V q) (elX x fun q=>if isT q=true then tv else if isL q=true then V2 q else V q):=by
 have r1:aah W base (akN b x.phis.length) V (elX x V):=aah.kp h1 k1 fun q hq c hc=>hF c (h1.lt hq c hc).1;have r2:aah W B2 (akO b x.list.length) V2 (elX x V2):=aah.kp h2 k2 fun q hq c hc=>hF c (Aai g1.1 (h2.lt hq c hc).1);have r3:aah W B3 (ata b) (fun _=>tv) (elX x V):=by
  refine⟨fun q hq=>?_,fun q hq=>?_,fun q1 q2 e1 e2 ai=>?_⟩
  . cases q with
    | «to» c =>
      show W.ownsRow B3 3 1 tv (x.fin.to.map _).length (x.fin.to.map _).flatten;rw [Aah,aY];refine⟨h3.1,?_⟩;rcases h3.2 with h4 | ⟨g,cap,cur,e1,h5,h6,h7⟩
      . exact .inl h4
      . exact .inr ⟨g,cap,cur,e1,h5,(k3.block g (Aag.1 h6).1 (hF g (by omega))).trans h6,h7⟩
    | _=>exact absurd hq (by simp [ata])
  . cases q with
    | «to» c=>intro cs ag;obtain⟨t,_,rfl⟩:=Aal.1 ag;rfl
    | _=>exact absurd hq (by simp [ata])
  . cases q1 with
    | «to» c =>
      cases q2 with
      | «to» c'=>exact absurd (by rw [show c=b from e1,show c'=b from e2]) ai
      | _=>exact absurd e2 (by simp [ata])
    | _=>exact absurd e1 (by simp [ata])
 have j1:=aah.join isL r1 r2 g1.1 (fun q hq c hc=>Aay (h1.lt hq c hc).2 g1.2) (fun q hq=>by cases q <;> first | rfl | exact absurd hq (by simp [akN])) (fun q hq=>by cases q <;> first | rfl | exact absurd hq (by simp [akO]))
 have j2 := aah.join isT j1 r3 (Aai g1.1 g2.1) (fun q hq c hc => by
  rcases hq with hq | hq
  . have e : isL q = false := by cases q <;> first | rfl | exact absurd hq (by simp [akN])
    simp only [e, Acd, if_false] at hc
    have := (h1.lt hq c hc).2
    omega
  . have e : isL q = true := by cases q <;> first | rfl | exact absurd hq (by simp [akO])
    simp only [e, if_true] at hc
    have := (h2.lt hq c hc).2
    omega) (fun q hq => by cases q <;> first | rfl | exact absurd hq (by simp [akN, akO])) (fun q hq => by cases q <;> first | rfl | exact absurd hq (by simp [ata]))
 refine (j2.less (ok':=okX b x) fun q hq=>?_).congr (fun q _=>rfl) (fun q hq=>?_)
 . cases q with
   | phis c=>exact .inl (.inl hq)
   | src c i=>exact .inl (.inl hq)
   | list c=>exact .inl (.inr hq)
   | args c i=>exact .inl (.inr hq)
   | «to» c=>exact .inr hq
   | _=>exact absurd hq (by simp [okX])
 . cases q <;> first | rfl | exact absurd hq (by simp [okX])
theorem akP {S : Nat -> Prop} (b : Nat) (x : DBlock) (pa la ta : Option Addr) (p q tn pc lc tc : Nat) (w : World) (hp : SlAt S w 2 amb (.slice pa p pc) x.phis) (hl : SlAt S w 8 acs (.slice la q lc) x.list) (ht : SlAt S w 1 acz (.slice ta tn tc) x.fin.to)
 (bk:aka x) (a6:x.phis.length=p) (dk:x.list.length=q) (aY:x.fin.to.length=tn) :
 Calls Tryz.prog 65 #[.agg #[.slice pa p pc,.slice la q lc,.int .i64 x.fin.kind,.bool x.fin.on.reg,.int .i64 x.fin.on.n,.slice ta tn tc]] w fun e w' =>
  ∃V,e = .returned (.agg #[V (.phis b),V (.list b),.int .i64 x.fin.kind,.bool x.fin.on.reg,.int .i64 x.fin.on.n,V (.to b)])∧aah w' w.heap.size (okX b x) V (elX x V)∧Below w.heap.size w w':=by
 obtain⟨ip,eh,cA,cY,c6⟩:=info_parts an8;obtain⟨ii,dI,cR,db,cC⟩:=info_parts ahq;have ez:p<=1048576:=by rw [<-a6];exact bk.phis
 have ev:q<=1048576:=by rw [<-dk];exact bk.list
 have eu:tn<=1048576:=by rw [<-aY];exact bk.to
 obtain⟨ek,bJ⟩:∃ek,ek=x.fin.kind:=⟨_,rfl⟩
 obtain⟨er,bH⟩:∃er,er=x.fin.on.reg:=⟨_,rfl⟩
 obtain⟨en,bK⟩:∃en,en=x.fin.on.n:=⟨_,rfl⟩
 rw [<-bJ,<-bH,<-bK];have Hp:=hid hp;have Hl:=hid hl;have Ht:=hid ht;have cu:=hid bk;have HN:Hid (x.phis.length=p∧x.list.length=q∧x.fin.to.length=tn):=⟨a6,dk,aY⟩
 clear hp hl ht bk bJ bH bK a6 dk aY;go_enter Tryz.func65,Tryz.ntmps65;go_upto_region 1 with (fail)
 obtain⟨W,hW⟩:∃W,W=(w.alloc (.cells #[.slice pa p pc,.slice la q lc,.int .i64 ek,.bool er,.int .i64 en,.slice ta tn tc] 46)).alloc (.cells #[.slice none 0 0,.slice none 0 0,.int .i64 0,.bool false,.int .i64 0,.slice none 0 0] 46):=⟨_,rfl⟩
 obtain⟨bw,h0,h1⟩:=abQ w (.cells #[.slice pa p pc,.slice la q lc,.int .i64 ek,.bool er,.int .i64 en,.slice ta tn tc] 46) (.cells #[.slice none 0 0,.slice none 0 0,.int .i64 0,.bool false,.int .i64 0,.slice none 0 0] 46);rw [<-hW] at bw h0 h1 ⊢;have bU:Below w.heap.size w W:=by rw [hW];exact bE
 obtain⟨UB,bt⟩:∃UB,UB=w.heap.size:=⟨_,rfl⟩
 obtain⟨UO,bA⟩:∃UO,UO=w.heap.size+1:=⟨_,rfl⟩
 rw [<-bA] at h1 ⊢;rw [<-bt] at h0 ⊢;have aA:Hid (UB=w.heap.size∧UO=w.heap.size+1∧W.heap.size=w.heap.size+2):=⟨bt,bA,bw⟩
 have H0:=hid h0;have H1:=hid h1;have bh:=hid bU;have c0:=(aad (cs:=[_,_,_,_,_,_]) h0).get6.1;have zB:=aac c0;clear hW h0 h1 bU bt bA bw;go_wp2_with fail;clear c0 zB;go_loopw [3,12] (fun s3 s12 wr=>∃(k:Nat) (V:Pth->Value) (va:Option Addr) (vc:Nat),k<=p∧s12 = .int .i64 (k:Int)∧s3 = .slice va k vc∧V (.phis b) = .slice va k vc∧aah wr W.heap.size (akN b k) V (elX (aek x k) V)∧Below W.heap.size W wr) (fun _ s12 _=>p - (intOf s12).toNat)
 case atStart=>exact⟨0,_,none,0,Aaj _,rfl,rfl,rfl,aah.nilX1 _ _ _ _,Below.refl _ _⟩
 case round =>
  obtain⟨wo,b8⟩:∃wo:World,wo=wr:=⟨_,rfl⟩
  subst b8;obtain⟨k,V,va,vc,hk,rfl,rfl,dq,aw,hb⟩:=hrel;have ad:=hid aw;have Hb:=hid hb;have bM:=hid dq;have cn:=hb.size;clear aw dq
  by_cases a8:k<p
  . have av:k<x.phis.length:=by rw [HN.out.1];exact a8
    obtain⟨ph,bZ⟩:∃ph,x.phis[k]?=some ph:=⟨_,Aaa av⟩
    obtain⟨gb,off,fa,fc,rfl,d0,d1,aI,hI,-⟩:=ati ((Hp.out.later acg (bh.out.trans (hb.mono bh.out.size)))) av;have e9:x.phis[k]=ph:=by rw [Aaa av] at bZ;exact Option.some.inj bZ
    rw [e9] at d0 d1 aI hI;obtain⟨fn,aB⟩:∃fn,fn=ph.src.length:=⟨_,rfl⟩
    obtain⟨d,hd⟩:∃d,d=ph.dst:=⟨_,rfl⟩
    rw [<-aB] at d1 aI;rw [<-hd] at d0;have bB:fn<=1048576:=by rw [aB];exact cu.out.src ph (Aae bZ)
    have zg:=aac d0;have cB:=hid aI;have dK:=hid bZ;have HD:Hid (fn=ph.src.length∧d=ph.dst):=⟨aB,hd⟩
    clear av bZ aI hI e9 aB hd hb;go_upto_region 5 with (fail)
    obtain⟨PB,aH⟩:∃PB,PB=wo.heap.size:=⟨_,rfl⟩
    obtain⟨W4,ay⟩:∃W4,W4=wo.alloc (.cells #[.int .i64 d,.slice fa fn fc] 115):=⟨_,rfl⟩
    have aJ:W4.heap[PB]?=some (.cells #[.int .i64 d,.slice fa fn fc] 115 (0,0)):=by rw [ay,aH];exact heap_alloc_new _ _
    have aE:Below wo.heap.size wo W4:=by rw [ay];exact bE
    rw [<-ay,<-aH];have aS:Hid (PB=wo.heap.size∧W4.heap.size=PB+1):=⟨aH,by rw [ay,aH];simp⟩
    obtain⟨p0,p1⟩:=(aad (cs:=[_,_]) aJ).get2;rw [Aab] at p1;have zP:=aac p0;have f1:=aaq aJ 1;have cz:=hid (ada cB.out aE bB);have bG:=hid aJ;have aq:=hid aE;clear aH ay aJ aE d0 d1 zg;go_upto_region 6 with (go_at_call 84;refine cz.out.mono ?_;rintro e w5 ⟨sa,sc,rfl,bO,au⟩;have dc:=hid bO;have b7:=hid au;have p0:=aab p0 au;have p1:=aab p1 au;have f1:=(au.frozen (p:=⟨PB,1,none⟩) zP).trans f1;have zP:=aac p0;clear bO au)
    obtain⟨W6,aW⟩:∃W6,W6=w5.setCell ⟨PB,1,none⟩ (.slice sa fn sc):=⟨_,rfl⟩
    have bL:W6.heap[PB]?=some (.cells #[.int .i64 d,.slice sa fn sc] 115 (0,0)):=by
     rw [aW,aak (i:=1) ((b7.out.block PB (Aag.1 bG.out).1).trans bG.out)];rfl
    have aL:Kp (fun c=>c≠PB) w5 W6:=by rw [aW];exact aaP _ _ _ _
    have a7:W6.heap.size=w5.heap.size:=by rw [aW];simp [World.setCell]
    rw [<-aW];obtain⟨dW,dY⟩:=(aad (cs:=[_,_]) bL).get2;rw [Aab] at dY;have eb:=aac dW;have aD:Hid (Below wo.heap.size wo w5):=aq.out.trans (b7.out.mono aq.out.size);have bW:=hid aL;have bu:=hid a7;have ax:W6.ownsRow W.heap.size 115 2 (.slice va k vc) k (elX (aek x k) V (.phis b)).flatten:=by
     have h:=(aah.kp (ad.out.later aD.out) aL fun q' c7 c hc e=>by have:=(ad.out.lt c7 c hc).2;have:=aS.out;omega).own (.phis b) rfl;rw [bM.out,show (elX (aek x k) V (.phis b)).length=k by simp [elX,aek];have:=HN.out.1;omega] at h;exact h
    have aQ:=hid ax;clear aW bL aL a7 p0 p1 f1 zP ax;go_wp2_with (at_builtin;refine wpList_append_own_at _ rfl _ _ 38 rfl W.heap.size 115 ip (.agg #[.int .i64 0,.slice none 0 0]) 2 32 Tryz.underlying38 eh cA cY c6 rfl (by decide) (.slice va k vc) k (elX (aek x k) V (.phis b)).flatten rfl ?_ ⟨W6.heap.size,0,none⟩ 1 1 [.int .i64 d,.slice sa fn sc] rfl rfl ?_ ?_ ?_ ?_ ?_ ?_)
    . exact aao aQ.out bE
    . intro m u hu;exact aaB _ _ _ rfl m u hu
    . intro u hu
      simp only [Aam,Aaq,or_false] at hu;rcases hu with rfl | rfl <;> rfl
    . unfold maxLen;omega
    . omega
    . have:=aD.out.size;have:=bu.out;simp;omega
    . intro v' w9 af ae _ aK
      obtain⟨bl,bj,rfl⟩:=aap af;have dE:=ae.size;have ah:=arj (sv := .slice sa fn sc) (fn:=fn) (PB:=PB) (v' := .slice bl (k+1) bj) ad.out dK.out aD.out dc.out HD.out.1.symm (by have:=aS.out;omega) cn ⟨by rw [aS.out.1];exact Aac _,by have:=aS.out;omega⟩ (bW.out.trans (Kp.of (Below.alloc (Below.refl _ _) (Aac _) _))) (by rw [<-HD.out.2];exact af) (by rw [bM.out];exact ae) (by rw [bM.out];rcases aK with h | h;exact .inl h;exact .inr (h.trans (by simp)));have aN:Below W.heap.size W w9:=by
       refine Below.grown ?_ ae (by simp;have:=aD.out.size;have:=bu.out;omega) (fun c hc=>by rw [<-bM.out] at hc;exact (ad.out.lt (p := .phis b) rfl c hc).1);refine Below.alloc ?_ (by have:=aD.out.size;have:=bu.out;omega) _;exact (Hb.out.trans (aD.out.mono cn)).trans (bW.out.below fun c hc=>⟨by have:=aD.out.size;omega,by have:=aS.out;omega⟩)
      have al:=hid ah;have bq:=hid aN;clear af ae aK ah aN dE;go_wp2_with fail;go_roundw
      case rel=>exact⟨k+1,_,bl,bj,by omega,by go_num,rfl,aaj _ _ _,al.out,bq.out⟩
      case measure=>simp [intOf];omega
  . have dV:p=k:=by omega
    subst dV;have cc:aek x p=x:=by
     unfold aek;rw [Abr (by rw [HN.out.1];exact Aac _)]
    obtain⟨WA,dQ⟩:∃WA:World,WA=wo:=⟨_,rfl⟩
    subst dQ;have cL:=ad.out;rw [cc] at cL;have el:=hid cL;have dZ:=hb;have c1:=aab (by have h:=(aad (cs:=[_,_,_,_,_,_]) H0.out) 1 _ rfl;rw [Aab] at h;exact h) hb;have zB:=aac c1;have cU:Hid (W.heap.size<=WA.heap.size):=hb.size;clear cc cL hb dZ hk a8 ad;go_wp2_with fail;clear c1 zB;go_loopw [6,28] (fun s6 s28 wr=>∃(k:Nat) (V2:Pth->Value) (ua:Option Addr) (uc:Nat),k<=q∧s28 = .int .i64 (k:Int)∧s6 = .slice ua k uc∧V2 (.list b) = .slice ua k uc∧aah wr WA.heap.size (akO b k) V2 (elX (ael x k) V2)∧Below WA.heap.size WA wr) (fun _ s28 _=>q - (intOf s28).toNat)
    case atStart=>exact⟨0,_,none,0,Aaj _,rfl,rfl,rfl,aah.nilX2 _ _ _ _,Below.refl _ _⟩
    case round =>
     obtain⟨wo,b8⟩:∃wo:World,wo=wr:=⟨_,rfl⟩
     subst b8;obtain⟨k,V2,ua,uc,hk,rfl,rfl,dA,aw,hb⟩:=hrel;have ad:=hid aw;have dC:=hid hb;have bV:=hid dA;have bS:=hb.size;clear aw dA
     by_cases hkq:k<q
     . have av:k<x.list.length:=by rw [HN.out.2.1];exact hkq
       obtain⟨y,hy⟩:∃y,x.list[k]?=some y:=⟨_,Aaa av⟩
       obtain⟨gb,off,fa,fc,rfl,ag,aI,hI⟩:=an9 ((Hl.out.later aay (bh.out.trans ((Hb.out.trans (hb.mono cU.out)).mono bh.out.size)))) av;have e9:x.list[k]=y:=by rw [Aaa av] at hy;exact Option.some.inj hy
       rw [e9] at ag aI;obtain⟨fn,aB⟩:∃fn,fn=y.args.length:=⟨_,rfl⟩
       obtain⟨op,hop⟩:∃op,op=y.op:=⟨_,rfl⟩
       obtain⟨d,hd⟩:∃d,d=y.dst:=⟨_,rfl⟩
       obtain⟨ar,cK⟩:∃ar,ar=y.a.reg:=⟨_,rfl⟩
       obtain⟨an,cI⟩:∃an,an=y.a.n:=⟨_,rfl⟩
       obtain⟨br,c8⟩:∃br,br=y.b.reg:=⟨_,rfl⟩
       obtain⟨bn,aN⟩:∃bn,bn=y.b.n:=⟨_,rfl⟩
       obtain⟨yf,cW⟩:∃yf,yf=y.fn:=⟨_,rfl⟩
       rw [<-aB,<-hop,<-hd,<-cK,<-cI,<-c8,<-aN,<-cW] at ag;rw [<-aB] at aI;have bB:fn<=1048576:=by rw [aB];exact cu.out.args y (Aae hy)
       obtain⟨d0,d1,d2,d3,d4,d5,d6,d7⟩:=ag.get8;have zg:=aac d0;have cB:=hid aI;have Hy:=hid hy;have HD:Hid (fn=y.args.length∧abN y=fun u=>[.int .i64 op,.int .i64 d,.bool ar,.int .i64 an,.bool br,.int .i64 bn,.int .i64 yf,u]):=⟨aB,by rw [hop,hd,cK,cI,c8,aN,cW];rfl⟩
       clear av hy aI hI e9 aB hop hd cK cI c8 aN cW hb ag;go_upto_region 12 with (fail)
       obtain⟨PB,aH⟩:∃PB,PB=wo.heap.size:=⟨_,rfl⟩
       obtain⟨W4,ay⟩:∃W4,W4=wo.alloc (.cells #[.int .i64 op,.int .i64 d,.bool ar,.int .i64 an,.bool br,.int .i64 bn,.int .i64 yf,.slice fa fn fc] 49):=⟨_,rfl⟩
       have aJ:W4.heap[PB]?=some (.cells #[.int .i64 op,.int .i64 d,.bool ar,.int .i64 an,.bool br,.int .i64 bn,.int .i64 yf,.slice fa fn fc] 49 (0,0)):=by rw [ay,aH];exact heap_alloc_new _ _
       have aE:Below wo.heap.size wo W4:=by rw [ay];exact bE
       rw [<-ay,<-aH];have aS:Hid (PB=wo.heap.size∧W4.heap.size=PB+1):=⟨aH,by rw [ay,aH];simp⟩
       have p5:=(aad (cs:=[_,_,_,_,_,_,_,_]) aJ) 7 _ rfl;rw [Aab] at p5;have zP:=aac p5;have f5:=aaq aJ 7;have cz:=hid (ada cB.out aE bB);have bG:=hid aJ;have aq:=hid aE;clear aH ay aJ aE d0 d1 d2 d3 d4 d5 d6 d7 zg;go_upto_region 13 with (go_at_call 84;refine cz.out.mono ?_;rintro e w5 ⟨sa,sc,rfl,bO,au⟩;have dc:=hid bO;have b7:=hid au;have p5:=aab p5 au;have f5:=(au.frozen (p:=⟨PB,7,none⟩) zP).trans f5;have zP:=aac p5;clear bO au)
       obtain⟨W6,aW⟩:∃W6,W6=w5.setCell ⟨PB,7,none⟩ (.slice sa fn sc):=⟨_,rfl⟩
       have bL:W6.heap[PB]?=some (.cells #[.int .i64 op,.int .i64 d,.bool ar,.int .i64 an,.bool br,.int .i64 bn,.int .i64 yf,.slice sa fn sc] 49 (0,0)):=by
        rw [aW,aak (i:=7) ((b7.out.block PB (Aag.1 bG.out).1).trans bG.out)];rfl
       have aL:Kp (fun c=>c≠PB) w5 W6:=by rw [aW];exact aaP _ _ _ _
       have a7:W6.heap.size=w5.heap.size:=by rw [aW];simp [World.setCell]
       rw [<-aW];obtain⟨m0,m1,m2,m3,m4,m5,m6,m7⟩:=(aad (cs:=[_,_,_,_,_,_,_,_]) bL).get8;rw [Aab] at m1 m2 m3 m4 m5 m6 m7;have eb:=aac m0;have aD:Hid (Below wo.heap.size wo w5):=aq.out.trans (b7.out.mono aq.out.size);have bW:=hid aL;have bu:=hid a7;have ax:W6.ownsRow WA.heap.size 49 8 (.slice ua k uc) k (elX (ael x k) V2 (.list b)).flatten:=by
        have h:=(aah.kp (ad.out.later aD.out) aL fun q' c7 c hc e=>by have:=(ad.out.lt c7 c hc).2;have:=aS.out;omega).own (.list b) rfl;rw [bV.out,show (elX (ael x k) V2 (.list b)).length=k by simp [elX,ael];have:=HN.out.2.1;omega] at h;exact h
       have aQ:=hid ax;clear aW bL aL a7 p5 f5 zP ax;go_wp2_with (at_builtin;refine wpList_append_own_at _ rfl _ _ 39 rfl WA.heap.size 49 ii (.agg #[.int .i64 0,.int .i64 0,.bool false,.int .i64 0,.bool false,.int .i64 0,.int .i64 0,.slice none 0 0]) 8 80 Tryz.underlying39 dI cR db cC rfl (by decide) (.slice ua k uc) k (elX (ael x k) V2 (.list b)).flatten rfl ?_ ⟨W6.heap.size,0,none⟩ 1 1 [.int .i64 op,.int .i64 d,.bool ar,.int .i64 an,.bool br,.int .i64 bn,.int .i64 yf,.slice sa fn sc] rfl rfl ?_ ?_ ?_ ?_ ?_ ?_)
       . exact aao aQ.out bE
       . intro m u hu;exact aaB _ _ _ rfl m u hu
       . intro u hu
         simp only [Aam,Aaq,or_false] at hu;rcases hu with rfl | rfl | rfl | rfl | rfl | rfl | rfl | rfl <;> rfl
       . unfold maxLen;omega
       . omega
       . have:=aD.out.size;have:=bu.out;simp;omega
       . intro v' w9 af ae _ aK
         obtain⟨bl,bj,rfl⟩:=aap af;have ah:=ark (sv := .slice sa fn sc) (fn:=fn) (PB:=PB) (v' := .slice bl (k+1) bj) ad.out Hy.out aD.out dc.out HD.out.1.symm (by have:=aS.out;omega) bS ⟨by rw [aS.out.1];exact Aac _,by have:=aS.out;omega⟩ (bW.out.trans (Kp.of (Below.alloc (Below.refl _ _) (Aac _) _))) (by rw [HD.out.2];exact af) (by rw [bV.out];exact ae) (by rw [bV.out];rcases aK with h | h;exact .inl h;exact .inr (h.trans (by simp)));have aN:Below WA.heap.size WA w9:=by
          refine Below.grown ?_ ae (by simp;have:=aD.out.size;have:=bu.out;omega) (fun c hc=>by rw [<-bV.out] at hc;exact (ad.out.lt (p := .list b) rfl c hc).1);refine Below.alloc ?_ (by have:=aD.out.size;have:=bu.out;omega) _;exact (dC.out.trans (aD.out.mono bS)).trans (bW.out.below fun c hc=>⟨by have:=aD.out.size;omega,by have:=aS.out;omega⟩)
         have al:=hid ah;have bq:=hid aN;clear af ae aK ah aN;go_wp2_with fail;go_roundw
         case rel=>exact⟨k+1,_,bl,bj,by omega,by go_num,rfl,aaj _ _ _,al.out,bq.out⟩
         case measure=>simp [intOf];omega
     . have et:q=k:=by omega
       subst et;have cb:ael x q=x:=by
        unfold ael;rw [Abr (by rw [HN.out.2.1];exact Aac _)]
       have aZ:=ad.out;rw [cb] at aZ;have cZ:=hid aZ;have cj:Below W.heap.size W wo:=Hb.out.trans (hb.mono cU.out);have aO:=(cj.block UB (Aag.1 H0.out).1).trans H0.out;have aX:=(cj.block UO (Aag.1 H1.out).1).trans H1.out;obtain⟨WB,eo⟩:∃WB:World,WB=wo:=⟨_,rfl⟩
       subst eo;obtain⟨c0,c1,c2,c3,c4,c5⟩:=(aad (cs:=[_,_,_,_,_,_]) aO).get6;rw [Aab] at c1 c2 c3 c4 c5;have f0:=aaq aO 0;have f1:=aaq aO 1;have zB:=aac c0;have cv:=hid aO;have ck:=hid aX;have dJ:=hid cj;have ef:Hid (WA.heap.size<=WB.heap.size):=hb.size;clear cb aZ cj aO aX hb hk hkq ad;go_upto_region 16 with (fail)
       obtain⟨W7,bC⟩:∃W7,W7=(WB.setCell ⟨UB,0,none⟩ (.slice va p vc)).setCell ⟨UB,1,none⟩ (.slice ua q uc):=⟨_,rfl⟩
       have bd:W7.heap[UB]?=some (.cells #[.slice va p vc,.slice ua q uc,.int .i64 ek,.bool er,.int .i64 en,.slice ta tn tc] 46 (0,0)):=by
        rw [bC,aak (i:=1) (aak (i:=0) cv.out _)];rfl
       have cx:Kp (fun c=>c≠UB) WB W7:=by rw [bC];exact aaD (aaP _ _ _ _) _ _
       have dz:W7.heap.size=WB.heap.size:=by rw [bC];simp [World.setCell]
       have cf:=(cx.block UO (by have:=(Aag.1 ck.out).1;omega) (by have:=aA.out;omega)).trans ck.out;rw [<-bC];have df:Below w.heap.size w W7:=by
        rw [bC];have h1:w.heap.size<=UB:=by have:=aA.out;omega
        exact ((bh.out.trans (dJ.out.mono bh.out.size)).setCell (p:=⟨UB,0,none⟩) h1 _).setCell (p:=⟨UB,1,none⟩) h1 _
       have p5:=(aad (cs:=[_,_,_,_,_,_]) bd) 5 _ rfl;rw [Aab] at p5;have f5:=aaq bd 5;have z7:=aac p5;have dX:=hid (ajD Ht.out df eu);have bQ:=hid bd;have bz:=hid cf;have dO:=hid cx;have dM:=hid dz;have ds:=hid df;clear bC bd cx dz cf df c0 c1 c2 c3 c4 c5 f0 f1 zB;go_upto_region 17 with (go_at_call 28;refine dX.out.mono ?_;rintro e w8 ⟨xa,xc,rfl,dx,cw⟩;have ec:=hid dx;have bI:=hid cw;have p5:=aab p5 cw;have f5:=(cw.frozen (p:=⟨UB,5,none⟩) z7).trans f5;have z7:=aac p5;clear dx cw)
       obtain⟨W9,cg⟩:∃W9,W9=w8.setCell ⟨UB,5,none⟩ (.slice xa tn xc):=⟨_,rfl⟩
       have aU:W9.heap[UB]?=some (.cells #[.slice va p vc,.slice ua q uc,.int .i64 ek,.bool er,.int .i64 en,.slice xa tn xc] 46 (0,0)):=by
        rw [cg,aak (i:=5) ((bI.out.block UB (Aag.1 bQ.out).1).trans bQ.out)];rfl
       have bD:Kp (fun c=>c≠UB) w8 W9:=by rw [cg];exact aaP _ _ _ _
       have dr:W9.heap.size=w8.heap.size:=by rw [cg];simp [World.setCell]
       have ai:¬UO=UB:=by have:=aA.out;omega
       have ao:=(bD.block UO (by have:=(Aag.1 bz.out).1;have:=bI.out.size;omega) ai).trans ((bI.out.block UO (Aag.1 bz.out).1).trans bz.out);rw [<-cg];obtain⟨c0,c1,c2,c3,c4,c5⟩:=(aad (cs:=[_,_,_,_,_,_]) aU).get6;obtain⟨o0,o1,o2,o3,o4,o5⟩:=(aad (cs:=[_,_,_,_,_,_]) ao).get6;rw [Aab] at c1 c2 c3 c4 c5 o1 o2 o3 o4 o5;have z0:=aaq ao 0;have z1:=aaq ao 1;have z2:=aaq ao 2;have z3:=aaq ao 3;have z4:=aaq ao 4;have z5:=aaq ao 5;have eB:=aac c0;have eE:=aac o0;have dj:=hid ao;have dp:=hid bD;have dP:=hid dr;clear cg aU bD dr ao p5 f5 z7 ai;go_wp2_with fail;have cH:=auh (u0 := .slice va p vc) (u1 := .slice ua q uc) (u2 := .int .i64 ek) (u3 := .bool er) (u4 := .int .i64 en) (u5 := .slice xa tn xc) (aad (cs:=[_,_,_,_,_,_]) dj.out);refine bodyPost_ret (anz rfl rfl cH) rfl ⟨fun q=>if isT q=true then .slice xa tn xc else if isL q=true then V2 q else V q,?_,?_,?_⟩
       . show _=Ending.returned (.agg #[V (.phis b),V2 (.list b),_,_,_,.slice xa tn xc])
         rw [bM.out,bV.out]
       all_goals
        have hu:=aA.out;have a1:=cU.out;have a2:=ef.out;have a3:=dM.out;have a4:=bI.out.size;have a5:=dP.out;have kO:Kp (fun c=>c≠UB∧c≠UO) W9 ((((((W9.setCell ⟨UO,0,none⟩ (.slice va p vc)).setCell ⟨UO,1,none⟩ (.slice ua q uc)).setCell ⟨UO,2,none⟩ (.int .i64 ek)).setCell ⟨UO,3,none⟩ (.bool er)).setCell ⟨UO,4,none⟩ (.int .i64 en)).setCell ⟨UO,5,none⟩ (.slice xa tn xc)) :=
         (aaD (aaD (aaD (aaD (aaD (aaP W9 UO 0 _) _ _) _ _) _ _) _ _) _ _).less fun c h=>h.2
        have k9:Kp (fun c=>c≠UB∧c≠UO) w8 W9:=dp.out.less fun c h=>h.1;have k7:Kp (fun c=>c≠UB∧c≠UO) WB W7:=dO.out.less fun c h=>h.1;have dw:Kp (fun c=>c≠UB∧c≠UO) W7 w8:=Kp.of bI.out
       . have eg := anA (x := x) (by rw [HN.out.1]; exact el.out) (by rw [HN.out.2.1]; exact cZ.out) ec.out HN.out.2.2 ⟨a1, Aac _⟩ ⟨by omega, by omega⟩
          (((((Kp.of (F:=fun c=>c≠UB∧c≠UO) dC.out).trans k7).trans dw).trans k9).trans kO) (((k7.trans dw).trans k9).trans kO) (k9.trans kO) (fun c hc=>by omega)
         exact aah.low eg (by omega)
       . have h1:w.heap.size<=UB:=by omega
         have h2:w.heap.size<=UO:=by omega
         have hb:=(ds.out.trans (bI.out.mono ds.out.size))
         have dN:=hb.trans (dp.out.below fun c hc=>⟨by omega,by omega⟩);exact (((((dN.setCell (p:=⟨UO,0,none⟩) h2 _).setCell (p:=⟨UO,1,none⟩) h2 _).setCell (p:=⟨UO,2,none⟩) h2 _).setCell (p:=⟨UO,3,none⟩) h2 _).setCell (p:=⟨UO,4,none⟩) h2 _).setCell (p:=⟨UO,5,none⟩) h2 _
end
section
open Go.RowKit
def isK (k : Nat) : Pth -> Bool
 | .phis c=>c == k
 | .src c _=>c == k
 | .list c=>c == k
 | .args c _=>c == k
 | .to c=>c == k
 | _=>false
variable {bs:List DBlock}{k:Nat}
theorem agr{b:Nat}(h:b<k):blkOf (bs.take k) b=blkOf bs b:=by
 unfold blkOf;rw [Aaf,Aaf,Abk,if_pos h]
theorem abX{b:Nat}(h:k<=b):blkOf (bs.take k) b=aop:=aeA (by rw [Aat];omega)
theorem arl{wr w2 w6 w9 : World} {base B:Nat}  {x : DBlock} {V V2 : Pth -> Value} (h : abK wr base (bs.take k) V) (hx : bs[k]? = some x) (hb : Below wr.heap.size wr w2) (h2 : aah w2 B (okX k x) V2 (elX x V2)) (hB : wr.heap.size <= B) (aj : base <= wr.heap.size)
 (h6:Below w2.heap.size w2 w6) {v':Value} (aC:w9.ownsRow base 46 6 v' (k+1) ((aae (bs.take k) V .blks).flatten++abe x (V2 (.phis k)) (V2 (.list k)) (V2 (.to k)))) (hg:w6.grownBy w9 (V .blks).ownBlock)
 (aK:v'.ownBlock=(V .blks).ownBlock∨v'.ownBlock=some w6.heap.size):abK w9 base (bs.take (k+1)) (aaU (fun q=>if isK k q=true then V2 q else V q) .blks v'):=by
 have av:=(Aad.1 hx).1;have dU:blkOf bs k=x:=aaZ hx;have hn:∀q,okP (bs.take k) q->isK k q=false:=fun q hq=>by
  cases q with
  | blks=>rfl
  | phis c=>have:c<_:=hq;rw [Aat] at this;show (c == k)=false;simp;omega
  | src c i =>
    by_cases hc:c<k
    . show (c == k)=false;simp;omega
    . have h3:i<(blkOf (bs.take k) c).phis.length:=hq
      rw [abX (by omega)] at h3;exact absurd h3 (Aa4 _)
  | list c=>have:c<_:=hq;rw [Aat] at this;show (c == k)=false;simp;omega
  | args c i =>
    by_cases hc:c<k
    . show (c == k)=false;simp;omega
    . have h3:i<(blkOf (bs.take k) c).list.length:=hq
      rw [abX (by omega)] at h3;exact absurd h3 (Aa4 _)
  | «to» c=>have:c<_:=hq;rw [Aat] at this;show (c == k)=false;simp;omega
  | _=>exact absurd hq (by simp [okP])
 have hy:∀q,okX k x q->isK k q=true:=fun q hq=>by
  cases q with
  | phis c=>show (c == k)=true;simp;exact hq
  | src c i=>show (c == k)=true;simp;exact hq.1
  | list c=>show (c == k)=true;simp;exact hq
  | args c i=>show (c == k)=true;simp;exact hq.1
  | «to» c=>show (c == k)=true;simp;exact hq
  | _=>exact absurd hq (by simp [okX])
 have j:=aah.join (isK k) (aah.later h hb) h2 (Aai aj hB) (fun q hq c hc=>Aay (aah.lt h hq c hc).2 hB) hn hy;have j6:=aah.later j h6;have aV:(aae (bs.take k) V .blks++[abe x (V2 (.phis k)) (V2 (.list k)) (V2 (.to k))]:List (List Value)).flatten=(aae (bs.take k) V .blks).flatten++abe x (V2 (.phis k)) (V2 (.list k)) (V2 (.to k)):=by simp
 have hlen:(aae (bs.take k) V .blks++[abe x (V2 (.phis k)) (V2 (.list k)) (V2 (.to k))]:List (List Value)).length=k+1:=by simp [aae];omega
 have r9 := j6.put .blks (v' := v') (xss := aae (bs.take k) V .blks ++ [abe x (V2 (.phis k)) (V2 (.list k)) (V2 (.to k))]) (by rw [aV, hlen]; exact aC) (fun cs ag => by
  rcases Aa7.1 ag with h3 | h3
  . exact aah.wid h .blks trivial cs h3
  . rw [Aax] at h3; rw [h3]; rfl) hg (fun q hq ai c hc e => by
  rcases hq with hq | hq
  . simp only [hn q hq, Acd, if_false] at hc
    exact aah.apart h q .blks hq trivial ai c hc e
  . simp only [hy q hq, if_true] at hc
    have := (h2.lt hq c hc).1
    have := (aah.lt h (p := .blks) trivial c e).2
    omega) (fun c hc => by
  rcases aK with h3 | h3
  . exact .inl (by rw [<- h3]; exact hc)
  . rw [h3] at hc; cases hc; exact .inr (Aac _))
 have bo:∀c,c<k->blkOf (bs.take (k+1)) c=blkOf (bs.take k) c:=fun c hc=>by rw [agr (by omega),agr hc]
 have bp:blkOf (bs.take (k+1)) k=x:=by rw [agr (by omega),dU]
 have aP:∀c,c<(bs.take (k+1)).length->c=k∨c<k:=fun c hc=>by rw [Aat] at hc;omega
 have aI:∀c,c<k->c<(bs.take k).length:=fun c hc=>by rw [Aat];omega
 refine (r9.less (ok':=okP (bs.take (k+1))) fun q hq=>?_).congr (fun q _=>rfl) (fun q hq=>?_)
 . cases q with
   | blks=>exact .inr rfl
   | phis c =>
     rcases aP c hq with h3 | h3
     . exact .inl (.inr h3)
     . exact .inl (.inl (aI c h3))
   | src c i =>
     by_cases hc:c<k
     . exact .inl (.inl (by show i<_;rw [<-bo c hc];exact hq))
     . by_cases e:c=k
       . subst e;exact .inl (.inr ⟨rfl,by have h3:i<_:=hq;rw [bp] at h3;exact h3⟩)
       . have h3:i<(blkOf (bs.take (k+1)) c).phis.length:=hq
         rw [abX (by omega)] at h3;exact absurd h3 (Aa4 _)
   | list c =>
     rcases aP c hq with h3 | h3
     . exact .inl (.inr h3)
     . exact .inl (.inl (aI c h3))
   | args c i =>
     by_cases hc:c<k
     . exact .inl (.inl (by show i<_;rw [<-bo c hc];exact hq))
     . by_cases e:c=k
       . subst e;exact .inl (.inr ⟨rfl,by have h3:i<_:=hq;rw [bp] at h3;exact h3⟩)
       . have h3:i<(blkOf (bs.take (k+1)) c).list.length:=hq
         rw [abX (by omega)] at h3;exact absurd h3 (Aa4 _)
   | «to» c =>
     rcases aP c hq with h3 | h3
     . exact .inl (.inr h3)
     . exact .inl (.inl (aI c h3))
   | _=>exact absurd hq (by simp [okP])
 . cases q with
   | blks =>
     rw [aaj];show (bs.take (k+1)).mapIdx _=(bs.take k).mapIdx _++_;rw [af0 hx,ad9]
     congr 1
     . refine abA fun i y hi=>?_
       have dm:i<k:=by have:=(Aad.1 hi).1;rw [Aat] at this;omega
       have hf:(i == k)=false:=by simp;omega
       simp only [aaU,isK,hf,reduceCtorEq,if_false,Acd]
     . rw [Aat,Abw (by omega)]
       simp only [aaU,isK,reduceCtorEq,if_false,beq_self_eq_true,if_true]
   | phis c =>
     rw [aag _ _ (by simp)];rcases aP c hq with h3 | h3
     . subst h3
       have hf:isK c (.phis c)=true:=by simp [isK]
       simp only [hf,if_true,aae,elX,bp];refine abA fun i y _=>?_;simp [aaU,isK]
     . have hf:isK k (.phis c)=false:=by simp [isK];omega
       simp only [hf,Acd,if_false,aae,bo c h3];refine abA fun i y _=>?_;have:¬c=k:=by omega
       simp [aaU,isK,this]
   | src c i =>
     rw [aag _ _ (by simp)]
     by_cases hc:c<k
     . have hf:isK k (.src c i)=false:=by simp [isK];omega
       simp only [hf,Acd,if_false,aae,bo c hc]
     . by_cases e:c=k
       . subst e
         have hf:isK c (.src c i)=true:=by simp [isK]
         simp only [hf,if_true,aae,elX,bp]
       . have h3:i<(blkOf (bs.take (k+1)) c).phis.length:=hq
         rw [abX (by omega)] at h3;exact absurd h3 (Aa4 _)
   | list c =>
     rw [aag _ _ (by simp)];rcases aP c hq with h3 | h3
     . subst h3
       have hf:isK c (.list c)=true:=by simp [isK]
       simp only [hf,if_true,aae,elX,bp];refine abA fun i y _=>?_;simp [aaU,isK]
     . have hf:isK k (.list c)=false:=by simp [isK];omega
       simp only [hf,Acd,if_false,aae,bo c h3];refine abA fun i y _=>?_;have:¬c=k:=by omega
       simp [aaU,isK,this]
   | args c i =>
     rw [aag _ _ (by simp)]
     by_cases hc:c<k
     . have hf:isK k (.args c i)=false:=by simp [isK];omega
       simp only [hf,Acd,if_false,aae,bo c hc]
     . by_cases e:c=k
       . subst e
         have hf:isK c (.args c i)=true:=by simp [isK]
         simp only [hf,if_true,aae,elX,bp]
       . have h3:i<(blkOf (bs.take (k+1)) c).list.length:=hq
         rw [abX (by omega)] at h3;exact absurd h3 (Aa4 _)
   | «to» c =>
     rw [aag _ _ (by simp)];rcases aP c hq with h3 | h3
     . subst h3
       have hf:isK c (.to c)=true:=by simp [isK]
       simp only [hf,if_true,aae,elX,bp]
     . have hf:isK k (.to c)=false:=by simp [isK];omega
       simp only [hf,Acd,if_false,aae,bo c h3]
   | _=>exact absurd hq (by simp [okP])
theorem akQ {S:Nat->Prop}(nm:ByteArray)(p r:Int)(ba:Option Addr)(n bc:Nat)(bs:List DBlock)(w:World)(hb:SlAt S w 6 aa2 (.slice ba n bc) bs)(aN:bs.length=n)(hn:n<=1048576)(bk:∀x∈bs,aka x) :
 Calls Tryz.prog 29 #[.agg #[.string nm,.int .i64 p,.int .i64 r,.slice ba n bc]] w fun e w' =>
  ∃V,e = .returned (.agg #[.string nm,.int .i64 p,.int .i64 r,V .blks])∧abK w' w.heap.size bs V∧Below w.heap.size w w':=by
 obtain⟨ib,dG,cS,cM,da⟩:=info_parts ahx;have Hb:=hid hb;have bq:=hid aN;have cu:=hid bk;clear hb aN bk;go_enter Tryz.func29,Tryz.ntmps29;go_upto_region 1 with (fail)
 obtain⟨W,hW⟩:∃W,W=(w.alloc (.cells #[.string nm,.int .i64 p,.int .i64 r,.slice ba n bc] 37)).alloc (.cells #[.string ⟨#[]⟩,.int .i64 0,.int .i64 0,.slice none 0 0] 37):=⟨_,rfl⟩
 obtain⟨bw,h0,h1⟩:=abQ w (.cells #[.string nm,.int .i64 p,.int .i64 r,.slice ba n bc] 37) (.cells #[.string ⟨#[]⟩,.int .i64 0,.int .i64 0,.slice none 0 0] 37);rw [<-hW] at bw h0 h1 ⊢;have bU:Below w.heap.size w W:=by rw [hW];exact bE
 obtain⟨UB,bt⟩:∃UB,UB=w.heap.size:=⟨_,rfl⟩
 obtain⟨UO,bA⟩:∃UO,UO=w.heap.size+1:=⟨_,rfl⟩
 rw [<-bA] at h1 ⊢;rw [<-bt] at h0 ⊢;have aA:Hid (UB=w.heap.size∧UO=w.heap.size+1∧W.heap.size=w.heap.size+2):=⟨bt,bA,bw⟩
 have H0:=hid h0;have H1:=hid h1;have bh:=hid bU;have c3:=(aad (cs:=[_,_,_,_]) h0) 3 _ rfl;rw [Aab] at c3;have f3:=aaq h0 3;have zB:=aac c3;clear hW h0 h1 bU bt bA bw;go_upto_region 3 with (fail)
 obtain⟨W3,bX⟩:∃W3,W3=W.setCell ⟨UB,3,none⟩ (.slice none 0 0):=⟨_,rfl⟩
 have b9:W3.heap[UB]?=some (.cells #[.string nm,.int .i64 p,.int .i64 r,.slice none 0 0] 37 (0,0)):=by rw [bX,aak (i:=3) H0.out];rfl
 have cG:Kp (fun c=>c≠UB) W W3:=by rw [bX];exact aaP _ _ _ _
 have dD:W3.heap.size=W.heap.size:=by rw [bX];simp [World.setCell]
 rw [<-bX];have bP:=(cG.block UO (Aag.1 H1.out).1 (by have:=aA.out;omega)).trans H1.out;have dv:Below w.heap.size w W3:=bh.out.trans (cG.below fun c hc=>⟨by have:=aA.out;omega,by have:=aA.out;omega⟩);have cV:=hid b9;have bR:=hid bP;have dy:=hid dD;have ep:=hid dv;have bg:abK W3 W.heap.size (bs.take 0) (fun _ => .slice none 0 0):=by
  refine⟨fun q hq=>?_,fun q hq=>?_,fun q1 q2 _ _ _ c hc=>by cases hc⟩
  . cases q with
    | blks=>exact World.ownsRow_nil _ _ _ _
    | phis c=>exact absurd (show c<0 from hq) (Aa4 _)
    | src c i=>exact absurd (show i<0 from hq) (Aa4 _)
    | list c=>exact absurd (show c<0 from hq) (Aa4 _)
    | args c i=>exact absurd (show i<0 from hq) (Aa4 _)
    | «to» c=>exact absurd (show c<0 from hq) (Aa4 _)
    | _=>exact absurd hq (by simp [okP])
  . cases q with
    | blks=>intro cs ag;cases ag
    | phis c=>exact absurd (show c<0 from hq) (Aa4 _)
    | src c i=>exact absurd (show i<0 from hq) (Aa4 _)
    | list c=>exact absurd (show c<0 from hq) (Aa4 _)
    | args c i=>exact absurd (show i<0 from hq) (Aa4 _)
    | «to» c=>exact absurd (show c<0 from hq) (Aa4 _)
    | _=>exact absurd hq (by simp [okP])
 have cJ:=hid bg;clear bX b9 cG dD bP dv bg c3 f3 zB;go_wp2_with fail;go_loopw [11] (fun s11 wr=>∃(k:Nat) (V:Pth->Value) (va:Option Addr) (vc:Nat),k<=n∧s11 = .int .i64 (k:Int)∧V .blks = .slice va k vc∧abK wr W.heap.size (bs.take k) V∧wr.heap[UB]?=some (.cells #[.string nm,.int .i64 p,.int .i64 r,.slice va k vc] 37 (0,0))∧Kp (fun c=>c<W.heap.size∧c≠UB) W3 wr) (fun s11 _=>n - (intOf s11).toNat)
 case atStart=>exact⟨0,_,none,0,Aaj _,rfl,rfl,cJ.out,cV.out,Kp.refl _ _⟩
 case round =>
  obtain⟨wo,b8⟩:∃wo:World,wo=wr:=⟨_,rfl⟩
  subst b8;obtain⟨k,V,va,vc,hk,rfl,cp,bf,aO,a8⟩:=hrel;have cn:W.heap.size<=wo.heap.size:=by have:=a8.size;have:=dy.out;omega
  have az:Below w.heap.size w wo:=ep.out.trans (a8.below fun c hc=>⟨by have:=aA.out;have:=dy.out;omega,by have:=aA.out;omega⟩)
  by_cases hkn:k<n
  . have av:k<bs.length:=by rw [bq.out];exact hkn
    obtain⟨x,hx⟩:∃x,bs[k]?=some x:=⟨_,Aaa av⟩
    obtain⟨gb,off,pa,pc,la,lc,ta,tc,rfl,ag,hp,hl,ht,dL,dH⟩:=ame (Hb.out.later aau az) av;have e9:bs[k]=x:=by rw [Aaa av] at hx;exact Option.some.inj hx
    rw [e9] at ag hp hl ht;obtain⟨pn,a6⟩:∃pn,pn=x.phis.length:=⟨_,rfl⟩
    obtain⟨ln,cq⟩:∃ln,ln=x.list.length:=⟨_,rfl⟩
    obtain⟨tn,aY⟩:∃tn,tn=x.fin.to.length:=⟨_,rfl⟩
    obtain⟨ek,bJ⟩:∃ek,ek=x.fin.kind:=⟨_,rfl⟩
    obtain⟨er,bH⟩:∃er,er=x.fin.on.reg:=⟨_,rfl⟩
    obtain⟨en,bK⟩:∃en,en=x.fin.on.n:=⟨_,rfl⟩
    rw [<-a6,<-cq,<-aY,<-bJ,<-bH,<-bK] at ag;rw [<-a6] at hp;rw [<-cq] at hl;rw [<-aY] at ht;obtain⟨d0,d1,d2,d3,d4,d5⟩:=ag.get6;have zg:=aac d0;have k3:=(aad (cs:=[_,_,_,_]) aO) 3 _ rfl;rw [Aab] at k3;have g3:=aaq aO 3;have zU:=aac k3;have aT:=hid bf;have cv:=hid aO;have dT:=hid a8;have bF:=hid cp;have Hx:=hid hx;have Hp:=hid hp;have Hl:=hid hl;have Ht:=hid ht;have aM:Hid (pn=x.phis.length∧ln=x.list.length∧tn=x.fin.to.length∧ek=x.fin.kind∧er=x.fin.on.reg∧en=x.fin.on.n):=⟨a6,cq,aY,bJ,bH,bK⟩
    clear av hx ag hp hl ht dL dH e9 a6 cq aY bJ bH bK bf aO a8 cp;go_upto_region 6 with (fail)
    obtain⟨BB,bY⟩:∃BB,BB=wo.heap.size:=⟨_,rfl⟩
    obtain⟨W4,ay⟩:∃W4,W4=wo.alloc (.cells #[.slice pa pn pc,.slice la ln lc,.int .i64 ek,.bool er,.int .i64 en,.slice ta tn tc] 46):=⟨_,rfl⟩
    have aJ:W4.heap[BB]?=some (.cells #[.slice pa pn pc,.slice la ln lc,.int .i64 ek,.bool er,.int .i64 en,.slice ta tn tc] 46 (0,0)):=by rw [ay,bY];exact heap_alloc_new _ _
    have aE:Below wo.heap.size wo W4:=by rw [ay];exact bE
    rw [<-ay,<-bY];have eA:Hid (BB=wo.heap.size∧W4.heap.size=BB+1):=⟨bY,by rw [ay,bY];simp⟩
    obtain⟨b0,b1,b2,b3,b4,b5⟩:=(aad (cs:=[_,_,_,_,_,_]) aJ).get6;rw [Aab] at b1 b2 b3 b4 b5;have du:=aab k3 aE;have dF:=(aE.frozen (p:=⟨UB,3,none⟩) zU).trans g3;have dn:=aac du;have ey:=aac b0;have cE:=akP (S:=S) k x pa la ta pn ln tn pc lc tc W4.drew (Hp.out.later acg aE.drew) (Hl.out.later aay aE.drew) (Ht.out.later aax aE.drew) (cu.out x (Aae Hx.out)) aM.out.1.symm aM.out.2.1.symm aM.out.2.2.1.symm;rw [<-aM.out.2.2.2.1,<-aM.out.2.2.2.2.1,<-aM.out.2.2.2.2.2] at cE;have ee:=hid cE;have aq:=hid aE;have bG:=hid aJ;have b6:=hid az;clear bY ay aJ aE cE az d0 d1 d2 d3 d4 d5 zg k3 g3 zU
    go_region_law
     ((first
       | (go_simp; go_at_call 65; refine ee.out.mono ?_; rintro e w5 ⟨V2, rfl, aZ, au⟩
          have be : Below W4.heap.size W4 w5 := (Below.refl W4.heap.size W4).drew.trans au
          obtain ⟨cy, cD, cr⟩ := aah.shape (p := .phis k) aZ rfl
          obtain ⟨cN, de, ct⟩ := aah.shape (p := .list k) aZ rfl
          obtain ⟨cX, cO, cm⟩ := aah.shape (p := .to k) aZ rfl
          rw [show (elX x V2 (.phis k)).length = pn by simp [elX]; exact aM.out.1.symm] at cr
          rw [show (elX x V2 (.list k)).length = ln by simp [elX]; exact aM.out.2.1.symm] at ct
          rw [show (elX x V2 (.to k)).length = tn by simp [elX]; exact aM.out.2.2.1.symm] at cm
          rw [cr, ct, cm]
          have k5 := aab du be
          have g5 := (be.frozen (p := ⟨UB, 3, none⟩) dn).trans dF
          have cQ := aac k5
          have cZ := hid aZ
          have ak := hid be
          have HX : Hid (V2 (.phis k) = .slice cy pn cD ∧ V2 (.list k) = .slice cN ln de ∧ V2 (.to k) = .slice cX tn cO) := ⟨cr, ct, cm⟩
          clear aZ au be cr ct cm)
       | (refine adk rfl _ _ 35 rfl W.heap.size 46 ib (.agg #[.slice none 0 0, .slice none 0 0, .int .i64 0, .bool false, .int .i64 0, .slice none 0 0]) 6 96 Tryz.underlying35 dG cS cM da rfl (by decide) (.slice va k vc) k (aae (bs.take k) V .blks).flatten rfl ?_ ⟨w5.heap.size, 0, none⟩ 1 1 [.slice cy pn cD, .slice cN ln de, .int .i64 ek, .bool er, .int .i64 en, .slice cX tn cO] rfl rfl ?_ ?_ ?_ ?_ ?_ ?_
          . have h := aah.own aT.out .blks trivial
            rw [bF.out, show (aae (bs.take k) V .blks).length = k by simp [aae]; have := bq.out; omega] at h
            exact aao (aao h (aq.out.trans (ak.out.mono aq.out.size))) bE
          . intro m u hu; exact aaB w5 _ _ rfl m u hu
          . intro u hu; simp only [Aam, Aaq, or_false] at hu; rcases hu with rfl | rfl | rfl | rfl | rfl | rfl <;> rfl
          . unfold maxLen; omega
          . omega
          . have := aq.out.size; have := ak.out.size; simp; omega
          intro v9 w9 af ae ca
          obtain ⟨bl, bj, rfl⟩ := aap af
          have dE : w5.heap.size <= w9.heap.size := Aai (by simp) ae.size
          have ai : ∀ c, (Value.slice va k vc).ownBlock = some c -> W.heap.size <= c := fun c hc => by rw [<- bF.out] at hc; exact (aah.lt aT.out (p := .blks) trivial c hc).1
          have aG : ∀ c, c < w5.heap.size -> (Value.slice va k vc).ownBlock ≠ some c -> w9.heap[c]? = w5.heap[c]? := fun c h1 h2 => (ae.block c (by simp; omega) (fun e => h2 e.symm)).trans (Below.heap_alloc w5 _ _ h1)
          have dg : (Value.slice va k vc).ownBlock ≠ some UB := fun e => by have := ai UB e; have := aA.out; omega
          have k9 := (World.cell?_of_block (w := w5) (a := ⟨UB, 3, none⟩) (aG UB cQ dg)).trans k5
          have g9 := (World.frozen?_of_block (w := w5) (a := ⟨UB, 3, none⟩) (aG UB cQ dg)).trans g5
          have eC := aac k9
          have bN := hid af
          have aF := hid ae
          have dd := hid ca
          have bm := hid aG
          have cF := hid ai
          clear af ae ca aG ai)))
    all_goals
     have ah := arl (v' := .slice bl (k + 1) bj) aT.out Hx.out (aq.out.trans (ak.out.mono aq.out.size)) cZ.out (by have := aq.out.size; exact this) cn (Below.alloc (Below.refl _ _) (Aac _) (.cells #[.slice cy pn cD, .slice cN ln de, .int .i64 ek, .bool er, .int .i64 en, .slice cX tn cO] 46)) (by
      rw [HX.out.1, HX.out.2.1, HX.out.2.2]
      unfold abe
      rw [<- aM.out.2.2.2.1, <- aM.out.2.2.2.2.1, <- aM.out.2.2.2.2.2]
      exact bN.out) (by rw [bF.out]; exact aF.out) (by rw [bF.out]; rcases dd.out with h | h; exact .inl h; exact .inr (h.trans (by simp)))
     have aU:w9.heap[UB]?=some (.cells #[.string nm,.int .i64 p,.int .i64 r,.slice va k vc] 37 (0,0)) :=
      (bm.out UB cQ dg).trans ((ak.out.block UB dn).trans ((aq.out.block UB (Aag.1 cv.out).1).trans cv.out))
     have bT:Kp (fun c=>c<W.heap.size∧c≠UB) wo w9:=by
      refine⟨aF.out.os.trans (ak.out.os.trans aq.out.os),aF.out.tape.trans (ak.out.tape.trans aq.out.tape),aF.out.output.trans (ak.out.output.trans aq.out.output),by have:=aq.out.size;have:=ak.out.size;omega,fun c hc hF=>?_⟩;have:=aq.out.size;have:=ak.out.size;exact (bm.out c (by omega) (fun e=>by have:=cF.out c e;omega)).trans ((ak.out.block c (by omega)).trans (aq.out.block c hc))
     have al:=hid ah;have di:=hid aU;have cP:=hid bT;clear ah aU bT k5 g5;go_wp2_with fail;go_roundw
     case rel =>
      refine⟨k+1,_,bl,bj,by omega,by go_num,aaj _ _ _,aah.setOff al.out (fun q hq e=>by have:=(aah.lt al.out hq UB e).1;have:=aA.out;omega) _,?_,?_⟩
      . rw [aak (i:=3) di.out];rfl
      . exact (dT.out.trans cP.out).trans ((aaP w9 UB 3 _).less fun c h=>h.2)
     case measure=>simp [intOf];omega
  . have ea:n=k:=by omega
    subst ea;have aX:=(a8.block UO (by have:=(Aag.1 bR.out).1;exact this) (by have:=aA.out;omega)).trans bR.out;obtain⟨c0,c1,c2,c3⟩:=(aad (cs:=[_,_,_,_]) aO).get4;obtain⟨o0,o1,o2,o3⟩:=(aad (cs:=[_,_,_,_]) aX).get4;rw [Aab] at c1 c2 c3 o1 o2 o3;have z0:=aaq aX 0;have z1:=aaq aX 1;have z2:=aaq aX 2;have z3:=aaq aX 3;have zB:=aac c0;have zO:=aac o0;have ck:=hid aX;have aT:=hid bf;have b6:=hid az;have bF:=hid cp;clear aX aO bf az cp a8 hk hkn;go_wp2_with fail;have cH:=as3 (u0 := .string nm) (u1 := .int .i64 p) (u2 := .int .i64 r) (u3 := .slice va n vc) (aad (cs:=[_,_,_,_]) ck.out);refine bodyPost_ret (adR rfl rfl cH) rfl ⟨V,?_,?_,?_⟩
    . show _=Ending.returned (.agg #[.string nm,.int .i64 p,.int .i64 r,V .blks])
      rw [bF.out]
    . have hf:=aT.out
      rw [Abr (by rw [bq.out];exact Aac _)] at hf;have hO:∀q,okP bs q->(V q).ownBlock≠some UO:=fun q hq e=>by have:=(aah.lt hf hq UO e).1;have:=aA.out;omega
      exact aah.low ((((aah.setOff hf (o:=0) hO (.string nm)).setOff (o:=1) hO (.int .i64 p)).setOff (o:=2) hO (.int .i64 r)).setOff (o:=3) hO (.slice va n vc)) (by have:=aA.out;omega)
    . have h2:w.heap.size<=UO:=by have:=aA.out;omega
      exact (((b6.out.setCell (p:=⟨UO,0,none⟩) h2 _).setCell (p:=⟨UO,1,none⟩) h2 _).setCell (p:=⟨UO,2,none⟩) h2 _).setCell (p:=⟨UO,3,none⟩) h2 _
end
section
open Go.RowKit
def abU(f:aav)(u:Value):List Value:=[.string f.name,.int .i64 f.params,.int .i64 f.regs,u]
structure adI (W:World)(base:Nat)(v:Value)(fs:List aav)(V:Nat->Pth->Value):Prop where
 row:ade W base 37 4 v (fs.mapIdx fun k f=>abU f (V k .blks))
 fn:∀(k:Nat) f,fs[k]?=some f->abK W base f.blocks (V k)
 apart:∀(j k:Nat) f g,fs[j]?=some f->fs[k]?=some g->j≠k->∀p q,okP f.blocks p->okP g.blocks q->∀c,(V j p).ownBlock=some c->(V k q).ownBlock≠some c
 off:∀(k:Nat) f,fs[k]?=some f->∀p,okP f.blocks p->∀c,(V k p).ownBlock=some c->v.ownBlock≠some c
section
variable {W W' : World} {base : Nat} {v : Value} {fs : List aav} {V : Nat -> Pth -> Value}
theorem adI.nil(W:World)(base:Nat)(V:Nat->Pth->Value):adI W base (.slice none 0 0) [] V :=
 ⟨⟨World.ownsRow_nil _ _ _ _,fun cs h=>by cases h⟩,fun k f h=>by simp at h,fun j k f g h=>by simp at h,fun k f h=>by simp at h⟩
theorem adI.kp(h:adI W base v fs V){F:Nat->Prop}(hk:Kp F W W')(hv:∀c,v.ownBlock=some c->F c)(hV:∀(k:Nat) f,fs[k]?=some f->∀p,okP f.blocks p->∀c,(V k p).ownBlock=some c->F c):adI W' base v fs V :=
 ⟨h.row.off (hk.less hv),fun k f hf=>aah.kp (h.fn k f hf) hk fun p hp c hc=>hV k f hf p hp c hc,h.apart,h.off⟩
theorem adI.lt(h:adI W base v fs V):(∀c,v.ownBlock=some c->base<=c∧c<W.heap.size)∧∀(k:Nat) f,fs[k]?=some f->∀p,okP f.blocks p->∀c,(V k p).ownBlock=some c->base<=c∧c<W.heap.size :=
 ⟨h.row.lt,fun k f hf _ hp c hc=>aah.lt (h.fn k f hf) hp c hc⟩
theorem adI.setLow(h:adI W base v fs V){a:Addr}(ha:a.block<base)(u:Value):adI (W.setCell a u) base v fs V:=by
 obtain⟨h1,h2⟩:=h.lt;exact h.kp (F:=fun c=>c≠a.block) ((Kp.refl _ _).set (fun e=>e rfl) _) (fun c hc e=>by have:=(h1 c hc).1;omega) (fun k f hf p hp c hc e=>by have:=(h2 k f hf p hp c hc).1;omega)
theorem adI.next {w2 w6 w9 : World} {B k : Nat} {f : aav} {V2 : Pth -> Value} (h : adI W base v (fs.take k) V) (hx : fs[k]? = some f) (hb : Below W.heap.size W w2) (h2 : abK w2 B f.blocks V2) (hB : W.heap.size <= B) (aj : base <= W.heap.size) (h6 : Below w2.heap.size w2 w6)
 {v':Value} (aC:w9.ownsRow base 37 4 v' (k+1) (((fs.take k).mapIdx fun k f=>abU f (V k .blks)).flatten++abU f (V2 .blks))) (hg:w6.grownBy w9 v.ownBlock) (aK:v'.ownBlock=v.ownBlock∨v'.ownBlock=some w6.heap.size) :
 adI w9 base v' (fs.take (k+1)) (fun j=>if j=k then V2 else V j):=by
 have av:=(Aad.1 hx).1;have aP:=h.lt;have ew:=hb.size;have eD:=h6.size;have bD:Kp (fun c=>v.ownBlock≠some c) w6 w9:=⟨hg.os,hg.tape,hg.output,hg.size,fun c hc hF=>hg.block c hc fun e=>hF e.symm⟩
 have hk:Kp (fun c=>v.ownBlock≠some c) W w9:=((Kp.of hb).trans (Kp.of h6)).trans bD;have aR:∀(j:Nat) g,(fs.take (k+1))[j]?=some g->(j=k∧g=f)∨(j<k∧(fs.take k)[j]?=some g):=fun j g hj=>by
  rw [Abk] at hj;split at hj
  . rename_i h3
    rcases Abm.1 h3 with h4 | h4
    . exact .inr ⟨h4,by rw [Abk,if_pos h4];exact hj⟩
    . subst h4;rw [hx] at hj;exact .inl ⟨rfl,(Option.some.inj hj).symm⟩
  . cases hj
 have ed : abK w9 base f.blocks V2 := aah.low (aah.kp (aah.later h2 h6) bD fun p hp c hc e => by
  have := (aah.lt h2 hp c hc).1
  have := (aP.1 c e).2
  omega) (Aai aj hB)
 have dB:∀c,v'.ownBlock=some c->v.ownBlock=some c∨w6.heap.size<=c:=fun c hc=>by
  rcases aK with h3 | h3
  . exact .inl (by rw [<-h3];exact hc)
  . rw [h3] at hc;cases hc;exact .inr (Aac _)
 have dt:((fs.take (k+1)).mapIdx fun j g=>abU g ((if j=k then V2 else V j) .blks))=((fs.take k).mapIdx fun k f=>abU f (V k .blks))++[abU f (V2 .blks)]:=by
  rw [af0 hx,ad9]
  congr 1
  . refine abA fun i y hi=>?_
    have dm:i<k:=by have:=(Aad.1 hi).1;rw [Aat] at this;omega
    rw [if_neg (by omega)]
  . rw [Aat,Abw (by omega),if_pos rfl]
 refine⟨⟨?_,?_⟩,fun j g hj=>?_,fun i j g1 g2 e1 e2 ai p q hp hq c hc=>?_,fun j g hj p hp c hc e=>?_⟩
 . rw [dt,Abu,show (((fs.take k).mapIdx fun k f=>abU f (V k .blks))++[abU f (V2 .blks)]).length=k+1 by simp;omega]
   simpa using aC
 . rw [dt]
   intro cs ag;rcases Aa7.1 ag with h3 | h3
   . exact h.row.wid cs h3
   . rw [Aax] at h3;rw [h3];rfl
 . rcases aR j g hj with⟨rfl,rfl⟩ | ⟨h3,h4⟩
   . simp only [if_true];exact ed
   . simp only [if_neg (show ¬j=k by omega)]
     exact aah.kp (h.fn j g h4) hk fun p hp c hc e=>h.off j g h4 p hp c hc e
 . rcases aR i g1 e1 with⟨rfl,rfl⟩ | ⟨h3,h4⟩
   . simp only [if_true] at hc
     rcases aR j g2 e2 with⟨rfl,rfl⟩ | ⟨h5,h6'⟩
     . exact absurd rfl ai
     . simp only [if_neg (show ¬j=i by omega)]
       intro h7;have:=(aah.lt h2 hp c hc).1;have:=(aP.2 j g2 h6' q hq c h7).2;omega
   . simp only [if_neg (show ¬i=k by omega)] at hc
     rcases aR j g2 e2 with⟨rfl,rfl⟩ | ⟨h5,h6'⟩
     . simp only [if_true]
       intro h7;have:=(aah.lt h2 hq c h7).1;have:=(aP.2 i g1 h4 p hp c hc).2;omega
     . simp only [if_neg (show ¬j=k by omega)]
       exact h.apart i j g1 g2 h4 h6' ai p q hp hq c hc
 . rcases aR j g hj with⟨rfl,rfl⟩ | ⟨h3,h4⟩
   . simp only [if_true] at hc
     rcases dB c e with h7 | h7
     . have:=(aah.lt h2 hp c hc).1
       have:=(aP.1 c h7).2;omega
     . have:=(aah.lt h2 hp c hc).2
       omega
   . simp only [if_neg (show ¬j=k by omega)] at hc
     rcases dB c e with h7 | h7
     . exact h.off j g h4 p hp c hc h7
     . have:=(aP.2 j g h4 p hp c hc).2
       omega
theorem adI.shape(h:adI W base v fs V):∃a c,v = .slice a fs.length c:=by
 rcases h.row.own.2 with⟨h1,h2⟩ | ⟨g,cap,cur,e1,-⟩
 . have:fs.length=0:=by simpa using h2
   exact⟨none,0,by rw [h1,this]⟩
 . exact⟨some ⟨g,0,none⟩,cap,by rw [e1,Abi]⟩
end
end
section
open Go.RowKit
end
section
open Go.RowKit
end
section
open Go.RowKit
end
end Go.Proofs.YtpeejlpcikefcaaGreatDoor
