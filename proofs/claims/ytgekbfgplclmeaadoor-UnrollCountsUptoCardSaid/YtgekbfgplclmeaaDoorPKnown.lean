import Derived.Test.YtgekbfgplclmeaaDoorPSameU
/- dom.Rules: the climb in a tree. ssa.checker.known: is what a value names written ahead of a place? -/
set_option maxHeartbeats 2000000
set_option maxRecDepth 100000
namespace Go.Proofs.YtgekbfgplclmeaaDoor
section
open Go.RowKit
def abE (up : List Int) (a : Int) : Nat -> Int -> Bool
 | 0,b=>decide (a=b)
 | f+1,b=>if b<0∨b=a then decide (a=b) else abE up a f (up.getD b.toNat 0)
structure aiC (up:List Int)(m:Nat->Nat):Prop where
 step:∀k,k<up.length->up.getD k 0 = -1∨∃j:Nat,up.getD k 0=(j:Int)∧j<up.length∧m j<m k
def ad6(m:Nat->Nat)(x:Int):Nat:=if x<0 then 0 else m x.toNat+1
theorem adQ(m:Nat->Nat)(k:Nat):ad6 m (k:Int)=m k+1:=by unfold ad6;rw [if_neg (by omega),Aag]
theorem ah0(m:Nat->Nat):ad6 m (-1)=0:=rfl
theorem ajq {S:Nat->Prop}(va:Option Addr)(vc n:Nat)(up:List Int)(m:Nat->Nat)(a b:Int)(w:World)(h:SlAt S w 1 abe (.slice va n vc) up)(hn:up.length=n)(_hn2:n<=1048576)(hm:aiC up m)(hb:b<(n:Int)) :
 Calls Tryd.prog 110 #[.slice va n vc,.int .i64 a,.int .i64 b] w fun e w'=>e = .returned (.bool (abE up a (m b.toNat+1) b))∧w'=w:=by
 have H:=hid h;have Hn:=hid hn;have Hm:=hid hm;clear h hn hm;go_enter Tryd.func110,Tryd.ntmps110;go_wp2_with fail;go_loop [2] (fun s=>∃(f:Nat) (x:Int),s = .int .i64 x∧x<(n:Int)∧(0<=x->m x.toNat<f)∧abE up a f x=abE up a (m b.toNat+1) b) (fun s=>ad6 m (intOf s))
 case atStart=>exact⟨_,b,rfl,hb,fun _=>by omega,rfl⟩
 case round =>
  obtain⟨f,x,rfl,hx,hf,hr⟩:=hrel;have Hr:=hid hr;clear hr
  by_cases hx0:x<0
  . have q1:decide (0<=x)=false:=decide_eq_false (by omega)
    have Hv:Hid (abE up a (m b.toNat+1) b=decide (a=x)):=by
     show _=_;rw [<-Hr.out];cases f with
     | zero=>rfl
     | succ f=>unfold abE;rw [if_pos (.inl hx0)]
    clear hf;go_wp2_with fail;go_ret;refine⟨?_,rfl⟩;rw [Hv.out];show Ending.returned (.bool (decide (a<=x)&&decide (x<=a)))=_
    congr 2
    rw [Aa1];simp;omega
  . have q1:decide (0<=x)=true:=decide_eq_true (by omega)
    by_cases hxa:x=a
    . have q2:(decide (x<a)||decide (a<x))=false:=aib hxa
      have Hv:Hid (abE up a (m b.toNat+1) b=true):=by
       show _=_;rw [<-Hr.out];cases f with
       | zero=>unfold abE;exact decide_eq_true hxa.symm
       | succ f=>unfold abE;rw [if_pos (.inr hxa)];exact decide_eq_true hxa.symm
      clear hf;subst hxa;go_wp2_with fail;go_ret;exact⟨by rw [Hv.out];rfl,rfl⟩
    . have q2:(decide (x<a)||decide (a<x))=true:=abN hxa
      obtain⟨k,rfl⟩:=Aao (by omega:0<=x);have hk:k<up.length:=by rw [Hn.out];omega
      obtain⟨bb,off,rfl,c0⟩:=abq H.out hk;obtain⟨y,hy⟩:∃y,up[k]=y:=⟨_,rfl⟩
      have al:up.getD k 0=y:=by rw [Aab,Aaa hk,<-hy];rfl
      rw [hy] at c0;have an:=Hm.out.step k hk;rw [al] at an;have aq:m k<f:=hf (by omega);obtain⟨f',rfl⟩:∃f',f=f'+1:=⟨f - 1,by omega⟩
      have Hv:Hid (abE up a f' y=abE up a (m b.toNat+1) b):=by
       show _=_;rw [<-Hr.out,show abE up a (f'+1) (k:Int)=abE up a f' (up.getD (k:Int).toNat 0) by rw [abE,if_neg (by omega)],Aag,al]
      have ai:=hid an;have az:(k:Int)<(n:Int):=hx;have ay:(0:Int)<=(k:Int):=by omega
      have av:=hid aq;clear an hf al hy aq hxa hx0;go_wp2_with fail;go_round
      case rel =>
       refine⟨f',y,rfl,?_,fun h=>?_,Hv.out⟩
       . rcases ai.out with h | ⟨j,h,h2,-⟩
         . omega
         . have:=Hn.out;omega
       . have:=av.out
         rcases ai.out with h1 | ⟨j,rfl,h2,h3⟩
         . omega
         . rw [Aag];omega
      case measure =>
       rcases ai.out with rfl | ⟨j,rfl,h2,h3⟩
       . show ad6 m (-1)<ad6 m (k:Int)
         rw [ah0,adQ];omega
       . show ad6 m (j:Int)<ad6 m (k:Int)
         rw [adQ,adQ];omega
end
section
open Go.RowKit
def adz(up:List Int)(m:Nat->Nat)(reg:Bool)(x y blk at_:Int):Bool:=if reg=false then true else if x<0 then false else if x=blk then decide (y<at_) else abE up x (m blk.toNat+1) blk
theorem ai5 {S : Nat -> Prop} (CB RB n cap r : Nat) (blk a x y : Int) (ua : Option Addr) (uc un : Nat) (up : List Int) (m : Nat -> Nat) (w : World) (hc : w.cell? ⟨CB, 5, none⟩ = some (.slice (some ⟨RB, 0, none⟩) n cap)) (hu : w.cell? ⟨CB, 4, none⟩ = some (.slice ua un uc)) (hU : SlAt S w 1 abe (.slice ua un uc) up)
 (ar:up.length=un) (ao:un<=1048576) (hm:aiC up m) (ak:blk<(un:Int)) (c0:w.cell? ⟨RB,r * 2,none⟩=some (.int .i64 x)) (c1:w.cell? ⟨RB,r * 2+1,none⟩=some (.int .i64 y)) (hr:r<n) (_hn:n<=1048576) :
 Calls Tryd.prog 86 #[.pointer (some ⟨CB,0,none⟩),.agg #[.bool true,.int .i64 (r:Int)],.int .i64 blk,.int .i64 a] w fun e w'=>e = .returned (.bool (adz up m true x y blk a))∧Below w.heap.size w w':=by
 have HU:=hid hU;have aw:=hid ar;have Hm:=hid hm;have z0:RB<w.heap.size:=aac c0;have z1:CB<w.heap.size:=aac hc;clear hU ar hm;go_enter Tryd.func86,Tryd.ntmps86;go_wp2_with fail;obtain⟨W,hW⟩:∃W,W=w.alloc (.cells #[.bool true,.int .i64 (r:Int)] 42):=⟨_,rfl⟩
 rw [<-hW];have ad:Below w.heap.size w W:=by rw [hW];exact bE
 have ax:W.heap.size=w.heap.size+1:=by rw [hW];simp
 have d0:=aab hc ad;have d1:=aab hu ad;have d2:=aab c0 ad;have d3:=aab c1 ad;have d4:W.cell? ⟨w.heap.size,1,none⟩=some (.int .i64 (r:Int)):=by rw [hW];simp
 have z2:RB<W.heap.size:=by omega
 have z3:CB<W.heap.size:=by omega
 have z4:w.heap.size<W.heap.size:=by omega
 have af:=hid ad;clear hW ad hc hu c0 c1 ax;go_big_region;obtain⟨W2,ae⟩:∃W2,W2=(W.alloc (.cells #[.int .i64 x,.int .i64 y] 137)).drew:=⟨_,rfl⟩
 rw [<-ae];have ag:Below W.heap.size W W2:=by rw [ae];exact bE
 have e0:W2.cell? ⟨W.heap.size,0,none⟩=some (.int .i64 x):=by rw [ae];simp
 have e1:W2.cell? ⟨W.heap.size,1,none⟩=some (.int .i64 y):=by rw [ae];simp
 have e2:=aab d1 ag;have au:=hid (HU.out.later aaf (af.out.trans (ag.mono af.out.size)));have aj:Hid (Below w.heap.size w W2):=af.out.trans (ag.mono af.out.size);have z5:CB<W2.heap.size:=aac e2;have z6:W.heap.size<W2.heap.size:=aac e0;clear ae ag d0 d1 d2 d3 d4
 by_cases hx:x<0
 . have q:decide (x<0)=true:=decide_eq_true hx
   have Hv:Hid (adz up m true x y blk a=false):=by show _=_;unfold adz;rw [if_neg (by simp),if_pos hx]
   go_wp2_with fail;go_ret;exact⟨by rw [Hv.out];rfl,by have h:=aj.out;exact bE1 h⟩
 . have q:decide (x<0)=false:=decide_eq_false hx
   by_cases hxb:x=blk
   . have q1:(decide (x<=blk)&&decide (blk<=x))=true:=by simp;omega
     have Hv:Hid (adz up m true x y blk a=decide (y<a)):=by show _=_;unfold adz;rw [if_neg (by simp),if_neg hx,if_pos hxb]
     clear hxb;go_wp2_with fail;go_ret;exact⟨by rw [Hv.out];rfl,by have h:=aj.out;exact bE1 h⟩
   . have q1:(decide (x<=blk)&&decide (blk<=x))=false:=by rw [Bool.eq_false_iff];simp;omega
     have Hv:Hid (adz up m true x y blk a=abE up x (m blk.toNat+1) blk):=by show _=_;unfold adz;rw [if_neg (by simp),if_neg hx,if_neg hxb]
     clear hxb;go_wp2_with fail;go_quiet ((go_at_call 110;exact Calls.quiet_of_same (ajq ua uc un up m x blk _ (au.out.later aaf (below_drewN (Below.refl _ _) _)) aw.out ao Hm.out ak)));go_wp2_with fail;go_ret;exact⟨by rw [Hv.out];rfl,by have h:=aj.out;exact bE1 h⟩
theorem ai4(cv:Value)(k blk a:Int)(w:World) :
 Calls Tryd.prog 86 #[cv,.agg #[.bool false,.int .i64 k],.int .i64 blk,.int .i64 a] w fun e w'=>e = .returned (.bool true)∧Below w.heap.size w w':=by
 go_enter Tryd.func86,Tryd.ntmps86;go_wp2_with fail;go_ret;exact⟨rfl,bE⟩
end
end Go.Proofs.YtgekbfgplclmeaaDoor
