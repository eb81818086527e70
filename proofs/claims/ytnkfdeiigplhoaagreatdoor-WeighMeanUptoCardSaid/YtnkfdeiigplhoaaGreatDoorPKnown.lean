import Derived.Test.YtnkfdeiigplhoaaGreatDoorPWrite
import Derived.Deep.RegionHeld3
/- dom.Rules: the climb in a tree. ssa.checker.known: is what a value names written ahead of a place? -/
namespace Go.Proofs.YtnkfdeiigplhoaaGreatDoor
section
open Go.RowKit
def ab2 (up : List Int) (a : Int) : Nat -> Int -> Bool
 | 0,b=>decide (a=b)
 | f+1,b=>if b<0∨b=a then decide (a=b) else ab2 up a f (up.getD b.toNat 0)
structure an6 (up:List Int)(m:Nat->Nat):Prop where
 step:∀k,k<up.length->up.getD k 0 = -1∨∃j:Nat,up.getD k 0=(j:Int)∧j<up.length∧m j<m k
def afc(m:Nat->Nat)(x:Int):Nat:=if x<0 then 0 else m x.toNat+1
theorem aeR(m:Nat->Nat)(k:Nat):afc m (k:Int)=m k+1:=by unfold afc;rw [if_neg (by omega),Aaj]
theorem akr(m:Nat->Nat):afc m (-1)=0:=rfl
set_option maxRecDepth 100000 in
set_option maxHeartbeats 2000000 in
theorem ami {S:Nat->Prop}(va:Option Addr)(vc n:Nat)(up:List Int)(m:Nat->Nat)(a b:Int)(w:World)(h:SlAt S w 1 aaO (.slice va n vc) up)(hn:up.length=n)(_hn2:n<=1048576)(hm:an6 up m)(hb:b<(n:Int)) :
 Calls Tryz.prog 122 #[.slice va n vc,.int .i64 a,.int .i64 b] w fun e w'=>e = .returned (.bool (ab2 up a (m b.toNat+1) b))∧w'=w:=by
 have H:=hid h;have Hn:=hid hn;have Hm:=hid hm;clear h hn hm;go_enter Tryz.func122,Tryz.ntmps122;go_wp2_with fail;go_loop [2] (fun s=>∃(f:Nat) (x:Int),s = .int .i64 x∧x<(n:Int)∧(0<=x->m x.toNat<f)∧ab2 up a f x=ab2 up a (m b.toNat+1) b) (fun s=>afc m (intOf s))
 case atStart=>exact⟨_,b,rfl,hb,fun _=>by omega,rfl⟩
 case round =>
  obtain⟨f,x,rfl,hx,hf,hr⟩:=hrel;have Hr:=hid hr;clear hr
  by_cases hx0:x<0
  . have q1:decide (0<=x)=false:=decide_eq_false (by omega)
    have Hv:Hid (ab2 up a (m b.toNat+1) b=decide (a=x)):=by
     show _=_;rw [<-Hr.out];cases f with
     | zero=>rfl
     | succ f=>unfold ab2;rw [if_pos (.inl hx0)]
    clear hf;go_wp2_with fail;go_ret;refine⟨?_,rfl⟩;rw [Hv.out];show Ending.returned (.bool (decide (a<=x)&&decide (x<=a)))=_
    congr 2
    rw [Aa0];simp;omega
  . have q1:decide (0<=x)=true:=decide_eq_true (by omega)
    by_cases hxa:x=a
    . have q2:(decide (x<a)||decide (a<x))=false:=aoL hxa
      have Hv:Hid (ab2 up a (m b.toNat+1) b=true):=by
       show _=_;rw [<-Hr.out];cases f with
       | zero=>unfold ab2;exact decide_eq_true hxa.symm
       | succ f=>unfold ab2;rw [if_pos (.inr hxa)];exact decide_eq_true hxa.symm
      clear hf;subst hxa;go_wp2_with fail;go_ret;exact⟨by rw [Hv.out];rfl,rfl⟩
    . have q2:(decide (x<a)||decide (a<x))=true:=ad1 hxa
      obtain⟨k,rfl⟩:=Aas (by omega:0<=x);have hk:k<up.length:=by rw [Hn.out];omega
      obtain⟨bb,off,rfl,c0⟩:=abb H.out hk;obtain⟨y,hy⟩:∃y,up[k]=y:=⟨_,rfl⟩
      have ae:up.getD k 0=y:=by rw [Aac,Aaa hk,<-hy];rfl
      rw [hy] at c0;have af:=Hm.out.step k hk;rw [ae] at af;have ag:m k<f:=hf (by omega);obtain⟨f',rfl⟩:∃f',f=f'+1:=⟨f - 1,by omega⟩
      have Hv:Hid (ab2 up a f' y=ab2 up a (m b.toNat+1) b):=by
       show _=_;rw [<-Hr.out,show ab2 up a (f'+1) (k:Int)=ab2 up a f' (up.getD (k:Int).toNat 0) by rw [ab2,if_neg (by omega)],Aaj,ae]
      have ad:=hid af;have ak:(k:Int)<(n:Int):=hx;have aj:(0:Int)<=(k:Int):=by omega
      have ai:=hid ag;clear af hf ae hy ag hxa hx0;go_wp2_with fail;go_round
      case rel =>
       refine⟨f',y,rfl,?_,fun h=>?_,Hv.out⟩
       . rcases ad.out with h | ⟨j,h,h2,-⟩
         . omega
         . have:=Hn.out;omega
       . have:=ai.out
         rcases ad.out with h1 | ⟨j,rfl,h2,h3⟩
         . omega
         . rw [Aaj];omega
      case measure =>
       rcases ad.out with rfl | ⟨j,rfl,h2,h3⟩
       . show afc m (-1)<afc m (k:Int)
         rw [akr,aeR];omega
       . show afc m (j:Int)<afc m (k:Int)
         rw [aeR,aeR];omega
end
section
open Go.RowKit
end
end Go.Proofs.YtnkfdeiigplhoaaGreatDoor
