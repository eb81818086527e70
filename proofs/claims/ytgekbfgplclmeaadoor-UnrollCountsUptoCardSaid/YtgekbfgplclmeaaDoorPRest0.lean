import Derived.Test.YtgekbfgplclmeaaDoorPCells
import Derived.Test.YtgekbfgplclmeaaDoorPSameU
/- The sources of a merge, counted by the document, are those of the program: plain lists. A function with its blocks in an order, laid once more by the same counts: it stays; and it is in its form. Plain. -/
namespace Go.Proofs.YtgekbfgplclmeaaDoor
section
open Go.RowKit
end
section
open Go.RowKit
variable {regs:Int}
theorem ahs{n:Nat}{e:alR}:adp n regs e=0↔(1<=e.kind∧e.kind<=3)∧(e.to.length:Int)=e.kind - 1∧(∀t∈e.to,1<=t∧t<=(n:Int) - 1)∧¬((e.kind=3∧e.to.getD 0 0=e.to.getD 1 0)∨(e.kind=2∧e.on≠⟨false,0⟩))∧abr regs e.on=0:=by
 unfold adp
 by_cases h1:1<=e.kind∧e.kind<=3
 case neg=>rw [if_pos h1];constructor;(intro h;omega);(intro h;exact absurd h.1 h1)
 rw [if_neg (by simpa using h1)]
 by_cases h2:(e.to.length:Int)=e.kind - 1
 case neg=>rw [if_pos h2];constructor;(intro h;omega);(intro h;exact absurd h.2.1 h2)
 rw [if_neg (by simpa using h2)]
 by_cases h3:e.to.any (ac5 n)=true
 . rw [if_pos h3]
   constructor
   . intro h;omega
   . intro h
     obtain⟨t,ht,hb⟩:=List.any_eq_true.1 h3;have:=h.2.2.1 t ht;simp only [ac5,Bool.not_eq_true',decide_eq_false_iff_not] at hb;exact absurd this hb
 rw [if_neg h3];have ad:∀t∈e.to,1<=t∧t<=(n:Int) - 1:=fun t ht=>by
  have:ac5 n t≠true:=fun hb=>h3 (List.any_eq_true.2 ⟨t,ht,hb⟩);simpa [ac5] using this
 by_cases h4:(e.kind=3∧e.to.getD 0 0=e.to.getD 1 0)∨(e.kind=2∧e.on≠⟨false,0⟩)
 . rw [if_pos h4];constructor;(intro h;omega);(intro h;exact absurd h4 h.2.2.2.1)
 rw [if_neg h4];exact⟨fun h=>⟨h1,h2,ad,h4,h⟩,fun h=>h.2.2.2.2⟩
theorem adP {fs:List aal}{f:aal}:ab6 fs f=0↔(∀j,j<f.blocks.length->adS f.regs f.blocks j=0)∧∀j,j<f.blocks.length->acE fs f.regs f.blocks j=0:=by
 unfold ab6;constructor
 . intro h
   by_cases h1:aba (adS f.regs f.blocks) f.blocks.length=0
   . rw [if_neg (by simpa using h1)] at h
     exact⟨ab8 h1,ab8 h⟩
   . rw [if_pos h1] at h;exact absurd h h1
 . rintro⟨h1,h2⟩
   rw [if_neg (by simpa using aaT h1)];exact aaT h2
theorem adf{fs:List aal}{bs:List aad}{k:Nat}{b:aad}(hb:bs[k]?=some b):acE fs regs bs k=0↔(∀p∈b.phis,afQ regs k (aheadF bs) p=0)∧∀x∈b.list,aed fs regs x=0:=by
 unfold acE;rw [hb];dsimp only;have e1:(∀j,j<b.phis.length->aee regs bs k b j=0)↔∀p∈b.phis,afQ regs k (aheadF bs) p=0:=by
  constructor
  . intro h p hp
    obtain⟨j,hj,rfl⟩:=Aav hp;have:=h j hj;unfold aee at this
    rwa [Aaa hj] at this
  . intro h j hj
    unfold aee;rw [Aaa hj];exact h _ (Aai hj)
 have e2:(∀j,j<b.list.length->afM fs regs b j=0)↔∀x∈b.list,aed fs regs x=0:=by
  constructor
  . intro h p hp
    obtain⟨j,hj,rfl⟩:=Aav hp;have:=h j hj;unfold afM at this
    rwa [Aaa hj] at this
  . intro h j hj
    unfold afM;rw [Aaa hj];exact h _ (Aai hj)
 rw [<-e1,<-e2];constructor
 . intro h
   by_cases h1:aba (aee regs bs k b) b.phis.length=0
   . rw [if_neg (by simpa using h1)] at h
     exact⟨ab8 h1,ab8 h⟩
   . rw [if_pos h1] at h;exact absurd h h1
 . rintro⟨h1,h2⟩
   rw [if_neg (by simpa using aaT h1)];exact aaT h2
theorem abJ {bs:List aad}{k:Nat}(hk:k<bs.length):(aheadF bs).getD k []=aag bs 0 k:=by
 unfold aheadF;rw [Aab,Aap,Abg hk];rfl
theorem agd{l:List ab3}:aer regs l=0↔∀v∈l,abr regs v=0:=by
 unfold aer
 by_cases h:l.any (fun v=>decide (abr regs v≠0))=true
 . rw [if_pos h]
   obtain⟨v,hv,hb⟩:=List.any_eq_true.1 h;constructor
   . intro h;omega
   . intro h2;exact absurd (h2 v hv) (by simpa using hb)
 . rw [if_neg h]
   refine⟨fun _ v hv=>?_,fun _=>rfl⟩
   by_cases hz:abr regs v=0
   . exact hz
   . exact absurd (List.any_eq_true.2 ⟨v,hv,by simpa using hz⟩) h
theorem afR{block:Nat}{ahead:List (List Int)}{p:adO}:afQ regs block ahead p=0↔block≠0∧ae3 regs p.dst=0∧p.src.length=(ahead.getD block []).length∧aer regs p.src=0:=by
 unfold afQ
 by_cases h1:block=0
 . rw [if_pos h1];constructor;(intro h;omega);(intro h;exact absurd h1 h.1)
 rw [if_neg h1]
 by_cases h2:ae3 regs p.dst≠0
 . rw [if_pos h2];constructor;(intro h;omega);(intro h;exact absurd h.2.1 h2)
 rw [if_neg h2]
 by_cases h3:p.src.length≠(ahead.getD block []).length
 . rw [if_pos h3];constructor;(intro h;omega);(intro h;exact absurd h.2.2.1 h3)
 rw [if_neg h3];exact⟨fun h=>⟨h1,by simpa using h2,by simpa using h3,h⟩,fun h=>h.2.2.2⟩
end
end Go.Proofs.YtgekbfgplclmeaaDoor
