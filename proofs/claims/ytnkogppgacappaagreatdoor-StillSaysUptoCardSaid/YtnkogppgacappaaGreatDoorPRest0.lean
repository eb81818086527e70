/- The sources of a merge, counted by the document, are those of the program: plain lists. A function with its blocks in an order, laid once more by the same counts: it stays; and it is in its form. Plain. -/
import Derived.Test.YtnkogppgacappaaGreatDoorPFour
import Derived.Test.YtnkogppgacappaaGreatDoorPMrg1
namespace Go.Proofs.YtnkogppgacappaaGreatDoor
open Go.RowKit

theorem hits_none {tz:List Int}{t i:Nat}(h:(t:Int) ∉ tz):hits tz t i=[]:=by
 unfold hits;rw [List.map_eq_nil_iff,List.filter_eq_nil_iff];intro x hx;simp;rintro rfl;exact h hx
theorem hits_one {tz:List Int}{t i:Nat}(hn:tz.Nodup)(h:(t:Int)∈tz):hits tz t i=[(i:Int)]:=by
 unfold hits
 induction tz with
 | nil=>cases h
 | cons a l ih =>
   rw [List.nodup_cons] at hn
   by_cases ha:a=(t:Int)
   · subst ha
     have e:l.filter (fun x:Int=>decide (x=(t:Int)))=[]:=by
      rw [List.filter_eq_nil_iff];intro x hx;simp;rintro rfl;exact hn.1 hx
     simp [e]
   · rcases List.mem_cons.1 h with h | h
     · exact absurd h.symm ha
     · have:=ih hn.2 h
       simpa [List.filter_cons,ha] using this
end Go.Proofs.YtnkogppgacappaaGreatDoor

namespace Go.Proofs.YtnkogppgacappaaGreatDoor
open Go.RowKit

theorem predsOf_sorted {t:Nat}:∀(l:List DBlock) (s:Nat),(∀x∈l,x.fin.to.Nodup)→(predsOf l s t).Pairwise (·<·)∧∀a∈predsOf l s t,(s:Int)≤a:=by
 intro l
 induction l with
 | nil=>intro s _;simp [predsOf]
 | cons b l ih =>
   intro s h;obtain⟨h1,h2⟩:=ih (s+1) (fun x hx=>h x (by simp [hx]));rw [predsOf]
   by_cases hm:(t:Int)∈b.fin.to
   · rw [hits_one (h b (by simp)) hm]
     refine⟨?_,?_⟩
     · rw [List.singleton_append,List.pairwise_cons]
       exact⟨fun a ha=>by have:=h2 a ha;omega,h1⟩
     · intro a ha
       simp at ha;rcases ha with rfl | ha
       · exact Int.le_refl _
       · have:=h2 a ha;omega
   · rw [hits_none hm,List.nil_append]
     exact⟨h1,fun a ha=>by have:=h2 a ha;omega⟩
theorem endE_iff {n:Nat}{regs:Int}{e:DEnd}:endE n regs e=0↔(1≤e.kind∧e.kind≤3)∧(e.to.length:Int)=e.kind - 1∧(∀t∈e.to,1≤t∧t≤(n:Int) - 1)∧¬((e.kind=3∧e.to.getD 0 0=e.to.getD 1 0)∨(e.kind=2∧e.on≠⟨false,0⟩))∧valE regs e.on=0:=by
 unfold endE
 by_cases h1:1≤e.kind∧e.kind≤3
 case neg=>rw [if_pos h1];constructor;(intro h;omega);(intro h;exact absurd h.1 h1)
 rw [if_neg (by simpa using h1)]
 by_cases h2:(e.to.length:Int)=e.kind - 1
 case neg=>rw [if_pos h2];constructor;(intro h;omega);(intro h;exact absurd h.2.1 h2)
 rw [if_neg (by simpa using h2)]
 by_cases h3:e.to.any (badTo n)=true
 · rw [if_pos h3]
   constructor
   · intro h;omega
   · intro h
     obtain⟨t,ht,hb⟩:=List.any_eq_true.1 h3;have:=h.2.2.1 t ht;simp only [badTo,Bool.not_eq_true',decide_eq_false_iff_not] at hb;exact absurd this hb
 rw [if_neg h3];have h3':∀t∈e.to,1≤t∧t≤(n:Int) - 1:=fun t ht=>by
  have:badTo n t≠true:=fun hb=>h3 (List.any_eq_true.2 ⟨t,ht,hb⟩);simpa [badTo] using this
 by_cases h4:(e.kind=3∧e.to.getD 0 0=e.to.getD 1 0)∨(e.kind=2∧e.on≠⟨false,0⟩)
 · rw [if_pos h4];constructor;(intro h;omega);(intro h;exact absurd h4 h.2.2.2.1)
 rw [if_neg h4];exact⟨fun h=>⟨h1,h2,h3',h4,h⟩,fun h=>h.2.2.2.2⟩
theorem bodyE_zero {fs:List DFunc}{f:DFunc}:bodyE fs f=0↔(∀j,j<f.blocks.length→endsE f.regs f.blocks j=0)∧∀j,j<f.blocks.length→blockE fs f.regs f.blocks j=0:=by
 unfold bodyE;constructor
 · intro h
   by_cases h1:firstF (endsE f.regs f.blocks) f.blocks.length=0
   · rw [if_neg (by simpa using h1)] at h
     exact⟨firstF_inv h1,firstF_inv h⟩
   · rw [if_pos h1] at h;exact absurd h h1
 · rintro⟨h1,h2⟩
   rw [if_neg (by simpa using firstF_zero h1)];exact firstF_zero h2
theorem blockE_zero {fs:List DFunc}{regs:Int}{bs:List DBlock}{k:Nat}{b:DBlock}(hb:bs[k]?=some b):blockE fs regs bs k=0↔(∀p∈b.phis,phiE regs k (aheadF bs) p=0)∧∀x∈b.list,insE fs regs x=0:=by
 unfold blockE;rw [hb];dsimp only;have e1:(∀j,j<b.phis.length→phisE regs bs k b j=0)↔∀p∈b.phis,phiE regs k (aheadF bs) p=0:=by
  constructor
  · intro h p hp
    obtain⟨j,hj,rfl⟩:=List.getElem_of_mem hp;have:=h j hj;unfold phisE at this
    rwa [List.getElem?_eq_getElem hj] at this
  · intro h j hj
    unfold phisE;rw [List.getElem?_eq_getElem hj];exact h _ (List.getElem_mem hj)
 have e2:(∀j,j<b.list.length→listE fs regs b j=0)↔∀x∈b.list,insE fs regs x=0:=by
  constructor
  · intro h p hp
    obtain⟨j,hj,rfl⟩:=List.getElem_of_mem hp;have:=h j hj;unfold listE at this
    rwa [List.getElem?_eq_getElem hj] at this
  · intro h j hj
    unfold listE;rw [List.getElem?_eq_getElem hj];exact h _ (List.getElem_mem hj)
 rw [←e1,←e2];constructor
 · intro h
   by_cases h1:firstF (phisE regs bs k b) b.phis.length=0
   · rw [if_neg (by simpa using h1)] at h
     exact⟨firstF_inv h1,firstF_inv h⟩
   · rw [if_pos h1] at h;exact absurd h h1
 · rintro⟨h1,h2⟩
   rw [if_neg (by simpa using firstF_zero h1)];exact firstF_zero h2
theorem aheadF_getD {bs:List DBlock}{k:Nat}(hk:k<bs.length):(aheadF bs).getD k []=predsOf bs 0 k:=by
 unfold aheadF;rw [List.getD_eq_getElem?_getD,List.getElem?_map,List.getElem?_range hk];rfl
theorem argsE_iff {regs:Int}{l:List DVal}:argsE regs l=0↔∀v∈l,valE regs v=0:=by
 unfold argsE
 by_cases h:l.any (fun v=>decide (valE regs v≠0))=true
 · rw [if_pos h]
   obtain⟨v,hv,hb⟩:=List.any_eq_true.1 h;constructor
   · intro h;omega
   · intro h2;exact absurd (h2 v hv) (by simpa using hb)
 · rw [if_neg h]
   refine⟨fun _ v hv=>?_,fun _=>rfl⟩
   by_cases hz:valE regs v=0
   · exact hz
   · exact absurd (List.any_eq_true.2 ⟨v,hv,by simpa using hz⟩) h
theorem phiE_iff {regs:Int}{block:Nat}{ahead:List (List Int)}{p:DPhi}:phiE regs block ahead p=0↔block≠0∧dstE regs p.dst=0∧p.src.length=(ahead.getD block []).length∧argsE regs p.src=0:=by
 unfold phiE
 by_cases h1:block=0
 · rw [if_pos h1];constructor;(intro h;omega);(intro h;exact absurd h1 h.1)
 rw [if_neg h1]
 by_cases h2:dstE regs p.dst≠0
 · rw [if_pos h2];constructor;(intro h;omega);(intro h;exact absurd h.2.1 h2)
 rw [if_neg h2]
 by_cases h3:p.src.length≠(ahead.getD block []).length
 · rw [if_pos h3];constructor;(intro h;omega);(intro h;exact absurd h.2.2.1 h3)
 rw [if_neg h3];exact⟨fun h=>⟨h1,by simpa using h2,by simpa using h3,h⟩,fun h=>h.2.2.2⟩

structure Alike' (fs fs':List DFunc):Prop where
 len:fs'.length=fs.length
 at_:∀(k:Nat) (f:DFunc),fs[k]?=some f→∃f',fs'[k]?=some f'∧f'.name=f.name∧f'.params=f.params
end Go.Proofs.YtnkogppgacappaaGreatDoor
