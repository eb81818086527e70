import Derived.Test.YtnkfdeiigplhoaaGreatDoorPRepI
import Derived.Test.YtnkfdeiigplhoaaGreatDoorPSortI
/- turneryref6.StillOf: word by word. Plain loops around loops over a function: the marks that these leave among a frame's deferred calls. A row of Booleans that is written one by one. core.Vals: the values that an instruction takes, one by one. -/
namespace Go.Proofs.YtnkfdeiigplhoaaGreatDoor
section
open Go.RowKit
end
section
open Go.RowKit Go.Shelf
structure ahJ (B C:Nat)(ds:List Deferred)(W:World):Prop where
 at_:∀d∈ds,∃D,d={ target := .collected D,args:=#[] }∧B<=D∧D<C∧W.heap[D]?=some (.deferred (some []))
 apart:ds.Pairwise (fun d e=>d≠e)
theorem ahJ.nil(B C:Nat)(W:World):ahJ B C [] W:=⟨fun d h=>(by cases h),List.Pairwise.nil⟩
theorem ahJ.cons {B C C' D:Nat}{ds:List Deferred}{W:World}(h:ahJ B C ds W)(hD:C<=D)(hB:B<=D)(hC:D<C')(hd:W.heap[D]?=some (.deferred (some []))):ahJ B C' ({ target := .collected D,args:=#[] } :: ds) W:=by
 refine⟨fun d hm=>?_,List.Pairwise.cons (fun e he=>?_) h.apart⟩
 . rcases Aaw.1 hm with rfl | hm
   . exact⟨D,rfl,hB,hC,hd⟩
   . obtain⟨D',e,h1,h2,h3⟩:=h.at_ d hm
     exact⟨D',e,h1,by omega,h3⟩
 . obtain⟨D',rfl,h1,h2,h3⟩:=h.at_ e he
   intro hx;injection hx with hx;injection hx with hx;omega
def amT(B:Nat)(W W':World):Prop:=Below B W W'∧∀(b:Nat) c t f,W.heap[b]?=some (.cells c t f)->W'.heap[b]?=some (.cells c t f)
theorem amT.refl(B:Nat)(W:World):amT B W W:=⟨Below.refl _ _,fun _ _ _ _ h=>h⟩
theorem amT.trans {B:Nat}{W1 W2 W3:World}(h:amT B W1 W2)(k:amT B W2 W3):amT B W1 W3:=⟨h.1.trans k.1,fun b c t f hc=>k.2 b c t f (h.2 b c t f hc)⟩
theorem aff {F:Fence}{n:Nat}{P:Program}{fn:Func}{tmps:Array Value}{R:Ending->World->Prop}{B C:Nat}:∀(ds:List Deferred) (W:World),B<=W.heap.size->ahJ B C ds W ->
 (∀W',amT B W W'->∃v,(results fn tmps).run P W' = .ok v W'∧R (.returned v) W')->LeavesInM F n P fn tmps R ds .returning W:=by
 intro ds
 induction ds with
 | nil=>exact fun W _ _ h=>h W (amT.refl B W)
 | cons d ds ih =>
   intro W ad hM h;obtain⟨D,rfl,h1,h2,h3⟩:=hM.at_ _ (Aa7 ..);have ai:D<W.heap.size:=(Aax.1 h3).1;have ag:amT B W (W.putObj D (.deferred none)):=by
    refine⟨(Below.refl B W).grown (grownBy_putObj' W D _) ad (fun k e=>by cases e;exact h1),fun b c t f hb=>?_⟩;rw [World.putObj_heap_other (fun e=>by rw [e,h3] at hb;cases hb)];exact hb
   refine⟨by simp,.inl ⟨D,_,rfl,run_takeDeferred h3,ih _ (by simpa using ad) ⟨fun e he=>?_,(List.pairwise_cons.1 hM.apart).2⟩ (fun W' hW=>h W' (ag.trans hW))⟩⟩;obtain⟨D',rfl,k1,k2,k3⟩:=hM.at_ e (Abb _ he);have af:=(List.pairwise_cons.1 hM.apart).1 _ he;have ae:D'≠D:=fun e=>af (by rw [e]);exact⟨D',rfl,k1,k2,(World.putObj_heap_other ae).trans k3⟩
end
section
open Go.RowKit Go.Shelf
attribute [local go_sem] Oper.semAt_some
@[go_sem] theorem an4:yielded.match_1 (fun _=>Option Bool) (some undef) (fun b=>some b) (fun _=>none)=none:=rfl
@[go_sem] theorem aje {m:Value->Type}(h1:∀(fn:Fn) (first captured:Array Value),m (.func fn first captured))(h2:Unit->m .nilFunc)(h3:∀x,m x):Deferred.ofValue.match_1 m undef h1 h2 h3=h3 undef:=rfl
end
end Go.Proofs.YtnkfdeiigplhoaaGreatDoor
