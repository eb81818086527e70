import Derived.Test.YtpeejlpcikefcaaGreatDoorPStPl
/- append of a make: a row of the call's own, grown by zeros. No function of the program in sight. still.words: the words of the memory, as they are at first. A world in which one row alone is turned. -/
namespace Go.Proofs.YtpeejlpcikefcaaGreatDoor
section
open Go.RowKit
end
section
open Go.RowKit
def abt(base:Nat)(w:World)(v:Value)(l:List Int):Prop:=w.ownsRow base 3 1 v l.length (l.map fun x => .int .i64 x)∧∀x∈l,I64 x
theorem abt.nil(base:Nat)(w:World):abt base w (.slice none 0 0) []:=⟨World.ownsRow_nil w base _ 1,fun x h=>by simp at h⟩
theorem abt.shape {base:Nat}{w:World}{v:Value}{l:List Int}(h:abt base w v l):∃a c,v = .slice a l.length c:=by
 rcases h.1.2 with⟨rfl,h2⟩ | ⟨g,cap,cur,rfl,-⟩
 . exact⟨none,0,by rw [h2]⟩
 . exact⟨_,_,rfl⟩
theorem abt.sl {base:Nat}{w:World}{v:Value}{l:List Int}(h:abt base w v l):SlAt (iv base w.heap.size) w 1 acx v l:=by
 obtain⟨h1,h2⟩:=h;have hc:=fun g hg=>h1.cells (g:=g) hg;rcases id h1.2 with⟨rfl,hl⟩ | ⟨g,cap,cur,rfl,hg,hgg,hn,hm,-⟩
 . have ae:l=[]:=Acd.1 hl
   subst ae;exact⟨none,0,rfl,Aac _,by decide,fun h=>absurd rfl h⟩
 . unfold maxLen at hm
   refine⟨_,cap,rfl,hn,by omega,fun af=>⟨g,0,rfl,⟨hg,(Aag.1 hgg).1⟩,fun i x hx=>?_⟩⟩;obtain⟨hi,rfl⟩:=Aad.1 hx;have hb:=h2 _ (Aaq hi);refine⟨_,⟨rfl,hb.1,hb.2⟩,rfl,fun j u hj=>?_⟩
   match j,hj with
   | 0,hj =>
     cases hj;have ad:=hc g rfl i (.int .i64 l[i]) (by rw [Aak,Aaa hi];rfl);rw [show (⟨g,0,none⟩:Addr).add i=⟨g,i,none⟩ by unfold Addr.add;split <;> simp_all] at ad;rw [Aab,Abd,Nat.add_zero];exact ad
   | j+1,hj=>simp at hj
end
section
open Go.RowKit
structure afr (w0 W:World)(XB:Nat)(e:TypeId)(cs:List Value):Prop where
 size:w0.heap.size<=W.heap.size
 keep:∀b,b<w0.heap.size->b≠XB->W.heap[b]?=w0.heap[b]?
 env:W.os=w0.os∧W.tape=w0.tape∧W.output=w0.output
 row:W.heap[XB]?=some (.cells cs.toArray e (0,0))
section
variable {w0 W W' : World} {XB : Nat} {e : TypeId} {cs : List Value}
theorem afr.at(h:afr w0 W XB e cs){i:Nat}{u:Value}(hi:cs[i]?=some u):W.cell? ⟨XB,i,none⟩=some u:=by
 rw [aaX h.row,Ab7];exact hi
theorem afr.fz(h:afr w0 W XB e cs)(i:Nat):W.frozen? ⟨XB,i,none⟩=false:=by simp [World.frozen?,h.row]
theorem afr.lt(h:afr w0 W XB e cs):XB<W.heap.size:=(Aag.1 h.row).1
theorem afr.set(h:afr w0 W XB e cs)(i:Nat)(u:Value):afr w0 (W.setCell ⟨XB,i,none⟩ u) XB e (cs.set i u) :=
 ⟨by simpa [World.setCell] using h.size,fun b h1 h2=>by rw [Below.heap_setCell _ _ _ _ (by dsimp only;exact h2)];exact h.keep b h1 h2,h.env,by rw [aak h.row];simp⟩
theorem afr.below {w:World}(h:afr w0 W XB e cs)(hb:Below w.heap.size w w0)(h1:w.heap.size<=XB):Below w.heap.size w W:=by
 have hz:=hb.size;exact⟨h.env.1.trans hb.os,h.env.2.1.trans hb.tape,h.env.2.2.trans hb.output,Aai hz h.size,fun k hk=>(h.keep k (by omega) (by omega)).trans (hb.block k hk)⟩
theorem afr.sl {α:Type}{r:Rp α}(hr:r.Mono){S:Nat->Prop}{sz:Nat}{v:Value}{l:List α}(h:afr w0 W XB e cs)(hS:∀b,S b->b≠XB)(hs:SlAt S w0 sz r v l):SlAt S W sz r v l :=
 hs.mono hr (fun _ h=>h) (acI fun b hb hl=>h.keep b hl (hS b hb))
end
end
end Go.Proofs.YtpeejlpcikefcaaGreatDoor
