import Derived.Test.YtnkfdeiigplhoaaGreatDoorPLoop0
import Derived.Test.YtnkfdeiigplhoaaGreatDoorPLays
import Derived.Test.YtnkfdeiigplhoaaGreatDoorPGlobs
import Derived.Sort.OwnSortedInts
/- ssa.Check, in plain Lean; and what code.Check says of a function, gathered. ever.tells in plain Lean. No program in sight. calls.graph in plain Lean: whom each function calls, sorted, each once. No program in sight. slices.Sort and slices.Compact of a row of numbers of the call's own. -/
namespace Go.Proofs.YtnkfdeiigplhoaaGreatDoor
section
open Go.RowKit
def VOk(regs:Int)(v:DVal):Prop:=v.reg=true->0<=v.n∧v.n<regs
theorem agv {regs:Int}{v:DVal}(h:abN regs v=0):VOk regs v:=by
 intro hr;unfold abN at h
 by_cases h1:v.reg=true∧¬(0<=v.n∧v.n<=regs - 1)
 . rw [if_pos h1] at h;omega
 . have h2:¬¬(0<=v.n∧v.n<=regs - 1):=fun h3=>h1 ⟨hr,h3⟩
   omega
theorem alp {regs n:Int}(h:agB regs n=0):0<=n∧n<regs:=by
 unfold agB at h
 by_cases h1:¬(0<=n∧n<=regs - 1)
 . rw [if_pos h1] at h;omega
 . omega
structure apr (regs:Int)(x:ad8):Prop where
 op:1<=x.op∧x.op<=22
 dst : -1<=x.dst∧x.dst<regs
 low:x.op<=18->0<=x.dst
 a:VOk regs x.a
 b:VOk regs x.b
 offA:shpA x.op=false->x.a=⟨false,0⟩
 offB:shpB x.op=false->x.b=⟨false,0⟩
 args:∀v∈x.args,VOk regs v
theorem aoG {fs:List aao}{regs:Int}{x:ad8}(hr:0<=regs)(h:aeN fs regs x=0):apr regs x:=by
 unfold aeN at h
 by_cases h1:¬(1<=x.op∧x.op<=22)
 . rw [if_pos h1] at h;omega
 rw [if_neg h1] at h
 by_cases h2:acZ x=true
 . rw [if_pos h2] at h;omega
 rw [if_neg h2] at h
 by_cases h3:(shpD x.op=true∧¬(x.op=20∧x.dst = -1))∧agB regs x.dst≠0
 . rw [if_pos h3] at h;omega
 rw [if_neg h3] at h;have hf:acz (abN regs x.a) (abN regs x.b) (ab5 fs regs x)=0->abN regs x.a=0∧abN regs x.b=0∧ab5 fs regs x=0:=by
  unfold acz
  by_cases a1:abN regs x.a≠0
  . rw [if_pos a1];exact fun h=>absurd h a1
  rw [if_neg a1]
  by_cases a2:abN regs x.b≠0
  . rw [if_pos a2];exact fun h=>absurd h a2
  rw [if_neg a2];exact fun h=>⟨by omega,by omega,h⟩
 obtain⟨h4,h5,h6⟩:=hf h;unfold acZ at h2;simp only [Bool.or_eq_true,Bool.and_eq_true,Bool.not_eq_true',decide_eq_true_eq,not_or,not_and] at h2;obtain⟨⟨⟨g1,g2⟩,g3⟩,g4⟩:=h2;have ad : -1<=x.dst∧x.dst<regs∧(x.op<=18->0<=x.dst):=by
  cases hD:shpD x.op with
  | false =>
    have:=g1 hD;refine⟨by omega,by omega,fun ai=>?_⟩;unfold shpD at hD;simp only [Abj,decide_eq_false_iff_not] at hD;omega
  | true =>
    by_cases h7:x.op=20∧x.dst = -1
    . exact⟨by omega,by omega,fun h=>by omega⟩
    . have h8:agB regs x.dst=0:=by
       by_cases h9:agB regs x.dst=0
       . exact h9
       . exact absurd ⟨⟨hD,h7⟩,h9⟩ h3
      have:=alp h8;exact⟨by omega,by omega,fun _=>this.1⟩
 refine⟨by omega,⟨ad.1,ad.2.1⟩,ad.2.2,agv h4,agv h5,fun h=>by have:=g2 h;exact Classical.not_not.1 this,fun h=>by have:=g3 h;exact Classical.not_not.1 this,fun v hv=>?_⟩
 by_cases hop:x.op=20
 . unfold ab5 at h6
   rw [if_neg (by simpa using hop)] at h6
   by_cases b1:¬(0<=x.fn∧x.fn<=(fs.length:Int) - 1)
   . rw [if_pos b1] at h6;omega
   rw [if_neg b1] at h6
   by_cases b2:(x.args.length:Int)≠(fs.getD x.fn.toNat ⟨ByteArray.empty,0,0,[]⟩).params
   . rw [if_pos b2] at h6;omega
   rw [if_neg b2] at h6;exact agv (aem.1 h6 v hv)
 . have:=(g4 hop).2
   have:x.args.length=0:=by omega
   rw [Abq.1 this] at hv;cases hv
structure apo (f:aao):Prop where
 len:1<=f.blocks.length∧f.blocks.length<=40
 pr:0<=f.params∧f.params<=6∧f.params<=f.regs∧f.regs<=100
 many:∀x∈f.blocks,x.phis.length<=300∧x.list.length<=300
 tgt:∀(k:Nat) (x:aad),f.blocks[k]?=some x->x.fin.to.length<=2∧∀t∈x.fin.to,0<=t∧t<(f.blocks.length:Int)
 kind:∀(k:Nat) (x:aad),f.blocks[k]?=some x->1<=x.fin.kind∧x.fin.kind<=3∧(x.fin.to.length:Int)=x.fin.kind - 1∧(∀t∈x.fin.to,1<=t)∧¬(x.fin.kind=3∧x.fin.to.getD 0 0=x.fin.to.getD 1 0)
 on:∀(k:Nat) (x:aad),f.blocks[k]?=some x->VOk f.regs x.fin.on
 phi:∀(k:Nat) (x:aad),f.blocks[k]?=some x->∀p∈x.phis,(0<=p.dst∧p.dst<f.regs)∧p.src.length=(aag f.blocks 0 k).length∧∀v∈p.src,VOk f.regs v
 phi0:∀(k:Nat) (x:aad),f.blocks[k]?=some x->∀p∈x.phis,k≠0
 ins:∀(k:Nat) (x:aad),f.blocks[k]?=some x->∀y∈x.list,apr f.regs y
 args:∀(k:Nat) (x:aad),f.blocks[k]?=some x->∀y∈x.list,y.args.length<=1048576
theorem aiI {u:aaC}(h:aal u=(0,0)){k:Nat}{f:aao}(hf:u.funcs[k]?=some f):apo f:=by
 obtain⟨hh,hb⟩:=abv h hf;obtain⟨-,-,p1,p2,p3,p4,l1,l2,hm⟩:=abH hh;obtain⟨e1,e2⟩:=abC.1 hb;have aj:=(adq h).2 f (Aam hf);have he:∀(k:Nat) (x:aad),f.blocks[k]?=some x->adT f.blocks.length f.regs x.fin=0:=fun k x hx=>by
  have:=e1 k (Aae.1 hx).1;unfold adk at this;rw [hx] at this;exact this
 have ae:∀(k:Nat) (x:aad),f.blocks[k]?=some x->(∀p∈x.phis,ag1 f.regs k (aheadF f.blocks) p=0)∧∀y∈x.list,aeN u.funcs f.regs y=0:=fun k x hx =>
  (abO hx).1 (e2 k (Aae.1 hx).1)
 refine⟨⟨l1,l2⟩,⟨p1,p2,p3,p4⟩,fun x hx=>by have:=agY hx;omega,fun k x hx=>?_,fun k x hx=>?_,fun k x hx=>?_,fun k x hx p hp=>?_,fun k x hx p hp=>?_,fun k x hx y hy=>?_,fun k x hx y hy=>?_⟩
 . have:=aeV (he k x hx)
   refine⟨by omega,fun t ht=>?_⟩;have:=this.2.2.2.1 t ht;omega
 . obtain⟨a1,a2,a3,a4,a5,-⟩:=aeV (he k x hx)
   exact⟨a1,a2,a3,fun t ht=>(a4 t ht).1,a5⟩
 . exact agv (aeV (he k x hx)).2.2.2.2.2
 . obtain⟨-,a2,a3,a4⟩:=adM.1 ((ae k x hx).1 p hp)
   rw [abA (Aae.1 hx).1] at a3;exact⟨alp a2,a3,fun v hv=>agv (aem.1 a4 v hv)⟩
 . exact (adM.1 ((ae k x hx).1 p hp)).1
 . exact aoG (by omega) ((ae k x hx).2 y hy)
 . rcases aim ((ae k x hx).2 y hy) with h4 | ⟨g,hg,h4⟩
   . omega
   . obtain⟨i,hi,rfl⟩:=Aa1 hg
     have:=(abH (abv h (Aaa hi)).1).2.2.2.1;omega
theorem apo.toOk {f:aao}(h:apo f):adH f.blocks:=⟨h.len.1,h.tgt⟩
end
section
open Go.RowKit
end
section
def adl(l:List Int):List Int:=l.mergeSort fun x y=>decide (x<=y)
theorem agk(l:List Int):(adl l).length=l.length:=by unfold adl;exact List.length_mergeSort _
end
section
open Go.RowKit Go.Shelf Go.Sort
theorem aj7 {base:Nat}{w:World}{v:Value}{l:List Int}(h:aaz base w v l)(hl:l.length<=1048576) :
 Calls Tryz.prog 124 #[v] w fun e w'=>e = .returned (.tuple #[])∧aaz base w' v (adl l)∧w.grownBy w' v.ownBlock:=by
 obtain⟨h1,h2⟩:=h;have hlen:=agk l;have hi:∀x∈adl l,I64 x:=fun x hx=>h2 x (by unfold adl at hx;rwa [List.mem_mergeSort] at hx);rcases h1.2 with⟨rfl,h0⟩ | ⟨g,cap,cur,rfl,hg,hh,hn,hm,hsz,ht⟩
 . have ag:l=[]:=Abq.1 h0
   subst ag;refine (Any.slices_Sort_int_none ajM none 0 w).mono ?_;rintro e w' ⟨rfl,rfl⟩;exact⟨rfl,⟨by simpa [adl] using World.ownsRow_nil _ base 3 1,fun x hx=>hi x hx⟩,⟨rfl,rfl,rfl,Aad _,fun _ _ _=>rfl⟩⟩
 . have af:g<w.heap.size:=(Aax.1 hh).1
   rw [Aan] at ht;refine (Any.slices_Sort_int ajM g 0 cap l w (holds_of_blockI hh ht) af (by omega)).mono ?_;rintro e w' ⟨rfl,n,os,rfl⟩;refine⟨rfl,⟨?_,hi⟩,grownBy_sortedI _⟩;have h3:=ownsRow_sortedI (n:=n) (os:=os) hlen hg hh hn hm hsz;rw [<-hlen] at h3 ⊢;exact h3
end
end Go.Proofs.YtnkfdeiigplhoaaGreatDoor
