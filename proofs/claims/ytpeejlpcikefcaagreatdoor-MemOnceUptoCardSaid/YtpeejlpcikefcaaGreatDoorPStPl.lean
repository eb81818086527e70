import Derived.Test.YtpeejlpcikefcaaGreatDoorPSameU
import Derived.Test.YtpeejlpcikefcaaGreatDoorPBackI
/- The words of the memory that never change, plainly. still.within; turnerysame.Bools; turneryref5.WordsOf; turneryref6.StillFirst. The closure of still.Do: which instructions go. still.Do, plain: stores of still words go, loads of them become copies; a checked unit stays checked. -/
namespace Go.Proofs.YtpeejlpcikefcaaGreatDoor
section
open Go.RowKit
def amP(g:aaF):List Int:=g.init++List.replicate (g.size - g.init.length).toNat 0
def ajc(gs:List aaF)(k:Nat):List Int:=(gs.take k).flatMap amP
def apE(gs:List aaF):List Int:=ajc gs gs.length
theorem alZ {gs:List aaF}{k:Nat}(h:k<gs.length):ajc gs (k+1)=ajc gs k++amP gs[k]:=by
 unfold ajc;rw [Aby h,List.flatMap_append];simp
theorem anK {g:aaF}(h:(g.init.length:Int)<=g.size):((amP g).length:Int)=g.size:=by
 unfold amP;rw [Aau,Ab0];omega
theorem anL {gs:List aaF}(h:∀g∈gs,(g.init.length:Int)<=g.size):∀k,k<=gs.length->((ajc gs k).length:Int)=wordsUp gs k:=by
 intro k
 induction k with
 | zero=>intro _;simp [ajc,wordsUp]
 | succ k ih =>
   intro hk;rw [alZ hk,ab7 hk,Aau,Int.natCast_add,ih (by omega),anK (h _ (Aaq hk))]
end
section
open Go.RowKit
theorem ajd {gs:List aaF}(h:∀g∈gs,0<=g.size∧g.size<=200):∀k,k<=gs.length->0<=wordsUp gs k∧wordsUp gs k<=200 * k:=by
 intro k
 induction k with
 | zero=>intro _;simp [wordsUp]
 | succ k ih =>
   intro hk;have:=ih (by omega);have h2:=h _ (Aaq hk);rw [ab7 hk];omega
set_option maxRecDepth 100000 in
set_option maxHeartbeats 1000000 in
theorem al0 {S:Nat->Prop}(ga fa:Option Addr)(gc fn fc:Nat)(gs:List aaF)(w:World)(hg:SlAt S w 3 aaO (.slice ga gs.length gc) gs)(hn:gs.length<=10)(ae:∀g∈gs,0<=g.size∧g.size<=200) :
 Calls Tryz.prog 27 #[.agg #[.slice ga gs.length gc,.slice fa fn fc]] w fun e w'=>e = .returned (.int .i64 (wordsUp gs gs.length))∧Below w.heap.size w w':=by
 have Hg:=hid hg;have ah:=hid ae;clear hg ae;go_enter Tryz.func27,Tryz.ntmps27;go_wp2_with fail;obtain⟨W,hW⟩:∃W,W=w.alloc (.cells #[.slice ga gs.length gc,.slice fa fn fc] 25):=⟨_,rfl⟩
 have ai:Below w.heap.size w W:=by rw [hW];exact bE
 have g0:W.cell? ⟨w.heap.size,0,none⟩=some (.slice ga gs.length gc):=by rw [hW];simp
 have z0:w.heap.size<W.heap.size:=aac g0;rw [<-hW];have ag:=hid ai;clear hW ai;go_loop [3,4] (fun s i=>∃k:Nat,k<=gs.length∧i = .int .i64 k∧s = .int .i64 (wordsUp gs k)) (fun _ i=>gs.length - (intOf i).toNat)
 case atStart=>exact⟨0,Aaj _,rfl,rfl⟩
 case round =>
  obtain⟨k,hk,rfl,rfl⟩:=hrel;have aj:=ajd ah.out k hk
  by_cases hkl:k<gs.length
  . obtain⟨b,off,ia,ic,rfl,af,-,-⟩:=ahz (Hg.out.later aar ag.out) hkl
    obtain⟨-,c1,-⟩:=af.get3;have zb:b<W.heap.size:=aac c1;have hs:=ah.out _ (Aaq hkl);have ad:Hid (wordsUp gs (k+1)=wordsUp gs k+gs[k].size):=ab7 hkl;clear af;obtain⟨t,ht⟩:∃t,t=wordsUp gs k:=⟨_,rfl⟩
    rw [<-ht] at aj ad ⊢;clear ht;go_wp2_with fail;go_round
    case rel=>exact⟨k+1,by omega,by go_num,by rw [ad.out]⟩
    case measure=>simp [intOf];omega
  . obtain rfl:k=gs.length:=by omega
    go_wp2_with fail;go_ret;exact⟨rfl,ag.out⟩
end
section
open Go.RowKit
end
section
open Go.RowKit
section
variable {ls : List Bool} {mem : List Int}
theorem agt(x:Int)(h1 : -9223372036854775808<=x)(h2:x<=9223372036854775807):I64 x:=⟨h1,h2⟩
theorem apF {α : Type} {f g : α -> Nat} : ∀ {l : List α}, (∀ x ∈ l, f x <= g x) -> (l.map f).sum <= (l.map g).sum
 | [],_=>Aac _
 | x :: l,h=>by
   rw [Aa3,Aa3,List.sum_cons,List.sum_cons];exact Nat.add_le_add (h x (by simp)) (apF fun y hy=>h y (by simp [hy]))
end
end
end Go.Proofs.YtpeejlpcikefcaaGreatDoor
