/- tidy, plain: the first Keep does not mind how blocks are numbered; so tidy does not mind how weigh laid them. tidy, plain: done twice is done once. still.Do, plain: what is still is gone behind it; done twice it is done once. still.Do: of a checked unit; of any one, by its fault. -/
import Derived.Test.YtnkogppgacappaaGreatDoorPLarge
import Derived.Test.YtnkogppgacappaaGreatDoorPStillDo
import Derived.Test.YtnkogppgacappaaGreatDoorPRound
namespace Go.Proofs.YtnkogppgacappaaGreatDoor

end Go.Proofs.YtnkogppgacappaaGreatDoor

namespace Go.Proofs.YtnkogppgacappaaGreatDoor

section
variable {bs : List DBlock} {b : Nat}
end

end Go.Proofs.YtnkogppgacappaaGreatDoor

namespace Go.Proofs.YtnkogppgacappaaGreatDoor
open Go.RowKit

def stillT(gs:List DGlobal)(fs:List DFunc):List DFunc:=((fs.map tidyFn).map (doneFn (stillF (wordsL gs) (insU (fs.map tidyFn))) (wordsL gs))).map tidyFn
theorem words_i64 {S:Nat→Prop}{w:World}{v:Value}{gs:List DGlobal}(h:SlAt S w 3 rGlobal v gs):∀x∈wordsL gs,I64 x:=by
 have hw:wordsL gs=gs.flatMap wordsG:=by unfold wordsL wordsK;rw [List.take_length]
 intro x hx;rw [hw] at hx;obtain⟨g,hg,hx2⟩:=List.mem_flatMap.1 hx;unfold wordsG at hx2;rcases List.mem_append.1 hx2 with h1 | h1
 · obtain⟨i,hi⟩:=List.mem_iff_getElem?.1 hg
   obtain⟨ao,c,-,-,-,hr⟩:=h;obtain⟨b,off,-,-,hat⟩:=hr (fun e=>by rw [e] at hg;cases hg);obtain⟨cs,⟨v2,-,hsl,-⟩,-,-⟩:=hat i g hi;obtain⟨j,hj⟩:=List.mem_iff_getElem?.1 h1;obtain⟨ao2,c2,-,-,-,hr2⟩:=hsl;obtain⟨b2,off2,-,-,hat2⟩:=hr2 (fun e=>by rw [e] at h1;cases h1);obtain⟨cs2,⟨-,h3,h4⟩,-,-⟩:=hat2 j x hj;exact⟨h3,h4⟩
 · rw [List.eq_of_mem_replicate h1]
   exact⟨by decide,by decide⟩
section
variable {gs : List DGlobal} {fs : List DFunc}
theorem still_mid(h:checkF ⟨gs,fs⟩=(0,0))(hn:NumU ⟨gs,fs⟩)(hm:∀x∈wordsL gs,I64 x)(ls:List Bool):checkF ⟨gs,(fs.map tidyFn).map (doneFn ls (wordsL gs))⟩=(0,0)∧NumU ⟨gs,(fs.map tidyFn).map (doneFn ls (wordsL gs))⟩:=by
 have h1:checkF ⟨gs,fs.map tidyFn⟩=(0,0):=tidyU_check h hn;have h2:NumU ⟨gs,fs.map tidyFn⟩:=tidyU_num h hn;exact⟨done_check h1 h2 hm,done_num h2 hm⟩
theorem stillT_check(h:checkF ⟨gs,fs⟩=(0,0))(hn:NumU ⟨gs,fs⟩)(hm:∀x∈wordsL gs,I64 x):checkF ⟨gs,stillT gs fs⟩=(0,0)∧NumU ⟨gs,stillT gs fs⟩:=by
 obtain⟨h1,h2⟩:=still_mid h hn hm (stillF (wordsL gs) (insU (fs.map tidyFn)));exact⟨tidyU_check h1 h2,tidyU_num h1 h2⟩
end

end Go.Proofs.YtnkogppgacappaaGreatDoor

namespace Go.Proofs.YtnkogppgacappaaGreatDoor
open Go.RowKit

theorem stillT_len(gs:List DGlobal)(fs:List DFunc):(stillT gs fs).length=fs.length:=by unfold stillT;simp
theorem still_say {S : Nat → Prop} (ga : Option Addr) (gc : Nat) (fa : Option Addr) (fc : Nat) (gs : List DGlobal) (fs : List DFunc) (w : World)
 (hg:SlAt S w 3 rGlobal (.slice ga gs.length gc) gs) (hf:SlAt S w 4 rFunc (.slice fa fs.length fc) fs) (hw:Ways w) (hS:∀b,S b→b<w.heap.size) (hsm:Small gs fs) :
 Calls Tryz.prog 14 #[.agg #[.slice ga gs.length gc,.slice fa fs.length fc]] w fun e w1=>∃va vn vc wa wn wc c d,e = .returned (.tuple #[.agg #[.slice va vn vc,.slice wa wn wc],.agg #[.int .i64 c,.int .i64 d]])∧Below w.heap.size w w1 ∧
  ((c≠0∧vn=0∧wn=0∧checkF ⟨gs,fs⟩=(c,d))∨(c=0∧d=0∧vn=gs.length∧wn=fs.length∧checkF ⟨gs,fs⟩=(0,0)∧SlAt (iv w.heap.size w1.heap.size) w1 3 rGlobal (.slice va vn vc) gs∧SlAt (iv w.heap.size w1.heap.size) w1 4 rFunc (.slice wa wn wc) (stillT gs fs))):=by
 refine (stillDo_any (S:=S) ga gc fa fc gs fs w hg hf hw hS hsm.globals hsm.funcs hsm.many (NumU_of (gs:=gs) hf)).mono fun e w1 hp=>?_
 by_cases hc:(checkF ⟨gs,fs⟩).1=0
 · obtain⟨ga2,gc2,fa2,fc2,h1,h2,h3⟩:=hp.2.2 hc
   exact⟨ga2,_,gc2,fa2,_,fc2,0,0,h1,hp.1,.inr ⟨rfl,rfl,rfl,rfl,checkF_zero hc,h2,h3⟩⟩
 · exact⟨none,0,0,none,0,0,_,_,hp.2.1 hc,hp.1,.inl ⟨hc,rfl,rfl,rfl⟩⟩

end Go.Proofs.YtnkogppgacappaaGreatDoor
