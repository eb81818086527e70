import Derived.Test.YtpeejlpcikefcaaGreatDoorPLay0
import Derived.Test.YtpeejlpcikefcaaGreatDoorPCheck
/- The heap of blocks in memory; its five methods' contracts. The heap of blocks: Swap and Pop. container/heap over the heap of blocks. container/heap's Init and Pop over the heap of blocks. The contract of weigh.lay. The contract of weigh.Lay. turnerysame.Fault, turnerysame.Ints, turneryref6.weighIn. ssa.checker.write: a register is written, for the first time or not. -/
namespace Go.Proofs.YtpeejlpcikefcaaGreatDoor
section
open Go.RowKit
end
section
open Go.RowKit
end
section
open Go.RowKit
end
section
open Go.RowKit
end
section
open Go.RowKit
theorem arx:(Tryz.prog.info? 4).map (fun i=>(i.zero,i.size,i.bytes))=some (some (.bool false),1,1):=by kernel_rfl
end
section
open Go.RowKit
theorem acm {u:adL}(h:(aav u).1=0):u.globals.length<=10∧u.funcs.length<=10∧(∀k,ad1 u.globals k=0)∧(∀k,ab6 u.globals u.funcs k=0)∧(∀k,abH u.funcs k=0):=by
 unfold aav at h
 by_cases h1:10<u.globals.length∨10<u.funcs.length
 . rw [if_pos h1] at h;simp at h
 rw [if_neg h1] at h
 by_cases h2:ado (ad1 u.globals) u.globals.length<u.globals.length
 . rw [if_pos h2] at h;exact absurd h (aeq h2)
 rw [if_neg h2] at h
 by_cases h3:ado (ab6 u.globals u.funcs) u.funcs.length<u.funcs.length
 . rw [if_pos h3] at h;exact absurd h (aeq h3)
 rw [if_neg h3] at h
 by_cases h4:ado (abH u.funcs) u.funcs.length<u.funcs.length
 . rw [if_pos h4] at h;exact absurd h (aeq h4)
 refine⟨by omega,by omega,fun k=>?_,fun k=>?_,fun k=>?_⟩
 . by_cases hk:k<u.globals.length
   . exact agX h2 k hk
   . unfold ad1;rw [Aas (by omega)]
 . by_cases hk:k<u.funcs.length
   . exact agX h3 k hk
   . unfold ab6;rw [Aas (by omega)]
 . by_cases hk:k<u.funcs.length
   . exact agX h4 k hk
   . unfold abH;rw [Aas (by omega)]
end
section
open Go.RowKit
theorem adw {S:Nat->Prop}{w:World}{a:Option Addr}{n c:Nat}{l:List Int}(h:SlAt S w 1 acx (.slice a n c) l){t:Nat}(ht:t<l.length):∃b off,a=some ⟨b,off,none⟩∧w.cell? ⟨b,off+t,none⟩=some (.int .i64 l[t]):=by
 obtain⟨b,off,cs,ha,-,⟨rfl,-⟩,-,ad⟩:=h.get ht;have d:=ad.get1;rw [Abd] at d;exact⟨b,off,ha,d⟩
end
section
open Go.RowKit
set_option maxRecDepth 100000 in
set_option maxHeartbeats 2000000 in
theorem apX (CB RB n cap r : Nat) (b a x y : Int) (w : World) (hc : w.cell? ⟨CB, 5, none⟩ = some (.slice (some ⟨RB, 0, none⟩) n cap)) (c0 : w.cell? ⟨RB, r * 2, none⟩ = some (.int .i64 x)) (c1 : w.cell? ⟨RB, r * 2 + 1, none⟩ = some (.int .i64 y))
 (f0:w.frozen? ⟨RB,r * 2,none⟩=false) (f1:w.frozen? ⟨RB,r * 2+1,none⟩=false) (hr:r<n) (_hn:n<=1048576) :
 Calls Tryz.prog 79 #[.pointer (some ⟨CB,0,none⟩),.int .i64 (r:Int),.int .i64 b,.int .i64 a] w fun e w' =>
  e = .returned (.bool (!decide (0<=x)))∧w'=if 0<=x then w else (w.setCell ⟨RB,r * 2,none⟩ (.int .i64 b)).setCell ⟨RB,r * 2+1,none⟩ (.int .i64 a):=by
 by_cases hx:0<=x
 . have q:decide (0<=x)=true:=decide_eq_true hx
   have Hv:Hid ((!decide (0<=x))=false):=by show _=_;rw [q];rfl
   rw [Hv.out,if_pos hx];go_enter Tryz.func79,Tryz.ntmps79;go_wp2_with fail;go_ret;exact⟨rfl,rfl⟩
 . have q:decide (0<=x)=false:=decide_eq_false hx
   have Hv:Hid ((!decide (0<=x))=true):=by show _=_;rw [q];rfl
   rw [Hv.out,if_neg hx];go_enter Tryz.func79,Tryz.ntmps79;go_wp2_with fail;go_ret;exact⟨rfl,rfl⟩
end
end Go.Proofs.YtpeejlpcikefcaaGreatDoor
