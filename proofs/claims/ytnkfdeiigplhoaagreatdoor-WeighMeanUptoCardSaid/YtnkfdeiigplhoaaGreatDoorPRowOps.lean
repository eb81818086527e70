import Derived.Test.YtnkfdeiigplhoaaGreatDoorPRowsG
import Derived.Laws.CopyOwn
/- A function that is worked upon in place, as data: what its rows hold, and how it reads. append, copy and clear on a row of a call's own, in place: what the row holds behind them. No function of the program in sight. -/
namespace Go.Proofs.YtnkfdeiigplhoaaGreatDoor
section
open Go.RowKit
def apP:aad:=⟨[],[],⟨0,⟨false,0⟩,[]⟩⟩
def aea(bs:List aad)(b:Nat):aad:=bs.getD b apP
theorem ahh {bs:List aad}{b:Nat}{x:aad}(h:bs[b]?=some x):aea bs b=x:=by unfold aea;rw [Aac,h];rfl
theorem acb(bs:List aad){b:Nat}(hb:b<bs.length):bs[b]?=some (aea bs b):=by
 unfold aea;rw [Aac,Aaa hb];rfl
end
section
open Go.RowKit
section
variable {P : Program} {w : World}
theorem acp {ops : Array Oper} {o : Oper} {a : Act} {K : Act -> World -> Prop} {Q : Exit -> Act -> World -> Prop} {E : Prop} (ad : o.guard = none) (d s : Operand) (t t' : TypeId)
 (ho:o.op = .call { callee := .builtin .append,args:=#[d,s],argTypes:=#[t,t'] }) (v u:Value) (hd:a.eval d=v) (hs:a.eval s=u) {v':Value} {w':World}
 (hr:(Builtin.append_ #[t,t'] o.type #[v,u]).run P w = .ok v' w') (h:K (a.put o.dst v') w'):if Region.wanted o (yielded ops a.tmps)=true then Oper.wp P o a w K Q else E:=by
 have hw:Region.wanted o (yielded ops a.tmps)=true:=by simp [Region.wanted,ad]
 rw [if_pos hw];unfold Oper.wp execOp;simp only [ho,resolve,invoke,builtin,Sem.run_bind,Sem.run_pure,Result.andThen_ok,List.map_toArray,Aa9,List.map_nil,hd,hs,hr];exact h
end
end
end Go.Proofs.YtnkfdeiigplhoaaGreatDoor
