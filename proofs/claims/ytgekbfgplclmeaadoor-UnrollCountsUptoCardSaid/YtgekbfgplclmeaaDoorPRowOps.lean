import Derived.Test.YtgekbfgplclmeaaDoorPRowsG
import Derived.Laws.CopyOwn
/- A function that is worked upon in place, as data: what its rows hold, and how it reads. append, copy and clear on a row of a call's own, in place: what the row holds behind them. No function of the program in sight. -/
namespace Go.Proofs.YtgekbfgplclmeaaDoor
section
open Go.RowKit
end
section
open Go.RowKit
section
variable {P : Program} {w : World}
theorem abQ {ops : Array Oper} {o : Oper} {a : Act} {K : Act -> World -> Prop} {Q : Exit -> Act -> World -> Prop} {E : Prop} (ad : o.guard = none) (d s : Operand) (t t' : TypeId)
 (ho:o.op = .call { callee := .builtin .append,args:=#[d,s],argTypes:=#[t,t'] }) (v u:Value) (hd:a.eval d=v) (hs:a.eval s=u) {v':Value} {w':World}
 (hr:(Builtin.append_ #[t,t'] o.type #[v,u]).run P w = .ok v' w') (h:K (a.put o.dst v') w'):if Region.wanted o (yielded ops a.tmps)=true then Oper.wp P o a w K Q else E:=by
 have hw:Region.wanted o (yielded ops a.tmps)=true:=by simp [Region.wanted,ad]
 rw [if_pos hw];unfold Oper.wp execOp;simp only [ho,resolve,invoke,builtin,Sem.run_bind,Sem.run_pure,Result.andThen_ok,List.map_toArray,Aa2,List.map_nil,hd,hs,hr];exact h
end
end
end Go.Proofs.YtgekbfgplclmeaaDoor
