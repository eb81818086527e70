import Derived.Test.YtpeejlpcikefcaaGreatDoorPArgR
/- The order of blocks, plainly: each block once, the first one first, and each behind the best one. The law WeighOnce: its walk. The law WeighHot: its walk. -/
namespace Go.Proofs.YtpeejlpcikefcaaGreatDoor
section
open Go.RowKit
def atF(r:List Nat)(k:Nat)(x:Nat):Nat:=if ast (r.take k) x=true then r.idxOf x else 0
theorem aqw {l:List Nat}{x:Nat}:ast l x=true↔x∈l:=by unfold ast;exact List.contains_iff_mem
end
section
open Go.RowKit
theorem afh {u:adL}(h:(aav u).1=0):aav u=(0,0):=by
 have h0:=h;unfold aav at h ⊢
 by_cases h1:10<u.globals.length∨10<u.funcs.length
 . rw [if_pos h1] at h;simp at h
 rw [if_neg h1] at h ⊢
 by_cases h2:ado (ad1 u.globals) u.globals.length<u.globals.length
 . rw [if_pos h2] at h;exact absurd h (aeq h2)
 rw [if_neg h2] at h ⊢
 by_cases h3:ado (ab6 u.globals u.funcs) u.funcs.length<u.funcs.length
 . rw [if_pos h3] at h;exact absurd h (aeq h3)
 rw [if_neg h3] at h ⊢
 by_cases h4:ado (abH u.funcs) u.funcs.length<u.funcs.length
 . rw [if_pos h4] at h;exact absurd h (aeq h4)
 rw [if_neg h4] at h ⊢;unfold aiv at h ⊢
 by_cases h5:abw u.funcs<0
 . rw [if_pos h5] at h;simp at h
 rw [if_neg h5] at h ⊢
 by_cases h6:0<(u.funcs.getD (abw u.funcs).toNat ⟨ByteArray.empty,0,0,[]⟩).params
 . rw [if_pos h6] at h;simp at h
 rw [if_neg h6]
end
section
open Go.RowKit
end
end Go.Proofs.YtpeejlpcikefcaaGreatDoor
