import Derived.Test.YtpeejlpcikefcaaGreatDoorPArgR
/- The order of blocks, plainly: each block once, the first one first, and each behind the best one. The law WeighOnce: its walk. The law WeighHot: its walk. -/
namespace Go.Proofs.YtpeejlpcikefcaaGreatDoor
section
open Go.RowKit
def atF(r:List Nat)(k:Nat)(x:Nat):Nat:=if asD (r.take k) x=true then r.idxOf x else 0
theorem aqB {l:List Nat}{x:Nat}:asD l x=true↔x∈l:=by unfold asD;exact List.contains_iff_mem
end
section
open Go.RowKit
theorem afk {u:adz}(h:(aat u).1=0):aat u=(0,0):=by
 have h0:=h;unfold aat at h ⊢
 by_cases h1:10<u.globals.length∨10<u.funcs.length
 . rw [if_pos h1] at h;simp at h
 rw [if_neg h1] at h ⊢
 by_cases h2:adq (ad1 u.globals) u.globals.length<u.globals.length
 . rw [if_pos h2] at h;exact absurd h (aes h2)
 rw [if_neg h2] at h ⊢
 by_cases h3:adq (ab9 u.globals u.funcs) u.funcs.length<u.funcs.length
 . rw [if_pos h3] at h;exact absurd h (aes h3)
 rw [if_neg h3] at h ⊢
 by_cases h4:adq (abJ u.funcs) u.funcs.length<u.funcs.length
 . rw [if_pos h4] at h;exact absurd h (aes h4)
 rw [if_neg h4] at h ⊢;unfold air at h ⊢
 by_cases h5:abz u.funcs<0
 . rw [if_pos h5] at h;simp at h
 rw [if_neg h5] at h ⊢
 by_cases h6:0<(u.funcs.getD (abz u.funcs).toNat ⟨ByteArray.empty,0,0,[]⟩).params
 . rw [if_pos h6] at h;simp at h
 rw [if_neg h6]
end
section
open Go.RowKit
end
end Go.Proofs.YtpeejlpcikefcaaGreatDoor
