/- still.still: which words never change. -/
import Derived.Test.YtaehkcnankijfaaDoorPMarks
import Derived.Test.YtaehkcnankijfaaDoorPHeldR
namespace Go.Proofs.YtaehkcnankijfaaDoor
open Go.RowKit Go.Shelf Go.Sort

attribute [local go_sem] Oper.semAt_some

theorem keepE_set {n₀ : Nat} {X : Nat → Prop} (W : World) {b o : Nat} (v : Value) (hX : X b) : KeepE n₀ X W (W.setCell ⟨b, o, none⟩ v) :=
  ⟨by simp [World.setCell], fun b' _ h => Below.heap_setCell _ _ _ _ (fun e => h (by rw [e]; exact hX))⟩
theorem al_old {w : World} {o : Obj} {b j : Nat} {v : Value} (h : w.cell? ⟨b, j, none⟩ = some v) : (w.alloc o).cell? ⟨b, j, none⟩ = some v :=
  cell_later' h (Below.alloc (Below.refl _ _) (Nat.le_refl _) _)

end Go.Proofs.YtaehkcnankijfaaDoor
