/- The law WeighLaySays: its walk. -/
import Derived.Test.YtnkogppgacappaaGreatDoorPFits
import Derived.Test.YtnkogppgacappaaGreatDoorPRefLay
import Derived.Deep.RegionWith
import Derived.Deep.RegionHeld3
namespace Go.Proofs.YtnkogppgacappaaGreatDoor
open Go.RowKit

theorem refLay_any' {S S' : Nat → Prop} (nm : ByteArray) (p r : Int) (ba : Option Addr) (bc : Nat) (bs : List DBlock) (ca : Option Addr) (cc : Nat) (C : List Int) (n : Nat) (w : World) (hb : SlAt S w 6 rBlock (.slice ba bs.length bc) bs) (hC : SlAt S' w 1 rInt (.slice ca C.length cc) C)
    (hn0 : 0 < n) (hn : n ≤ 1048576) (hbn : bs.length = n) (hcn : C.length = n) (hto : ∀ (k : Nat) (x : DBlock), bs[k]? = some x → ∀ t ∈ x.fin.to, 0 ≤ t ∧ t < (bs.length : Int)) (R : List Int) (hR : R = (layF bs (cntOf C)).map fun b : Nat => (b : Int)) :
    Calls Tryz.prog 33 #[.agg #[.string nm, .int .i64 p, .int .i64 r, .slice ba n bc], .slice ca n cc] w fun e w' =>
      ∃ a c, e = .returned (.slice a R.length c) ∧ SlAt (fun b => w.heap.size ≤ b) w' 1 rInt (.slice a R.length c) R ∧ Below w.heap.size w w' := by
  subst hbn
  have h := refLay_any nm p r ba bc bs ca cc C w hb hC hn0 hn hcn hto
  rw [hcn, ← hR] at h
  refine h.mono ?_
  rintro e w' ⟨v, rfl, hv, hb⟩
  obtain ⟨a, c, rfl⟩ := sl_len hv
  exact ⟨a, c, rfl, hv, hb⟩


end Go.Proofs.YtnkogppgacappaaGreatDoor
