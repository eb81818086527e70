/- calls.Each: all instructions of a function, one by one, in memory that the loop over them may change elsewhere. slices.Backward over a list of numbers, in memory that the loop over it may change elsewhere. -/
import Derived.RangeFuncNested
import Derived.RangeFuncBound
import Derived.RangeFuncCalls
import Derived.RangeFuncLeaves
import Derived.Shelf.Abstract
import Derived.Shelf.RegionOpen
import Derived.WalkKit
import Derived.OwnWalkIn
import Derived.TacticsInMore
import Derived.LoopNIn
import Derived.LoopIn
import Derived.Test.YtnkogppgacappaaDoorPCopyB
namespace Go.Proofs.YtnkogppgacappaaDoor
open Go.RowKit Go.Shelf

attribute [local go_sem] Oper.semAt_some

/-- What lies below n₀ is kept, but for the blocks of X. -/
def KeepE (n₀ : Nat) (X : Nat → Prop) (W W' : World) : Prop := W.heap.size ≤ W'.heap.size ∧ ∀ b, b < n₀ → ¬ X b → W'.heap[b]? = W.heap[b]?
theorem KeepE.refl (n₀ : Nat) (X : Nat → Prop) (W : World) : KeepE n₀ X W W := ⟨Nat.le_refl _, fun _ _ _ => rfl⟩
theorem keepE_t {n₀ : Nat} {X : Nat → Prop} {A B C : World} (h : KeepE n₀ X A B) (k : KeepE n₀ X B C) : KeepE n₀ X A C := ⟨Nat.le_trans h.1 k.1, fun b h1 h2 => (k.2 b h1 h2).trans (h.2 b h1 h2)⟩
theorem keepE_b {n₀ : Nat} {X : Nat → Prop} {w : World} (hn : n₀ ≤ w.heap.size) (W : World) (l : Nat) (o o' : Obj) (hl : w.heap.size ≤ l) (_ : W.heap[l]? = some o) (_ : o.isCells = false) (_ : o.isWalk = false) : KeepE n₀ X W (W.putObj l o') :=
  ⟨by simp, fun b h1 _ => World.putObj_heap_other (by omega)⟩
theorem KeepE.cell {n₀ : Nat} {X : Nat → Prop} {W W' : World} (h : KeepE n₀ X W W') {b o : Nat} {v : Value} (hc : W.cell? ⟨b, o, none⟩ = some v) (hb : b < n₀) (hx : ¬ X b) : W'.cell? ⟨b, o, none⟩ = some v := by
  rw [World.cell?_of_block (w := W) (a := ⟨b, o, none⟩) (h.2 b hb hx)]; exact hc
end Go.Proofs.YtnkogppgacappaaDoor

namespace Go.Proofs.YtnkogppgacappaaDoor
open Go.RowKit Go.Shelf

attribute [local go_sem] Oper.semAt_some

/-- A place of a list, with the number there. -/
def BackP (L : List Int) : Type := { x : Nat × Int // L[x.1]? = some x.2 }
def numOf {L : List Int} (x : BackP L) : Int := x.1.2
def encB {L : List Int} (x : BackP L) : Array Value := #[.int .i64 (x.1.1 : Int), .int .i64 x.1.2]
theorem numOf_mem {L : List Int} (x : BackP L) : numOf x ∈ L := List.mem_of_getElem? x.2

theorem back_in (F : Fence) (n : Nat) (h : F.fn 108) (hro : F.round = none) (a : Option Addr) (m c : Nat) (w : World) :
    CallsIn F n Tryd.prog 108 #[.slice a m c] w fun e w' => e = .returned (.func (.func 127) #[] #[.pointer (some ⟨w.heap.size, 0, none⟩)]) ∧ w' = w.alloc (.cells #[.slice a m c] 26) := by
  refine callsIn_of_wp Tryd.func108 rfl h ?_ hro
  simp only [Tryd.ntmps108, List.size_toArray, List.length_cons, List.length_nil, Nat.reduceAdd, Nat.reduceSub, Array.replicate_succ, Array.replicate_zero, List.push_toArray, List.append_toArray, List.nil_append, List.cons_append]
  gi_wp2
  go_ret
  exact ⟨rfl, rfl⟩

set_option maxRecDepth 100000 in
set_option maxHeartbeats 4000000 in
theorem back1_in (F : Fence) (n : Nat) (h : F.fn 127) (hro : F.round = none) (hn : 1 ≤ n) (l Bs n₀ : Nat) (X : Nat → Prop) (a : Option Addr) (c : Nat) (L : List Int) (W0 : World)
    (hL : L.length ≤ 1048576) (hb : SlAt (fun b => b < n₀ ∧ ¬ X b) W0 1 rInt (.slice a L.length c) L) (hBn : Bs < n₀ ∧ ¬ X Bs)
    (J Jx : List (BackP L) → World → Prop)
    (hY : ∀ pre x W1, J pre W1 → pre.length < L.length → YieldAt F (n - 1) Tryd.prog l (encB x) W1 fun e W' =>
      (e = .returned (.bool true) ∧ J (pre ++ [x]) W' ∧ KeepE n₀ X W1 W') ∨ (e = .returned (.bool false) ∧ Jx (pre ++ [x]) W'))
    (W : World) (hW : Below W0.heap.size W0 W) (hBs : W.cell? ⟨Bs, 0, none⟩ = some (.slice a L.length c)) (h0 : J [] W) :
    CallsIn F n Tryd.prog 127 #[.func (.yield l) #[] #[], .pointer (some ⟨Bs, 0, none⟩)] W fun e W' => (∃ v, e = .returned v) ∧
      ((∃ ys : List (BackP L), ys.map numOf = L.reverse ∧ J ys W') ∨ (∃ pre : List (BackP L), pre.map numOf <+: L.reverse ∧ Jx pre W')) := by
  have Hb := hid hb
  have HY := hid hY
  have HW := hid hW
  have HBs := hid hBs
  have zB : Bs < W.heap.size := cell_lt hBs
  clear hb hY hW
  refine callsIn_of_wp Tryd.func127 rfl h ?_ hro
  simp only [Tryd.ntmps127, List.size_toArray, List.length_cons, List.length_nil, Nat.reduceAdd, Nat.reduceSub, Array.replicate_succ, Array.replicate_zero, List.push_toArray, List.append_toArray, List.nil_append, List.cons_append]
  gi_wp2
  clear hBs
  gi_loopw [3] (fun i wr => ∃ (k : Nat) (pre : List (BackP L)), k ≤ L.length ∧ i = .int .i64 ((k : Int) - 1) ∧ pre.map numOf = (L.drop k).reverse ∧ J pre wr ∧ KeepE n₀ X W wr) (fun i _ => (intOf i + 1).toNat)
  case atStart => exact ⟨L.length, [], Nat.le_refl _, rfl, by simp, h0, KeepE.refl _ _ _⟩
  case round =>
    obtain ⟨k, pre, hk, rfl, hpre, hJ, hkp⟩ := hrel
    have Hpre := hid hpre
    have HJ := hid hJ
    have Hkp := hid hkp
    have c0 := hkp.cell HBs.out hBn.1 hBn.2
    have z0 : Bs < wr.heap.size := cell_lt c0
    clear hpre hJ hkp
    cases k with
    | zero =>
      have Hpr : Hid (pre.map numOf = L.reverse) := by show _ = _; rw [Hpre.out, List.drop_zero]
      have e0 : ((0 : Nat) : Int) - 1 = -1 := rfl
      rw [e0]
      clear e0
      gi_wp2
      go_end0
      exact ⟨⟨_, rfl⟩, .inl ⟨pre, Hpr.out, HJ.out⟩⟩
    | succ k =>
      have hkl : k < L.length := hk
      have e0 : ((k + 1 : Nat) : Int) - 1 = (k : Int) := by omega
      rw [e0]
      obtain ⟨xb, xoff, cs, hxa, hxS, ⟨rfl, -⟩, -, hcs⟩ := Hb.out.get hkl
      subst hxa
      have hd := hcs.get1
      rw [Nat.mul_one] at hd
      obtain ⟨y, hy⟩ : ∃ y, y = L[k] := ⟨_, rfl⟩
      rw [← hy] at hd
      have d0 := Hkp.out.cell (cell_later' hd HW.out) hxS.1 hxS.2
      have zx : xb < wr.heap.size := cell_lt d0
      obtain ⟨x, hx⟩ : ∃ x : BackP L, x = ⟨(k, y), by rw [hy]; exact List.getElem?_eq_getElem hkl⟩ := ⟨_, rfl⟩
      have henc : encB x = #[.int .i64 (k : Int), .int .i64 y] := by rw [hx]; rfl
      have hnum : numOf x = y := by rw [hx]; rfl
      have hlen : pre.length < L.length := by
        have h := congrArg List.length Hpre.out
        rw [List.length_map, List.length_reverse, List.length_drop] at h
        omega
      obtain ⟨fn, tmps, assign, body, hyy, hR⟩ := HY.out pre x wr HJ.out hlen
      rw [henc] at hyy
      have Hpr2 : Hid ((pre ++ [x]).map numOf = (L.drop k).reverse) := by
        show _ = _
        rw [List.map_append, Hpre.out, List.drop_eq_getElem_cons hkl, List.reverse_cons]
        show _ ++ [numOf x] = _
        rw [hnum, hy]
      have Hpx : Hid ((L.drop k).reverse <+: L.reverse) := List.reverse_prefix.2 (List.drop_suffix k L)
      have HR := hid hR
      clear hcs hx henc hnum hR hd hy hlen e0
      gi_wp2
      refine HR.out.mono ?_
      rintro e W3 (⟨rfl, hJ3, hk3⟩ | ⟨rfl, hJx3⟩)
      · have HJ3 := hid hJ3
        have Hk3 := hid (keepE_t Hkp.out hk3)
        clear hJ3 hk3
        gi_wp2
        go_roundw
        case rel => exact ⟨k, pre ++ [x], by omega, rfl, Hpr2.out, HJ3.out, Hk3.out⟩
        case measure => simp [intOf]
      · have HJ3 := hid hJx3
        clear hJx3
        gi_wp2
        refine bodyPost_ret (results_none rfl _ _ _) rfl ?_
        exact ⟨⟨_, rfl⟩, .inr ⟨pre ++ [x], by rw [Hpr2.out]; exact Hpx.out, HJ3.out⟩⟩

/-- **slices.Backward** hands back what goes through a list from its end, for every loop over it that keeps what is read. -/
theorem back_stops (F : Fence) (n : Nat) (h : F.fn 127) (hro : F.round = none) (hn : 1 ≤ n) (Bs n₀ : Nat) (X : Nat → Prop) (a : Option Addr) (c : Nat) (L : List Int) (W0 w : World)
    (hL : L.length ≤ 1048576) (hb : SlAt (fun b => b < n₀ ∧ ¬ X b) W0 1 rInt (.slice a L.length c) L) (hBn : Bs < n₀ ∧ ¬ X Bs) (h0 : Below W0.heap.size W0 w) (hBs : w.cell? ⟨Bs, 0, none⟩ = some (.slice a L.length c)) :
    SeqStopsK F n Tryd.prog 127 #[.pointer (some ⟨Bs, 0, none⟩)] (encB (L := L)) (KeepE n₀ X) (fun ys => ys.map numOf = L.reverse) (fun pre => pre.map numOf <+: L.reverse) L.length w :=
  fun l J Jx W hW _ _ hY hJ0 =>
    (back1_in F n h hro hn l Bs n₀ X a c L W0 hL hb hBn J Jx hY W (h0.trans (hW.mono h0.size)) (cell_later' hBs hW) hJ0).mono fun _ _ h => h

end Go.Proofs.YtnkogppgacappaaDoor
