/- Contracts of code.first over the three closures, and of the checker's ins. The contract of the checker's ins. -/
import Derived.Test.YtnkogppgacappaaDoorPRefA
import Derived.Test.YtnkogppgacappaaDoorPChk2
import Derived.Test.YtnkogppgacappaaDoorPEq
import Derived.Deep.CutRange
import Derived.Deep.Light
namespace Go.Proofs.YtnkogppgacappaaDoor
open Go.RowKit

def firstE (e1 e2 e3 : Int) : Int := if e1 ≠ 0 then e1 else if e2 ≠ 0 then e2 else e3
set_option maxHeartbeats 1000000 in
theorem first_any (lb : Nat) (pc px pk : Value) (e1 e2 e3 : Int) (w : World)
    (h0 : w.cell? ⟨lb, 0, none⟩ = some (.func (.func 99) #[] #[pc, px]))
    (h1 : w.cell? ⟨lb, 1, none⟩ = some (.func (.func 100) #[] #[pc, px]))
    (h2 : w.cell? ⟨lb, 2, none⟩ = some (.func (.func 101) #[] #[pk, px, pc]))
    (H1 : Hid (∀ w', Below w.heap.size w w' → Calls Tryd.prog 99 #[pc, px] w' fun e w'' => e = .returned (.int .i64 e1) ∧ Below w'.heap.size w' w''))
    (H2 : Hid (∀ w', Below w.heap.size w w' → Calls Tryd.prog 100 #[pc, px] w' fun e w'' => e = .returned (.int .i64 e2) ∧ Below w'.heap.size w' w''))
    (H3 : Hid (∀ w', Below w.heap.size w w' → Calls Tryd.prog 101 #[pk, px, pc] w' fun e w'' => e = .returned (.int .i64 e3) ∧ Below w'.heap.size w' w'')) :
    Calls Tryd.prog 98 #[.slice (some ⟨lb, 0, none⟩) 3 3] w fun e w' => e = .returned (.int .i64 (firstE e1 e2 e3)) ∧ Below w.heap.size w w' := by
  go_enter Tryd.func98, Tryd.ntmps98
  go_wp2_with fail
  go_loopw [8] (fun i wr => ∃ k : Nat, k ≤ 3 ∧ i = .int .i64 k ∧ (1 ≤ k → e1 = 0) ∧ (2 ≤ k → e2 = 0) ∧ (3 ≤ k → e3 = 0) ∧ Below w.heap.size w wr) (fun i _ => 3 - (intOf i).toNat)
  case atStart => exact ⟨0, by omega, rfl, fun _ => by omega, fun _ => by omega, fun _ => by omega, by (repeat (first | exact Below.refl _ _ | refine Below.alloc ?_ (by first | omega | (simp <;> omega)) _ | refine Below.setCell ?_ (by first | omega | (simp <;> omega)) _ | refine below_drewN ?_ _ | refine Below.drew ?_))⟩
  case round =>
    obtain ⟨k, hk, rfl, z1, z2, z3, hbl⟩ := hrel
    have g0 := cell_later' h0 hbl
    have g1 := cell_later' h1 hbl
    have g2 := cell_later' h2 hbl
    have Hbl := hid hbl
    have Z1 := hid z1
    have Z2 := hid z2
    have Z3 := hid z3
    have hsz := hbl.size
    clear hbl z1 z2 z3
    have hk' : k = 0 ∨ k = 1 ∨ k = 2 ∨ k = 3 := by omega
    rcases hk' with rfl | rfl | rfl | rfl
    · by_cases hz : e1 = 0
      · have hz1 : e1 ≤ 0 := by omega
        have hz2 : 0 ≤ e1 := by omega
        have Hz := hid hz
        clear hz
        go_wp2_with (go_at_call 99; ((with_reducible refine (H1.out _ Hbl.out).mono ?_); rintro e w1 ⟨rfl, hb1⟩))
        go_roundw
        case rel => exact ⟨1, by omega, rfl, fun _ => Hz.out, fun _ => by omega, fun _ => by omega, by have h := Hbl.out; (repeat (first | exact Below.refl _ _ | exact (hb1).mono (by first | omega | (simp <;> omega) | (have hh := (hb1).size; (try simp at hh); omega) | (have hh := (hb1).size; (try simp at hh); (try simp); omega) | (have hh := (h).size; (try simp at hh); omega) | (have hh := (h).size; (try simp at hh); (try simp); omega)) | refine Below.trans ?_ ((hb1).mono (by first | omega | (simp <;> omega) | (have hh := (hb1).size; (try simp at hh); omega) | (have hh := (hb1).size; (try simp at hh); (try simp); omega) | (have hh := (h).size; (try simp at hh); omega) | (have hh := (h).size; (try simp at hh); (try simp); omega))) | exact (h).mono (by first | omega | (simp <;> omega) | (have hh := (hb1).size; (try simp at hh); omega) | (have hh := (hb1).size; (try simp at hh); (try simp); omega) | (have hh := (h).size; (try simp at hh); omega) | (have hh := (h).size; (try simp at hh); (try simp); omega)) | refine Below.trans ?_ ((h).mono (by first | omega | (simp <;> omega) | (have hh := (hb1).size; (try simp at hh); omega) | (have hh := (hb1).size; (try simp at hh); (try simp); omega) | (have hh := (h).size; (try simp at hh); omega) | (have hh := (h).size; (try simp at hh); (try simp); omega))) | refine Below.alloc ?_ (by first | omega | (simp <;> omega) | (have hh := (hb1).size; (try simp at hh); omega) | (have hh := (hb1).size; (try simp at hh); (try simp); omega) | (have hh := (h).size; (try simp at hh); omega) | (have hh := (h).size; (try simp at hh); (try simp); omega)) _ | refine Below.setCell ?_ (by first | omega | (simp <;> omega) | (have hh := (hb1).size; (try simp at hh); omega) | (have hh := (hb1).size; (try simp at hh); (try simp); omega) | (have hh := (h).size; (try simp at hh); omega) | (have hh := (h).size; (try simp at hh); (try simp); omega)) _ | refine below_drewN ?_ _ | refine Below.drew ?_))⟩
        case measure => simp [intOf]
      · have hz1 : e1 < 0 ∨ 0 < e1 := by omega
        have Hz := hid hz
        clear hz
        go_wp2_with (go_at_call 99; ((with_reducible refine (H1.out _ Hbl.out).mono ?_); rintro e w1 ⟨rfl, hb1⟩))
        go_ret
        exact ⟨ret_int (by unfold firstE; rw [if_pos Hz.out]), by have h := Hbl.out; (repeat (first | exact Below.refl _ _ | exact (hb1).mono (by first | omega | (simp <;> omega) | (have hh := (hb1).size; (try simp at hh); omega) | (have hh := (hb1).size; (try simp at hh); (try simp); omega) | (have hh := (h).size; (try simp at hh); omega) | (have hh := (h).size; (try simp at hh); (try simp); omega)) | refine Below.trans ?_ ((hb1).mono (by first | omega | (simp <;> omega) | (have hh := (hb1).size; (try simp at hh); omega) | (have hh := (hb1).size; (try simp at hh); (try simp); omega) | (have hh := (h).size; (try simp at hh); omega) | (have hh := (h).size; (try simp at hh); (try simp); omega))) | exact (h).mono (by first | omega | (simp <;> omega) | (have hh := (hb1).size; (try simp at hh); omega) | (have hh := (hb1).size; (try simp at hh); (try simp); omega) | (have hh := (h).size; (try simp at hh); omega) | (have hh := (h).size; (try simp at hh); (try simp); omega)) | refine Below.trans ?_ ((h).mono (by first | omega | (simp <;> omega) | (have hh := (hb1).size; (try simp at hh); omega) | (have hh := (hb1).size; (try simp at hh); (try simp); omega) | (have hh := (h).size; (try simp at hh); omega) | (have hh := (h).size; (try simp at hh); (try simp); omega))) | refine Below.alloc ?_ (by first | omega | (simp <;> omega) | (have hh := (hb1).size; (try simp at hh); omega) | (have hh := (hb1).size; (try simp at hh); (try simp); omega) | (have hh := (h).size; (try simp at hh); omega) | (have hh := (h).size; (try simp at hh); (try simp); omega)) _ | refine Below.setCell ?_ (by first | omega | (simp <;> omega) | (have hh := (hb1).size; (try simp at hh); omega) | (have hh := (hb1).size; (try simp at hh); (try simp); omega) | (have hh := (h).size; (try simp at hh); omega) | (have hh := (h).size; (try simp at hh); (try simp); omega)) _ | refine below_drewN ?_ _ | refine Below.drew ?_))⟩
    · by_cases hz : e2 = 0
      · have hz1 : e2 ≤ 0 := by omega
        have hz2 : 0 ≤ e2 := by omega
        have Hz := hid hz
        clear hz
        go_wp2_with (go_at_call 100; ((with_reducible refine (H2.out _ Hbl.out).mono ?_); rintro e w1 ⟨rfl, hb1⟩))
        go_roundw
        case rel => exact ⟨2, by omega, rfl, fun _ => Z1.out (by omega), fun _ => Hz.out, fun _ => by omega, by have h := Hbl.out; (repeat (first | exact Below.refl _ _ | exact (hb1).mono (by first | omega | (simp <;> omega) | (have hh := (hb1).size; (try simp at hh); omega) | (have hh := (hb1).size; (try simp at hh); (try simp); omega) | (have hh := (h).size; (try simp at hh); omega) | (have hh := (h).size; (try simp at hh); (try simp); omega)) | refine Below.trans ?_ ((hb1).mono (by first | omega | (simp <;> omega) | (have hh := (hb1).size; (try simp at hh); omega) | (have hh := (hb1).size; (try simp at hh); (try simp); omega) | (have hh := (h).size; (try simp at hh); omega) | (have hh := (h).size; (try simp at hh); (try simp); omega))) | exact (h).mono (by first | omega | (simp <;> omega) | (have hh := (hb1).size; (try simp at hh); omega) | (have hh := (hb1).size; (try simp at hh); (try simp); omega) | (have hh := (h).size; (try simp at hh); omega) | (have hh := (h).size; (try simp at hh); (try simp); omega)) | refine Below.trans ?_ ((h).mono (by first | omega | (simp <;> omega) | (have hh := (hb1).size; (try simp at hh); omega) | (have hh := (hb1).size; (try simp at hh); (try simp); omega) | (have hh := (h).size; (try simp at hh); omega) | (have hh := (h).size; (try simp at hh); (try simp); omega))) | refine Below.alloc ?_ (by first | omega | (simp <;> omega) | (have hh := (hb1).size; (try simp at hh); omega) | (have hh := (hb1).size; (try simp at hh); (try simp); omega) | (have hh := (h).size; (try simp at hh); omega) | (have hh := (h).size; (try simp at hh); (try simp); omega)) _ | refine Below.setCell ?_ (by first | omega | (simp <;> omega) | (have hh := (hb1).size; (try simp at hh); omega) | (have hh := (hb1).size; (try simp at hh); (try simp); omega) | (have hh := (h).size; (try simp at hh); omega) | (have hh := (h).size; (try simp at hh); (try simp); omega)) _ | refine below_drewN ?_ _ | refine Below.drew ?_))⟩
        case measure => simp [intOf]
      · have hz1 : e2 < 0 ∨ 0 < e2 := by omega
        have Hz := hid hz
        clear hz
        go_wp2_with (go_at_call 100; ((with_reducible refine (H2.out _ Hbl.out).mono ?_); rintro e w1 ⟨rfl, hb1⟩))
        go_ret
        exact ⟨ret_int (by unfold firstE; rw [if_neg (by simpa using Z1.out (by omega)), if_pos Hz.out]), by have h := Hbl.out; (repeat (first | exact Below.refl _ _ | exact (hb1).mono (by first | omega | (simp <;> omega) | (have hh := (hb1).size; (try simp at hh); omega) | (have hh := (hb1).size; (try simp at hh); (try simp); omega) | (have hh := (h).size; (try simp at hh); omega) | (have hh := (h).size; (try simp at hh); (try simp); omega)) | refine Below.trans ?_ ((hb1).mono (by first | omega | (simp <;> omega) | (have hh := (hb1).size; (try simp at hh); omega) | (have hh := (hb1).size; (try simp at hh); (try simp); omega) | (have hh := (h).size; (try simp at hh); omega) | (have hh := (h).size; (try simp at hh); (try simp); omega))) | exact (h).mono (by first | omega | (simp <;> omega) | (have hh := (hb1).size; (try simp at hh); omega) | (have hh := (hb1).size; (try simp at hh); (try simp); omega) | (have hh := (h).size; (try simp at hh); omega) | (have hh := (h).size; (try simp at hh); (try simp); omega)) | refine Below.trans ?_ ((h).mono (by first | omega | (simp <;> omega) | (have hh := (hb1).size; (try simp at hh); omega) | (have hh := (hb1).size; (try simp at hh); (try simp); omega) | (have hh := (h).size; (try simp at hh); omega) | (have hh := (h).size; (try simp at hh); (try simp); omega))) | refine Below.alloc ?_ (by first | omega | (simp <;> omega) | (have hh := (hb1).size; (try simp at hh); omega) | (have hh := (hb1).size; (try simp at hh); (try simp); omega) | (have hh := (h).size; (try simp at hh); omega) | (have hh := (h).size; (try simp at hh); (try simp); omega)) _ | refine Below.setCell ?_ (by first | omega | (simp <;> omega) | (have hh := (hb1).size; (try simp at hh); omega) | (have hh := (hb1).size; (try simp at hh); (try simp); omega) | (have hh := (h).size; (try simp at hh); omega) | (have hh := (h).size; (try simp at hh); (try simp); omega)) _ | refine below_drewN ?_ _ | refine Below.drew ?_))⟩
    · by_cases hz : e3 = 0
      · have hz1 : e3 ≤ 0 := by omega
        have hz2 : 0 ≤ e3 := by omega
        have Hz := hid hz
        clear hz
        go_wp2_with (go_at_call 101; ((with_reducible refine (H3.out _ Hbl.out).mono ?_); rintro e w1 ⟨rfl, hb1⟩))
        go_roundw
        case rel => exact ⟨3, by omega, rfl, fun _ => Z1.out (by omega), fun _ => Z2.out (by omega), fun _ => Hz.out, by have h := Hbl.out; (repeat (first | exact Below.refl _ _ | exact (hb1).mono (by first | omega | (simp <;> omega) | (have hh := (hb1).size; (try simp at hh); omega) | (have hh := (hb1).size; (try simp at hh); (try simp); omega) | (have hh := (h).size; (try simp at hh); omega) | (have hh := (h).size; (try simp at hh); (try simp); omega)) | refine Below.trans ?_ ((hb1).mono (by first | omega | (simp <;> omega) | (have hh := (hb1).size; (try simp at hh); omega) | (have hh := (hb1).size; (try simp at hh); (try simp); omega) | (have hh := (h).size; (try simp at hh); omega) | (have hh := (h).size; (try simp at hh); (try simp); omega))) | exact (h).mono (by first | omega | (simp <;> omega) | (have hh := (hb1).size; (try simp at hh); omega) | (have hh := (hb1).size; (try simp at hh); (try simp); omega) | (have hh := (h).size; (try simp at hh); omega) | (have hh := (h).size; (try simp at hh); (try simp); omega)) | refine Below.trans ?_ ((h).mono (by first | omega | (simp <;> omega) | (have hh := (hb1).size; (try simp at hh); omega) | (have hh := (hb1).size; (try simp at hh); (try simp); omega) | (have hh := (h).size; (try simp at hh); omega) | (have hh := (h).size; (try simp at hh); (try simp); omega))) | refine Below.alloc ?_ (by first | omega | (simp <;> omega) | (have hh := (hb1).size; (try simp at hh); omega) | (have hh := (hb1).size; (try simp at hh); (try simp); omega) | (have hh := (h).size; (try simp at hh); omega) | (have hh := (h).size; (try simp at hh); (try simp); omega)) _ | refine Below.setCell ?_ (by first | omega | (simp <;> omega) | (have hh := (hb1).size; (try simp at hh); omega) | (have hh := (hb1).size; (try simp at hh); (try simp); omega) | (have hh := (h).size; (try simp at hh); omega) | (have hh := (h).size; (try simp at hh); (try simp); omega)) _ | refine below_drewN ?_ _ | refine Below.drew ?_))⟩
        case measure => simp [intOf]
      · have hz1 : e3 < 0 ∨ 0 < e3 := by omega
        have Hz := hid hz
        clear hz
        go_wp2_with (go_at_call 101; ((with_reducible refine (H3.out _ Hbl.out).mono ?_); rintro e w1 ⟨rfl, hb1⟩))
        go_ret
        exact ⟨ret_int (by unfold firstE; rw [if_neg (by simpa using Z1.out (by omega)), if_neg (by simpa using Z2.out (by omega))]), by have h := Hbl.out; (repeat (first | exact Below.refl _ _ | exact (hb1).mono (by first | omega | (simp <;> omega) | (have hh := (hb1).size; (try simp at hh); omega) | (have hh := (hb1).size; (try simp at hh); (try simp); omega) | (have hh := (h).size; (try simp at hh); omega) | (have hh := (h).size; (try simp at hh); (try simp); omega)) | refine Below.trans ?_ ((hb1).mono (by first | omega | (simp <;> omega) | (have hh := (hb1).size; (try simp at hh); omega) | (have hh := (hb1).size; (try simp at hh); (try simp); omega) | (have hh := (h).size; (try simp at hh); omega) | (have hh := (h).size; (try simp at hh); (try simp); omega))) | exact (h).mono (by first | omega | (simp <;> omega) | (have hh := (hb1).size; (try simp at hh); omega) | (have hh := (hb1).size; (try simp at hh); (try simp); omega) | (have hh := (h).size; (try simp at hh); omega) | (have hh := (h).size; (try simp at hh); (try simp); omega)) | refine Below.trans ?_ ((h).mono (by first | omega | (simp <;> omega) | (have hh := (hb1).size; (try simp at hh); omega) | (have hh := (hb1).size; (try simp at hh); (try simp); omega) | (have hh := (h).size; (try simp at hh); omega) | (have hh := (h).size; (try simp at hh); (try simp); omega))) | refine Below.alloc ?_ (by first | omega | (simp <;> omega) | (have hh := (hb1).size; (try simp at hh); omega) | (have hh := (hb1).size; (try simp at hh); (try simp); omega) | (have hh := (h).size; (try simp at hh); omega) | (have hh := (h).size; (try simp at hh); (try simp); omega)) _ | refine Below.setCell ?_ (by first | omega | (simp <;> omega) | (have hh := (hb1).size; (try simp at hh); omega) | (have hh := (hb1).size; (try simp at hh); (try simp); omega) | (have hh := (h).size; (try simp at hh); omega) | (have hh := (h).size; (try simp at hh); (try simp); omega)) _ | refine below_drewN ?_ _ | refine Below.drew ?_))⟩
    · go_wp2_with fail
      go_ret
      exact ⟨ret_int (by unfold firstE; rw [if_neg (by simpa using Z1.out (by omega)), if_neg (by simpa using Z2.out (by omega)), Z3.out (by omega)]), by have h := Hbl.out; (repeat (first | exact Below.refl _ _ | exact (h).mono (by first | omega | (simp <;> omega) | (have hh := (h).size; (try simp at hh); omega) | (have hh := (h).size; (try simp at hh); (try simp); omega)) | refine Below.trans ?_ ((h).mono (by first | omega | (simp <;> omega) | (have hh := (h).size; (try simp at hh); omega) | (have hh := (h).size; (try simp at hh); (try simp); omega))) | refine Below.alloc ?_ (by first | omega | (simp <;> omega) | (have hh := (h).size; (try simp at hh); omega) | (have hh := (h).size; (try simp at hh); (try simp); omega)) _ | refine Below.setCell ?_ (by first | omega | (simp <;> omega) | (have hh := (h).size; (try simp at hh); omega) | (have hh := (h).size; (try simp at hh); (try simp); omega)) _ | refine below_drewN ?_ _ | refine Below.drew ?_))⟩

/-- The same, the closures' contracts being known since an earlier world. -/
theorem first_from (W : World) (lb : Nat) (pc px pk : Value) (e1 e2 e3 : Int) (w : World)
    (H1 : Hid (∀ w', Below W.heap.size W w' → Calls Tryd.prog 99 #[pc, px] w' fun e w'' => e = .returned (.int .i64 e1) ∧ Below w'.heap.size w' w''))
    (H2 : Hid (∀ w', Below W.heap.size W w' → Calls Tryd.prog 100 #[pc, px] w' fun e w'' => e = .returned (.int .i64 e2) ∧ Below w'.heap.size w' w''))
    (H3 : Hid (∀ w', Below W.heap.size W w' → Calls Tryd.prog 101 #[pk, px, pc] w' fun e w'' => e = .returned (.int .i64 e3) ∧ Below w'.heap.size w' w''))
    (hW : Below W.heap.size W w)
    (h0 : w.cell? ⟨lb, 0, none⟩ = some (.func (.func 99) #[] #[pc, px]))
    (h1 : w.cell? ⟨lb, 1, none⟩ = some (.func (.func 100) #[] #[pc, px]))
    (h2 : w.cell? ⟨lb, 2, none⟩ = some (.func (.func 101) #[] #[pk, px, pc])) :
    Calls Tryd.prog 98 #[.slice (some ⟨lb, 0, none⟩) 3 3] w fun e w' => e = .returned (.int .i64 (firstE e1 e2 e3)) ∧ Below w.heap.size w w' :=
  first_any lb pc px pk e1 e2 e3 w h0 h1 h2 (fun w' h => H1 w' (hW.trans (h.mono hW.size))) (fun w' h => H2 w' (hW.trans (h.mono hW.size))) (fun w' h => H3 w' (hW.trans (h.mono hW.size)))

/-- Is an instruction not in its form? -/
def formBad (x : DIns) : Bool :=
  (!shpD x.op && decide (x.dst ≠ -1)) || (!shpA x.op && decide (x.a ≠ ⟨false, 0⟩)) || (!shpB x.op && decide (x.b ≠ ⟨false, 0⟩)) || (decide (x.op ≠ 20) && (decide (x.fn ≠ 0) || decide (0 < x.args.length)))
def insE (fs : List DFunc) (regs : Int) (x : DIns) : Int :=
  if ¬ (1 ≤ x.op ∧ x.op ≤ 22) then 4
  else if formBad x = true then 5
  else if (shpD x.op = true ∧ ¬ (x.op = 20 ∧ x.dst = -1)) ∧ dstE regs x.dst ≠ 0 then 3
  else firstE (valE regs x.a) (valE regs x.b) (callE fs regs x)

end Go.Proofs.YtnkogppgacappaaDoor

namespace Go.Proofs.YtnkogppgacappaaDoor
open Go.RowKit

theorem ins_class {op : Int} (h : 1 ≤ op ∧ op ≤ 22) :
    (shpD op = true ∧ shpA op = true ∧ shpB op = false ∧ (decide (op ≤ 20) && decide (20 ≤ op)) = false) ∨
    (shpD op = true ∧ shpA op = true ∧ shpB op = true ∧ (decide (op ≤ 20) && decide (20 ≤ op)) = false) ∨
    (shpD op = false ∧ shpA op = true ∧ shpB op = true ∧ (decide (op ≤ 20) && decide (20 ≤ op)) = false) ∨
    (shpD op = true ∧ shpA op = false ∧ shpB op = false ∧ (decide (op ≤ 20) && decide (20 ≤ op)) = true) ∨
    (shpD op = true ∧ shpA op = false ∧ shpB op = false ∧ (decide (op ≤ 20) && decide (20 ≤ op)) = false) ∨
    (shpD op = false ∧ shpA op = true ∧ shpB op = false ∧ (decide (op ≤ 20) && decide (20 ≤ op)) = false) := by
  simp only [shpD, shpA, shpB, Bool.or_eq_true, Bool.or_eq_false_iff, Bool.and_eq_true, Bool.and_eq_false_iff, decide_eq_true_eq, decide_eq_false_iff_not]
  omega

set_option maxHeartbeats 4000000 in
theorem ins_any {S S' : Nat → Prop} (ga : Option Addr) (gn gc : Nat) (fs : List DFunc) (fa : Option Addr) (fc : Nat) (s : ByteArray) (p : Int) (regs : Int) (ba : Option Addr) (bn bc : Nat) (aa : Option Addr) (an ac : Nat) (x : DIns) (ra : Option Addr) (rc : Nat) (w : World) (h0 : 0 ≤ regs) (h1 : regs ≤ 100)
    (hfs : SlAt S w 4 rFunc (.slice fa fs.length fc) fs) (has : SlAt S' w 2 rVal (.slice ra x.args.length rc) x.args) (hfl : fs.length ≤ 1048576) (_ho : I64 x.op) (_hd : I64 x.dst) (_ha : I64 x.a.n) (_hb : I64 x.b.n) (_hf : I64 x.fn) :
    Calls Tryd.prog 65 #[.agg #[.slice ga gn gc, .slice fa fs.length fc, .string s, .int .i64 p, .int .i64 regs, .slice ba bn bc, .slice aa an ac], .agg #[.int .i64 x.op, .int .i64 x.dst, .bool x.a.reg, .int .i64 x.a.n, .bool x.b.reg, .int .i64 x.b.n, .int .i64 x.fn, .slice ra x.args.length rc]] w fun e w' =>
      e = .returned (.int .i64 (insE fs regs x)) ∧ Below w.heap.size w w' := by
  have Hfs := hid hfs
  have Has := hid has
  obtain ⟨_, _, ha1, ha2⟩ := has.val
  cases ha1
  clear hfs has
  by_cases hop : 1 ≤ x.op ∧ x.op ≤ 22
  case neg =>
    have Hr := hid (show insE fs regs x = 4 by simp only [insE, hop]; simp)
    go_enter Tryd.func65, Tryd.ntmps65
    go_wp2_with (go_at_call 26; ((with_reducible refine (within_any _ _ _ _).mono ?_); rintro e w' ⟨rfl, rfl⟩))
    go_ret
    exact ⟨ret_int Hr.out.symm, by (repeat (first | exact Below.refl _ _ | refine Below.alloc ?_ (by first | omega | (simp <;> omega)) _ | refine Below.setCell ?_ (by first | omega | (simp <;> omega)) _ | refine below_drewN ?_ _ | refine Below.drew ?_))⟩
  generalize hbad : formBad x = bad
  have Hbad := hid hbad
  clear hbad
  go_enter Tryd.func65, Tryd.ntmps65
  go_upto_region 5 with (first | (go_at_call 26; ((with_reducible refine (within_any _ _ _ _).mono ?_); rintro e w' ⟨rfl, rfl⟩)) | (go_at_call 97; ((with_reducible refine (shapes_any _ _).mono ?_); rintro e w1 ⟨rfl, hb1⟩; obtain ⟨hc1, hf1⟩ := below_cells hb1; have hz1 : w.heap.size + 1 < w1.heap.size := (by have := hb1.size; simp at this; omega); have hz0 : w.heap.size < w1.heap.size := (by omega))))
  obtain ⟨W, hW⟩ : ∃ W, W = (w1.alloc (.cells #[.bool (shpD x.op), .bool (shpA x.op), .bool (shpB x.op)] 153)).alloc (.cells #[.bool (decide (x.op ≤ 20) && decide (20 ≤ x.op))] 4) := ⟨_, rfl⟩
  rw [← hW]
  have s0 : W.cell? ⟨w1.heap.size, 0, none⟩ = some (.bool (shpD x.op)) := by rw [hW]; simp
  have s1 : W.cell? ⟨w1.heap.size, 1, none⟩ = some (.bool (shpA x.op)) := by rw [hW]; simp
  have s2 : W.cell? ⟨w1.heap.size, 2, none⟩ = some (.bool (shpB x.op)) := by rw [hW]; simp
  have s3 : W.cell? ⟨w1.heap.size + 1, 0, none⟩ = some (.bool (decide (x.op ≤ 20) && decide (20 ≤ x.op))) := by rw [hW]; simp
  have x0 : W.cell? ⟨w.heap.size + 1, 0, none⟩ = some (.int .i64 x.op) := by rw [hW]; simp [go_sem, hc1, hz1, hz0]
  have x1 : W.cell? ⟨w.heap.size + 1, 1, none⟩ = some (.int .i64 x.dst) := by rw [hW]; simp [go_sem, hc1, hz1, hz0]
  have x2 : W.cell? ⟨w.heap.size + 1, 2, none⟩ = some (.bool x.a.reg) := by rw [hW]; simp [go_sem, hc1, hz1, hz0]
  have x3 : W.cell? ⟨w.heap.size + 1, 3, none⟩ = some (.int .i64 x.a.n) := by rw [hW]; simp [go_sem, hc1, hz1, hz0]
  have x4 : W.cell? ⟨w.heap.size + 1, 4, none⟩ = some (.bool x.b.reg) := by rw [hW]; simp [go_sem, hc1, hz1, hz0]
  have x5 : W.cell? ⟨w.heap.size + 1, 5, none⟩ = some (.int .i64 x.b.n) := by rw [hW]; simp [go_sem, hc1, hz1, hz0]
  have x6 : W.cell? ⟨w.heap.size + 1, 6, none⟩ = some (.int .i64 x.fn) := by rw [hW]; simp [go_sem, hc1, hz1, hz0]
  have x7 : W.cell? ⟨w.heap.size + 1, 7, none⟩ = some (.slice ra x.args.length rc) := by rw [hW]; simp [go_sem, hc1, hz1, hz0]
  have hbW : Below (w.heap.size + 2) ((w.alloc (.cells #[.slice ga gn gc, .slice fa fs.length fc, .string s, .int .i64 p, .int .i64 regs, .slice ba bn bc, .slice aa an ac] 85)).alloc (.cells #[.int .i64 x.op, .int .i64 x.dst, .bool x.a.reg, .int .i64 x.a.n, .bool x.b.reg, .int .i64 x.b.n, .int .i64 x.fn, .slice ra x.args.length rc] 55)) W := by
    rw [hW]; (repeat (first | exact Below.refl _ _ | exact (hb1).mono (by first | omega | (simp <;> omega) | (have hh := (hb1).size; (try simp at hh); omega) | (have hh := (hb1).size; (try simp at hh); (try simp); omega)) | refine Below.trans ?_ ((hb1).mono (by first | omega | (simp <;> omega) | (have hh := (hb1).size; (try simp at hh); omega) | (have hh := (hb1).size; (try simp at hh); (try simp); omega))) | refine Below.alloc ?_ (by first | omega | (simp <;> omega) | (have hh := (hb1).size; (try simp at hh); omega) | (have hh := (hb1).size; (try simp at hh); (try simp); omega)) _ | refine Below.setCell ?_ (by first | omega | (simp <;> omega) | (have hh := (hb1).size; (try simp at hh); omega) | (have hh := (hb1).size; (try simp at hh); (try simp); omega)) _ | refine below_drewN ?_ _ | refine Below.drew ?_))
  have HbW := hid hbW
  have HC : Hid (CellsAt W w.heap.size 0 [.slice ga gn gc, .slice fa fs.length fc, .string s, .int .i64 p, .int .i64 regs, .slice ba bn bc, .slice aa an ac]) := by
    rw [hW]
    exact .cons (by simp [go_sem, hc1, hz0]) (.cons (by simp [go_sem, hc1, hz0]) (.cons (by simp [go_sem, hc1, hz0]) (.cons (by simp [go_sem, hc1, hz0]) (.cons (by simp [go_sem, hc1, hz0]) (.cons (by simp [go_sem, hc1, hz0]) (.cons (by simp [go_sem, hc1, hz0]) (.nil _ _ _)))))))
  have z1 : w.heap.size + 1 < W.heap.size := by rw [hW]; simp; omega
  have z2 : w1.heap.size + 1 < W.heap.size := by rw [hW]; simp
  clear hbW hW hc1 hf1 hb1 hz1 hz0
  generalize w1.heap.size = sb at *
  have hb := Hbad.out
  unfold formBad at hb
  have hbe : bad = ((!shpD x.op && (decide (x.dst < -1) || decide (-1 < x.dst))) || (!shpA x.op && (x.a.reg || (decide (x.a.n < 0) || decide (0 < x.a.n)))) || (!shpB x.op && (x.b.reg || (decide (x.b.n < 0) || decide (0 < x.b.n)))) || (!(decide (x.op ≤ 20) && decide (20 ≤ x.op)) && ((decide (x.fn < 0) || decide (0 < x.fn)) || decide (0 < x.args.length)))) := by
    have v0 : ∀ v : DVal, decide (v ≠ ⟨false, 0⟩) = (v.reg || (decide (v.n < 0) || decide (0 < v.n))) := fun ⟨r, n⟩ => by
      rw [Bool.eq_iff_iff]; cases r <;> simp <;> omega
    have i0 : ∀ a b : Int, decide (a ≠ b) = (decide (a < b) || decide (b < a)) := fun a b => by rw [Bool.eq_iff_iff]; simp; omega
    have i1 : ∀ a b : Int, (decide (a < b) || decide (b < a)) = !(decide (a ≤ b) && decide (b ≤ a)) := fun a b => by rw [Bool.eq_iff_iff]; simp; omega
    rw [← hb, v0, v0, i0, i0, i0, i1 x.op 20]
  have hcl := ins_class hop
  clear hb
  obtain ⟨D, hD⟩ : ∃ D, shpD x.op = D := ⟨_, rfl⟩
  obtain ⟨A, hA⟩ : ∃ A, shpA x.op = A := ⟨_, rfl⟩
  obtain ⟨B, hB⟩ : ∃ B, shpB x.op = B := ⟨_, rfl⟩
  obtain ⟨kz, hkz⟩ : ∃ kz, (decide (x.op ≤ 20) && decide (20 ≤ x.op)) = kz := ⟨_, rfl⟩
  obtain ⟨dz, hdz⟩ : ∃ dz, (decide (x.dst < -1) || decide (-1 < x.dst)) = dz := ⟨_, rfl⟩
  obtain ⟨az, haz⟩ : ∃ az, (x.a.reg || (decide (x.a.n < 0) || decide (0 < x.a.n))) = az := ⟨_, rfl⟩
  obtain ⟨bz, hbz⟩ : ∃ bz, (x.b.reg || (decide (x.b.n < 0) || decide (0 < x.b.n))) = bz := ⟨_, rfl⟩
  obtain ⟨fz, hfz⟩ : ∃ fz, (decide (x.fn < 0) || decide (0 < x.fn)) = fz := ⟨_, rfl⟩
  obtain ⟨lz, hlz⟩ : ∃ lz, decide (0 < x.args.length) = lz := ⟨_, rfl⟩
  rw [hD, hA, hB, hkz, hdz, haz, hbz, hfz, hlz] at hbe
  rw [hD, hA, hB, hkz] at hcl
  rw [hD] at s0
  rw [hA] at s1
  rw [hB] at s2
  rw [hkz] at s3
  have Hbe := hid hbe
  have HD := hid hD
  have Hkz := hid hkz
  clear hbe hD hA hB hkz
  go_cut [62] from 8 to 62 (fun v wc => v = .bool bad ∧ W = wc)
  case first =>
    clear Hfs Has HbW ha2 z1 z2 HD Hkz Hbad HC
    rcases hcl with ⟨rfl, rfl, rfl, rfl⟩ | ⟨rfl, rfl, rfl, rfl⟩ | ⟨rfl, rfl, rfl, rfl⟩ | ⟨rfl, rfl, rfl, rfl⟩ | ⟨rfl, rfl, rfl, rfl⟩ | ⟨rfl, rfl, rfl, rfl⟩
    all_goals
      go_wp2_with fail
    all_goals
      go_meet
      refine ⟨congrArg Value.bool ?_, rfl⟩
      rw [Hbe.out]
      simp [*]
  case rest =>
    obtain ⟨rfl, rfl⟩ := hcut
    clear hdz haz hbz hfz hlz hcl Hbe
    have hW0 : Below w.heap.size w W := (by (repeat (first | exact Below.refl _ _ | refine Below.alloc ?_ (by first | omega | (simp <;> omega)) _ | refine Below.setCell ?_ (by first | omega | (simp <;> omega)) _ | refine below_drewN ?_ _ | refine Below.drew ?_)) : Below w.heap.size w ((w.alloc (.cells #[.slice ga gn gc, .slice fa fs.length fc, .string s, .int .i64 p, .int .i64 regs, .slice ba bn bc, .slice aa an ac] 85)).alloc (.cells #[.int .i64 x.op, .int .i64 x.dst, .bool x.a.reg, .int .i64 x.a.n, .bool x.b.reg, .int .i64 x.b.n, .int .i64 x.fn, .slice ra x.args.length rc] 55))).trans (HbW.out.mono (by omega))
    have HW0 := hid hW0
    cases bad
    case true =>
      have Hr := hid (show insE fs regs x = 5 by simp only [insE, hop, Hbad.out]; simp)
      clear hW0
      go_wp2_with fail
      go_ret
      exact ⟨ret_int Hr.out.symm, by have h := HW0.out; (repeat (first | exact Below.refl _ _ | exact (h).mono (by first | omega | (simp <;> omega) | (have hh := (h).size; (try simp at hh); omega) | (have hh := (h).size; (try simp at hh); (try simp); omega)) | refine Below.trans ?_ ((h).mono (by first | omega | (simp <;> omega) | (have hh := (h).size; (try simp at hh); omega) | (have hh := (h).size; (try simp at hh); (try simp); omega))) | refine Below.alloc ?_ (by first | omega | (simp <;> omega) | (have hh := (h).size; (try simp at hh); omega) | (have hh := (h).size; (try simp at hh); (try simp); omega)) _ | refine Below.setCell ?_ (by first | omega | (simp <;> omega) | (have hh := (h).size; (try simp at hh); omega) | (have hh := (h).size; (try simp at hh); (try simp); omega)) _ | refine below_drewN ?_ _ | refine Below.drew ?_))⟩
    have hkz' : kz = decide (x.op = 20) := by rw [← Hkz.out, Bool.eq_iff_iff]; simp; omega
    have HC1 : Hid (∀ w', Below W.heap.size W w' → Calls Tryd.prog 99 #[.pointer (some ⟨w.heap.size, 0, none⟩), .pointer (some ⟨w.heap.size + 1, 0, none⟩)] w' fun e w'' => e = .returned (.int .i64 (valE regs x.a)) ∧ Below w'.heap.size w' w'') :=
      fun w' h => ins1_any _ _ _ _ _ _ regs _ _ _ _ _ _ x.a w' h0 h1 _ _ _ _ _ _ _ _ rfl rfl rfl rfl (HC.out.later h) (cell_later' x2 h) (cell_later' x3 h)
    have HC2 : Hid (∀ w', Below W.heap.size W w' → Calls Tryd.prog 100 #[.pointer (some ⟨w.heap.size, 0, none⟩), .pointer (some ⟨w.heap.size + 1, 0, none⟩)] w' fun e w'' => e = .returned (.int .i64 (valE regs x.b)) ∧ Below w'.heap.size w' w'') :=
      fun w' h => ins2_any _ _ _ _ _ _ regs _ _ _ _ _ _ x.b w' h0 h1 _ _ _ _ _ _ _ _ rfl rfl rfl rfl (HC.out.later h) (cell_later' x4 h) (cell_later' x5 h)
    have HC3 : Hid (∀ w', Below W.heap.size W w' → Calls Tryd.prog 101 #[.pointer (some ⟨sb + 1, 0, none⟩), .pointer (some ⟨w.heap.size + 1, 0, none⟩), .pointer (some ⟨w.heap.size, 0, none⟩)] w' fun e w'' => e = .returned (.int .i64 (callE fs regs x)) ∧ Below w'.heap.size w' w'') :=
      fun w' h => ins3_any _ _ _ _ _ _ fs regs _ _ _ _ _ _ x w' h0 h1 _ _ _ _ _ _ _ _ _ rfl rfl rfl (HC.out.later h) (by rw [← hkz']; exact cell_later' s3 h) (cell_later' x6 h) (cell_later' x7 h) ((Hfs.out.later rFunc_mono HW0.out).later rFunc_mono h) ((Has.out.later rVal_mono HW0.out).later rVal_mono h) hfl
    obtain ⟨y0, y1, y2, y3, y4, y5, y6⟩ := HC.out.get7
    simp only [Nat.zero_add] at y1 y2 y3 y4 y5 y6
    have z0 : w.heap.size < W.heap.size := by omega
    clear hW0 hkz'
    have hfin : ∀ d : Bool, d = (D && !(kz && (decide (x.dst ≤ -1) && decide (-1 ≤ x.dst)))) → ((shpD x.op = true ∧ ¬ (x.op = 20 ∧ x.dst = -1)) ↔ d = true) := by
      intro d hd
      rw [hd, HD.out, ← Hkz.out]
      simp
      omega
    have Hfin := hid hfin
    clear hfin
    obtain ⟨ez, hez⟩ : ∃ ez, (decide (x.dst ≤ -1) && decide (-1 ≤ x.dst)) = ez := ⟨_, rfl⟩
    rw [hez] at Hfin
    have hdz : D = true ∨ D = false := by cases D <;> simp
    have hkz : kz = true ∨ kz = false := by cases kz <;> simp
    by_cases hgo : (D && !(kz && ez)) = true
    · have hins : insE fs regs x = if dstE regs x.dst ≠ 0 then 3 else firstE (valE regs x.a) (valE regs x.b) (callE fs regs x) := by
        simp only [insE, hop, Hbad.out, (Hfin.out _ rfl).2 hgo]; simp
      have hgo' : (D = true ∧ kz = false) ∨ (D = true ∧ kz = true ∧ ez = false) := by revert hgo; cases D <;> cases kz <;> cases ez <;> simp
      clear hgo hdz hkz Hfin HD Hkz
      by_cases hd : dstE regs x.dst = 0
      · have Hins := hid (show insE fs regs x = firstE (valE regs x.a) (valE regs x.b) (callE fs regs x) by rw [hins, hd]; simp)
        clear hins
        rcases hgo' with ⟨rfl, rfl⟩ | ⟨rfl, rfl, rfl⟩
        all_goals
          go_wp2_with (first | (go_at_call 96; ((with_reducible refine (dst_any _ _ _ _ _ _ _ _ _ h0 h1).mono ?_); rintro e w2 ⟨rfl, hb2⟩)) | (go_at_call 98; ((with_reducible refine (first_from W _ _ _ _ (valE regs x.a) (valE regs x.b) (callE fs regs x) _ HC1 HC2 HC3 ?_ ?_ ?_ ?_).mono ?_); (repeat (first | exact Below.refl _ _ | exact (hb2).mono (by first | omega | (simp <;> omega) | (have hh := (hb2).size; (try simp at hh); omega) | (have hh := (hb2).size; (try simp at hh); (try simp); omega)) | refine Below.trans ?_ ((hb2).mono (by first | omega | (simp <;> omega) | (have hh := (hb2).size; (try simp at hh); omega) | (have hh := (hb2).size; (try simp at hh); (try simp); omega))) | refine Below.alloc ?_ (by first | omega | (simp <;> omega) | (have hh := (hb2).size; (try simp at hh); omega) | (have hh := (hb2).size; (try simp at hh); (try simp); omega)) _ | refine Below.setCell ?_ (by first | omega | (simp <;> omega) | (have hh := (hb2).size; (try simp at hh); omega) | (have hh := (hb2).size; (try simp at hh); (try simp); omega)) _ | refine below_drewN ?_ _ | refine Below.drew ?_)); simp; simp; simp; rintro e w3 ⟨rfl, hb3⟩)))
          go_ret
          exact ⟨ret_int Hins.out.symm, by have h := HW0.out; (repeat (first | exact Below.refl _ _ | exact (hb3).mono (by first | omega | (simp <;> omega) | (have hh := (hb3).size; (try simp at hh); omega) | (have hh := (hb3).size; (try simp at hh); (try simp); omega) | (have hh := (hb2).size; (try simp at hh); omega) | (have hh := (hb2).size; (try simp at hh); (try simp); omega) | (have hh := (h).size; (try simp at hh); omega) | (have hh := (h).size; (try simp at hh); (try simp); omega)) | refine Below.trans ?_ ((hb3).mono (by first | omega | (simp <;> omega) | (have hh := (hb3).size; (try simp at hh); omega) | (have hh := (hb3).size; (try simp at hh); (try simp); omega) | (have hh := (hb2).size; (try simp at hh); omega) | (have hh := (hb2).size; (try simp at hh); (try simp); omega) | (have hh := (h).size; (try simp at hh); omega) | (have hh := (h).size; (try simp at hh); (try simp); omega))) | exact (hb2).mono (by first | omega | (simp <;> omega) | (have hh := (hb3).size; (try simp at hh); omega) | (have hh := (hb3).size; (try simp at hh); (try simp); omega) | (have hh := (hb2).size; (try simp at hh); omega) | (have hh := (hb2).size; (try simp at hh); (try simp); omega) | (have hh := (h).size; (try simp at hh); omega) | (have hh := (h).size; (try simp at hh); (try simp); omega)) | refine Below.trans ?_ ((hb2).mono (by first | omega | (simp <;> omega) | (have hh := (hb3).size; (try simp at hh); omega) | (have hh := (hb3).size; (try simp at hh); (try simp); omega) | (have hh := (hb2).size; (try simp at hh); omega) | (have hh := (hb2).size; (try simp at hh); (try simp); omega) | (have hh := (h).size; (try simp at hh); omega) | (have hh := (h).size; (try simp at hh); (try simp); omega))) | exact (h).mono (by first | omega | (simp <;> omega) | (have hh := (hb3).size; (try simp at hh); omega) | (have hh := (hb3).size; (try simp at hh); (try simp); omega) | (have hh := (hb2).size; (try simp at hh); omega) | (have hh := (hb2).size; (try simp at hh); (try simp); omega) | (have hh := (h).size; (try simp at hh); omega) | (have hh := (h).size; (try simp at hh); (try simp); omega)) | refine Below.trans ?_ ((h).mono (by first | omega | (simp <;> omega) | (have hh := (hb3).size; (try simp at hh); omega) | (have hh := (hb3).size; (try simp at hh); (try simp); omega) | (have hh := (hb2).size; (try simp at hh); omega) | (have hh := (hb2).size; (try simp at hh); (try simp); omega) | (have hh := (h).size; (try simp at hh); omega) | (have hh := (h).size; (try simp at hh); (try simp); omega))) | refine Below.alloc ?_ (by first | omega | (simp <;> omega) | (have hh := (hb3).size; (try simp at hh); omega) | (have hh := (hb3).size; (try simp at hh); (try simp); omega) | (have hh := (hb2).size; (try simp at hh); omega) | (have hh := (hb2).size; (try simp at hh); (try simp); omega) | (have hh := (h).size; (try simp at hh); omega) | (have hh := (h).size; (try simp at hh); (try simp); omega)) _ | refine Below.setCell ?_ (by first | omega | (simp <;> omega) | (have hh := (hb3).size; (try simp at hh); omega) | (have hh := (hb3).size; (try simp at hh); (try simp); omega) | (have hh := (hb2).size; (try simp at hh); omega) | (have hh := (hb2).size; (try simp at hh); (try simp); omega) | (have hh := (h).size; (try simp at hh); omega) | (have hh := (h).size; (try simp at hh); (try simp); omega)) _ | refine below_drewN ?_ _ | refine Below.drew ?_))⟩
      · have hd3 : dstE regs x.dst = 3 := (dstE_or _ _).resolve_left hd
        have Hins := hid (show insE fs regs x = 3 by rw [hins, hd3]; simp)
        clear hins hd
        rcases hgo' with ⟨rfl, rfl⟩ | ⟨rfl, rfl, rfl⟩
        all_goals
          go_wp2_with (go_at_call 96; ((with_reducible refine (dst_any _ _ _ _ _ _ _ _ _ h0 h1).mono ?_); rintro e w2 ⟨rfl, hb2⟩))
          go_ret
          exact ⟨ret_int Hins.out.symm, by have h := HW0.out; (repeat (first | exact Below.refl _ _ | exact (hb2).mono (by first | omega | (simp <;> omega) | (have hh := (hb2).size; (try simp at hh); omega) | (have hh := (hb2).size; (try simp at hh); (try simp); omega) | (have hh := (h).size; (try simp at hh); omega) | (have hh := (h).size; (try simp at hh); (try simp); omega)) | refine Below.trans ?_ ((hb2).mono (by first | omega | (simp <;> omega) | (have hh := (hb2).size; (try simp at hh); omega) | (have hh := (hb2).size; (try simp at hh); (try simp); omega) | (have hh := (h).size; (try simp at hh); omega) | (have hh := (h).size; (try simp at hh); (try simp); omega))) | exact (h).mono (by first | omega | (simp <;> omega) | (have hh := (hb2).size; (try simp at hh); omega) | (have hh := (hb2).size; (try simp at hh); (try simp); omega) | (have hh := (h).size; (try simp at hh); omega) | (have hh := (h).size; (try simp at hh); (try simp); omega)) | refine Below.trans ?_ ((h).mono (by first | omega | (simp <;> omega) | (have hh := (hb2).size; (try simp at hh); omega) | (have hh := (hb2).size; (try simp at hh); (try simp); omega) | (have hh := (h).size; (try simp at hh); omega) | (have hh := (h).size; (try simp at hh); (try simp); omega))) | refine Below.alloc ?_ (by first | omega | (simp <;> omega) | (have hh := (hb2).size; (try simp at hh); omega) | (have hh := (hb2).size; (try simp at hh); (try simp); omega) | (have hh := (h).size; (try simp at hh); omega) | (have hh := (h).size; (try simp at hh); (try simp); omega)) _ | refine Below.setCell ?_ (by first | omega | (simp <;> omega) | (have hh := (hb2).size; (try simp at hh); omega) | (have hh := (hb2).size; (try simp at hh); (try simp); omega) | (have hh := (h).size; (try simp at hh); omega) | (have hh := (h).size; (try simp at hh); (try simp); omega)) _ | refine below_drewN ?_ _ | refine Below.drew ?_))⟩
    · have hins : insE fs regs x = firstE (valE regs x.a) (valE regs x.b) (callE fs regs x) := by
        have : ¬ (shpD x.op = true ∧ ¬ (x.op = 20 ∧ x.dst = -1)) := fun h => hgo ((Hfin.out _ rfl).1 h)
        simp only [insE, hop, Hbad.out, this]; simp
      have Hins := hid hins
      clear hins
      have hgo' : D = false ∨ (D = true ∧ kz = true ∧ ez = true) := by revert hgo; cases D <;> cases kz <;> cases ez <;> simp
      clear hgo hdz hkz Hfin HD Hkz
      rcases hgo' with rfl | ⟨rfl, rfl, rfl⟩
      all_goals
        go_wp2_with (go_at_call 98; ((with_reducible refine (first_from W _ _ _ _ (valE regs x.a) (valE regs x.b) (callE fs regs x) _ HC1 HC2 HC3 ?_ ?_ ?_ ?_).mono ?_); (repeat (first | exact Below.refl _ _ | refine Below.alloc ?_ (by first | omega | (simp <;> omega)) _ | refine Below.setCell ?_ (by first | omega | (simp <;> omega)) _ | refine below_drewN ?_ _ | refine Below.drew ?_)); simp; simp; simp; rintro e w3 ⟨rfl, hb3⟩))
        go_ret
        exact ⟨ret_int Hins.out.symm, by have h := HW0.out; (repeat (first | exact Below.refl _ _ | exact (hb3).mono (by first | omega | (simp <;> omega) | (have hh := (hb3).size; (try simp at hh); omega) | (have hh := (hb3).size; (try simp at hh); (try simp); omega) | (have hh := (h).size; (try simp at hh); omega) | (have hh := (h).size; (try simp at hh); (try simp); omega)) | refine Below.trans ?_ ((hb3).mono (by first | omega | (simp <;> omega) | (have hh := (hb3).size; (try simp at hh); omega) | (have hh := (hb3).size; (try simp at hh); (try simp); omega) | (have hh := (h).size; (try simp at hh); omega) | (have hh := (h).size; (try simp at hh); (try simp); omega))) | exact (h).mono (by first | omega | (simp <;> omega) | (have hh := (hb3).size; (try simp at hh); omega) | (have hh := (hb3).size; (try simp at hh); (try simp); omega) | (have hh := (h).size; (try simp at hh); omega) | (have hh := (h).size; (try simp at hh); (try simp); omega)) | refine Below.trans ?_ ((h).mono (by first | omega | (simp <;> omega) | (have hh := (hb3).size; (try simp at hh); omega) | (have hh := (hb3).size; (try simp at hh); (try simp); omega) | (have hh := (h).size; (try simp at hh); omega) | (have hh := (h).size; (try simp at hh); (try simp); omega))) | refine Below.alloc ?_ (by first | omega | (simp <;> omega) | (have hh := (hb3).size; (try simp at hh); omega) | (have hh := (hb3).size; (try simp at hh); (try simp); omega) | (have hh := (h).size; (try simp at hh); omega) | (have hh := (h).size; (try simp at hh); (try simp); omega)) _ | refine Below.setCell ?_ (by first | omega | (simp <;> omega) | (have hh := (hb3).size; (try simp at hh); omega) | (have hh := (hb3).size; (try simp at hh); (try simp); omega) | (have hh := (h).size; (try simp at hh); omega) | (have hh := (h).size; (try simp at hh); (try simp); omega)) _ | refine below_drewN ?_ _ | refine Below.drew ?_))⟩

end Go.Proofs.YtnkogppgacappaaDoor
