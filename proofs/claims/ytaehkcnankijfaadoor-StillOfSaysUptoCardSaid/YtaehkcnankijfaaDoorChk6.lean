/- Contracts of code.first over the three closures, and of the checker's ins. -/
import Derived.Test.YtaehkcnankijfaaDoorChk5
import Derived.Test.YtaehkcnankijfaaDoorChk2
import Derived.Test.YtaehkcnankijfaaDoorEq
import Derived.Deep.CutRange
namespace Go.Proofs.YtaehkcnankijfaaDoor
open Go.RowKit

def firstE (e1 e2 e3 : Int) : Int := if e1 ≠ 0 then e1 else if e2 ≠ 0 then e2 else e3
set_option maxHeartbeats 1000000 in
theorem first_any (lb : Nat) (pc px pk : Value) (e1 e2 e3 : Int) (w : World)
    (h0 : w.cell? ⟨lb, 0, none⟩ = some (.func (.func 124) #[] #[pc, px]))
    (h1 : w.cell? ⟨lb, 1, none⟩ = some (.func (.func 125) #[] #[pc, px]))
    (h2 : w.cell? ⟨lb, 2, none⟩ = some (.func (.func 126) #[] #[pk, px, pc]))
    (H1 : Hid (∀ w', Below w.heap.size w w' → Calls Tryd.prog 124 #[pc, px] w' fun e w'' => e = .returned (.int .i64 e1) ∧ Below w'.heap.size w' w''))
    (H2 : Hid (∀ w', Below w.heap.size w w' → Calls Tryd.prog 125 #[pc, px] w' fun e w'' => e = .returned (.int .i64 e2) ∧ Below w'.heap.size w' w''))
    (H3 : Hid (∀ w', Below w.heap.size w w' → Calls Tryd.prog 126 #[pk, px, pc] w' fun e w'' => e = .returned (.int .i64 e3) ∧ Below w'.heap.size w' w'')) :
    Calls Tryd.prog 123 #[.slice (some ⟨lb, 0, none⟩) 3 3] w fun e w' => e = .returned (.int .i64 (firstE e1 e2 e3)) ∧ Below w.heap.size w w' := by
  go_enter Tryd.func123, Tryd.ntmps123
  go_wp2_with fail
  go_loopw [8] (fun i wr => ∃ k : Nat, k ≤ 3 ∧ i = .int .i64 k ∧ (1 ≤ k → e1 = 0) ∧ (2 ≤ k → e2 = 0) ∧ (3 ≤ k → e3 = 0) ∧ Below w.heap.size w wr) (fun i _ => 3 - (intOf i).toNat)
  case atStart => exact ⟨0, by omega, rfl, fun _ => by omega, fun _ => by omega, fun _ => by omega, by (repeat (first | exact Below.refl _ _ | refine Below.alloc ?_ (by first | omega | (simp <;> omega)) _ | refine Below.setCell ?_ (by first | omega | (simp <;> omega)) _ | refine below_drewN ?_ _ | refine Below.drew ?_))⟩
  case round =>
    obtain ⟨k, hk, rfl, z1, z2, z3, hbl⟩ := hrel
    have g0 := cell_later' h0 hbl
    have g1 := cell_later' h1 hbl
    have g2 := cell_later' h2 hbl
    have Hbl := hid hbl
    have Z1 := hid z1
    have Z2 := hid z2
    have Z3 := hid z3
    have hsz := hbl.size
    clear hbl z1 z2 z3
    have hk' : k = 0 ∨ k = 1 ∨ k = 2 ∨ k = 3 := by omega
    rcases hk' with rfl | rfl | rfl | rfl
    · by_cases hz : e1 = 0
      · have hz1 : e1 ≤ 0 := by omega
        have hz2 : 0 ≤ e1 := by omega
        have Hz := hid hz
        clear hz
        go_wp2_with (go_at_call 124; ((with_reducible refine (H1.out _ Hbl.out).mono ?_); rintro e w1 ⟨rfl, hb1⟩))
        go_roundw
        case rel => exact ⟨1, by omega, rfl, fun _ => Hz.out, fun _ => by omega, fun _ => by omega, by have h := Hbl.out; (repeat (first | exact Below.refl _ _ | exact (hb1).mono (by first | omega | (simp <;> omega) | (have hh := (hb1).size; (try simp at hh); omega) | (have hh := (hb1).size; (try simp at hh); (try simp); omega) | (have hh := (h).size; (try simp at hh); omega) | (have hh := (h).size; (try simp at hh); (try simp); omega)) | refine Below.trans ?_ ((hb1).mono (by first | omega | (simp <;> omega) | (have hh := (hb1).size; (try simp at hh); omega) | (have hh := (hb1).size; (try simp at hh); (try simp); omega) | (have hh := (h).size; (try simp at hh); omega) | (have hh := (h).size; (try simp at hh); (try simp); omega))) | exact (h).mono (by first | omega | (simp <;> omega) | (have hh := (hb1).size; (try simp at hh); omega) | (have hh := (hb1).size; (try simp at hh); (try simp); omega) | (have hh := (h).size; (try simp at hh); omega) | (have hh := (h).size; (try simp at hh); (try simp); omega)) | refine Below.trans ?_ ((h).mono (by first | omega | (simp <;> omega) | (have hh := (hb1).size; (try simp at hh); omega) | (have hh := (hb1).size; (try simp at hh); (try simp); omega) | (have hh := (h).size; (try simp at hh); omega) | (have hh := (h).size; (try simp at hh); (try simp); omega))) | refine Below.alloc ?_ (by first | omega | (simp <;> omega) | (have hh := (hb1).size; (try simp at hh); omega) | (have hh := (hb1).size; (try simp at hh); (try simp); omega) | (have hh := (h).size; (try simp at hh); omega) | (have hh := (h).size; (try simp at hh); (try simp); omega)) _ | refine Below.setCell ?_ (by first | omega | (simp <;> omega) | (have hh := (hb1).size; (try simp at hh); omega) | (have hh := (hb1).size; (try simp at hh); (try simp); omega) | (have hh := (h).size; (try simp at hh); omega) | (have hh := (h).size; (try simp at hh); (try simp); omega)) _ | refine below_drewN ?_ _ | refine Below.drew ?_))⟩
        case measure => simp [intOf]
      · have hz1 : e1 < 0 ∨ 0 < e1 := by omega
        have Hz := hid hz
        clear hz
        go_wp2_with (go_at_call 124; ((with_reducible refine (H1.out _ Hbl.out).mono ?_); rintro e w1 ⟨rfl, hb1⟩))
        go_ret
        exact ⟨ret_int (by unfold firstE; rw [if_pos Hz.out]), by have h := Hbl.out; (repeat (first | exact Below.refl _ _ | exact (hb1).mono (by first | omega | (simp <;> omega) | (have hh := (hb1).size; (try simp at hh); omega) | (have hh := (hb1).size; (try simp at hh); (try simp); omega) | (have hh := (h).size; (try simp at hh); omega) | (have hh := (h).size; (try simp at hh); (try simp); omega)) | refine Below.trans ?_ ((hb1).mono (by first | omega | (simp <;> omega) | (have hh := (hb1).size; (try simp at hh); omega) | (have hh := (hb1).size; (try simp at hh); (try simp); omega) | (have hh := (h).size; (try simp at hh); omega) | (have hh := (h).size; (try simp at hh); (try simp); omega))) | exact (h).mono (by first | omega | (simp <;> omega) | (have hh := (hb1).size; (try simp at hh); omega) | (have hh := (hb1).size; (try simp at hh); (try simp); omega) | (have hh := (h).size; (try simp at hh); omega) | (have hh := (h).size; (try simp at hh); (try simp); omega)) | refine Below.trans ?_ ((h).mono (by first | omega | (simp <;> omega) | (have hh := (hb1).size; (try simp at hh); omega) | (have hh := (hb1).size; (try simp at hh); (try simp); omega) | (have hh := (h).size; (try simp at hh); omega) | (have hh := (h).size; (try simp at hh); (try simp); omega))) | refine Below.alloc ?_ (by first | omega | (simp <;> omega) | (have hh := (hb1).size; (try simp at hh); omega) | (have hh := (hb1).size; (try simp at hh); (try simp); omega) | (have hh := (h).size; (try simp at hh); omega) | (have hh := (h).size; (try simp at hh); (try simp); omega)) _ | refine Below.setCell ?_ (by first | omega | (simp <;> omega) | (have hh := (hb1).size; (try simp at hh); omega) | (have hh := (hb1).size; (try simp at hh); (try simp); omega) | (have hh := (h).size; (try simp at hh); omega) | (have hh := (h).size; (try simp at hh); (try simp); omega)) _ | refine below_drewN ?_ _ | refine Below.drew ?_))⟩
    · by_cases hz : e2 = 0
      · have hz1 : e2 ≤ 0 := by omega
        have hz2 : 0 ≤ e2 := by omega
        have Hz := hid hz
        clear hz
        go_wp2_with (go_at_call 125; ((with_reducible refine (H2.out _ Hbl.out).mono ?_); rintro e w1 ⟨rfl, hb1⟩))
        go_roundw
        case rel => exact ⟨2, by omega, rfl, fun _ => Z1.out (by omega), fun _ => Hz.out, fun _ => by omega, by have h := Hbl.out; (repeat (first | exact Below.refl _ _ | exact (hb1).mono (by first | omega | (simp <;> omega) | (have hh := (hb1).size; (try simp at hh); omega) | (have hh := (hb1).size; (try simp at hh); (try simp); omega) | (have hh := (h).size; (try simp at hh); omega) | (have hh := (h).size; (try simp at hh); (try simp); omega)) | refine Below.trans ?_ ((hb1).mono (by first | omega | (simp <;> omega) | (have hh := (hb1).size; (try simp at hh); omega) | (have hh := (hb1).size; (try simp at hh); (try simp); omega) | (have hh := (h).size; (try simp at hh); omega) | (have hh := (h).size; (try simp at hh); (try simp); omega))) | exact (h).mono (by first | omega | (simp <;> omega) | (have hh := (hb1).size; (try simp at hh); omega) | (have hh := (hb1).size; (try simp at hh); (try simp); omega) | (have hh := (h).size; (try simp at hh); omega) | (have hh := (h).size; (try simp at hh); (try simp); omega)) | refine Below.trans ?_ ((h).mono (by first | omega | (simp <;> omega) | (have hh := (hb1).size; (try simp at hh); omega) | (have hh := (hb1).size; (try simp at hh); (try simp); omega) | (have hh := (h).size; (try simp at hh); omega) | (have hh := (h).size; (try simp at hh); (try simp); omega))) | refine Below.alloc ?_ (by first | omega | (simp <;> omega) | (have hh := (hb1).size; (try simp at hh); omega) | (have hh := (hb1).size; (try simp at hh); (try simp); omega) | (have hh := (h).size; (try simp at hh); omega) | (have hh := (h).size; (try simp at hh); (try simp); omega)) _ | refine Below.setCell ?_ (by first | omega | (simp <;> omega) | (have hh := (hb1).size; (try simp at hh); omega) | (have hh := (hb1).size; (try simp at hh); (try simp); omega) | (have hh := (h).size; (try simp at hh); omega) | (have hh := (h).size; (try simp at hh); (try simp); omega)) _ | refine below_drewN ?_ _ | refine Below.drew ?_))⟩
        case measure => simp [intOf]
      · have hz1 : e2 < 0 ∨ 0 < e2 := by omega
        have Hz := hid hz
        clear hz
        go_wp2_with (go_at_call 125; ((with_reducible refine (H2.out _ Hbl.out).mono ?_); rintro e w1 ⟨rfl, hb1⟩))
        go_ret
        exact ⟨ret_int (by unfold firstE; rw [if_neg (by simpa using Z1.out (by omega)), if_pos Hz.out]), by have h := Hbl.out; (repeat (first | exact Below.refl _ _ | exact (hb1).mono (by first | omega | (simp <;> omega) | (have hh := (hb1).size; (try simp at hh); omega) | (have hh := (hb1).size; (try simp at hh); (try simp); omega) | (have hh := (h).size; (try simp at hh); omega) | (have hh := (h).size; (try simp at hh); (try simp); omega)) | refine Below.trans ?_ ((hb1).mono (by first | omega | (simp <;> omega) | (have hh := (hb1).size; (try simp at hh); omega) | (have hh := (hb1).size; (try simp at hh); (try simp); omega) | (have hh := (h).size; (try simp at hh); omega) | (have hh := (h).size; (try simp at hh); (try simp); omega))) | exact (h).mono (by first | omega | (simp <;> omega) | (have hh := (hb1).size; (try simp at hh); omega) | (have hh := (hb1).size; (try simp at hh); (try simp); omega) | (have hh := (h).size; (try simp at hh); omega) | (have hh := (h).size; (try simp at hh); (try simp); omega)) | refine Below.trans ?_ ((h).mono (by first | omega | (simp <;> omega) | (have hh := (hb1).size; (try simp at hh); omega) | (have hh := (hb1).size; (try simp at hh); (try simp); omega) | (have hh := (h).size; (try simp at hh); omega) | (have hh := (h).size; (try simp at hh); (try simp); omega))) | refine Below.alloc ?_ (by first | omega | (simp <;> omega) | (have hh := (hb1).size; (try simp at hh); omega) | (have hh := (hb1).size; (try simp at hh); (try simp); omega) | (have hh := (h).size; (try simp at hh); omega) | (have hh := (h).size; (try simp at hh); (try simp); omega)) _ | refine Below.setCell ?_ (by first | omega | (simp <;> omega) | (have hh := (hb1).size; (try simp at hh); omega) | (have hh := (hb1).size; (try simp at hh); (try simp); omega) | (have hh := (h).size; (try simp at hh); omega) | (have hh := (h).size; (try simp at hh); (try simp); omega)) _ | refine below_drewN ?_ _ | refine Below.drew ?_))⟩
    · by_cases hz : e3 = 0
      · have hz1 : e3 ≤ 0 := by omega
        have hz2 : 0 ≤ e3 := by omega
        have Hz := hid hz
        clear hz
        go_wp2_with (go_at_call 126; ((with_reducible refine (H3.out _ Hbl.out).mono ?_); rintro e w1 ⟨rfl, hb1⟩))
        go_roundw
        case rel => exact ⟨3, by omega, rfl, fun _ => Z1.out (by omega), fun _ => Z2.out (by omega), fun _ => Hz.out, by have h := Hbl.out; (repeat (first | exact Below.refl _ _ | exact (hb1).mono (by first | omega | (simp <;> omega) | (have hh := (hb1).size; (try simp at hh); omega) | (have hh := (hb1).size; (try simp at hh); (try simp); omega) | (have hh := (h).size; (try simp at hh); omega) | (have hh := (h).size; (try simp at hh); (try simp); omega)) | refine Below.trans ?_ ((hb1).mono (by first | omega | (simp <;> omega) | (have hh := (hb1).size; (try simp at hh); omega) | (have hh := (hb1).size; (try simp at hh); (try simp); omega) | (have hh := (h).size; (try simp at hh); omega) | (have hh := (h).size; (try simp at hh); (try simp); omega))) | exact (h).mono (by first | omega | (simp <;> omega) | (have hh := (hb1).size; (try simp at hh); omega) | (have hh := (hb1).size; (try simp at hh); (try simp); omega) | (have hh := (h).size; (try simp at hh); omega) | (have hh := (h).size; (try simp at hh); (try simp); omega)) | refine Below.trans ?_ ((h).mono (by first | omega | (simp <;> omega) | (have hh := (hb1).size; (try simp at hh); omega) | (have hh := (hb1).size; (try simp at hh); (try simp); omega) | (have hh := (h).size; (try simp at hh); omega) | (have hh := (h).size; (try simp at hh); (try simp); omega))) | refine Below.alloc ?_ (by first | omega | (simp <;> omega) | (have hh := (hb1).size; (try simp at hh); omega) | (have hh := (hb1).size; (try simp at hh); (try simp); omega) | (have hh := (h).size; (try simp at hh); omega) | (have hh := (h).size; (try simp at hh); (try simp); omega)) _ | refine Below.setCell ?_ (by first | omega | (simp <;> omega) | (have hh := (hb1).size; (try simp at hh); omega) | (have hh := (hb1).size; (try simp at hh); (try simp); omega) | (have hh := (h).size; (try simp at hh); omega) | (have hh := (h).size; (try simp at hh); (try simp); omega)) _ | refine below_drewN ?_ _ | refine Below.drew ?_))⟩
        case measure => simp [intOf]
      · have hz1 : e3 < 0 ∨ 0 < e3 := by omega
        have Hz := hid hz
        clear hz
        go_wp2_with (go_at_call 126; ((with_reducible refine (H3.out _ Hbl.out).mono ?_); rintro e w1 ⟨rfl, hb1⟩))
        go_ret
        exact ⟨ret_int (by unfold firstE; rw [if_neg (by simpa using Z1.out (by omega)), if_neg (by simpa using Z2.out (by omega))]), by have h := Hbl.out; (repeat (first | exact Below.refl _ _ | exact (hb1).mono (by first | omega | (simp <;> omega) | (have hh := (hb1).size; (try simp at hh); omega) | (have hh := (hb1).size; (try simp at hh); (try simp); omega) | (have hh := (h).size; (try simp at hh); omega) | (have hh := (h).size; (try simp at hh); (try simp); omega)) | refine Below.trans ?_ ((hb1).mono (by first | omega | (simp <;> omega) | (have hh := (hb1).size; (try simp at hh); omega) | (have hh := (hb1).size; (try simp at hh); (try simp); omega) | (have hh := (h).size; (try simp at hh); omega) | (have hh := (h).size; (try simp at hh); (try simp); omega))) | exact (h).mono (by first | omega | (simp <;> omega) | (have hh := (hb1).size; (try simp at hh); omega) | (have hh := (hb1).size; (try simp at hh); (try simp); omega) | (have hh := (h).size; (try simp at hh); omega) | (have hh := (h).size; (try simp at hh); (try simp); omega)) | refine Below.trans ?_ ((h).mono (by first | omega | (simp <;> omega) | (have hh := (hb1).size; (try simp at hh); omega) | (have hh := (hb1).size; (try simp at hh); (try simp); omega) | (have hh := (h).size; (try simp at hh); omega) | (have hh := (h).size; (try simp at hh); (try simp); omega))) | refine Below.alloc ?_ (by first | omega | (simp <;> omega) | (have hh := (hb1).size; (try simp at hh); omega) | (have hh := (hb1).size; (try simp at hh); (try simp); omega) | (have hh := (h).size; (try simp at hh); omega) | (have hh := (h).size; (try simp at hh); (try simp); omega)) _ | refine Below.setCell ?_ (by first | omega | (simp <;> omega) | (have hh := (hb1).size; (try simp at hh); omega) | (have hh := (hb1).size; (try simp at hh); (try simp); omega) | (have hh := (h).size; (try simp at hh); omega) | (have hh := (h).size; (try simp at hh); (try simp); omega)) _ | refine below_drewN ?_ _ | refine Below.drew ?_))⟩
    · go_wp2_with fail
      go_ret
      exact ⟨ret_int (by unfold firstE; rw [if_neg (by simpa using Z1.out (by omega)), if_neg (by simpa using Z2.out (by omega)), Z3.out (by omega)]), by have h := Hbl.out; (repeat (first | exact Below.refl _ _ | exact (h).mono (by first | omega | (simp <;> omega) | (have hh := (h).size; (try simp at hh); omega) | (have hh := (h).size; (try simp at hh); (try simp); omega)) | refine Below.trans ?_ ((h).mono (by first | omega | (simp <;> omega) | (have hh := (h).size; (try simp at hh); omega) | (have hh := (h).size; (try simp at hh); (try simp); omega))) | refine Below.alloc ?_ (by first | omega | (simp <;> omega) | (have hh := (h).size; (try simp at hh); omega) | (have hh := (h).size; (try simp at hh); (try simp); omega)) _ | refine Below.setCell ?_ (by first | omega | (simp <;> omega) | (have hh := (h).size; (try simp at hh); omega) | (have hh := (h).size; (try simp at hh); (try simp); omega)) _ | refine below_drewN ?_ _ | refine Below.drew ?_))⟩

/-- The same, the closures' contracts being known since an earlier world. -/
theorem first_from (W : World) (lb : Nat) (pc px pk : Value) (e1 e2 e3 : Int) (w : World)
    (H1 : Hid (∀ w', Below W.heap.size W w' → Calls Tryd.prog 124 #[pc, px] w' fun e w'' => e = .returned (.int .i64 e1) ∧ Below w'.heap.size w' w''))
    (H2 : Hid (∀ w', Below W.heap.size W w' → Calls Tryd.prog 125 #[pc, px] w' fun e w'' => e = .returned (.int .i64 e2) ∧ Below w'.heap.size w' w''))
    (H3 : Hid (∀ w', Below W.heap.size W w' → Calls Tryd.prog 126 #[pk, px, pc] w' fun e w'' => e = .returned (.int .i64 e3) ∧ Below w'.heap.size w' w''))
    (hW : Below W.heap.size W w)
    (h0 : w.cell? ⟨lb, 0, none⟩ = some (.func (.func 124) #[] #[pc, px]))
    (h1 : w.cell? ⟨lb, 1, none⟩ = some (.func (.func 125) #[] #[pc, px]))
    (h2 : w.cell? ⟨lb, 2, none⟩ = some (.func (.func 126) #[] #[pk, px, pc])) :
    Calls Tryd.prog 123 #[.slice (some ⟨lb, 0, none⟩) 3 3] w fun e w' => e = .returned (.int .i64 (firstE e1 e2 e3)) ∧ Below w.heap.size w w' :=
  first_any lb pc px pk e1 e2 e3 w h0 h1 h2 (fun w' h => H1 w' (hW.trans (h.mono hW.size))) (fun w' h => H2 w' (hW.trans (h.mono hW.size))) (fun w' h => H3 w' (hW.trans (h.mono hW.size)))

/-- Is an instruction not in its form? -/
def formBad (x : DIns) : Bool :=
  (!shpD x.op && decide (x.dst ≠ -1)) || (!shpA x.op && decide (x.a ≠ ⟨false, 0⟩)) || (!shpB x.op && decide (x.b ≠ ⟨false, 0⟩)) || (decide (x.op ≠ 20) && (decide (x.fn ≠ 0) || decide (0 < x.args.length)))
def insE (fs : List DFunc) (regs : Int) (x : DIns) : Int :=
  if ¬ (1 ≤ x.op ∧ x.op ≤ 22) then 4
  else if formBad x = true then 5
  else if (shpD x.op = true ∧ ¬ (x.op = 20 ∧ x.dst = -1)) ∧ dstE regs x.dst ≠ 0 then 3
  else firstE (valE regs x.a) (valE regs x.b) (callE fs regs x)

end Go.Proofs.YtaehkcnankijfaaDoor
