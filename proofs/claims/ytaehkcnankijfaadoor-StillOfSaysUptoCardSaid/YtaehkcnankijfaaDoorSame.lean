/- turnerysame.Fault, turnerysame.Ints, turneryref6.weighIn. -/
import Derived.Test.YtaehkcnankijfaaDoorLayW
import Derived.Deep.LoopGhost
namespace Go.Proofs.YtaehkcnankijfaaDoor
open Go.RowKit

set_option maxHeartbeats 400000 in
theorem sfault_any (c a : Int) (w : World) :
    Calls Tryd.prog 17 #[.int .i64 c, .int .i64 a] w fun e w' => e = .returned (.agg #[.int .i64 c, .int .i64 a]) ∧ Below w.heap.size w w' := by
  go_enter Tryd.func17, Tryd.ntmps17
  go_wp2
  refine bodyPost_ret (v := _) ?_ rfl ⟨rfl, ?_⟩
  · simp [results, Tryd.results17, go_sem]
  · (repeat (first | exact Below.refl _ _ | refine Below.alloc ?_ (by first | omega | (simp <;> omega)) _ | refine Below.setCell ?_ (by first | omega | (simp <;> omega)) _ | refine below_drewN ?_ _ | refine Below.drew ?_))

set_option maxHeartbeats 400000 in
theorem sfault_x (c a : Int) (w : World) :
    Calls Tryd.prog 17 #[.int .i64 c, .int .i64 a] w fun e w' => e = .returned (.agg #[.int .i64 c, .int .i64 a]) ∧ w.alloc (.cells #[.int .i64 c, .int .i64 a] 28) = w' := by
  go_enter Tryd.func17, Tryd.ntmps17
  go_wp2
  refine bodyPost_ret (v := _) ?_ rfl ⟨rfl, ?_⟩
  · simp [results, Tryd.results17, go_sem]
  · simp

theorem int_at {S : Nat → Prop} {w : World} {a : Option Addr} {n c : Nat} {l : List Int} (h : SlAt S w 1 rInt (.slice a n c) l) {t : Nat} (ht : t < l.length) : ∃ b off, a = some ⟨b, off, none⟩ ∧ w.cell? ⟨b, off + t, none⟩ = some (.int .i64 l[t]) := by
  obtain ⟨b, off, cs, ha, -, ⟨rfl, -⟩, -, hcs⟩ := h.get ht
  have d := hcs.get1
  rw [Nat.mul_one] at d
  exact ⟨b, off, ha, d⟩

set_option maxRecDepth 100000 in
set_option maxHeartbeats 1000000 in
theorem ints_any {S S' : Nat → Prop} (a : Option Addr) (c : Nat) (l : List Int) (a' : Option Addr) (c' : Nat) (l' : List Int) (w : World) (h : SlAt S w 1 rInt (.slice a l.length c) l) (h' : SlAt S' w 1 rInt (.slice a' l'.length c') l') (hn : l.length ≤ 1048576) (hn' : l'.length ≤ 1048576) :
    Calls Tryd.prog 18 #[.slice a l.length c, .slice a' l'.length c'] w fun e w' => e = .returned (.bool (decide (l = l'))) ∧ Below w.heap.size w w' := by
  have H := hid h
  have H' := hid h'
  clear h h'
  go_enter Tryd.func18, Tryd.ntmps18
  by_cases hl : l.length = l'.length
  · go_wp2_with fail
    go_loopw [5] (fun i wr => ∃ (k q : Nat), k ≤ l.length ∧ i = .int .i64 k ∧ l.take k = l'.take k ∧ w.drewN q = wr) (fun i _ => l.length - (intOf i).toNat)
    case atStart => exact ⟨0, 0, Nat.zero_le _, rfl, rfl, rfl⟩
    case round =>
      obtain ⟨k, q, hk, rfl, htk, rfl⟩ := hrel
      have Htk := hid htk
      clear htk
      by_cases hkl : k < l.length
      · have hkl' : k < l'.length := by omega
        obtain ⟨b, off, rfl, c0⟩ := int_at H.out hkl
        obtain ⟨b', off', rfl, d0⟩ := int_at H'.out hkl'
        have hb1 : b < w.heap.size := cell_lt c0
        have hb2 : b' < w.heap.size := cell_lt d0
        by_cases he : l[k] = l'[k]
        · go_wp2_with fail
          go_quiet (fail)
          go_wp2_with fail
          go_roundw
          case rel => exact ⟨k + 1, _, by omega, by go_num, by rw [List.take_succ_eq_append_getElem hkl, List.take_succ_eq_append_getElem hkl', Htk.out, he], rfl⟩
          case measure => simp [intOf]; omega
        · go_wp2_with fail
          go_quiet (fail)
          go_wp2_with fail
          have hr : decide (l = l') = false := decide_eq_false (fun e => he (by subst e; rfl))
          rw [hr]
          go_ret
          exact ⟨rfl, by (repeat (first | exact Below.refl _ _ | refine Below.alloc ?_ (by first | omega | (simp <;> omega)) _ | refine Below.setCell ?_ (by first | omega | (simp <;> omega)) _ | refine below_drewN ?_ _ | refine Below.drew ?_))⟩
      · obtain rfl : k = l.length := by omega
        go_wp2_with fail
        have hr : decide (l = l') = true := decide_eq_true (by have h := Htk.out; rw [List.take_length, hl, List.take_length] at h; exact h)
        rw [hr]
        go_ret
        exact ⟨rfl, by (repeat (first | exact Below.refl _ _ | refine Below.alloc ?_ (by first | omega | (simp <;> omega)) _ | refine Below.setCell ?_ (by first | omega | (simp <;> omega)) _ | refine below_drewN ?_ _ | refine Below.drew ?_))⟩
  · go_wp2_with fail
    have hr : decide (l = l') = false := decide_eq_false (fun e => hl (by rw [e]))
    rw [hr]
    go_ret
    exact ⟨rfl, Below.refl _ _⟩

set_option maxRecDepth 100000 in
set_option maxHeartbeats 1000000 in
theorem weighIn_any {S : Nat → Prop} (a : Option Addr) (c : Nat) (l : List Int) (x : Int) (w : World) (h : SlAt S w 1 rInt (.slice a l.length c) l) (hn : l.length ≤ 9223372036854775807) :
    Calls Tryd.prog 45 #[.slice a l.length c, .int .i64 x] w fun e w' => e = .returned (.bool (decide (x ∈ l))) ∧ w = w' := by
  have H := hid h
  clear h
  go_enter Tryd.func45, Tryd.ntmps45
  go_wp2_with fail
  go_loopw [5] (fun i wr => ∃ (k : Nat), k ≤ l.length ∧ i = .int .i64 k ∧ ¬ x ∈ l.take k ∧ w = wr) (fun i _ => l.length - (intOf i).toNat)
  case atStart => exact ⟨0, Nat.zero_le _, rfl, by simp, rfl⟩
  case round =>
    obtain ⟨k, hk, rfl, htk, rfl⟩ := hrel
    have Htk := hid htk
    clear htk
    by_cases hkl : k < l.length
    · obtain ⟨b, off, rfl, c0⟩ := int_at H.out hkl
      by_cases he : l[k] = x
      · go_wp2_with fail
        have hr : decide (x ∈ l) = true := decide_eq_true (by rw [← he]; exact List.getElem_mem hkl)
        rw [hr]
        go_ret
        first | exact ⟨rfl, rfl⟩ | exact ⟨rfl, trivial⟩
      · go_wp2_with fail
        go_roundw
        case rel => refine ⟨k + 1, by omega, by go_num, by rw [List.take_succ_eq_append_getElem hkl, List.mem_append, List.mem_singleton]; rintro (h | h); exact Htk.out h; exact he h.symm, ?_⟩; first | rfl | trivial
        case measure => simp [intOf]; omega
    · obtain rfl : k = l.length := by omega
      go_wp2_with fail
      have hr : decide (x ∈ l) = false := decide_eq_false (by have h := Htk.out; rw [List.take_length] at h; exact h)
      rw [hr]
      go_ret
      first | exact ⟨rfl, rfl⟩ | exact ⟨rfl, trivial⟩

end Go.Proofs.YtaehkcnankijfaaDoor
