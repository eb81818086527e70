/- Contracts of small functions that code.Check calls. -/
import Derived.Test.YtaehkcnankijfaaDoorCore
namespace Go.Proofs.YtaehkcnankijfaaDoor
open Go.RowKit

def strEq (a b : ByteArray) : Bool := a.toList == b.toList
def idxStr (l : List ByteArray) (s : ByteArray) : Int := match l.findIdx? (fun t => strEq s t) with | some k => k | none => -1

theorem idx_none {α : Type} {l : List α} {p : α → Bool} (h : ∀ (j : Nat) (x : α), l[j]? = some x → p x = false) : l.findIdx? p = none := by
  rw [List.findIdx?_eq_none_iff]
  intro x hx
  obtain ⟨j, hj⟩ := List.getElem?_of_mem hx
  exact h j x hj
theorem idx_some {α : Type} {l : List α} {p : α → Bool} {k : Nat} {x : α} (hx : l[k]? = some x) (hp : p x = true) (h : ∀ j : Nat, j < k → ∀ x : α, l[j]? = some x → p x = false) : l.findIdx? p = some k := by
  rw [List.findIdx?_eq_some_iff_getElem]
  obtain ⟨hlt, rfl⟩ := List.getElem?_eq_some_iff.1 hx
  exact ⟨hlt, hp, fun j hj => by rw [h j hj _ (List.getElem?_eq_getElem (by omega))]; simp⟩

/-- An element of a list that lies in memory. -/
theorem SlAt.get {α : Type} {S : Nat → Prop} {w : World} {sz : Nat} {r : Rp α} {ao : Option Addr} {n c : Nat} {l : List α} (h : SlAt S w sz r (.slice ao n c) l) {k : Nat} (hk : k < l.length) :
    ∃ b off cs, ao = some ⟨b, off, none⟩ ∧ S b ∧ r S w cs l[k] ∧ cs.length = sz ∧ CellsAt w b (off + k * sz) cs := by
  obtain ⟨ao', c', hv, _, _, h⟩ := h
  cases hv
  obtain ⟨b, off, ha, hb, h⟩ := h (fun e => by rw [e] at hk; exact Nat.not_lt_zero _ hk)
  obtain ⟨cs, h1, h2, h3⟩ := h k l[k] (List.getElem?_eq_getElem hk)
  exact ⟨b, off, cs, ha, hb, h1, h2, h3⟩
/-- The value of a list that lies in memory. -/
theorem SlAt.val {α : Type} {S : Nat → Prop} {w : World} {sz : Nat} {r : Rp α} {v : Value} {l : List α} (h : SlAt S w sz r v l) :
    ∃ ao c, v = .slice ao l.length c ∧ l.length ≤ 9223372036854775807 := by
  obtain ⟨ao', c', hv, h1, h2, _⟩ := h
  exact ⟨ao', c', hv, by omega⟩

set_option maxHeartbeats 400000 in
theorem indexStr_any {S : Nat → Prop} (v : Value) (l : List ByteArray) (s : ByteArray) (w : World) (h : SlAt S w 1 rStr v l) :
    Calls Tryd.prog 74 #[v, .string s] w fun e w' => e = .returned (.int .i64 (idxStr l s)) ∧ w = w' := by
  obtain ⟨ao, c, rfl, hm⟩ := h.val
  go_enter Tryd.func74, Tryd.ntmps74
  go_wp2
  go_loop [8] (fun i => ∃ k : Nat, k ≤ l.length ∧ i = .int .i64 k ∧ ∀ j, j < k → ∀ x, l[j]? = some x → strEq s x = false) (fun i => l.length - (intOf i).toNat)
  case atStart => exact ⟨0, Nat.zero_le _, rfl, fun j hj => by omega⟩
  case round =>
    obtain ⟨k, hk, rfl, hall⟩ := hrel
    have H := hid hall
    clear hall
    by_cases hlt : k < l.length
    · obtain ⟨b, off, cs, rfl, hb, rfl, hc, hcs⟩ := h.get hlt
      have hcell : w.cell? ⟨b, off + k, none⟩ = some (.string l[k]) := by simpa using hcs 0 _ rfl
      have Hh := hid h
      clear h hcs hc
      by_cases he : strEq s l[k] = true
      · have he' : (s.toList == l[k].toList) = true := he
        have hi : idxStr l s = k := by unfold idxStr; rw [idx_some (List.getElem?_eq_getElem hlt) he H.out]
        have Hi := hid hi
        clear hi he
        go_wp2
        go_ret
        exact ⟨ret_int Hi.out.symm, rfl⟩
      · have he0 : strEq s l[k] = false := by simpa using he
        have he' : (s.toList == l[k].toList) = false := he0
        have He := hid he0
        clear he0 he
        go_wp2
        go_round
        case rel => exact ⟨k + 1, by omega, by go_num, ext_lt H.out (fun x hx => by rw [List.getElem?_eq_getElem hlt] at hx; cases hx; exact He.out)⟩
        case measure => simp [intOf]; omega
    · have hi : idxStr l s = -1 := by
        unfold idxStr
        rw [idx_none (fun j x hx => H.out j (by have := (List.getElem?_eq_some_iff.1 hx).1; omega) x hx)]
      have Hi := hid hi
      clear hi
      go_wp2
      go_ret
      exact ⟨ret_int Hi.out.symm, rfl⟩

def hasStr (l : List ByteArray) (s : ByteArray) : Bool := decide (0 ≤ idxStr l s)
set_option maxHeartbeats 400000 in
theorem containsStr_any {S : Nat → Prop} (v : Value) (l : List ByteArray) (s : ByteArray) (w : World) (h : SlAt S w 1 rStr v l) :
    Calls Tryd.prog 39 #[v, .string s] w fun e w' => e = .returned (.bool (hasStr l s)) ∧ w = w' := by
  have H := hid h
  clear h
  go_enter Tryd.func39, Tryd.ntmps39
  go_wp2_with (go_at_call 74; ((with_reducible refine (indexStr_any _ _ _ _ H.out).mono ?_); rintro e w' ⟨rfl, rfl⟩))
  go_ret
  exact ⟨rfl, rfl⟩

def valE (regs : Int) (v : DVal) : Int := if v.reg = true ∧ ¬ (0 ≤ v.n ∧ v.n ≤ regs - 1) then 3 else 0
set_option maxHeartbeats 400000 in
theorem val_any (g f nm ps : Value) (regs : Int) (bl ah : Value) (r : Bool) (n : Int) (w : World) (h0 : 0 ≤ regs) (h1 : regs ≤ 100) :
    Calls Tryd.prog 121 #[.agg #[g, f, nm, ps, .int .i64 regs, bl, ah], .agg #[.bool r, .int .i64 n]] w fun e w' =>
      e = .returned (.int .i64 (valE regs ⟨r, n⟩)) ∧ Below w.heap.size w w' := by
  cases r
  · go_enter Tryd.func121, Tryd.ntmps121
    go_wp2
    go_ret
    exact ⟨ret_int (by simp [valE]), ((Below.refl _ _).alloc (by simp) _).alloc (by simp) _⟩
  · by_cases hin : 0 ≤ n ∧ n ≤ regs - 1
    all_goals
      go_enter Tryd.func121, Tryd.ntmps121
      go_wp2_with (go_at_call 40; ((with_reducible refine (within_any _ _ _ _).mono ?_); rintro e w' ⟨rfl, rfl⟩))
      go_ret
      exact ⟨ret_int (by simp [valE, hin]), ((Below.refl _ _).alloc (by simp) _).alloc (by simp) _⟩

def dstE (regs n : Int) : Int := if ¬ (0 ≤ n ∧ n ≤ regs - 1) then 3 else 0
set_option maxHeartbeats 400000 in
theorem dst_any (g f nm ps : Value) (regs : Int) (bl ah : Value) (n : Int) (w : World) (h0 : 0 ≤ regs) (h1 : regs ≤ 100) :
    Calls Tryd.prog 122 #[.agg #[g, f, nm, ps, .int .i64 regs, bl, ah], .int .i64 n] w fun e w' =>
      e = .returned (.int .i64 (dstE regs n)) ∧ Below w.heap.size w w' := by
  by_cases hin : 0 ≤ n ∧ n ≤ regs - 1
  all_goals
    go_enter Tryd.func122, Tryd.ntmps122
    go_wp2_with (go_at_call 40; ((with_reducible refine (within_any _ _ _ _).mono ?_); rintro e w' ⟨rfl, rfl⟩))
    go_ret
    exact ⟨ret_int (by simp [dstE, hin]), (Below.refl _ _).alloc (by simp) _⟩

end Go.Proofs.YtaehkcnankijfaaDoor
