/- slices.Index and slices.Contains of ints. -/
import Derived.Test.YtnkogppgacappaaDoorPSameU
namespace Go.Proofs.YtnkogppgacappaaDoor
open Go.RowKit

def idxInt (l : List Int) (s : Int) : Int := match l.findIdx? (fun x => decide (s = x)) with | some k => k | none => -1
def hasInt (l : List Int) (s : Int) : Bool := decide (0 ≤ idxInt l s)
set_option maxHeartbeats 1000000 in
theorem indexInt_any {S : Nat → Prop} (ao : Option Addr) (n c : Nat) (l : List Int) (s : Int) (w : World) (h : SlAt S w 1 rInt (.slice ao n c) l) (hn : l.length = n) (hn2 : n ≤ 1048576) :
    Calls Tryd.prog 58 #[.slice ao n c, .int .i64 s] w fun e w' => e = .returned (.int .i64 (idxInt l s)) ∧ w = w' := by
  have Hh := hid h
  have Hn := hid hn
  clear h hn
  go_enter Tryd.func58, Tryd.ntmps58
  go_wp2_with fail
  go_loop [8] (fun i => ∃ k : Nat, k ≤ n ∧ i = .int .i64 k ∧ ∀ j, j < k → ∀ x, l[j]? = some x → decide (s = x) = false) (fun i => n - (intOf i).toNat)
  case atStart => exact ⟨0, Nat.zero_le _, rfl, fun j hj => by omega⟩
  case round =>
    obtain ⟨k, hk, rfl, hall⟩ := hrel
    have H := hid hall
    clear hall
    by_cases hlt : k < n
    · have hlt' : k < l.length := by rw [Hn.out]; exact hlt
      obtain ⟨b, off, rfl, hcell⟩ := int_at Hh.out hlt'
      obtain ⟨x, hx⟩ : ∃ x, l[k] = x := ⟨_, rfl⟩
      rw [hx] at hcell
      have Hx : Hid (l[k]? = some x) := by show _ = _; rw [List.getElem?_eq_getElem hlt', hx]
      have zb : b < w.heap.size := cell_lt hcell
      clear hx hlt'
      by_cases he : s = x
      · have Hi : Hid (idxInt l s = k) := by show _ = _; unfold idxInt; rw [idx_some Hx.out (decide_eq_true he) H.out]
        have q0 : (decide (s ≤ x) && decide (x ≤ s)) = true := eq_yes he
        clear he
        go_wp2_with fail
        go_ret
        exact ⟨ret_int Hi.out.symm, rfl⟩
      · have He : Hid (decide (s = x) = false) := decide_eq_false he
        have q0 : (decide (s ≤ x) && decide (x ≤ s)) = false := eq_no he
        clear he
        go_wp2_with fail
        go_round
        case rel => exact ⟨k + 1, by omega, by go_num, ext_lt H.out (fun y hy => by rw [Hx.out] at hy; cases hy; exact He.out)⟩
        case measure => simp [intOf]; omega
    · have Hi : Hid (idxInt l s = -1) := by
        show _ = _
        unfold idxInt
        rw [idx_none (fun j x hx => H.out j (by have := (List.getElem?_eq_some_iff.1 hx).1; have := Hn.out; omega) x hx)]
      go_wp2_with fail
      go_ret
      exact ⟨ret_int Hi.out.symm, rfl⟩
set_option maxHeartbeats 1000000 in
theorem containsInt_any {S : Nat → Prop} (ao : Option Addr) (n c : Nat) (l : List Int) (s : Int) (w : World) (h : SlAt S w 1 rInt (.slice ao n c) l) (hn : l.length = n) (hn2 : n ≤ 1048576) :
    Calls Tryd.prog 32 #[.slice ao n c, .int .i64 s] w fun e w' => e = .returned (.bool (hasInt l s)) ∧ w = w' := by
  have H := hid h
  have Hn := hid hn
  clear h hn
  go_enter Tryd.func32, Tryd.ntmps32
  go_wp2_with (go_at_call 58; ((with_reducible refine (indexInt_any _ _ _ _ _ _ H.out Hn.out hn2).mono ?_); rintro e w' ⟨rfl, rfl⟩))
  go_ret
  exact ⟨rfl, rfl⟩
theorem hasInt_mem {l : List Int} {s : Int} : hasInt l s = decide (s ∈ l) := by
  rw [Bool.eq_iff_iff]
  unfold hasInt idxInt
  cases h : l.findIdx? (fun x => decide (s = x)) with
  | none =>
    rw [List.findIdx?_eq_none_iff] at h
    have hn : s ∉ l := fun hm => by have := h s hm; simp at this
    simp [hn]
  | some k =>
    obtain ⟨hk, hp, -⟩ := List.findIdx?_eq_some_iff_getElem.1 h
    have hm : s ∈ l := by rw [of_decide_eq_true hp]; exact List.getElem_mem hk
    simp [hm]

end Go.Proofs.YtnkogppgacappaaDoor
