/- Contracts of core.Within and core.Name: what the two return, for every argument. -/
import Derived.Test.YtaehkcnankijfaaDoorProg
import Derived.Test.YtaehkcnankijfaaDoorData
import Derived.WalkSpells
import Derived.WalkLawsBesides
namespace Go.Proofs.YtaehkcnankijfaaDoor
open Go.RowKit

set_option maxHeartbeats 400000 in
theorem within_any (n lo hi : Int) (w : World) :
    Calls Tryd.prog 40 #[.int .i64 n, .int .i64 lo, .int .i64 hi] w fun e w' => e = .returned (.bool (decide (lo ≤ n ∧ n ≤ hi))) ∧ w = w' := by
  go_enter Tryd.func40, Tryd.ntmps40
  go_wp2
  all_goals go_ret
  · have h : lo ≤ n := by assumption
    exact ⟨by simp [h], rfl⟩
  · have h : n < lo := by assumption
    exact ⟨by simp [show ¬ lo ≤ n by omega], rfl⟩

/-- A byte that may stand in a name, at place i. -/
def ChrOk (i c : Nat) : Prop := (97 ≤ c ∧ c ≤ 122) ∨ (65 ≤ c ∧ c ≤ 90) ∨ c = 95 ∨ (0 < i ∧ 48 ≤ c ∧ c ≤ 57)
instance (i c : Nat) : Decidable (ChrOk i c) := by unfold ChrOk; infer_instance
def nameOk (s : ByteArray) : Bool := decide (1 ≤ s.size ∧ s.size ≤ 12) && decide (∀ i, (h : i < s.size) → ChrOk i (s[i]'h).toNat)

set_option maxHeartbeats 1000000 in
theorem name_any (s : ByteArray) (w : World) :
    Calls Tryd.prog 38 #[.string s] w fun e w' => e = .returned (.bool (nameOk s)) ∧ w = w' := by
  by_cases h1 : 1 ≤ s.size ∧ s.size ≤ 12
  case neg =>
    have hn : nameOk s = false := by simp [nameOk, h1]
    rw [hn]
    clear hn
    have h2 : s.size < 1 ∨ 12 < s.size := by omega
    rcases h2 with h2 | h2
    all_goals
      go_enter Tryd.func38, Tryd.ntmps38
      go_wp2
      go_ret
      exact ⟨rfl, rfl⟩
  obtain ⟨h1, h2⟩ := h1
  go_enter Tryd.func38, Tryd.ntmps38
  go_wp2
  go_loop [15] (fun i => ∃ k : Nat, k ≤ s.size ∧ i = .int .i64 k ∧ ∀ j, j < k → (h : j < s.size) → ChrOk j (s[j]'h).toNat) (fun i => s.size - (intOf i).toNat)
  case atStart => exact ⟨0, Nat.zero_le _, rfl, fun j hj => by omega⟩
  case round =>
    obtain ⟨k, hk, rfl, hall⟩ := hrel
    have H := hid hall
    clear hall
    by_cases hlt : k < s.size
    · by_cases hc : ChrOk k (s[k]'hlt).toNat
      · have hok := hid hc
        unfold ChrOk at hc
        rcases hc with hc | hc | hc | hc
        all_goals
          go_wp2
          go_round
          case rel => exact ⟨k + 1, by omega, by go_num, ext_lt H.out (fun _ => hok.out)⟩
          case measure => simp [intOf]; omega
      · have hok := hid hc
        have hc1 : ¬ (97 ≤ (s[k]'hlt).toNat ∧ (s[k]'hlt).toNat ≤ 122) := fun h => hc (.inl h)
        have hc2 : ¬ (65 ≤ (s[k]'hlt).toNat ∧ (s[k]'hlt).toNat ≤ 90) := fun h => hc (.inr (.inl h))
        have hc3 : ¬ (s[k]'hlt).toNat = 95 := fun h => hc (.inr (.inr (.inl h)))
        have hc4 : ¬ (0 < k ∧ 48 ≤ (s[k]'hlt).toNat ∧ (s[k]'hlt).toNat ≤ 57) := fun h => hc (.inr (.inr (.inr h)))
        have hn : nameOk s = false := by
          simp only [nameOk, h1, h2, and_self, decide_true, Bool.true_and, decide_eq_false_iff_not]
          exact fun h => hc (h k hlt)
        have Hn := hid hn
        clear hn hc
        go_wp2
        all_goals
          go_ret
          exact ⟨ret_bool Hn.out.symm, rfl⟩
    · have hn : nameOk s = true := by
        simp only [nameOk, h1, h2, and_self, decide_true, Bool.true_and, decide_eq_true_eq]
        exact fun i h => H.out i (by omega) h
      have Hn := hid hn
      clear hn
      go_wp2
      go_ret
      exact ⟨ret_bool Hn.out.symm, rfl⟩

end Go.Proofs.YtaehkcnankijfaaDoor
