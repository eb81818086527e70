/- The document's bits one by one: bitMeet, bitTwo, bitsOf, bitsNumber, bitsSure, bitsLow, BitsPair. The document's table in memory; bitsVal, bitsPut. -/
import Derived.Test.YtaehkcnankijfaaDoorPRowB
import Derived.Test.YtaehkcnankijfaaDoorPTwo
import Derived.StillTailTactics
namespace Go.Proofs.YtaehkcnankijfaaDoor
open Go.RowKit

set_option maxHeartbeats 1000000 in
theorem bitMeet_any (a b : Int) (w : World) : Calls Tryd.prog 98 #[.int .i64 a, .int .i64 b] w fun e w' => e = .returned (.int .i64 (meetC a b)) ∧ w = w' := by
  by_cases h1 : a = 3
  · have Hr : Hid (meetC a b = b) := by show _ = _; unfold meetC; rw [if_pos h1]
    have q1 : (decide (a ≤ 3) && decide (3 ≤ a)) = true := eq_yes h1
    clear h1
    go_enter Tryd.func98, Tryd.ntmps98
    go_wp2_with fail
    go_ret
    exact ⟨ret_int Hr.out.symm, rfl⟩
  · have q1 : (decide (a ≤ 3) && decide (3 ≤ a)) = false := eq_no h1
    by_cases h2 : b = 3
    · have Hr : Hid (meetC a b = a) := by show _ = _; unfold meetC; rw [if_neg h1, if_pos (.inl h2)]
      have q2 : (decide (b ≤ 3) && decide (3 ≤ b)) = true := eq_yes h2
      clear h1 h2
      go_enter Tryd.func98, Tryd.ntmps98
      go_wp2_with fail
      go_ret
      exact ⟨ret_int Hr.out.symm, rfl⟩
    · have q2 : (decide (b ≤ 3) && decide (3 ≤ b)) = false := eq_no h2
      by_cases h3 : a = b
      · have Hr : Hid (meetC a b = a) := by show _ = _; unfold meetC; rw [if_neg h1, if_pos (.inr h3)]
        have q3 : (decide (a ≤ b) && decide (b ≤ a)) = true := eq_yes h3
        clear h1 h2 h3
        go_enter Tryd.func98, Tryd.ntmps98
        go_wp2_with fail
        go_ret
        exact ⟨ret_int Hr.out.symm, rfl⟩
      · have Hr : Hid (meetC a b = 2) := by show _ = _; unfold meetC; rw [if_neg h1, if_neg (by omega)]
        have q3 : (decide (a ≤ b) && decide (b ≤ a)) = false := eq_no h3
        clear h1 h2 h3
        go_enter Tryd.func98, Tryd.ntmps98
        go_wp2_with fail
        go_ret
        exact ⟨ret_int Hr.out.symm, rfl⟩

set_option maxHeartbeats 1000000 in
theorem two7_a (a b : Int) (w : World) (h1 : a = 0) : Calls Tryd.prog 100 #[.int .i64 7, .int .i64 a, .int .i64 b] w fun e w' => e = .returned (.int .i64 (bitTwoF 7 a b)) ∧ w = w' := by
  have Hr : Hid (bitTwoF 7 a b = 0) := by show _ = _; unfold bitTwoF; simp <;> omega
  have q1 : (decide (a ≤ 0) && decide (0 ≤ a)) = true := eq_yes (by omega)
  clear h1
  go_enter Tryd.func100, Tryd.ntmps100
  go_wp2_with fail
  go_ret
  exact ⟨ret_int Hr.out.symm, rfl⟩
set_option maxHeartbeats 1000000 in
theorem two7_b (a b : Int) (w : World) (h1 : a ≠ 0) (h2 : b = 0) : Calls Tryd.prog 100 #[.int .i64 7, .int .i64 a, .int .i64 b] w fun e w' => e = .returned (.int .i64 (bitTwoF 7 a b)) ∧ w = w' := by
  have Hr : Hid (bitTwoF 7 a b = 0) := by show _ = _; unfold bitTwoF; simp <;> omega
  have q1 : (decide (a ≤ 0) && decide (0 ≤ a)) = false := eq_no (by omega)
  have q2 : (decide (b ≤ 0) && decide (0 ≤ b)) = true := eq_yes (by omega)
  clear h1 h2
  go_enter Tryd.func100, Tryd.ntmps100
  go_wp2_with fail
  go_ret
  exact ⟨ret_int Hr.out.symm, rfl⟩
set_option maxHeartbeats 1000000 in
theorem two7_c (a b : Int) (w : World) (h1 : a = 1) (h2 : b = 1) : Calls Tryd.prog 100 #[.int .i64 7, .int .i64 a, .int .i64 b] w fun e w' => e = .returned (.int .i64 (bitTwoF 7 a b)) ∧ w = w' := by
  have Hr : Hid (bitTwoF 7 a b = 1) := by show _ = _; unfold bitTwoF; simp <;> omega
  have q1 : (decide (a ≤ 0) && decide (0 ≤ a)) = false := eq_no (by omega)
  have q2 : (decide (b ≤ 0) && decide (0 ≤ b)) = false := eq_no (by omega)
  have q3 : (decide (a ≤ 1) && decide (1 ≤ a)) = true := eq_yes (by omega)
  have q4 : (decide (b ≤ 1) && decide (1 ≤ b)) = true := eq_yes (by omega)
  clear h1 h2
  go_enter Tryd.func100, Tryd.ntmps100
  go_wp2_with fail
  go_ret
  exact ⟨ret_int Hr.out.symm, rfl⟩
set_option maxHeartbeats 1000000 in
theorem two7_d (a b : Int) (w : World) (h1 : a = 1) (h2 : b ≠ 0) (h3 : b ≠ 1) : Calls Tryd.prog 100 #[.int .i64 7, .int .i64 a, .int .i64 b] w fun e w' => e = .returned (.int .i64 (bitTwoF 7 a b)) ∧ w = w' := by
  have Hr : Hid (bitTwoF 7 a b = 2) := by show _ = _; unfold bitTwoF; simp <;> omega
  have q1 : (decide (a ≤ 0) && decide (0 ≤ a)) = false := eq_no (by omega)
  have q2 : (decide (b ≤ 0) && decide (0 ≤ b)) = false := eq_no (by omega)
  have q3 : (decide (a ≤ 1) && decide (1 ≤ a)) = true := eq_yes (by omega)
  have q4 : (decide (b ≤ 1) && decide (1 ≤ b)) = false := eq_no (by omega)
  clear h1 h2 h3
  go_enter Tryd.func100, Tryd.ntmps100
  go_wp2_with fail
  go_ret
  exact ⟨ret_int Hr.out.symm, rfl⟩
set_option maxHeartbeats 1000000 in
theorem two7_e (a b : Int) (w : World) (h1 : a ≠ 0) (h2 : b ≠ 0) (h3 : a ≠ 1) : Calls Tryd.prog 100 #[.int .i64 7, .int .i64 a, .int .i64 b] w fun e w' => e = .returned (.int .i64 (bitTwoF 7 a b)) ∧ w = w' := by
  have Hr : Hid (bitTwoF 7 a b = 2) := by show _ = _; unfold bitTwoF; simp <;> omega
  have q1 : (decide (a ≤ 0) && decide (0 ≤ a)) = false := eq_no (by omega)
  have q2 : (decide (b ≤ 0) && decide (0 ≤ b)) = false := eq_no (by omega)
  have q3 : (decide (a ≤ 1) && decide (1 ≤ a)) = false := eq_no (by omega)
  clear h1 h2 h3
  go_enter Tryd.func100, Tryd.ntmps100
  go_wp2_with fail
  go_ret
  exact ⟨ret_int Hr.out.symm, rfl⟩
set_option maxHeartbeats 1000000 in
theorem two8_a (a b : Int) (w : World) (h1 : a = 1) : Calls Tryd.prog 100 #[.int .i64 8, .int .i64 a, .int .i64 b] w fun e w' => e = .returned (.int .i64 (bitTwoF 8 a b)) ∧ w = w' := by
  have Hr : Hid (bitTwoF 8 a b = 1) := by show _ = _; unfold bitTwoF; simp <;> omega
  have q1 : (decide (a ≤ 1) && decide (1 ≤ a)) = true := eq_yes (by omega)
  clear h1
  go_enter Tryd.func100, Tryd.ntmps100
  go_wp2_with fail
  go_ret
  exact ⟨ret_int Hr.out.symm, rfl⟩
set_option maxHeartbeats 1000000 in
theorem two8_b (a b : Int) (w : World) (h1 : a ≠ 1) (h2 : b = 1) : Calls Tryd.prog 100 #[.int .i64 8, .int .i64 a, .int .i64 b] w fun e w' => e = .returned (.int .i64 (bitTwoF 8 a b)) ∧ w = w' := by
  have Hr : Hid (bitTwoF 8 a b = 1) := by show _ = _; unfold bitTwoF; simp <;> omega
  have q1 : (decide (a ≤ 1) && decide (1 ≤ a)) = false := eq_no (by omega)
  have q2 : (decide (b ≤ 1) && decide (1 ≤ b)) = true := eq_yes (by omega)
  clear h1 h2
  go_enter Tryd.func100, Tryd.ntmps100
  go_wp2_with fail
  go_ret
  exact ⟨ret_int Hr.out.symm, rfl⟩
set_option maxHeartbeats 1000000 in
theorem two8_c (a b : Int) (w : World) (h1 : a = 0) (h2 : b = 0) : Calls Tryd.prog 100 #[.int .i64 8, .int .i64 a, .int .i64 b] w fun e w' => e = .returned (.int .i64 (bitTwoF 8 a b)) ∧ w = w' := by
  have Hr : Hid (bitTwoF 8 a b = 0) := by show _ = _; unfold bitTwoF; simp <;> omega
  have q1 : (decide (a ≤ 1) && decide (1 ≤ a)) = false := eq_no (by omega)
  have q2 : (decide (b ≤ 1) && decide (1 ≤ b)) = false := eq_no (by omega)
  have q3 : (decide (a ≤ 0) && decide (0 ≤ a)) = true := eq_yes (by omega)
  have q4 : (decide (b ≤ 0) && decide (0 ≤ b)) = true := eq_yes (by omega)
  clear h1 h2
  go_enter Tryd.func100, Tryd.ntmps100
  go_wp2_with fail
  go_ret
  exact ⟨ret_int Hr.out.symm, rfl⟩
set_option maxHeartbeats 1000000 in
theorem two8_d (a b : Int) (w : World) (h1 : a = 0) (h2 : b ≠ 1) (h3 : b ≠ 0) : Calls Tryd.prog 100 #[.int .i64 8, .int .i64 a, .int .i64 b] w fun e w' => e = .returned (.int .i64 (bitTwoF 8 a b)) ∧ w = w' := by
  have Hr : Hid (bitTwoF 8 a b = 2) := by show _ = _; unfold bitTwoF; simp <;> omega
  have q1 : (decide (a ≤ 1) && decide (1 ≤ a)) = false := eq_no (by omega)
  have q2 : (decide (b ≤ 1) && decide (1 ≤ b)) = false := eq_no (by omega)
  have q3 : (decide (a ≤ 0) && decide (0 ≤ a)) = true := eq_yes (by omega)
  have q4 : (decide (b ≤ 0) && decide (0 ≤ b)) = false := eq_no (by omega)
  clear h1 h2 h3
  go_enter Tryd.func100, Tryd.ntmps100
  go_wp2_with fail
  go_ret
  exact ⟨ret_int Hr.out.symm, rfl⟩
set_option maxHeartbeats 1000000 in
theorem two8_e (a b : Int) (w : World) (h1 : a ≠ 1) (h2 : b ≠ 1) (h3 : a ≠ 0) : Calls Tryd.prog 100 #[.int .i64 8, .int .i64 a, .int .i64 b] w fun e w' => e = .returned (.int .i64 (bitTwoF 8 a b)) ∧ w = w' := by
  have Hr : Hid (bitTwoF 8 a b = 2) := by show _ = _; unfold bitTwoF; simp <;> omega
  have q1 : (decide (a ≤ 1) && decide (1 ≤ a)) = false := eq_no (by omega)
  have q2 : (decide (b ≤ 1) && decide (1 ≤ b)) = false := eq_no (by omega)
  have q3 : (decide (a ≤ 0) && decide (0 ≤ a)) = false := eq_no (by omega)
  clear h1 h2 h3
  go_enter Tryd.func100, Tryd.ntmps100
  go_wp2_with fail
  go_ret
  exact ⟨ret_int Hr.out.symm, rfl⟩
theorem xor_01 {a b : Int} (h0 : 0 ≤ a) (h1 : a < 2) (h2 : 0 ≤ b) (h3 : b < 2) : bits .xor .i64 a b = if a = b then 0 else 1 := by
  have ha : a = 0 ∨ a = 1 := by omega
  have hb : b = 0 ∨ b = 1 := by omega
  rcases ha with rfl | rfl <;> rcases hb with rfl | rfl <;> decide
set_option maxHeartbeats 1000000 in
theorem two9_a (a b : Int) (w : World) (h0 : 0 ≤ a) (h1 : a < 2) (h2 : 0 ≤ b) (h3 : b < 2) : Calls Tryd.prog 100 #[.int .i64 9, .int .i64 a, .int .i64 b] w fun e w' => e = .returned (.int .i64 (bitTwoF 9 a b)) ∧ w = w' := by
  have Hr : Hid (bitTwoF 9 a b = if a = b then 0 else 1) := by show _ = _; unfold bitTwoF; simp [h1, h3]
  have Hx := hid (xor_01 h0 h1 h2 h3)
  go_enter Tryd.func100, Tryd.ntmps100
  go_wp2_with fail
  go_ret
  exact ⟨ret_int (Hx.out.trans Hr.out.symm), rfl⟩
set_option maxHeartbeats 1000000 in
theorem two9_b (a b : Int) (w : World) (h1 : a < 2) (h2 : ¬ b < 2) : Calls Tryd.prog 100 #[.int .i64 9, .int .i64 a, .int .i64 b] w fun e w' => e = .returned (.int .i64 (bitTwoF 9 a b)) ∧ w = w' := by
  have Hr : Hid (bitTwoF 9 a b = 2) := by show _ = _; unfold bitTwoF; simp <;> omega
  have q1 : decide (a < 2) = true := decide_eq_true h1
  have q2 : decide (b < 2) = false := decide_eq_false h2
  clear h1 h2
  go_enter Tryd.func100, Tryd.ntmps100
  go_wp2_with fail
  go_ret
  exact ⟨ret_int Hr.out.symm, rfl⟩
set_option maxHeartbeats 1000000 in
theorem two9_c (a b : Int) (w : World) (h1 : ¬ a < 2) : Calls Tryd.prog 100 #[.int .i64 9, .int .i64 a, .int .i64 b] w fun e w' => e = .returned (.int .i64 (bitTwoF 9 a b)) ∧ w = w' := by
  have Hr : Hid (bitTwoF 9 a b = 2) := by show _ = _; unfold bitTwoF; simp <;> omega
  have q1 : decide (a < 2) = false := decide_eq_false h1
  clear h1
  go_enter Tryd.func100, Tryd.ntmps100
  go_wp2_with fail
  go_ret
  exact ⟨ret_int Hr.out.symm, rfl⟩
theorem bitTwo_any (op a b : Int) (w : World) (hop : op = 7 ∨ op = 8 ∨ op = 9) (ha : 0 ≤ a) (hb : 0 ≤ b) : Calls Tryd.prog 100 #[.int .i64 op, .int .i64 a, .int .i64 b] w fun e w' => e = .returned (.int .i64 (bitTwoF op a b)) ∧ w = w' := by
  rcases hop with rfl | rfl | rfl
  · by_cases h1 : a = 0
    · exact two7_a a b w h1
    by_cases h2 : b = 0
    · exact two7_b a b w h1 h2
    by_cases h3 : a = 1
    · by_cases h4 : b = 1
      · exact two7_c a b w h3 h4
      · exact two7_d a b w h3 h2 h4
    · exact two7_e a b w h1 h2 h3
  · by_cases h1 : a = 1
    · exact two8_a a b w h1
    by_cases h2 : b = 1
    · exact two8_b a b w h1 h2
    by_cases h3 : a = 0
    · by_cases h4 : b = 0
      · exact two8_c a b w h3 h4
      · exact two8_d a b w h3 h2 h4
    · exact two8_e a b w h1 h2 h3
  · by_cases h1 : a < 2
    · by_cases h2 : b < 2
      · exact two9_a a b w ha h1 hb h2
      · exact two9_b a b w h1 h2
    · exact two9_c a b w h1

theorem bit_one (x : BitVec 64) {i : Nat} (hi : i < 64) : bits .and .i64 (bi (x.sshiftRight i)) 1 = bitI x i := by
  rw [show (1 : Int) = bi 1#64 from rfl, bits_and_bv]
  have h : x.sshiftRight i &&& 1#64 = if x.getLsbD i then 1#64 else 0#64 := by
    refine BitVec.eq_of_getLsbD_eq fun j hj => ?_
    rw [BitVec.getLsbD_and, sshr_at _ _ _ hj, BitVec.getLsbD_one]
    by_cases e : j = 0
    · subst e
      rw [show min (i + 0) 63 = i by omega]
      cases x.getLsbD i <;> simp
    · cases x.getLsbD i <;> simp [e]
  rw [h]
  unfold bitI
  cases x.getLsbD i <;> rfl
theorem bit_one' (x : BitVec 64) {i : Nat} (hi : i < 64) : bits .and .i64 (bi x / 2 ^ i) 1 = bitI x i := by rw [shr_bi', bit_one x hi]
set_option maxRecDepth 100000 in
theorem one_lt : ∀ m : Fin 64, IntKind.i64.wrap (2 ^ m.val) = bi (oneB m.val) := by decide +kernel
theorem one_i {m : Nat} (h : m < 64) : IntKind.i64.wrap (2 ^ m) = bi (oneB m) := one_lt ⟨m, h⟩
theorem wrapu_nat {k : Nat} (h : k < 64) : IntKind.u64.wrap (k : Int) = (k : Int) := by rw [IntKind.wrap_u64]; omega

set_option maxRecDepth 100000 in
set_option maxHeartbeats 1000000 in
theorem bitsOf_any (x : BitVec 64) (w : World) :
    Calls Tryd.prog 99 #[.int .i64 (bi x)] w fun e w' => ∃ g, e = .returned (.slice (some ⟨g, 0, none⟩) 64 64) ∧ NewRow w w' g (codeF (Kn.num x)) := by
  have hmk := make64
  have Hm := hid (NewRow.made w)
  go_enter Tryd.func99, Tryd.ntmps99
  go_wp2_with fail
  clear hmk
  go_loopw [4] (fun i wr => ∃ k : Nat, k ≤ 64 ∧ i = .int .i64 k ∧ NewRow w wr w.heap.size (fun j => if j < k then bitI x j else 0)) (fun i _ => 64 - (intOf i).toNat)
  case atStart => exact ⟨0, Nat.zero_le _, rfl, Hm.out.zero (F := bitI x)⟩
  case round =>
    obtain ⟨k, hk, rfl, hst⟩ := hrel
    have Hst := hid hst
    by_cases hlt : k < 64
    · have c0 := hst.at hlt
      have f0 := hst.fz k
      have z0 := hst.lt
      have hwu := wrapu_nat hlt
      have hb1 := bit_one' x hlt
      clear hst
      go_wp2_with fail
      go_roundw
      case rel => exact ⟨k + 1, by omega, by go_num, Hst.out.step (F := bitI x)⟩
      case measure => simp [intOf]; omega
    · obtain rfl : k = 64 := by omega
      clear hst
      go_wp2_with fail
      go_ret
      exact ⟨w.heap.size, rfl, (Hst.out.done (F := bitI x)).congr fun j hj => (code_num x hj).symm⟩

set_option maxRecDepth 100000 in
set_option maxHeartbeats 1000000 in
theorem bitsNumber_any (g : Nat) (k : Kn) (w : World) (hr : RowAt w g k) (ha : k.Apart) :
    Calls Tryd.prog 101 #[.slice (some ⟨g, 0, none⟩) 64 64] w fun e w' => e = .returned (.int .i64 (bi k.on)) ∧ w = w' := by
  have Hr := hid hr
  have Ha := hid ha
  have H0 : Hid (bi (k.on &&& maskF 0) = 0) := by show _ = _; rw [mask_none]; rfl
  clear hr ha
  go_enter Tryd.func101, Tryd.ntmps101
  go_wp2_with fail
  go_loop [3, 4] (fun s i => ∃ j : Nat, j ≤ 64 ∧ i = .int .i64 j ∧ s = .int .i64 (bi (k.on &&& maskF j))) (fun _ i => 64 - (intOf i).toNat)
  case atStart => exact ⟨0, Nat.zero_le _, rfl, by rw [H0.out]⟩
  case round =>
    obtain ⟨j, hj, rfl, rfl⟩ := hrel
    by_cases hlt : j < 64
    · have c0 := Hr.out.at hlt
      have hwu := wrapu_nat hlt
      have h1 := one_i hlt
      have hc := code_one Ha.out hlt
      obtain ⟨c, hce⟩ : ∃ c, c = codeF k j := ⟨_, rfl⟩
      rw [← hce] at c0 hc
      clear hce
      by_cases hx : c = 1
      · have Hn : Hid (k.on &&& maskF (j + 1) = (k.on &&& maskF j) ||| oneB j) := mask_yes (hc.1 hx)
        have q1 : (decide (c ≤ 1) && decide (1 ≤ c)) = true := eq_yes hx
        clear hx hc
        go_wp2_with fail
        go_round
        case rel => exact ⟨j + 1, by omega, by go_num, by rw [Hn.out]⟩
        case measure => simp [intOf]; omega
      · have Hn : Hid (k.on &&& maskF (j + 1) = k.on &&& maskF j) := mask_no (by cases e : k.on.getLsbD j with | false => rfl | true => exact absurd (hc.2 e) hx)
        have q1 : (decide (c ≤ 1) && decide (1 ≤ c)) = false := eq_no hx
        clear hx hc
        go_wp2_with fail
        go_round
        case rel => exact ⟨j + 1, by omega, by go_num, by rw [Hn.out]⟩
        case measure => simp [intOf]; omega
    · obtain rfl : j = 64 := by omega
      have Hn := hid (mask_all k.on)
      go_wp2_with fail
      go_ret
      exact ⟨by rw [Hn.out]; rfl, rfl⟩

set_option maxRecDepth 100000 in
set_option maxHeartbeats 1000000 in
theorem bitsSure_any (g : Nat) (k : Kn) (w : World) (hr : RowAt w g k) (ha : k.Apart) :
    Calls Tryd.prog 103 #[.slice (some ⟨g, 0, none⟩) 64 64] w fun e w' => e = .returned (.bool (sureB k)) ∧ w = w' := by
  have Hr := hid hr
  have Hs := hid (sure_codes ha)
  clear hr ha
  go_enter Tryd.func103, Tryd.ntmps103
  go_wp2_with fail
  go_loop [3] (fun i => ∃ j : Nat, j ≤ 64 ∧ i = .int .i64 j ∧ ∀ x, x < j → codeF k x < 2) (fun i => 64 - (intOf i).toNat)
  case atStart => exact ⟨0, Nat.zero_le _, rfl, fun x hx => by omega⟩
  case round =>
    obtain ⟨j, hj, rfl, hall⟩ := hrel
    have Hall := hid hall
    clear hall
    by_cases hlt : j < 64
    · have c0 := Hr.out.at hlt
      obtain ⟨c, hce⟩ : ∃ c, c = codeF k j := ⟨_, rfl⟩
      rw [← hce] at c0
      have Hc := hid hce
      clear hce
      by_cases hx : c < 2
      · have q1 : decide (1 < c) = false := decide_eq_false (by omega)
        have Hn := hid (ext_lt Hall.out (by rw [← Hc.out]; exact hx))
        clear hx
        go_wp2_with fail
        go_round
        case rel => exact ⟨j + 1, by omega, by go_num, Hn.out⟩
        case measure => simp [intOf]; omega
      · have q1 : decide (1 < c) = true := decide_eq_true (by omega)
        have Hn : Hid (sureB k = false) := by
          show _ = _
          cases e : sureB k with
          | false => rfl
          | true => exact absurd (Hs.out.1 e j hlt) (by rw [← Hc.out]; exact hx)
        clear hx
        go_wp2_with fail
        go_ret
        exact ⟨by rw [Hn.out]; rfl, rfl⟩
    · obtain rfl : j = 64 := by omega
      have Hn : Hid (sureB k = true) := Hs.out.2 Hall.out
      go_wp2_with fail
      go_ret
      exact ⟨by rw [Hn.out]; rfl, rfl⟩

set_option maxRecDepth 100000 in
set_option maxHeartbeats 2000000 in
theorem bitsLow_any (x : BitVec 64) (ga gb : Nat) (a b : Kn) (w : World) (hra : RowAt w ga a) (hrb : RowAt w gb b) (ha : a.Apart) (hb : b.Apart) :
    Calls Tryd.prog 102 #[.int .i64 (bi x), .slice (some ⟨ga, 0, none⟩) 64 64, .slice (some ⟨gb, 0, none⟩) 64 64] w fun e w' => ∃ g, e = .returned (.slice (some ⟨g, 0, none⟩) 64 64) ∧ NewRow w w' g (codeF (lowF x (lowM a b))) := by
  have Ha := hid hra
  have Hb := hid hrb
  obtain ⟨m, hm⟩ : ∃ m, m = lowM a b := ⟨_, rfl⟩
  have hm64 : m ≤ 64 := by rw [hm]; exact lowM_le a b
  have Hlt : Hid (∀ i, i < m → codeF a i < 2 ∧ codeF b i < 2) := fun i h => lowM_lt ha hb (by rw [← hm]; exact h)
  have Hend : Hid (m < 64 → ¬ (codeF a m < 2 ∧ codeF b m < 2)) := fun h => by rw [hm] at h ⊢; exact lowM_end ha hb h
  rw [← hm]
  clear hra hrb ha hb hm
  go_enter Tryd.func102, Tryd.ntmps102
  go_wp2_with (go_at_call 59; refine (bitsAll_any 2 _ ⟨by omega, by omega⟩).mono ?_; rintro e w1 ⟨G, rfl, hG⟩; have HG := hid hG; clear hG)
  go_loopw [8] (fun i wr => ∃ k : Nat, k ≤ m ∧ i = .int .i64 k ∧ NewRow w wr G (fun j => if j < k then bitI x j else 2)) (fun i _ => 64 - (intOf i).toNat)
  case atStart => exact ⟨0, Nat.zero_le _, rfl, HG.out.zero (F := bitI x)⟩
  case round =>
    obtain ⟨k, hk, rfl, hst⟩ := hrel
    have Hst := hid hst
    by_cases hlt : k < m
    · have hlt64 : k < 64 := by omega
      have c0 := hst.at hlt64
      have f0 := hst.fz k
      have z0 := hst.lt
      have ca := (Ha.out.later hst.old).at hlt64
      have cb := (Hb.out.later hst.old).at hlt64
      have hh := Hlt.out k hlt
      obtain ⟨u, hu⟩ : ∃ u, u = codeF a k := ⟨_, rfl⟩
      obtain ⟨v, hv⟩ : ∃ v, v = codeF b k := ⟨_, rfl⟩
      rw [← hu] at ca hh
      rw [← hv] at cb hh
      have q0 : decide (u < 2) = true := decide_eq_true hh.1
      have q1 : decide (v < 2) = true := decide_eq_true hh.2
      have hwu := wrapu_nat hlt64
      have hb1 := bit_one' x hlt64
      clear hst hu hv hh
      go_wp2_with fail
      go_roundw
      case rel => exact ⟨k + 1, by omega, by go_num, Hst.out.step (F := bitI x)⟩
      case measure => simp [intOf]; omega
    · obtain rfl : k = m := by omega
      have Hdone : Hid (NewRow w wr G (codeF (lowF x k))) := hst.congr fun j hj => (code_low x k hj).symm
      by_cases h64 : k < 64
      · have ca := (Ha.out.later hst.old).at h64
        have cb := (Hb.out.later hst.old).at h64
        have hh := Hend.out h64
        obtain ⟨u, hu⟩ : ∃ u, u = codeF a k := ⟨_, rfl⟩
        obtain ⟨v, hv⟩ : ∃ v, v = codeF b k := ⟨_, rfl⟩
        rw [← hu] at ca hh
        rw [← hv] at cb hh
        clear hst hu hv
        by_cases hu2 : u < 2
        · have q0 : decide (u < 2) = true := decide_eq_true hu2
          have q1 : decide (v < 2) = false := decide_eq_false fun h => hh ⟨hu2, h⟩
          clear hh hu2
          go_wp2_with fail
          go_ret
          exact ⟨G, rfl, Hdone.out⟩
        · have q0 : decide (u < 2) = false := decide_eq_false hu2
          clear hh hu2
          go_wp2_with fail
          go_ret
          exact ⟨G, rfl, Hdone.out⟩
      · clear hst
        go_wp2_with fail
        go_ret
        exact ⟨G, rfl, Hdone.out⟩

set_option maxRecDepth 100000 in
set_option maxHeartbeats 2000000 in
theorem bitsPair_any (g : Nat) (k : Kn) (w : World) (hr : RowAt w g k) :
    Calls Tryd.prog 31 #[.slice (some ⟨g, 0, none⟩) 64 64] w fun e w' => e = .returned (.tuple #[.int .i64 (bi k.off), .int .i64 (bi k.on)]) ∧ w = w' := by
  have Hr := hid hr
  have H0 : Hid (bi (k.on &&& maskF 0) = 0) := by show _ = _; rw [mask_none]; rfl
  have H1 : Hid (bi (k.off &&& maskF 0) = 0) := by show _ = _; rw [mask_none]; rfl
  clear hr
  go_enter Tryd.func31, Tryd.ntmps31
  go_wp2_with fail
  go_loop [4, 5, 6] (fun s t i => ∃ j : Nat, j ≤ 64 ∧ i = .int .i64 j ∧ s = .int .i64 (bi (k.off &&& maskF j)) ∧ t = .int .i64 (bi (k.on &&& maskF j))) (fun _ _ i => 64 - (intOf i).toNat)
  case atStart => exact ⟨0, Nat.zero_le _, rfl, by rw [H1.out], by rw [H0.out]⟩
  case round =>
    obtain ⟨j, hj, rfl, rfl, rfl⟩ := hrel
    by_cases hlt : j < 64
    · have c0 := Hr.out.at hlt
      have hwu := wrapu_nat hlt
      have h1 := one_i hlt
      have ho := code_off k j
      have hn := code_on k j
      have hrg := codeF_range k j
      obtain ⟨c, hce⟩ : ∃ c, c = codeF k j := ⟨_, rfl⟩
      rw [← hce] at c0 ho hn hrg
      clear hce
      have hcs : c = 0 ∨ c = 1 ∨ c = 2 ∨ c = 3 := by omega
      have noF : ∀ b : Bool, ¬ b = true → b = false := fun b h => by cases b <;> simp_all
      rcases hcs with rfl | rfl | rfl | rfl
      · have Ho : Hid (k.off &&& maskF (j + 1) = (k.off &&& maskF j) ||| oneB j) := mask_yes (ho.1 (by omega))
        have Hn : Hid (k.on &&& maskF (j + 1) = k.on &&& maskF j) := mask_no (noF _ fun e => by have := hn.2 e; omega)
        clear ho hn hrg noF
        go_wp2_with fail
        go_round
        case rel => exact ⟨j + 1, by omega, by go_num, by rw [Ho.out], by rw [Hn.out]⟩
        case measure => simp [intOf]; omega
      · have Ho : Hid (k.off &&& maskF (j + 1) = k.off &&& maskF j) := mask_no (noF _ fun e => by have := ho.2 e; omega)
        have Hn : Hid (k.on &&& maskF (j + 1) = (k.on &&& maskF j) ||| oneB j) := mask_yes (hn.1 (by omega))
        clear ho hn hrg noF
        go_wp2_with fail
        go_round
        case rel => exact ⟨j + 1, by omega, by go_num, by rw [Ho.out], by rw [Hn.out]⟩
        case measure => simp [intOf]; omega
      · have Ho : Hid (k.off &&& maskF (j + 1) = k.off &&& maskF j) := mask_no (noF _ fun e => by have := ho.2 e; omega)
        have Hn : Hid (k.on &&& maskF (j + 1) = k.on &&& maskF j) := mask_no (noF _ fun e => by have := hn.2 e; omega)
        clear ho hn hrg noF
        go_wp2_with fail
        go_round
        case rel => exact ⟨j + 1, by omega, by go_num, by rw [Ho.out], by rw [Hn.out]⟩
        case measure => simp [intOf]; omega
      · have Ho : Hid (k.off &&& maskF (j + 1) = (k.off &&& maskF j) ||| oneB j) := mask_yes (ho.1 (by omega))
        have Hn : Hid (k.on &&& maskF (j + 1) = (k.on &&& maskF j) ||| oneB j) := mask_yes (hn.1 (by omega))
        clear ho hn hrg noF
        go_wp2_with fail
        go_round
        case rel => exact ⟨j + 1, by omega, by go_num, by rw [Ho.out], by rw [Hn.out]⟩
        case measure => simp [intOf]; omega
    · obtain rfl : j = 64 := by omega
      have Ho := hid (mask_all k.off)
      have Hn := hid (mask_all k.on)
      go_wp2_with fail
      go_ret2
      exact ⟨by rw [Ho.out, Hn.out]; rfl, rfl⟩

end Go.Proofs.YtaehkcnankijfaaDoor

namespace Go.Proofs.YtaehkcnankijfaaDoor
open Go.RowKit

/-- The document's table in memory: a row of rows. -/
structure LTab (base : Nat) (W : World) (LB : Nat) (t : Tb) : Prop where
  row : ∀ r, r < t.length → ∃ g, W.cell? ⟨LB, r, none⟩ = some (.slice (some ⟨g, 0, none⟩) 64 64) ∧ base ≤ g ∧ g ≠ LB ∧ RowAt W g (tbAt t r)
  fz : ∀ r, r < t.length → W.frozen? ⟨LB, r, none⟩ = false
/-- The same, and all else of an earlier world is kept. -/
structure LtSt (W0 W : World) (base LB : Nat) (t : Tb) : Prop where
  size : W0.heap.size ≤ W.heap.size
  keep : ∀ b, b < W0.heap.size → (0 < t.length → b ≠ LB) → W.heap[b]? = W0.heap[b]?
  env : W.os = W0.os ∧ W.tape = W0.tape ∧ W.output = W0.output
  tab : LTab base W LB t
  ge : 0 < t.length → base ≤ LB
section
variable {W0 W W' : World} {base LB : Nat} {t : Tb}
theorem LTab.lt (h : LTab base W LB t) (h0 : 0 < t.length) : LB < W.heap.size := by obtain ⟨g, h1, -⟩ := h.row 0 h0; exact cell_lt h1
theorem LTab.later (h : LTab base W LB t) (hb : Below W.heap.size W W') : LTab base W' LB t :=
  ⟨fun r hr => (by obtain ⟨g, h1, h2, h3, h4⟩ := h.row r hr; exact ⟨g, cell_later' h1 hb, h2, h3, h4.later hb⟩), fun r hr => (hb.frozen (p := ⟨LB, r, none⟩) (by dsimp only; exact h.lt (by omega))).trans (h.fz r hr)⟩
theorem LtSt.later (h : LtSt W0 W base LB t) (hb : Below W.heap.size W W') : LtSt W0 W' base LB t := by
  have hz := h.size
  exact ⟨Nat.le_trans hz hb.size, fun b h1 h2 => (hb.block b (by omega)).trans (h.keep b h1 h2), ⟨hb.os.trans h.env.1, hb.tape.trans h.env.2.1, hb.output.trans h.env.2.2⟩, h.tab.later hb, h.ge⟩
theorem LtSt.anew (h : LtSt W0 W base LB t) : LtSt W W base LB t := ⟨Nat.le_refl _, fun _ _ _ => rfl, ⟨rfl, rfl, rfl⟩, h.tab, h.ge⟩
theorem LtSt.trans {t' : Tb} (h : LtSt W0 W base LB t) (hl : t'.length = t.length) (k : LtSt W W' base LB t') : LtSt W0 W' base LB t' := by
  have hz := h.size
  exact ⟨Nat.le_trans hz k.size, fun b h1 h2 => (k.keep b (by omega) h2).trans (h.keep b h1 (by rw [← hl]; exact h2)), ⟨k.env.1.trans h.env.1, k.env.2.1.trans h.env.2.1, k.env.2.2.trans h.env.2.2⟩, k.tab, k.ge⟩
theorem LtSt.cell (h : LtSt W0 W base LB t) {b o : Nat} {v : Value} (hc : W0.cell? ⟨b, o, none⟩ = some v) (h1 : 0 < t.length → b ≠ LB) : W.cell? ⟨b, o, none⟩ = some v := by
  rw [World.cell?_of_block (w := W0) (a := ⟨b, o, none⟩) (h.keep b (cell_lt hc) h1)]; exact hc
theorem LtSt.sl {α : Type} {r : Rp α} (hr : r.Mono) {S : Nat → Prop} {sz : Nat} {v : Value} {l : List α} (h : LtSt W0 W base LB t) (hS : ∀ b, S b → 0 < t.length → b ≠ LB) (hs : SlAt S W0 sz r v l) : SlAt S W sz r v l :=
  hs.mono hr (fun _ h => h) (stays_at fun b hb hl => h.keep b hl (hS b hb))
theorem LtSt.below {w : World} (h : LtSt W0 W base LB t) (hb : Below w.heap.size w W0) (h1 : w.heap.size ≤ base) : Below w.heap.size w W := by
  have hz := hb.size
  exact ⟨h.env.1.trans hb.os, h.env.2.1.trans hb.tape, h.env.2.2.trans hb.output, Nat.le_trans hz h.size, fun k hk => (h.keep k (by omega) (fun h0 => by have := h.ge h0; omega)).trans (hb.block k hk)⟩
theorem RowAt.setOther {g : Nat} {k : Kn} (h : RowAt W g k) {b o : Nat} (hb : g ≠ b) (v : Value) : RowAt (W.setCell ⟨b, o, none⟩ v) g k := fun x hx => by
  rw [cell_set_ne _ hb]; exact h x hx
theorem LtSt.set (h : LtSt W0 W base LB t) {d G : Nat} (hd : d < t.length) {k : Kn} (hG : RowAt W G k) (hb : base ≤ G) (hGL : G ≠ LB) : LtSt W0 (W.setCell ⟨LB, d, none⟩ (.slice (some ⟨G, 0, none⟩) 64 64)) base LB (t.set d k) := by
  have hl : (t.set d k).length = t.length := List.length_set ..
  have h0 : 0 < t.length := by omega
  refine ⟨by simpa [World.setCell] using h.size, fun b h1 h2 => ?_, h.env, ⟨fun r hr => ?_, fun r hr => ?_⟩, fun _ => h.ge h0⟩
  · rw [Below.heap_setCell _ _ _ _ (by dsimp only; exact h2 (by rw [hl]; exact h0))]
    exact h.keep b h1 (by rw [← hl]; exact h2)
  · rw [hl] at hr
    obtain ⟨gd, e1, -⟩ := h.tab.row d hd
    by_cases hrd : r = d
    · subst hrd
      refine ⟨G, by rw [cell_set e1, if_pos rfl], hb, hGL, ?_⟩
      have e : tbAt (t.set r k) r = k := by unfold tbAt; rw [List.getD_eq_getElem?_getD, List.getElem?_set, if_pos rfl, if_pos hd]; rfl
      rw [e]; exact hG.setOther hGL _
    · obtain ⟨g, g1, g2, g3, g4⟩ := h.tab.row r hr
      refine ⟨g, by rw [cell_set e1, if_neg hrd]; exact g1, g2, g3, ?_⟩
      have e : tbAt (t.set d k) r = tbAt t r := by unfold tbAt; rw [List.getD_eq_getElem?_getD, List.getElem?_set, if_neg (Ne.symm hrd), ← List.getD_eq_getElem?_getD]
      rw [e]; exact g4.setOther g3 _
  · rw [hl] at hr
    have := h.tab.fz r hr
    simp only [World.frozen?, World.setCell, Array.getElem?_modify] at this ⊢
    cases hh : W.heap[LB]? with
    | none => simp
    | some o =>
      rw [hh] at this
      cases o <;> simp_all
end

set_option maxRecDepth 100000 in
set_option maxHeartbeats 1000000 in
theorem bitsVal_any (W : World) (base LB n cap : Nat) (la : Option Addr) (t : Tb) (r : Bool) (m : Int) (ht : LTab base W LB t) (hbase : base ≤ W.heap.size) (hl : t.length = n) (_hn : n ≤ 1048576) (hla : r = true → la = some ⟨LB, 0, none⟩) (hm : I64 m) (hv : r = true → 0 ≤ m ∧ m < (n : Int)) :
    Calls Tryd.prog 61 #[.slice la n cap, .agg #[.bool r, .int .i64 m]] W fun e w' => ∃ g, e = .returned (.slice (some ⟨g, 0, none⟩) 64 64) ∧ Below W.heap.size W w' ∧ RowAt w' g (valK t ⟨r, m⟩) ∧ base ≤ g ∧ (0 < t.length → g ≠ LB) := by
  cases r with
  | true =>
    obtain ⟨h0, h1⟩ := hv rfl
    obtain ⟨q, rfl⟩ := Int.eq_ofNat_of_zero_le h0
    obtain ⟨g, g1, g2, g3, g4⟩ := ht.row q (by omega)
    have hqn : q < n := by omega
    have zL : LB < W.heap.size := cell_lt g1
    have Hk : Hid (valK t ⟨true, (q : Int)⟩ = tbAt t q) := by show _ = _; unfold valK; simp
    have Hg := hid g4
    have hla2 := hla rfl
    subst hla2
    clear hv hl h0 h1 hm ht g4 hla
    go_enter Tryd.func61, Tryd.ntmps61
    go_wp2_with fail
    go_ret
    have hb : Below W.heap.size W (W.alloc (.cells #[.bool true, .int .i64 (q : Int)] 41)) := by (repeat (first | exact Below.refl _ _ | refine Below.alloc ?_ (by first | omega | (simp <;> omega)) _ | refine Below.setCell ?_ (by first | omega | (simp <;> omega)) _ | refine below_drewN ?_ _ | refine Below.drew ?_))
    exact ⟨g, rfl, hb, by rw [Hk.out]; exact Hg.out.later hb, g2, fun _ => g3⟩
  | false =>
    have Hk : Hid (valK t ⟨false, m⟩ = Kn.num (bvOf m)) := by show _ = _; unfold valK; simp
    have Hm : Hid (bi (bvOf m) = m) := bi_of hm
    have HL : Hid (0 < t.length → LB < W.heap.size) := fun h => ht.lt h
    obtain ⟨x, hx⟩ : ∃ x, x = bvOf m := ⟨_, rfl⟩
    rw [← hx] at Hk Hm
    have e := Hm.out
    rw [← e]
    rw [← e] at Hk
    clear hv hl hx e Hm ht hla
    go_enter Tryd.func61, Tryd.ntmps61
    go_wp2_with (go_at_call 99; refine (bitsOf_any x _).mono ?_; rintro e w1 ⟨G, rfl, hG⟩; have HG := hid hG; clear hG)
    go_ret
    have hb : Below W.heap.size W (W.alloc (.cells #[.bool false, .int .i64 (bi x)] 41)) := by (repeat (first | exact Below.refl _ _ | refine Below.alloc ?_ (by first | omega | (simp <;> omega)) _ | refine Below.setCell ?_ (by first | omega | (simp <;> omega)) _ | refine below_drewN ?_ _ | refine Below.drew ?_))
    have h2 := HG.out.first hb
    refine ⟨G, rfl, h2.old, by rw [Hk.out]; exact h2.rowAt, by have := h2.ge; omega, fun h => ?_⟩
    have := HL.out h
    have := h2.ge
    omega

set_option maxRecDepth 100000 in
set_option maxHeartbeats 4000000 in
theorem bitsPut_any (W0 W : World) (base LB n cap d gm : Nat) (t : Tb) (k : Kn) (ht : LtSt W0 W base LB t) (hbase : base ≤ W.heap.size) (hl : t.length = n) (_hn : n ≤ 1048576) (hd : d < n) (hr : RowAt W gm k) :
    Calls Tryd.prog 60 #[.slice (some ⟨LB, 0, none⟩) n cap, .int .i64 (d : Int), .slice (some ⟨gm, 0, none⟩) 64 64] W fun e w' => e = .returned (.bool (decide (k.meet (tbAt t d) ≠ tbAt t d))) ∧ LtSt W0 w' base LB (putF t d k) := by
  obtain ⟨gd, g1, g2, g3, g4⟩ := ht.tab.row d (by omega)
  have hmk := make64
  have HM := hid (NewRow.made W)
  have Ht := hid ht
  have Hr := hid hr
  have Hg := hid g4
  have fL := ht.tab.fz d (by omega)
  obtain ⟨x, hx⟩ : ∃ x, x = tbAt t d := ⟨_, rfl⟩
  rw [← hx] at Hg
  rw [← hx]
  have Hx := hid hx
  obtain ⟨m, hm⟩ : ∃ m, m = k.meet x := ⟨_, rfl⟩
  have Hm := hid hm
  rw [← hm]
  have zL : LB < W.heap.size := cell_lt g1
  have i0 : (0 : Int) ≤ (d : Int) := by omega
  have i1 : (d : Int) < (n : Int) := by omega
  have Hl := hid hl
  have G1 := hid g1
  have FL := hid fL
  clear ht hr g4 hx hm hl g1 fL
  go_enter Tryd.func60, Tryd.ntmps60
  go_wp2_with fail
  clear hmk
  go_loopw [7, 9] (fun s7 s9 wr => ∃ j : Nat, j ≤ 64 ∧ s9 = .int .i64 j ∧ s7 = .bool (diffTo m x j) ∧ NewRow W wr W.heap.size (fun y => if y < j then codeF m y else 0)) (fun _ s9 _ => 64 - (intOf s9).toNat)
  case atStart => exact ⟨0, Nat.zero_le _, rfl, rfl, HM.out.zero (F := codeF m)⟩
  case round =>
    obtain ⟨j, hj, rfl, rfl, hst⟩ := hrel
    have Hst := hid hst
    have g1 := cell_later' G1.out hst.old
    by_cases hlt : j < 64
    · have c0 := hst.at hlt
      have f0 := hst.fz j
      have z0 := hst.lt
      have ca := (Hg.out.later hst.old).at hlt
      have cb := (Hr.out.later hst.old).at hlt
      have hmc : meetC (codeF x j) (codeF k j) = codeF m j := by rw [meetC_code, Kn.meet_comm, Hm.out]
      obtain ⟨a, ha⟩ : ∃ a, a = codeF x j := ⟨_, rfl⟩
      obtain ⟨b, hb⟩ : ∃ b, b = codeF k j := ⟨_, rfl⟩
      obtain ⟨c, hc⟩ : ∃ c, c = codeF m j := ⟨_, rfl⟩
      rw [← ha] at ca hmc
      rw [← hb] at cb hmc
      rw [← hc] at hmc
      have Hmc := hid hmc
      have Hd : Hid (diffTo m x (j + 1) = (diffTo m x j || decide (c ≠ a))) := by show _ = _; rw [diffTo, hc, ha]
      have Hc := hid hc
      obtain ⟨o, ho⟩ : ∃ o, o = diffTo m x j := ⟨_, rfl⟩
      rw [← ho] at Hd ⊢
      have j0 : (0 : Int) ≤ (j : Int) := by omega
      have j1 : (j : Int) < 64 := by omega
      clear hst ha hb hc hmc ho
      go_wp2_with fail
      refine wp_region_still_tail 15 (by kernel_rfl) (by kernel_rfl) ?_
      simp only [List.take_succ_cons, List.take_zero, List.drop_succ_cons, List.drop_zero]
      repeat still_step
      still_call ((bitMeet_any a b _).mono fun _ _ h => ⟨h.1, h.2.symm⟩)
      repeat still_step
      refine wpStill_nil ?_
      rw [Hmc.out]
      change wpList _ _ _ _ _ wr.drew
      have hb0 : Below wr.heap.size wr wr.drew := (Below.refl _ _).drew
      have Hst2 := hid (Hst.out.later hb0)
      have c0 : wr.drew.cell? _ = _ := c0
      have f0 : wr.drew.frozen? _ = _ := f0
      have ca : wr.drew.cell? _ = _ := ca
      have g1 : wr.drew.cell? _ = _ := g1
      generalize wr.drew = w2 at Hst2 c0 f0 ca g1 ⊢
      clear hb0
      go_wp2_with fail
      have hst3 : NewRow W (w2.setCell ⟨W.heap.size, j, none⟩ (.int .i64 c)) W.heap.size (fun y => if y < j + 1 then codeF m y else 0) := by
        rw [Hc.out]; exact Hst2.out.step (F := codeF m)
      have hgd : gd < W.heap.size := Hg.out.lt
      have hGL : LB ≠ W.heap.size := by omega
      have hgG : gd ≠ W.heap.size := by omega
      have c0 : (w2.setCell ⟨W.heap.size, j, none⟩ (.int .i64 c)).cell? ⟨W.heap.size, j, none⟩ = some (.int .i64 c) := by rw [cell_set c0, if_pos rfl]
      have ca : (w2.setCell ⟨W.heap.size, j, none⟩ (.int .i64 c)).cell? ⟨gd, j, none⟩ = some (.int .i64 a) := by rw [cell_set_ne _ hgG]; exact ca
      have g1 : (w2.setCell ⟨W.heap.size, j, none⟩ (.int .i64 c)).cell? ⟨LB, d, none⟩ = some (.slice (some ⟨gd, 0, none⟩) 64 64) := by rw [cell_set_ne _ hGL]; exact g1
      generalize w2.setCell ⟨W.heap.size, j, none⟩ (.int .i64 c) = w3 at hst3 c0 ca g1 ⊢
      have Hst3 := hid hst3
      clear hst3 Hst2 f0 cb Hst
      cases o with
      | true =>
        go_quiet (fail)
        go_wp2_with fail
        go_roundw
        case rel => exact ⟨j + 1, by omega, by go_num, by rw [Hd.out]; rfl, Hst3.out.later (by (repeat (first | exact Below.refl _ _ | refine Below.alloc ?_ (by first | omega | (simp <;> omega)) _ | refine Below.setCell ?_ (by first | omega | (simp <;> omega)) _ | refine below_drewN ?_ _ | refine Below.drew ?_)))⟩
        case measure => simp [intOf]; omega
      | false =>
        by_cases hca : c = a
        · have q0 : (decide (c < a) || decide (a < c)) = false := ne_no hca
          have Hd2 : Hid (diffTo m x (j + 1) = false) := by show _ = _; rw [Hd.out, decide_eq_false (fun h => h hca)]; rfl
          clear hca
          go_quiet (fail)
          go_wp2_with fail
          go_roundw
          case rel => exact ⟨j + 1, by omega, by go_num, by rw [Hd2.out], Hst3.out.later (by (repeat (first | exact Below.refl _ _ | refine Below.alloc ?_ (by first | omega | (simp <;> omega)) _ | refine Below.setCell ?_ (by first | omega | (simp <;> omega)) _ | refine below_drewN ?_ _ | refine Below.drew ?_)))⟩
          case measure => simp [intOf]; omega
        · have q0 : (decide (c < a) || decide (a < c)) = true := ne_yes hca
          have Hd2 : Hid (diffTo m x (j + 1) = true) := by show _ = _; rw [Hd.out, decide_eq_true hca]; rfl
          clear hca
          go_quiet (fail)
          go_wp2_with fail
          go_roundw
          case rel => exact ⟨j + 1, by omega, by go_num, by rw [Hd2.out], Hst3.out.later (by (repeat (first | exact Below.refl _ _ | refine Below.alloc ?_ (by first | omega | (simp <;> omega)) _ | refine Below.setCell ?_ (by first | omega | (simp <;> omega)) _ | refine below_drewN ?_ _ | refine Below.drew ?_)))⟩
          case measure => simp [intOf]; omega
    · obtain rfl : 64 = j := by omega
      have Hnew : Hid (NewRow W wr W.heap.size (codeF m)) := hst.done (F := codeF m)
      have fL := (hst.old.frozen (p := ⟨LB, d, none⟩) zL).trans FL.out
      have zL2 : LB < wr.heap.size := cell_lt g1
      have Hd := hid (diff_all m x)
      clear hst Hst
      go_wp2_with fail
      go_ret
      refine ⟨by rw [Hd.out]; rfl, ?_⟩
      have h1 := (Ht.out.later Hnew.out.old).set (d := d) (G := W.heap.size) (k := m) (by rw [Hl.out]; exact hd) Hnew.out.rowAt hbase (by omega)
      unfold putF
      rw [← Hx.out, ← Hm.out]
      exact h1

end Go.Proofs.YtaehkcnankijfaaDoor
