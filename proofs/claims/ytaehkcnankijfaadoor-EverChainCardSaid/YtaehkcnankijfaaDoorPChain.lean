/- EverChain: the law's walk. -/
import Derived.Test.YtaehkcnankijfaaDoorPChain0
import Derived.Test.YtaehkcnankijfaaDoorPEvSay
import Derived.Test.YtaehkcnankijfaaDoorPRefA
import Derived.Test.YtaehkcnankijfaaDoorPCopy
import Derived.BigQuiet
import Derived.Laws.Runes
import Derived.Laws.Concat
namespace Go.Proofs.YtaehkcnankijfaaDoor
open Go.RowKit

theorem infoFunc : (Tryd.prog.info? 35).map (fun i => (i.zero, i.size, i.bytes)) = some (some (.agg #[.string ⟨#[]⟩, .int .i64 0, .int .i64 0, .slice none 0 0]), 4, 56) := by kernel_rfl

@[go_sem ↓] theorem run_letter {k : Nat} (hk : k < 8) (w : World) : (convert 3 21 (.int .i64 (97 + (k : Int)))).run Tryd.prog w = .ok (.int .i32 (97 + (k : Int))) w := by
  rw [run_convert_int w 3 21 .i64 _ (by kernel_rfl) (by kernel_rfl)]
  have h : k = 0 ∨ k = 1 ∨ k = 2 ∨ k = 3 ∨ k = 4 ∨ k = 5 ∨ k = 6 ∨ k = 7 := by omega
  rcases h with rfl | rfl | rfl | rfl | rfl | rfl | rfl | rfl <;> show _ = _ <;> kernel_rfl
@[go_sem ↓] theorem run_rune {k : Nat} (hk : k < 8) (w : World) : (convert 21 9 (.int .i32 (97 + (k : Int)))).run Tryd.prog w = .ok (.string ⟨#[97 + UInt8.ofNat k]⟩) w := by
  rw [run_convert_int_string w 21 9 .i32 _ (by kernel_rfl) (by kernel_rfl)]
  have h : k = 0 ∨ k = 1 ∨ k = 2 ∨ k = 3 ∨ k = 4 ∨ k = 5 ∨ k = 6 ∨ k = 7 := by omega
  rcases h with rfl | rfl | rfl | rfl | rfl | rfl | rfl | rfl <;> show _ = _ <;> kernel_rfl

theorem heap_six (w : World) (a b c d e f : Obj) : ((((((w.alloc a).alloc b).alloc c).alloc d).alloc e).alloc f).heap.size = w.heap.size + 6 ∧
    ((((((w.alloc a).alloc b).alloc c).alloc d).alloc e).alloc f).heap[w.heap.size]? = some a ∧ ((((((w.alloc a).alloc b).alloc c).alloc d).alloc e).alloc f).heap[w.heap.size + 1 + 1]? = some c ∧
    ((((((w.alloc a).alloc b).alloc c).alloc d).alloc e).alloc f).heap[w.heap.size + 1 + 1 + 1 + 1]? = some e ∧ ((((((w.alloc a).alloc b).alloc c).alloc d).alloc e).alloc f).heap[w.heap.size + 1 + 1 + 1 + 1 + 1]? = some f := by
  obtain ⟨h1, h2, h3, h4⟩ := heap_three' w a b c
  obtain ⟨W, hW⟩ : ∃ W, W = ((w.alloc a).alloc b).alloc c := ⟨_, rfl⟩
  rw [← hW] at h1 h2 h3 h4 ⊢
  obtain ⟨g1, g2, g3, g4⟩ := heap_three' W d e f
  have hs : ∀ (v : World) (o : Obj), (v.alloc o).heap.size = v.heap.size + 1 := fun v o => by simp
  have s1 := hs W d
  have s2 := hs (W.alloc d) e
  rw [h1] at g1 g3 g4
  refine ⟨by omega, ?_, ?_, by rw [← g3], by rw [← g4]⟩
  · rw [Below.heap_alloc _ _ _ (by omega), Below.heap_alloc _ _ _ (by omega), Below.heap_alloc _ _ _ (by omega)]; exact h2
  · rw [Below.heap_alloc _ _ _ (by omega), Below.heap_alloc _ _ _ (by omega), Below.heap_alloc _ _ _ (by omega)]; exact h4
theorem one_at {α : Type} {S : Nat → Prop} {W : World} {g sz : Nat} {e : TypeId} {r : Rp α} {cs : List Value} {x : α} (hS : S g) (hc : W.heap[g]? = some (.cells cs.toArray e (0, 0))) (hl : cs.length = sz) (hr : r S W cs x) : SlAt S W sz r (.slice (some ⟨g, 0, none⟩) 1 1) [x] := by
  refine ⟨_, 1, rfl, Nat.le_refl _, by decide, fun _ => ⟨g, 0, rfl, hS, fun i y hy => ?_⟩⟩
  cases i with
  | zero =>
    cases hy
    refine ⟨cs, hr, hl, fun j v hj => ?_⟩
    rw [cell_row hc, List.getElem?_toArray, Nat.zero_add, Nat.zero_mul, Nat.zero_add]; exact hj
  | succ i => cases hy
theorem nil_at {α : Type} (S : Nat → Prop) (W : World) (sz : Nat) (r : Rp α) : SlAt S W sz r (.slice none 0 0) [] := ⟨none, 0, rfl, Nat.le_refl _, by decide, fun h => absurd rfl h⟩
/-- A linked function, as it lies in memory. -/
theorem link_at {S : Nat → Prop} {W : World} {P Q R k : Nat} (hk : k < 8) (hP : S P) (hQ : S Q) (hR : S R) (h1 : W.heap[P]? = some (.cells #[.bool true, .int .i64 0] 41 (0, 0)))
    (h2 : W.heap[Q]? = some (.cells #[.int .i64 20, .int .i64 1, .bool false, .int .i64 0, .bool false, .int .i64 0, .int .i64 ((k : Int) + 1), .slice (some ⟨P, 0, none⟩) 1 1] 70 (0, 0)))
    (h3 : W.heap[R]? = some (.cells #[.slice none 0 0, .slice (some ⟨Q, 0, none⟩) 1 1, .int .i64 1, .bool true, .int .i64 1, .slice none 0 0] 47 (0, 0))) :
    rFunc S W [.string (⟨#[102]⟩ ++ ⟨#[97 + UInt8.ofNat k]⟩), .int .i64 1, .int .i64 2, .slice (some ⟨R, 0, none⟩) 1 1] (linkF k) := by
  have i0 : I64 0 := ⟨by decide, by decide⟩
  have i1 : I64 1 := ⟨by decide, by decide⟩
  have i2 : I64 2 := ⟨by decide, by decide⟩
  have i20 : I64 20 := ⟨by decide, by decide⟩
  have ik : I64 ((k : Int) + 1) := ⟨by omega, by omega⟩
  have hv : SlAt S W 2 rVal (.slice (some ⟨P, 0, none⟩) 1 1) [⟨true, 0⟩] := one_at (cs := [.bool true, .int .i64 0]) hP h1 rfl ⟨rfl, by decide, by decide⟩
  have hq : SlAt S W 8 rIns (.slice (some ⟨Q, 0, none⟩) 1 1) (linkB k).list := one_at (cs := [.int .i64 20, .int .i64 1, .bool false, .int .i64 0, .bool false, .int .i64 0, .int .i64 ((k : Int) + 1), .slice (some ⟨P, 0, none⟩) 1 1]) hQ h2 rfl
    ⟨_, rfl, hv, i20, i1, i0, i0, ik⟩
  exact ⟨_, rfl, one_at (cs := [.slice none 0 0, .slice (some ⟨Q, 0, none⟩) 1 1, .int .i64 1, .bool true, .int .i64 1, .slice none 0 0]) hR h3 rfl
    ⟨_, _, _, rfl, nil_at _ _ _ _, hq, ⟨_, rfl, nil_at _ _ _ _, i1, i1⟩⟩, i1, i2⟩
/-- A function of one empty block, as it lies in memory. -/
theorem bare_at {S : Nat → Prop} {W : World} {R : Nat} {nm : ByteArray} {p q : Int} {rg : Bool} {n : Int} (hp : I64 p) (hq : I64 q) (hn : I64 n) (hR : S R)
    (h3 : W.heap[R]? = some (.cells #[.slice none 0 0, .slice none 0 0, .int .i64 1, .bool rg, .int .i64 n, .slice none 0 0] 47 (0, 0))) :
    rFunc S W [.string nm, .int .i64 p, .int .i64 q, .slice (some ⟨R, 0, none⟩) 1 1] ⟨nm, p, q, [⟨[], [], ⟨1, ⟨rg, n⟩, []⟩⟩]⟩ := by
  have i1 : I64 1 := ⟨by decide, by decide⟩
  exact ⟨_, rfl, one_at (cs := [.slice none 0 0, .slice none 0 0, .int .i64 1, .bool rg, .int .i64 n, .slice none 0 0]) hR h3 rfl
    ⟨_, _, _, rfl, nil_at _ _ _ _, nil_at _ _ _ _, ⟨_, rfl, nil_at _ _ _ _, i1, hn⟩⟩, hp, hq⟩

set_option maxRecDepth 100000 in
set_option maxHeartbeats 4000000 in
theorem everChain_any (w : World) (hw : Ways w) (m : Int) (hm1 : -9223372036854775808 ≤ m) (hm2 : m ≤ 9223372036854775807) (n : Int) (hn1 : -9223372036854775808 ≤ n) (hn2 : n ≤ 9223372036854775807) (back : Bool) :
    Calls Tryd.prog 14 #[.int .i64 m, .int .i64 n, .bool back] w fun e w' => e = .returned (.bool true) ∧ Below w.heap.size w w' := by
  by_cases hlo : m < 1
  · have q0 : decide (m < 1) = true := decide_eq_true hlo
    go_enter Tryd.func14, Tryd.ntmps14
    go_wp2_with fail
    go_ret
    exact ⟨rfl, Below.refl _ _⟩
  by_cases hhi : 8 < m
  · have q0 : decide (m < 1) = false := decide_eq_false hlo
    have q1 : decide (8 < m) = true := decide_eq_true hhi
    go_enter Tryd.func14, Tryd.ntmps14
    go_wp2_with fail
    go_ret
    exact ⟨rfl, Below.refl _ _⟩
  obtain ⟨M, rfl⟩ := Int.eq_ofNat_of_zero_le (show 0 ≤ m by omega)
  have hM1 : 1 ≤ M := by omega
  have hM8 : M ≤ 8 := by omega
  have q0 : decide ((M : Int) < 1) = false := decide_eq_false hlo
  have q1 : decide (8 < (M : Int)) = false := decide_eq_false hhi
  have Hw := hid hw
  have HN : Hid (I64 n) := ⟨hn1, hn2⟩
  clear hlo hhi hm1 hm2 hw
  obtain ⟨if_, hif, hfz0, hfz1, hfz2⟩ := info_parts infoFunc
  go_enter Tryd.func14, Tryd.ntmps14
  go_wp2_with fail
  obtain ⟨W1, hW1⟩ : ∃ W1, W1 = w.alloc (.cells #[.bool true, .int .i64 0] 41) := ⟨_, rfl⟩
  have hb1 : Below w.heap.size w W1 := by rw [hW1]; (repeat (first | exact Below.refl _ _ | refine Below.alloc ?_ (by first | omega | (simp <;> omega)) _ | refine Below.setCell ?_ (by first | omega | (simp <;> omega)) _ | refine below_drewN ?_ _ | refine Below.drew ?_))
  have r0 : W1.cell? ⟨w.heap.size, 0, none⟩ = some (.bool true) := by rw [hW1]; simp
  have r1 : W1.cell? ⟨w.heap.size, 1, none⟩ = some (.int .i64 0) := by rw [hW1]; simp
  obtain ⟨RB, hRB⟩ : ∃ RB, RB = w.heap.size := ⟨_, rfl⟩
  rw [← hRB] at r0 r1
  rw [← hW1, ← hRB]
  have R0 := hid r0
  have R1 := hid r1
  have Hb1 := hid hb1
  have zR1 := cell_lt r0
  clear hW1 hb1 r0 r1 hRB
  go_loopw [8, 9] (fun s8 s9 wr => ∃ (k : Nat) (v : Value), v = s8 ∧ k ≤ M ∧ s9 = .int .i64 (k : Int) ∧ Build W1 wr 35 4 rFunc v (linksF k)) (fun _ s9 _ => M - (intOf s9).toNat)
  case atStart => exact ⟨0, _, rfl, Nat.zero_le _, rfl, Build.start W1 35 4 rFunc⟩
  case round =>
    obtain ⟨k, v, rfl, hk, rfl, hbd⟩ := hrel
    have Hbd := hid hbd
    have r0 := cell_later' R0.out hbd.old
    have r1 := cell_later' R1.out hbd.old
    have zR : RB < wr.heap.size := cell_lt r0
    by_cases hkM : k < M
    · clear hbd
      have hk8 : k < 8 := by omega
      obtain ⟨WX, hWX⟩ : ∃ WX, WX = (((((wr.alloc (.cells #[.bool true, .int .i64 0] 41)).alloc (.cells #[.int .i64 20, .int .i64 1, .bool false, .int .i64 0, .bool false, .int .i64 0, .int .i64 ((k : Int) + 1), .slice (some ⟨wr.heap.size, 0, none⟩) 1 1] 70)).alloc
        (.cells #[.int .i64 20, .int .i64 1, .bool false, .int .i64 0, .bool false, .int .i64 0, .int .i64 ((k : Int) + 1), .slice (some ⟨wr.heap.size, 0, none⟩) 1 1] 70)).alloc (.cells #[.slice none 0 0, .slice (some ⟨wr.heap.size + 1 + 1, 0, none⟩) 1 1, .int .i64 1, .bool true, .int .i64 1, .slice none 0 0] 47)).alloc
        (.cells #[.slice none 0 0, .slice (some ⟨wr.heap.size + 1 + 1, 0, none⟩) 1 1, .int .i64 1, .bool true, .int .i64 1, .slice none 0 0] 47)).alloc (.cells #[.string (⟨#[102]⟩ ++ ⟨#[97 + UInt8.ofNat k]⟩), .int .i64 1, .int .i64 2, .slice (some ⟨wr.heap.size + 1 + 1 + 1 + 1, 0, none⟩) 1 1] 35) := ⟨_, rfl⟩
      have hbX : Below wr.heap.size wr WX := by rw [hWX]; (repeat (first | exact Below.refl _ _ | refine Below.alloc ?_ (by first | omega | (simp <;> omega)) _ | refine Below.setCell ?_ (by first | omega | (simp <;> omega)) _ | refine below_drewN ?_ _ | refine Below.drew ?_))
      obtain ⟨hz, hp0, hp2, hp4, hp5⟩ : WX.heap.size = wr.heap.size + 6 ∧ WX.heap[wr.heap.size]? = _ ∧ WX.heap[wr.heap.size + 1 + 1]? = _ ∧ WX.heap[wr.heap.size + 1 + 1 + 1 + 1]? = _ ∧ WX.heap[wr.heap.size + 1 + 1 + 1 + 1 + 1]? = _ := by rw [hWX]; exact heap_six _ _ _ _ _ _ _
      have HWX := hid hWX
      have HbX := hid hbX
      have Hp0 := hid hp0
      have Hp2 := hid hp2
      have Hp4 := hid hp4
      have Hp5 := hid hp5
      have hW1w := Hbd.out.old.size
      clear hWX hbX hp0 hp2 hp4 hp5
      go_wp2_with (at_builtin; rw [← HWX.out]; go_loud (refine wpList_append_Own rfl _ _ 23 rfl W1.heap.size 35 if_ _ 4 56 Tryd.underlying23 hif hfz0 hfz1 hfz2 rfl (by decide) rFunc_mono v (linksF k) rfl ?_ ⟨wr.heap.size + 1 + 1 + 1 + 1 + 1, 0, none⟩ 1 [.string (⟨#[102]⟩ ++ ⟨#[97 + UInt8.ofNat k]⟩), .int .i64 1, .int .i64 2, .slice (some ⟨wr.heap.size + 1 + 1 + 1 + 1, 0, none⟩) 1 1] (linkF k) rfl rfl ?_ ?_ ?_ ?_ (by decide) ?_ ?_))
      · exact Hbd.out.own.later rFunc_mono HbX.out
      · intro j u hj
        rw [show (⟨wr.heap.size + 1 + 1 + 1 + 1 + 1, 0, none⟩ : Addr).add j = ⟨wr.heap.size + 1 + 1 + 1 + 1 + 1, j, none⟩ by unfold Addr.add; split <;> simp_all, cell_row Hp5.out]
        simpa using hj
      · intro u hu; simp at hu; rcases hu with rfl | rfl | rfl | rfl <;> rfl
      · have hlt := fun g hg => Hbd.out.own.lt g hg
        refine link_at hk8 ⟨by omega, by omega, fun e => ?_⟩ ⟨by omega, by omega, fun e => ?_⟩ ⟨by omega, by omega, fun e => ?_⟩ Hp0.out Hp2.out Hp4.out
        · have := hlt _ e; omega
        · have := hlt _ e; omega
        · have := hlt _ e; omega
      · rw [links_len]; omega
      · omega
      · intro v2 w3 hown3 hgrow g2 cap2 hv2
        have hb3 : Below W1.heap.size W1 w3 := by
          refine Below.grown ?_ hgrow (by omega) (fun g hg => (Hbd.out.own.lt g hg).1)
          exact Hbd.out.old.trans (HbX.out.mono Hbd.out.old.size)
        have Hbd3 : Hid (Build W1 w3 35 4 rFunc v2 (linksF (k + 1))) := ⟨by rw [links_succ]; exact hown3, hb3⟩
        rw [links_len] at hv2
        subst hv2
        clear hown3 hgrow hb3
        go_wp2_with fail
        go_roundw
        case rel => exact ⟨k + 1, _, rfl, by omega, by go_num, Hbd3.out⟩
        case measure => simp [intOf]; omega
    · have hkM' : k = M := by omega
      have Hbd2 : Hid (Build W1 wr 35 4 rFunc v (linksF M)) := by show Build _ _ _ _ _ _ _; rw [← hkM']; exact hbd
      obtain ⟨la, lc, hv⟩ := hbd.own.shape
      rw [links_len, hkM'] at hv
      subst hv
      have HW1w : Hid (W1.heap.size ≤ wr.heap.size) := hbd.old.size
      clear hbd Hbd hkM hk
      subst hkM'
      go_upto_region 12 with (fail)
      obtain ⟨LB, hLB⟩ : ∃ LB, LB = wr.heap.size := ⟨_, rfl⟩
      obtain ⟨V0, hV0⟩ : ∃ V0, V0 = wr.alloc (.cells #[.slice none 0 0, .slice none 0 0, .int .i64 1, .bool false, .int .i64 n, .slice none 0 0] 47) := ⟨_, rfl⟩
      have hb0 : Below wr.heap.size wr V0 := by rw [hV0]; (repeat (first | exact Below.refl _ _ | refine Below.alloc ?_ (by first | omega | (simp <;> omega)) _ | refine Below.setCell ?_ (by first | omega | (simp <;> omega)) _ | refine below_drewN ?_ _ | refine Below.drew ?_))
      have hL0 : V0.heap[LB]? = some (.cells #[.slice none 0 0, .slice none 0 0, .int .i64 1, .bool false, .int .i64 n, .slice none 0 0] 47 (0, 0)) := by rw [hV0, hLB]; exact heap_alloc_new _ _
      have c3 : V0.cell? ⟨LB, 3, none⟩ = some (.bool false) := by rw [cell_row hL0]; rfl
      have c4 : V0.cell? ⟨LB, 4, none⟩ = some (.int .i64 n) := by rw [cell_row hL0]; rfl
      have f3 : V0.frozen? ⟨LB, 3, none⟩ = false := by simp [World.frozen?, hL0]
      have f4 : V0.frozen? ⟨LB, 4, none⟩ = false := by simp [World.frozen?, hL0]
      have r0 := cell_later' r0 hb0
      have r1 := cell_later' r1 hb0
      have zR : RB < V0.heap.size := cell_lt r0
      have zL : LB < V0.heap.size := cell_lt c3
      have hRL : RB ≠ LB := by have := zR1; have := HW1w.out; omega
      have Hb0 := hid hb0
      have HL0 := hid hL0
      have HLB := hid hLB
      rw [← hV0, ← hLB]
      clear hV0 hb0 hL0 hLB
      cases back
      all_goals go_upto_region 14 with (fail)
      rotate_left 1
      · obtain ⟨WL, hWL⟩ : ∃ WL, WL = (V0.setCell ⟨LB, 3, none⟩ (.bool true)).setCell ⟨LB, 4, none⟩ (.int .i64 0) := ⟨_, rfl⟩
        have hHL : WL.heap[LB]? = some (.cells #[.slice none 0 0, .slice none 0 0, .int .i64 1, .bool true, .int .i64 0, .slice none 0 0] 47 (0, 0)) := by
          rw [hWL, heap_set_row (w := V0.setCell ⟨LB, 3, none⟩ (.bool true)) (cur := #[.slice none 0 0, .slice none 0 0, .int .i64 1, .bool true, .int .i64 n, .slice none 0 0]) (by rw [heap_set_row HL0.out]; rfl)]; rfl
        have hbL : Below wr.heap.size wr WL := by rw [hWL]; exact (Hb0.out.setCell (p := ⟨LB, 3, none⟩) (by dsimp only; rw [HLB.out]; omega) _).setCell (p := ⟨LB, 4, none⟩) (by dsimp only; rw [HLB.out]; omega) _
        have hzL : LB < WL.heap.size := (Array.getElem?_eq_some_iff.1 hHL).1
        have HHL := hid hHL
        have HbL := hid hbL
        have hzw := HW1w.out
        have hW1L : W1.heap.size ≤ WL.heap.size := Nat.le_trans hzw hbL.size
        rw [← hWL]
        have l0 : WL.cell? ⟨LB, 0, none⟩ = some (.slice none 0 0) := by rw [cell_row hHL]; rfl
        have l1 : WL.cell? ⟨LB, 1, none⟩ = some (.slice none 0 0) := by rw [cell_row hHL]; rfl
        have l2 : WL.cell? ⟨LB, 2, none⟩ = some (.int .i64 1) := by rw [cell_row hHL]; rfl
        have l3 : WL.cell? ⟨LB, 3, none⟩ = some (.bool true) := by rw [cell_row hHL]; rfl
        have l4 : WL.cell? ⟨LB, 4, none⟩ = some (.int .i64 0) := by rw [cell_row hHL]; rfl
        have l5 : WL.cell? ⟨LB, 5, none⟩ = some (.slice none 0 0) := by rw [cell_row hHL]; rfl
        clear hWL hHL hbL c3 c4 f3 f4 r0 r1 zR zL
        obtain ⟨WX, hWX⟩ : ∃ WX, WX = (WL.alloc (.cells #[.slice none 0 0, .slice none 0 0, .int .i64 1, .bool true, .int .i64 0, .slice none 0 0] 47)).alloc (.cells #[.string ⟨#[108, 97, 115, 116]⟩, .int .i64 1, .int .i64 1, .slice (some ⟨WL.heap.size, 0, none⟩) 1 1] 35) := ⟨_, rfl⟩
        have hbX : Below WL.heap.size WL WX := by rw [hWX]; (repeat (first | exact Below.refl _ _ | refine Below.alloc ?_ (by first | omega | (simp <;> omega)) _ | refine Below.setCell ?_ (by first | omega | (simp <;> omega)) _ | refine below_drewN ?_ _ | refine Below.drew ?_))
        obtain ⟨hp0, hp1⟩ : WX.heap[WL.heap.size]? = _ ∧ WX.heap[WL.heap.size + 1]? = _ := by rw [hWX]; exact heap_two' _ _ _
        have hzX : WX.heap.size = WL.heap.size + 2 := by rw [hWX]; simp
        have HWX := hid hWX
        have HbX : Hid (Below wr.heap.size wr WX) := HbL.out.trans (hbX.mono HbL.out.size)
        have Hp0 := hid hp0
        have Hp1 := hid hp1
        clear hWX hbX hp0 hp1
        go_wp2_with (at_builtin; rw [← HWX.out]; go_loud (refine wpList_append_Own rfl _ _ 23 rfl W1.heap.size 35 if_ _ 4 56 Tryd.underlying23 hif hfz0 hfz1 hfz2 rfl (by decide) rFunc_mono (.slice la k lc) (linksF k) rfl ?_ ⟨WL.heap.size + 1, 0, none⟩ 1 [.string ⟨#[108, 97, 115, 116]⟩, .int .i64 1, .int .i64 1, .slice (some ⟨WL.heap.size, 0, none⟩) 1 1] (endF n true) rfl rfl ?_ ?_ ?_ ?_ (by decide) ?_ ?_))
        · exact Hbd2.out.own.later rFunc_mono HbX.out
        · intro j u hj
          rw [show (⟨WL.heap.size + 1, 0, none⟩ : Addr).add j = ⟨WL.heap.size + 1, j, none⟩ by unfold Addr.add; split <;> simp_all, cell_row Hp1.out]
          simpa using hj
        · intro u hu; simp at hu; rcases hu with rfl | rfl | rfl | rfl <;> rfl
        · have hlt := fun g hg => Hbd2.out.own.lt g hg
          have hz1 := HbL.out.size
          exact bare_at (p := 1) (q := 1) ⟨by decide, by decide⟩ ⟨by decide, by decide⟩ ⟨by decide, by decide⟩ ⟨by omega, by omega, fun e => by have := hlt _ e; omega⟩ Hp0.out
        · rw [links_len]; omega
        · omega
        · intro v3 w3 hown3 hgrow g3 cap3 hv3
          have hb3 : Below W1.heap.size W1 w3 := by
            refine Below.grown ?_ hgrow (by omega) (fun g hg => (Hbd2.out.own.lt g hg).1)
            exact Hbd2.out.old.trans (HbX.out.mono Hbd2.out.old.size)
          rw [links_len] at hv3
          have Hown3 := hid hown3
          have Hb3 := hid hb3
          subst hv3
          clear hown3 hgrow hb3 l0 l1 l2 l3 l4 l5
          obtain ⟨WY, hWY⟩ : ∃ WY, WY = (w3.alloc (.cells #[.slice none 0 0, .slice none 0 0, .int .i64 1, .bool false, .int .i64 0, .slice none 0 0] 47)).alloc (.cells #[.string ⟨#[109, 97, 105, 110]⟩, .int .i64 0, .int .i64 0, .slice (some ⟨w3.heap.size, 0, none⟩) 1 1] 35) := ⟨_, rfl⟩
          have hbY : Below w3.heap.size w3 WY := by rw [hWY]; (repeat (first | exact Below.refl _ _ | refine Below.alloc ?_ (by first | omega | (simp <;> omega)) _ | refine Below.setCell ?_ (by first | omega | (simp <;> omega)) _ | refine below_drewN ?_ _ | refine Below.drew ?_))
          obtain ⟨hp0, hp1⟩ : WY.heap[w3.heap.size]? = _ ∧ WY.heap[w3.heap.size + 1]? = _ := by rw [hWY]; exact heap_two' _ _ _
          have hzY : WY.heap.size = w3.heap.size + 2 := by rw [hWY]; simp
          have hz3 := Hb3.out.size
          have HWY := hid hWY
          have HbY := hid hbY
          have Hq0 := hid hp0
          have Hq1 := hid hp1
          clear hWY hbY hp0 hp1 Hp0 Hp1
          go_wp2_with (at_builtin; rw [← HWY.out]; go_loud (refine wpList_append_Own rfl _ _ 23 rfl W1.heap.size 35 if_ _ 4 56 Tryd.underlying23 hif hfz0 hfz1 hfz2 rfl (by decide) rFunc_mono (.slice (some ⟨g3, 0, none⟩) (k + 1) cap3) (linksF k ++ [endF n true]) rfl ?_ ⟨w3.heap.size + 1, 0, none⟩ 1 [.string ⟨#[109, 97, 105, 110]⟩, .int .i64 0, .int .i64 0, .slice (some ⟨w3.heap.size, 0, none⟩) 1 1] mainF rfl rfl ?_ ?_ ?_ ?_ (by decide) ?_ ?_))
          · exact Hown3.out.later rFunc_mono HbY.out
          · intro j u hj
            rw [show (⟨w3.heap.size + 1, 0, none⟩ : Addr).add j = ⟨w3.heap.size + 1, j, none⟩ by unfold Addr.add; split <;> simp_all, cell_row Hq1.out]
            simpa using hj
          · intro u hu; simp at hu; rcases hu with rfl | rfl | rfl | rfl <;> rfl
          · have hlt := fun g hg => Hown3.out.lt g hg
            exact bare_at (p := 0) (q := 0) ⟨by decide, by decide⟩ ⟨by decide, by decide⟩ ⟨by decide, by decide⟩ ⟨by omega, by omega, fun e => by have := hlt _ e; omega⟩ Hq0.out
          · rw [List.length_append, links_len]; simp; omega
          · omega
          · intro v4 w4 hown4 hgrow g4 cap4 hv4
            have hb4 : Below W1.heap.size W1 w4 := by
              refine Below.grown ?_ hgrow (by omega) (fun g hg => (Hown3.out.lt g hg).1)
              exact Hb3.out.trans (HbY.out.mono Hb3.out.size)
            rw [links_len] at hv4
            have hv4 : v4 = .slice (some ⟨g4, 0, none⟩) (k + 2) cap4 := hv4
            have hown4 : Own W1.heap.size w4 35 4 rFunc v4 (chainF k n true) := hown4
            subst hv4
            have hck := chain_check hM1 hM8 n true
            have hbw4 : Below w.heap.size w w4 := Hb1.out.trans (hb4.mono Hb1.out.size)
            have hT := tellsOk_any (S := iv W1.heap.size w4.heap.size) none 0 (some ⟨g4, 0, none⟩) cap4 [] (chainF k n true) w4 (nil_at _ _ _ _) (by rw [chain_len]; exact hown4.toSl rFunc_mono (by decide)) (Ways.below Hw.out hbw4) (fun b hb => hb.2) (by decide) (by rw [chain_len]; omega) (checkF_many' (u := ⟨[], chainF k n true⟩) hck) hck
            rw [chain_len, chain_tells hM1 hM8, List.length_nil] at hT
            have HT := hid hT
            have Hbw4 := hid hbw4
            clear hown4 hgrow hb4 hck hbw4 hT Hbd2 Hown3 Hb3 Hq0 Hq1 HWX HWY HbX HbY hzY hz3
            go_upto_region 17 with (go_at_call 34; (with_reducible refine HT.out.mono ?_); rintro e w5 ⟨KB, rfl, hKB, hrow, hb5⟩; have Hrow := hid hrow; have Hb5 := hid (Hbw4.out.trans (hb5.mono Hbw4.out.size)); clear hrow hb5)
            go_upto_region 22 with (fail)
            obtain ⟨WF, hWF⟩ : ∃ WF, WF = (w5.alloc (.cells #[.int .i64 0, .int .i64 0] 28)).alloc (.cells #[.int .i64 (2 : Int), .int .i64 (0 : Int)] 66) := ⟨_, rfl⟩
            have hbF : Below w5.heap.size w5 WF := by rw [hWF]; (repeat (first | exact Below.refl _ _ | refine Below.alloc ?_ (by first | omega | (simp <;> omega)) _ | refine Below.setCell ?_ (by first | omega | (simp <;> omega)) _ | refine below_drewN ?_ _ | refine Below.drew ?_))
            obtain ⟨WB, hWB⟩ : ∃ WB, WB = w5.heap.size + 1 := ⟨_, rfl⟩
            have a0 : WF.cell? ⟨WB, 0, none⟩ = some (.int .i64 (2 : Int)) := by rw [hWF, hWB]; simp
            have a1 : WF.cell? ⟨WB, 1, none⟩ = some (.int .i64 (0 : Int)) := by rw [hWF, hWB]; simp
            have A0 := hid a0
            have A1 := hid a1
            have Hrow2 := hid ((hbF.block KB (Array.getElem?_eq_some_iff.1 Hrow.out).1).trans Hrow.out)
            have HwF : Hid (Below w.heap.size w WF) := Hb5.out.trans (hbF.mono Hb5.out.size)
            have hlT : (List.replicate (k + 1) ((2 : Int), (0 : Int)) ++ [((1 : Int), (0 : Int))]).length = k + 2 := by simp
            have HlT := hid hlT
            have hrowE : WF.heap[KB]? = some (.cells (flatP (List.replicate (k + 1) ((2 : Int), (0 : Int)) ++ [((1 : Int), (0 : Int))])).toArray 66 (0, 0)) := Hrow2.out
            have HrowE := hid hrowE
            rw [← hWF, ← hWB]
            clear hWF hbF hWB a0 a1 hlT hrowE Hrow Hrow2 Hb5 HT Hbw4
            go_wp2_with fail
            go_loopw [16] (fun s16 wr => ∃ j : Nat, j ≤ k + 1 ∧ s16 = .int .i64 (j : Int) ∧ Below WF.heap.size WF wr) (fun s16 _ => k + 1 - (intOf s16).toNat)
            case atStart => exact ⟨0, Nat.zero_le _, rfl, Below.refl _ _⟩
            case round =>
              obtain ⟨j, hj, rfl, hbj⟩ := hrel
              have Hbj := hid hbj
              have hl := flatP_at (t := List.replicate (k + 1) ((2 : Int), (0 : Int)) ++ [((1 : Int), (0 : Int))]) (r := j) (by rw [HlT.out]; omega)
              have l0 : WF.cell? ⟨KB, j * 2, none⟩ = some (.int .i64 ((List.replicate (k + 1) ((2 : Int), (0 : Int)) ++ [((1 : Int), (0 : Int))])[j]'(by rw [HlT.out]; omega)).1) := by rw [cell_row HrowE.out, List.getElem?_toArray]; exact hl.1
              have l1 : WF.cell? ⟨KB, j * 2 + 1, none⟩ = some (.int .i64 ((List.replicate (k + 1) ((2 : Int), (0 : Int)) ++ [((1 : Int), (0 : Int))])[j]'(by rw [HlT.out]; omega)).2) := by rw [cell_row HrowE.out, List.getElem?_toArray]; exact hl.2
              have l0 := cell_later' l0 hbj
              have l1 := cell_later' l1 hbj
              have zK : KB < wr.heap.size := cell_lt l0
              have i0 : (0 : Int) ≤ (j : Int) := by omega
              have i1 : (j : Int) < (k : Int) + 2 := by omega
              by_cases hjk : j < k + 1
              · have he : (List.replicate (k + 1) ((2 : Int), (0 : Int)) ++ [((1 : Int), (0 : Int))])[j]'(by rw [HlT.out]; omega) = ((2 : Int), (0 : Int)) := by
                  rw [List.getElem_append_left (by simpa using hjk), List.getElem_replicate]
                rw [he] at l0 l1
                have a0 := cell_later' A0.out hbj
                have a1 := cell_later' A1.out hbj
                have zW : WB < wr.heap.size := cell_lt a0
                clear hl he hbj
                go_wp2_with fail
                go_quiet (fail)
                go_wp2_with fail
                go_roundw
                case rel => exact ⟨j + 1, by omega, by go_num, by have h := Hbj.out; (repeat (first | exact Below.refl _ _ | exact (h).mono (by first | omega | (simp <;> omega) | (have hh := (h).size; (try simp at hh); omega) | (have hh := (h).size; (try simp at hh); (try simp); omega)) | refine Below.trans ?_ ((h).mono (by first | omega | (simp <;> omega) | (have hh := (h).size; (try simp at hh); omega) | (have hh := (h).size; (try simp at hh); (try simp); omega))) | refine Below.alloc ?_ (by first | omega | (simp <;> omega) | (have hh := (h).size; (try simp at hh); omega) | (have hh := (h).size; (try simp at hh); (try simp); omega)) _ | refine Below.setCell ?_ (by first | omega | (simp <;> omega) | (have hh := (h).size; (try simp at hh); omega) | (have hh := (h).size; (try simp at hh); (try simp); omega)) _ | refine below_drewN ?_ _ | refine Below.drew ?_))⟩
                case measure => simp [intOf]; omega
              · have hjk' : j = k + 1 := by omega
                subst hjk'
                have he : (List.replicate (k + 1) ((2 : Int), (0 : Int)) ++ [((1 : Int), (0 : Int))])[k + 1]'(by rw [HlT.out]; omega) = (1, 0) := by
                  rw [List.getElem_append_right (by simp)]; simp
                rw [he] at l0 l1
                clear hl he hbj
                go_wp2_with fail
                go_ret
                exact ⟨rfl, HwF.out.trans (Hbj.out.mono HwF.out.size)⟩
      · obtain ⟨WL, hWL⟩ : ∃ WL, WL = V0 := ⟨_, rfl⟩
        have hHL : WL.heap[LB]? = some (.cells #[.slice none 0 0, .slice none 0 0, .int .i64 1, .bool false, .int .i64 n, .slice none 0 0] 47 (0, 0)) := by rw [hWL]; exact HL0.out
        have hbL : Below wr.heap.size wr WL := by rw [hWL]; exact Hb0.out
        have hzL : LB < WL.heap.size := (Array.getElem?_eq_some_iff.1 hHL).1
        have HHL := hid hHL
        have HbL := hid hbL
        have hzw := HW1w.out
        have hW1L : W1.heap.size ≤ WL.heap.size := Nat.le_trans hzw hbL.size
        rw [← hWL]
        have l0 : WL.cell? ⟨LB, 0, none⟩ = some (.slice none 0 0) := by rw [cell_row hHL]; rfl
        have l1 : WL.cell? ⟨LB, 1, none⟩ = some (.slice none 0 0) := by rw [cell_row hHL]; rfl
        have l2 : WL.cell? ⟨LB, 2, none⟩ = some (.int .i64 1) := by rw [cell_row hHL]; rfl
        have l3 : WL.cell? ⟨LB, 3, none⟩ = some (.bool false) := by rw [cell_row hHL]; rfl
        have l4 : WL.cell? ⟨LB, 4, none⟩ = some (.int .i64 n) := by rw [cell_row hHL]; rfl
        have l5 : WL.cell? ⟨LB, 5, none⟩ = some (.slice none 0 0) := by rw [cell_row hHL]; rfl
        clear hWL hHL hbL c3 c4 f3 f4 r0 r1 zR zL
        obtain ⟨WX, hWX⟩ : ∃ WX, WX = (WL.alloc (.cells #[.slice none 0 0, .slice none 0 0, .int .i64 1, .bool false, .int .i64 n, .slice none 0 0] 47)).alloc (.cells #[.string ⟨#[108, 97, 115, 116]⟩, .int .i64 1, .int .i64 1, .slice (some ⟨WL.heap.size, 0, none⟩) 1 1] 35) := ⟨_, rfl⟩
        have hbX : Below WL.heap.size WL WX := by rw [hWX]; (repeat (first | exact Below.refl _ _ | refine Below.alloc ?_ (by first | omega | (simp <;> omega)) _ | refine Below.setCell ?_ (by first | omega | (simp <;> omega)) _ | refine below_drewN ?_ _ | refine Below.drew ?_))
        obtain ⟨hp0, hp1⟩ : WX.heap[WL.heap.size]? = _ ∧ WX.heap[WL.heap.size + 1]? = _ := by rw [hWX]; exact heap_two' _ _ _
        have hzX : WX.heap.size = WL.heap.size + 2 := by rw [hWX]; simp
        have HWX := hid hWX
        have HbX : Hid (Below wr.heap.size wr WX) := HbL.out.trans (hbX.mono HbL.out.size)
        have Hp0 := hid hp0
        have Hp1 := hid hp1
        clear hWX hbX hp0 hp1
        go_wp2_with (at_builtin; rw [← HWX.out]; go_loud (refine wpList_append_Own rfl _ _ 23 rfl W1.heap.size 35 if_ _ 4 56 Tryd.underlying23 hif hfz0 hfz1 hfz2 rfl (by decide) rFunc_mono (.slice la k lc) (linksF k) rfl ?_ ⟨WL.heap.size + 1, 0, none⟩ 1 [.string ⟨#[108, 97, 115, 116]⟩, .int .i64 1, .int .i64 1, .slice (some ⟨WL.heap.size, 0, none⟩) 1 1] (endF n false) rfl rfl ?_ ?_ ?_ ?_ (by decide) ?_ ?_))
        · exact Hbd2.out.own.later rFunc_mono HbX.out
        · intro j u hj
          rw [show (⟨WL.heap.size + 1, 0, none⟩ : Addr).add j = ⟨WL.heap.size + 1, j, none⟩ by unfold Addr.add; split <;> simp_all, cell_row Hp1.out]
          simpa using hj
        · intro u hu; simp at hu; rcases hu with rfl | rfl | rfl | rfl <;> rfl
        · have hlt := fun g hg => Hbd2.out.own.lt g hg
          have hz1 := HbL.out.size
          exact bare_at (p := 1) (q := 1) ⟨by decide, by decide⟩ ⟨by decide, by decide⟩ HN.out ⟨by omega, by omega, fun e => by have := hlt _ e; omega⟩ Hp0.out
        · rw [links_len]; omega
        · omega
        · intro v3 w3 hown3 hgrow g3 cap3 hv3
          have hb3 : Below W1.heap.size W1 w3 := by
            refine Below.grown ?_ hgrow (by omega) (fun g hg => (Hbd2.out.own.lt g hg).1)
            exact Hbd2.out.old.trans (HbX.out.mono Hbd2.out.old.size)
          rw [links_len] at hv3
          have Hown3 := hid hown3
          have Hb3 := hid hb3
          subst hv3
          clear hown3 hgrow hb3 l0 l1 l2 l3 l4 l5
          obtain ⟨WY, hWY⟩ : ∃ WY, WY = (w3.alloc (.cells #[.slice none 0 0, .slice none 0 0, .int .i64 1, .bool false, .int .i64 0, .slice none 0 0] 47)).alloc (.cells #[.string ⟨#[109, 97, 105, 110]⟩, .int .i64 0, .int .i64 0, .slice (some ⟨w3.heap.size, 0, none⟩) 1 1] 35) := ⟨_, rfl⟩
          have hbY : Below w3.heap.size w3 WY := by rw [hWY]; (repeat (first | exact Below.refl _ _ | refine Below.alloc ?_ (by first | omega | (simp <;> omega)) _ | refine Below.setCell ?_ (by first | omega | (simp <;> omega)) _ | refine below_drewN ?_ _ | refine Below.drew ?_))
          obtain ⟨hp0, hp1⟩ : WY.heap[w3.heap.size]? = _ ∧ WY.heap[w3.heap.size + 1]? = _ := by rw [hWY]; exact heap_two' _ _ _
          have hzY : WY.heap.size = w3.heap.size + 2 := by rw [hWY]; simp
          have hz3 := Hb3.out.size
          have HWY := hid hWY
          have HbY := hid hbY
          have Hq0 := hid hp0
          have Hq1 := hid hp1
          clear hWY hbY hp0 hp1 Hp0 Hp1
          go_wp2_with (at_builtin; rw [← HWY.out]; go_loud (refine wpList_append_Own rfl _ _ 23 rfl W1.heap.size 35 if_ _ 4 56 Tryd.underlying23 hif hfz0 hfz1 hfz2 rfl (by decide) rFunc_mono (.slice (some ⟨g3, 0, none⟩) (k + 1) cap3) (linksF k ++ [endF n false]) rfl ?_ ⟨w3.heap.size + 1, 0, none⟩ 1 [.string ⟨#[109, 97, 105, 110]⟩, .int .i64 0, .int .i64 0, .slice (some ⟨w3.heap.size, 0, none⟩) 1 1] mainF rfl rfl ?_ ?_ ?_ ?_ (by decide) ?_ ?_))
          · exact Hown3.out.later rFunc_mono HbY.out
          · intro j u hj
            rw [show (⟨w3.heap.size + 1, 0, none⟩ : Addr).add j = ⟨w3.heap.size + 1, j, none⟩ by unfold Addr.add; split <;> simp_all, cell_row Hq1.out]
            simpa using hj
          · intro u hu; simp at hu; rcases hu with rfl | rfl | rfl | rfl <;> rfl
          · have hlt := fun g hg => Hown3.out.lt g hg
            exact bare_at (p := 0) (q := 0) ⟨by decide, by decide⟩ ⟨by decide, by decide⟩ ⟨by decide, by decide⟩ ⟨by omega, by omega, fun e => by have := hlt _ e; omega⟩ Hq0.out
          · rw [List.length_append, links_len]; simp; omega
          · omega
          · intro v4 w4 hown4 hgrow g4 cap4 hv4
            have hb4 : Below W1.heap.size W1 w4 := by
              refine Below.grown ?_ hgrow (by omega) (fun g hg => (Hown3.out.lt g hg).1)
              exact Hb3.out.trans (HbY.out.mono Hb3.out.size)
            rw [links_len] at hv4
            have hv4 : v4 = .slice (some ⟨g4, 0, none⟩) (k + 2) cap4 := hv4
            have hown4 : Own W1.heap.size w4 35 4 rFunc v4 (chainF k n false) := hown4
            subst hv4
            have hck := chain_check hM1 hM8 n false
            have hbw4 : Below w.heap.size w w4 := Hb1.out.trans (hb4.mono Hb1.out.size)
            have hT := tellsOk_any (S := iv W1.heap.size w4.heap.size) none 0 (some ⟨g4, 0, none⟩) cap4 [] (chainF k n false) w4 (nil_at _ _ _ _) (by rw [chain_len]; exact hown4.toSl rFunc_mono (by decide)) (Ways.below Hw.out hbw4) (fun b hb => hb.2) (by decide) (by rw [chain_len]; omega) (checkF_many' (u := ⟨[], chainF k n false⟩) hck) hck
            rw [chain_len, chain_tells hM1 hM8, List.length_nil] at hT
            have HT := hid hT
            have Hbw4 := hid hbw4
            clear hown4 hgrow hb4 hck hbw4 hT Hbd2 Hown3 Hb3 Hq0 Hq1 HWX HWY HbX HbY hzY hz3
            go_upto_region 17 with (go_at_call 34; (with_reducible refine HT.out.mono ?_); rintro e w5 ⟨KB, rfl, hKB, hrow, hb5⟩; have Hrow := hid hrow; have Hb5 := hid (Hbw4.out.trans (hb5.mono Hbw4.out.size)); clear hrow hb5)
            go_upto_region 22 with (fail)
            obtain ⟨WF, hWF⟩ : ∃ WF, WF = (w5.alloc (.cells #[.int .i64 0, .int .i64 0] 28)).alloc (.cells #[.int .i64 (1 : Int), .int .i64 n] 66) := ⟨_, rfl⟩
            have hbF : Below w5.heap.size w5 WF := by rw [hWF]; (repeat (first | exact Below.refl _ _ | refine Below.alloc ?_ (by first | omega | (simp <;> omega)) _ | refine Below.setCell ?_ (by first | omega | (simp <;> omega)) _ | refine below_drewN ?_ _ | refine Below.drew ?_))
            obtain ⟨WB, hWB⟩ : ∃ WB, WB = w5.heap.size + 1 := ⟨_, rfl⟩
            have a0 : WF.cell? ⟨WB, 0, none⟩ = some (.int .i64 (1 : Int)) := by rw [hWF, hWB]; simp
            have a1 : WF.cell? ⟨WB, 1, none⟩ = some (.int .i64 n) := by rw [hWF, hWB]; simp
            have A0 := hid a0
            have A1 := hid a1
            have Hrow2 := hid ((hbF.block KB (Array.getElem?_eq_some_iff.1 Hrow.out).1).trans Hrow.out)
            have HwF : Hid (Below w.heap.size w WF) := Hb5.out.trans (hbF.mono Hb5.out.size)
            have hlT : (List.replicate (k + 1) ((1 : Int), n) ++ [((1 : Int), (0 : Int))]).length = k + 2 := by simp
            have HlT := hid hlT
            have hrowE : WF.heap[KB]? = some (.cells (flatP (List.replicate (k + 1) ((1 : Int), n) ++ [((1 : Int), (0 : Int))])).toArray 66 (0, 0)) := Hrow2.out
            have HrowE := hid hrowE
            rw [← hWF, ← hWB]
            clear hWF hbF hWB a0 a1 hlT hrowE Hrow Hrow2 Hb5 HT Hbw4
            go_wp2_with fail
            go_loopw [16] (fun s16 wr => ∃ j : Nat, j ≤ k + 1 ∧ s16 = .int .i64 (j : Int) ∧ Below WF.heap.size WF wr) (fun s16 _ => k + 1 - (intOf s16).toNat)
            case atStart => exact ⟨0, Nat.zero_le _, rfl, Below.refl _ _⟩
            case round =>
              obtain ⟨j, hj, rfl, hbj⟩ := hrel
              have Hbj := hid hbj
              have hl := flatP_at (t := List.replicate (k + 1) ((1 : Int), n) ++ [((1 : Int), (0 : Int))]) (r := j) (by rw [HlT.out]; omega)
              have l0 : WF.cell? ⟨KB, j * 2, none⟩ = some (.int .i64 ((List.replicate (k + 1) ((1 : Int), n) ++ [((1 : Int), (0 : Int))])[j]'(by rw [HlT.out]; omega)).1) := by rw [cell_row HrowE.out, List.getElem?_toArray]; exact hl.1
              have l1 : WF.cell? ⟨KB, j * 2 + 1, none⟩ = some (.int .i64 ((List.replicate (k + 1) ((1 : Int), n) ++ [((1 : Int), (0 : Int))])[j]'(by rw [HlT.out]; omega)).2) := by rw [cell_row HrowE.out, List.getElem?_toArray]; exact hl.2
              have l0 := cell_later' l0 hbj
              have l1 := cell_later' l1 hbj
              have zK : KB < wr.heap.size := cell_lt l0
              have i0 : (0 : Int) ≤ (j : Int) := by omega
              have i1 : (j : Int) < (k : Int) + 2 := by omega
              by_cases hjk : j < k + 1
              · have he : (List.replicate (k + 1) ((1 : Int), n) ++ [((1 : Int), (0 : Int))])[j]'(by rw [HlT.out]; omega) = ((1 : Int), n) := by
                  rw [List.getElem_append_left (by simpa using hjk), List.getElem_replicate]
                rw [he] at l0 l1
                have a0 := cell_later' A0.out hbj
                have a1 := cell_later' A1.out hbj
                have zW : WB < wr.heap.size := cell_lt a0
                clear hl he hbj
                go_wp2_with fail
                go_quiet (fail)
                go_wp2_with fail
                go_roundw
                case rel => exact ⟨j + 1, by omega, by go_num, by have h := Hbj.out; (repeat (first | exact Below.refl _ _ | exact (h).mono (by first | omega | (simp <;> omega) | (have hh := (h).size; (try simp at hh); omega) | (have hh := (h).size; (try simp at hh); (try simp); omega)) | refine Below.trans ?_ ((h).mono (by first | omega | (simp <;> omega) | (have hh := (h).size; (try simp at hh); omega) | (have hh := (h).size; (try simp at hh); (try simp); omega))) | refine Below.alloc ?_ (by first | omega | (simp <;> omega) | (have hh := (h).size; (try simp at hh); omega) | (have hh := (h).size; (try simp at hh); (try simp); omega)) _ | refine Below.setCell ?_ (by first | omega | (simp <;> omega) | (have hh := (h).size; (try simp at hh); omega) | (have hh := (h).size; (try simp at hh); (try simp); omega)) _ | refine below_drewN ?_ _ | refine Below.drew ?_))⟩
                case measure => simp [intOf]; omega
              · have hjk' : j = k + 1 := by omega
                subst hjk'
                have he : (List.replicate (k + 1) ((1 : Int), n) ++ [((1 : Int), (0 : Int))])[k + 1]'(by rw [HlT.out]; omega) = (1, 0) := by
                  rw [List.getElem_append_right (by simp)]; simp
                rw [he] at l0 l1
                clear hl he hbj
                go_wp2_with fail
                go_ret
                exact ⟨rfl, HwF.out.trans (Hbj.out.mono HwF.out.size)⟩

end Go.Proofs.YtaehkcnankijfaaDoor
