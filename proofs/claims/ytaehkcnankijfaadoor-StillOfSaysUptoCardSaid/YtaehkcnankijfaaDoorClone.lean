/- slices.Clone of []int and of []api.Val: the copy is the call's own. -/
import Derived.Test.YtaehkcnankijfaaDoorProg
import Derived.Test.YtaehkcnankijfaaDoorOwn
import Derived.Test.YtaehkcnankijfaaDoorCore
import Derived.Lib.SliceRun
namespace Go.Proofs.YtaehkcnankijfaaDoor
open Go.RowKit

def encInt (x : Int) : List Value := [.int .i64 x]
def encVal (x : DVal) : List Value := [.bool x.reg, .int .i64 x.n]

/-- A row whose cells say all. -/
theorem Own.of_row {α : Type} {base : Nat} {w : World} {e : TypeId} {sz : Nat} {r : Rp α} {v : Value} {l : List α} {enc : α → List Value} (h : w.ownsRow base e sz v l.length (l.flatMap enc)) (he : ∀ x, (enc x).length = sz)
    (hr : ∀ S, ∀ x ∈ l, r S w (enc x) x) : Own base w e sz r v l := by
  refine ⟨l.map enc, by rw [← List.flatMap_def]; exact h, by simp, fun i cs hi => ?_, fun i cs x hi hx => ?_⟩
  · rw [List.getElem?_map] at hi
    obtain ⟨x, -, rfl⟩ := Option.map_eq_some_iff.1 hi
    exact he x
  · rw [List.getElem?_map, hx] at hi
    cases hi
    exact hr _ x (List.mem_of_getElem? hx)
/-- The cells of a list in memory, one behind the other. -/
theorem SlAt.flat {α : Type} {S : Nat → Prop} {w : World} {sz : Nat} {r : Rp α} {ad : Addr} {n c : Nat} {l : List α} {enc : α → List Value} (h : SlAt S w sz r (.slice (some ad) n c) l) (he : ∀ x, (enc x).length = sz) (h0 : 0 < sz)
    (hr : ∀ cs x, r S w cs x → cs = enc x) : ∀ (j : Nat) u, (l.flatMap enc)[j]? = some u → w.cell? (ad.add j) = some u := by
  intro j u hj
  have hl : ∀ (i : Nat) cs, (l.map enc)[i]? = some cs → cs.length = sz := fun i cs hi => by
    rw [List.getElem?_map] at hi
    obtain ⟨x, -, rfl⟩ := Option.map_eq_some_iff.1 hi
    exact he x
  rw [List.flatMap_def] at hj
  have hjl : j < (l.map enc).flatten.length := (List.getElem?_eq_some_iff.1 hj).1
  rw [flat_len _ hl, List.length_map] at hjl
  have hi : j / sz < l.length := Nat.div_lt_of_lt_mul (by rw [Nat.mul_comm]; exact hjl)
  have ht : j % sz < sz := Nat.mod_lt _ h0
  have hd : j / sz * sz + j % sz = j := by rw [Nat.mul_comm]; exact Nat.div_add_mod j sz
  have h1 := flat_at (l.map enc) hl (j / sz) (j % sz) (enc l[j / sz]) (by rw [List.getElem?_map, List.getElem?_eq_getElem hi]; rfl) ht
  rw [hd, hj] at h1
  obtain ⟨b, off, cs, ha, -, hrr, -, hcs⟩ := h.get hi
  cases ha
  rw [hr _ _ hrr] at hcs
  have h2 := hcs (j % sz) u h1.symm
  rw [show (⟨b, off, none⟩ : Addr).add j = ⟨b, off + j / sz * sz + j % sz, none⟩ by rw [Nat.add_assoc, hd]; unfold Addr.add; split <;> simp_all]
  exact h2
theorem SlAt.none {α : Type} {S : Nat → Prop} {w : World} {sz : Nat} {r : Rp α} {n c : Nat} {l : List α} (h : SlAt S w sz r (.slice Option.none n c) l) : l = [] := by
  obtain ⟨ao, c', hv, -, -, h⟩ := h
  cases hv
  by_cases hl : l = []
  · exact hl
  · obtain ⟨b, off, ha, -⟩ := h hl
    cases ha
theorem infoInt' : (Tryd.prog.info? 3).map (fun i => (i.zero, i.size, i.bytes)) = some (some (.int .i64 0), 1, 8) := by kernel_rfl
theorem infoVal : (Tryd.prog.info? 41).map (fun i => (i.zero, i.size, i.bytes)) = some (some (.agg #[.bool false, .int .i64 0]), 2, 16) := by kernel_rfl

theorem cell_blk {w : World} {a : Addr} {v : Value} (h : w.cell? a = some v) : a.block < w.heap.size := by
  unfold World.cell? at h
  rcases Nat.lt_or_ge a.block w.heap.size with h1 | h1
  · exact h1
  · rw [Array.getElem?_eq_none h1] at h; cases h
theorem flatMap_len {α : Type} {enc : α → List Value} {sz : Nat} (he : ∀ x, (enc x).length = sz) (l : List α) : (l.flatMap enc).length = l.length * sz := by
  induction l with
  | nil => simp
  | cons a l ih => rw [List.flatMap_cons, List.length_append, he, ih, List.length_cons, Nat.add_mul]; omega
theorem encInt_one (x : Int) : (encInt x).length = 1 := rfl
theorem encVal_one (x : DVal) : (encVal x).length = 2 := rfl
theorem encInt_len (l : List Int) : (l.flatMap encInt).length = l.length * 1 := flatMap_len encInt_one l
theorem encVal_len (l : List DVal) : (l.flatMap encVal).length = l.length * 2 := flatMap_len encVal_one l
theorem encInt_of {S : Nat → Prop} {w : World} (cs : List Value) (x : Int) (h : rInt S w cs x) : cs = encInt x := h.1
theorem encVal_of {S : Nat → Prop} {w : World} (cs : List Value) (x : DVal) (h : rVal S w cs x) : cs = encVal x := h.1
theorem encInt_cell (l : List Int) : ∀ u ∈ l.flatMap encInt, u.oneCell' = true := by
  intro u hu
  obtain ⟨x, -, hx⟩ := List.mem_flatMap.1 hu
  rw [encInt, List.mem_singleton] at hx
  subst hx; rfl
theorem encVal_cell (l : List DVal) : ∀ u ∈ l.flatMap encVal, u.oneCell' = true := by
  intro u hu
  obtain ⟨x, -, hx⟩ := List.mem_flatMap.1 hu
  rw [encVal] at hx
  rcases List.mem_cons.1 hx with rfl | hx
  · rfl
  · rw [List.mem_singleton] at hx; subst hx; rfl
theorem encInt_rd {S : Nat → Prop} {w : World} {a : Option Addr} {n c : Nat} {l : List Int} (h : SlAt S w 1 rInt (.slice a n c) l) (w1 : World) : ∀ T, ∀ x ∈ l, rInt T w1 (encInt x) x := by
  intro T x hx
  obtain ⟨i, hi, rfl⟩ := List.mem_iff_getElem.1 hx
  obtain ⟨b, off, cs, -, -, hr, -⟩ := h.get hi
  exact ⟨rfl, hr.2⟩
theorem encVal_rd {S : Nat → Prop} {w : World} {a : Option Addr} {n c : Nat} {l : List DVal} (h : SlAt S w 2 rVal (.slice a n c) l) (w1 : World) : ∀ T, ∀ x ∈ l, rVal T w1 (encVal x) x := by
  intro T x hx
  obtain ⟨i, hi, rfl⟩ := List.mem_iff_getElem.1 hx
  obtain ⟨b, off, cs, -, -, hr, -⟩ := h.get hi
  exact ⟨rfl, hr.2⟩

set_option maxRecDepth 100000 in
set_option maxHeartbeats 1000000 in
theorem cloneInts_any {S : Nat → Prop} (a : Option Addr) (c : Nat) (l : List Int) (w : World) (h : SlAt S w 1 rInt (.slice a l.length c) l) (hn : l.length ≤ 1048576) :
    Calls Tryd.prog 82 #[.slice a l.length c] w fun e w' => ∃ v, e = .returned v ∧ Own w.heap.size w' 3 1 rInt v l ∧ Below w.heap.size w w' := by
  have H := hid h
  have Hn := hid hn
  clear h hn
  have hnil := fun (w : World) (a : Option Addr) (n c n' c' : Nat) => Lib.run_eql_slice_nil (P := Tryd.prog) w 26 3 a n c n' c' Tryd.underlying26
  obtain ⟨i0, hi, hz0, hz1, hz2⟩ := info_parts infoInt'
  cases a with
  | none =>
    obtain rfl := H.out.none
    go_enter Tryd.func82, Tryd.ntmps82
    go_wp2
    go_ret
    exact ⟨_, rfl, Own.nil _ _ _ _ _, Below.refl _ _⟩
  | some ad =>
    go_enter Tryd.func82, Tryd.ntmps82
    go_wp2_with (at_builtin; refine wpList_append_own_at _ rfl _ _ 26 rfl w.heap.size 3 i0 (.int .i64 0) 1 8 Tryd.underlying26 hi hz0 hz1 hz2 rfl (by decide) (.slice (some ⟨w.heap.size, 0, none⟩) 0 0) 0 [] rfl (World.ownsRow_made w #[] 0 (Nat.le_refl _) (by decide) rfl) ad l.length c (l.flatMap encInt) rfl ?_ ?_ ?_ ?_ ?_ ?_ ?_)
    · rw [encInt_len]
    · intro j u hj
      rw [World.cell?_alloc_lt _ _ _ (cell_blk (H.out.flat encInt_one (by decide) encInt_of j u hj))]
      exact H.out.flat encInt_one (by decide) encInt_of j u hj
    · exact encInt_cell l
    · have := Hn.out; unfold maxLen; omega
    · have := Hn.out; omega
    · simp
    · intro v' w1 hown hgrow _ _
      have hown' := Own.of_row (r := rInt) hown encInt_one (encInt_rd (S := S) (w := w) (a := some ad) (n := l.length) (c := c) H.out w1)
      go_wp2
      go_ret
      exact ⟨_, rfl, hown', ((Below.refl _ _).alloc (Nat.le_refl _) _).grown hgrow (by simp) (fun k hk => by cases hk; exact Nat.le_refl _)⟩

set_option maxRecDepth 100000 in
set_option maxHeartbeats 1000000 in
theorem cloneVals_any {S : Nat → Prop} (a : Option Addr) (c : Nat) (l : List DVal) (w : World) (h : SlAt S w 2 rVal (.slice a l.length c) l) (hn : l.length ≤ 1048576) :
    Calls Tryd.prog 129 #[.slice a l.length c] w fun e w' => ∃ v, e = .returned v ∧ Own w.heap.size w' 41 2 rVal v l ∧ Below w.heap.size w w' := by
  have H := hid h
  have Hn := hid hn
  clear h hn
  have hnil := fun (w : World) (a : Option Addr) (n c n' c' : Nat) => Lib.run_eql_slice_nil (P := Tryd.prog) w 68 41 a n c n' c' Tryd.underlying68
  obtain ⟨i0, hi, hz0, hz1, hz2⟩ := info_parts infoVal
  cases a with
  | none =>
    obtain rfl := H.out.none
    go_enter Tryd.func129, Tryd.ntmps129
    go_wp2
    go_ret
    exact ⟨_, rfl, Own.nil _ _ _ _ _, Below.refl _ _⟩
  | some ad =>
    go_enter Tryd.func129, Tryd.ntmps129
    go_wp2_with (at_builtin; refine wpList_append_own_at _ rfl _ _ 68 rfl w.heap.size 41 i0 (.agg #[.bool false, .int .i64 0]) 2 16 Tryd.underlying68 hi hz0 hz1 hz2 rfl (by decide) (.slice (some ⟨w.heap.size, 0, none⟩) 0 0) 0 [] rfl (World.ownsRow_made w #[] 0 (Nat.le_refl _) (by decide) rfl) ad l.length c (l.flatMap encVal) rfl ?_ ?_ ?_ ?_ ?_ ?_ ?_)
    · rw [encVal_len]
    · intro j u hj
      rw [World.cell?_alloc_lt _ _ _ (cell_blk (H.out.flat encVal_one (by decide) encVal_of j u hj))]
      exact H.out.flat encVal_one (by decide) encVal_of j u hj
    · exact encVal_cell l
    · have := Hn.out; unfold maxLen; omega
    · have := Hn.out; omega
    · simp
    · intro v' w1 hown hgrow _ _
      have hown' := Own.of_row (r := rVal) hown encVal_one (encVal_rd (S := S) (w := w) (a := some ad) (n := l.length) (c := c) H.out w1)
      go_wp2
      go_ret
      exact ⟨_, rfl, hown', ((Below.refl _ _).alloc (Nat.le_refl _) _).grown hgrow (by simp) (fun k hk => by cases hk; exact Nat.le_refl _)⟩

end Go.Proofs.YtaehkcnankijfaaDoor
