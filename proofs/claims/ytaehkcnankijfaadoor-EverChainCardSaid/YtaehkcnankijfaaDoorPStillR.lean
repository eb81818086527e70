/- append of a make: a row of the call's own, grown by zeros. No function of the program in sight. still.words: the words of the memory, as they are at first. turneryref6.StillOf: word by word. -/
import Derived.Test.YtaehkcnankijfaaDoorPClone
import Derived.Test.YtaehkcnankijfaaDoorPHeldR
namespace Go.Proofs.YtaehkcnankijfaaDoor
open Go.RowKit


end Go.Proofs.YtaehkcnankijfaaDoor

namespace Go.Proofs.YtaehkcnankijfaaDoor
open Go.RowKit

/-- A row of numbers of the call's own. -/
def OwnInts (base : Nat) (w : World) (v : Value) (l : List Int) : Prop := w.ownsRow base 3 1 v l.length (l.map fun x => .int .i64 x) ∧ ∀ x ∈ l, I64 x
theorem OwnInts.nil (base : Nat) (w : World) : OwnInts base w (.slice none 0 0) [] := ⟨World.ownsRow_nil w base _ 1, fun x h => by simp at h⟩
theorem OwnInts.shape {base : Nat} {w : World} {v : Value} {l : List Int} (h : OwnInts base w v l) : ∃ a c, v = .slice a l.length c := by
  rcases h.1.2 with ⟨rfl, h2⟩ | ⟨g, cap, cur, rfl, -⟩
  · exact ⟨none, 0, by rw [h2]⟩
  · exact ⟨_, _, rfl⟩
theorem OwnInts.later {base : Nat} {w w' : World} {v : Value} {l : List Int} (h : OwnInts base w v l) (hb : Below w.heap.size w w') : OwnInts base w' v l :=
  ⟨h.1.kept (grown_below (B := 0) hb none (Nat.zero_le _)) (by cases v.ownBlock <;> simp), h.2⟩
theorem OwnInts.sl {base : Nat} {w : World} {v : Value} {l : List Int} (h : OwnInts base w v l) : SlAt (iv base w.heap.size) w 1 rInt v l := by
  obtain ⟨h1, h2⟩ := h
  have hc := fun g hg => h1.cells (g := g) hg
  rcases id h1.2 with ⟨rfl, hl⟩ | ⟨g, cap, cur, rfl, hg, hgg, hn, hm, -⟩
  · have hl0 : l = [] := List.length_eq_zero_iff.1 hl
    subst hl0
    exact ⟨none, 0, rfl, Nat.le_refl _, by decide, fun h => absurd rfl h⟩
  · unfold maxLen at hm
    refine ⟨_, cap, rfl, hn, by omega, fun hne => ⟨g, 0, rfl, ⟨hg, (Array.getElem?_eq_some_iff.1 hgg).1⟩, fun i x hx => ?_⟩⟩
    obtain ⟨hi, rfl⟩ := List.getElem?_eq_some_iff.1 hx
    have hb := h2 _ (List.getElem_mem hi)
    refine ⟨_, ⟨rfl, hb.1, hb.2⟩, rfl, fun j u hj => ?_⟩
    match j, hj with
    | 0, hj =>
      cases hj
      have hcell := hc g rfl i (.int .i64 l[i]) (by rw [List.getElem?_map, List.getElem?_eq_getElem hi]; rfl)
      rw [show (⟨g, 0, none⟩ : Addr).add i = ⟨g, i, none⟩ by unfold Addr.add; split <;> simp_all] at hcell
      rw [Nat.zero_add, Nat.mul_one, Nat.add_zero]; exact hcell
    | j + 1, hj => simp at hj
theorem sl_news {S : Nat → Prop} {w : World} {b off n c : Nat} {l : List Int} (h : SlAt S w 1 rInt (.slice (some ⟨b, off, none⟩) n c) l) : ∀ (j : Nat) u, (l.map fun x => Value.int .i64 x)[j]? = some u → w.cell? ((⟨b, off, none⟩ : Addr).add j) = some u := by
  intro j u hj
  rw [List.getElem?_map] at hj
  cases hq : l[j]? with
  | none => rw [hq] at hj; cases hj
  | some x =>
    rw [hq] at hj
    cases hj
    obtain ⟨hi, rfl⟩ := List.getElem?_eq_some_iff.1 hq
    obtain ⟨b', off', e, hc⟩ := int_at h hi
    cases e
    rw [show (⟨b, off, none⟩ : Addr).add j = ⟨b, off + j, none⟩ by unfold Addr.add; split <;> simp_all]
    exact hc

/-- append of a list of numbers onto such a row, for the walk. -/
theorem wpList_append_ints {w : World} {ops : Array Oper} {rest : List Oper} {o : Oper} {a : Act} {Q : Exit → Act → World → Prop} (hgd : o.guard = none) (s x : Operand)
    (ho : o.op = .call { callee := .builtin .append, args := #[s, x], argTypes := #[26, 26] })
    (base : Nat) (v : Value) (l : List Int) (hs : a.eval s = v) (hown : OwnInts base w v l) {S : Nat → Prop} (sa : Option Addr) (m c : Nat) (L : List Int) (hx : a.eval x = .slice sa m c) (hsl : SlAt S w 1 rInt (.slice sa m c) L) (hm : L.length = m)
    (hn : l.length + m ≤ 1048576) (hbase : base ≤ w.heap.size)
    (h : ∀ v' w', OwnInts base w' v' (l ++ L) → w.grownBy w' v.ownBlock → wpList Tryd.prog ops Q rest (a.put o.dst v') w') :
    wpList Tryd.prog ops Q (o :: rest) a w := by
  subst hm
  obtain ⟨ii, hii, hz0, hz1, hz2⟩ := info_parts infoInt'
  have hi64 : ∀ x ∈ L, I64 x := fun x hx => by
    obtain ⟨i, hi, rfl⟩ := List.getElem_of_mem hx
    obtain ⟨-, -, cs9, -, -, ⟨-, h1, h2⟩, -⟩ := hsl.get hi
    exact ⟨h1, h2⟩
  have hall : ∀ x ∈ l ++ L, I64 x := fun x hx => (List.mem_append.1 hx).elim (hown.2 x) (hi64 x)
  refine wpList_plain hgd fun K hK => ?_
  cases sa with
  | none =>
    have hl := hsl.none
    subst hl
    rw [List.append_nil] at h hall
    have hrun : (Builtin.append_ #[26, 26] o.type #[v, .slice none 0 c]).run Tryd.prog w = .ok v w := by
      rcases hown.1.2 with ⟨rfl, -⟩ | ⟨g, cap, cur, rfl, -, -, hnc, -⟩
      · simp [Builtin.append_, run_underlying Tryd.underlying26, sizeOf, typeInfo, hii, Builtin.lenOf, Builtin.firstCells]
      · simp [Builtin.append_, run_underlying Tryd.underlying26, sizeOf, typeInfo, hii, Builtin.lenOf, Builtin.firstCells, hnc, storeCells]
    unfold Oper.wp execOp
    simp only [ho, resolve, invoke, builtin, Sem.run_bind, Sem.run_pure, Result.andThen_ok, List.map_toArray, List.map_cons, List.map_nil, hs, hx, List.length_nil, hrun]
    exact hK _ _ (h v w hown ⟨rfl, rfl, rfl, Nat.le_refl _, fun _ _ _ => rfl⟩)
  | some ad =>
    cases hL : L with
    | nil =>
      subst hL
      rw [List.append_nil] at h hall
      obtain ⟨v', w', hr, h2, h3, -⟩ := run_append_own (P := Tryd.prog) w base 26 o.type 3 ii (.int .i64 0) 1 8 Tryd.underlying26 hii hz0 hz1 hz2 rfl (by decide) v l.length _ hown.1 ad 0 c [] rfl (fun j u hj => by simp at hj) (fun u hu => by simp at hu) (by unfold maxLen; omega) (by omega) hbase
      unfold Oper.wp execOp
      simp only [ho, resolve, invoke, builtin, Sem.run_bind, Sem.run_pure, Result.andThen_ok, List.map_toArray, List.map_cons, List.map_nil, hs, hx, List.length_nil, hr]
      exact hK _ _ (h v' w' ⟨by simpa using h2, hall⟩ h3)
    | cons y L' =>
      obtain ⟨b, off, hab, -⟩ := int_at hsl (t := 0) (by rw [hL]; simp)
      cases hab
      obtain ⟨v', w', hr, h2, h3, -⟩ := run_append_own (P := Tryd.prog) w base 26 o.type 3 ii (.int .i64 0) 1 8 Tryd.underlying26 hii hz0 hz1 hz2 rfl (by decide) v l.length _ hown.1 ⟨b, off, none⟩ L.length c (L.map fun x => .int .i64 x) (by simp) (sl_news hsl) (fun u hu => by obtain ⟨x, -, rfl⟩ := List.mem_map.1 hu; rfl) (by unfold maxLen; omega) (by omega) hbase
      unfold Oper.wp execOp
      simp only [ho, resolve, invoke, builtin, Sem.run_bind, Sem.run_pure, Result.andThen_ok, List.map_toArray, List.map_cons, List.map_nil, hs, hx, hr]
      exact hK _ _ (h v' w' ⟨by rw [List.length_append, List.map_append]; exact h2, hall⟩ h3)
end Go.Proofs.YtaehkcnankijfaaDoor

namespace Go.Proofs.YtaehkcnankijfaaDoor
open Go.RowKit

end Go.Proofs.YtaehkcnankijfaaDoor
