/- slices.Repeat of a list of one pair of numbers (ssa.written). ssa.checker.writes: all registers that a function writes. -/
import Derived.Test.YtaehkcnankijfaaDoorPMarks
import Derived.Test.YtaehkcnankijfaaDoorPWrite
import Derived.Test.YtaehkcnankijfaaDoorPSsa0
import Derived.Test.YtaehkcnankijfaaDoorPRefA
namespace Go.Proofs.YtaehkcnankijfaaDoor
open Go.RowKit Go.Lib

/-- So many pairs. -/
def pairs (n : Nat) (x y : Value) : List Value := (List.replicate n [x, y]).flatten
theorem pairs_len (n : Nat) (x y : Value) : (pairs n x y).length = n * 2 := by
  unfold pairs
  induction n with
  | zero => rfl
  | succ n ih => rw [List.replicate_succ, List.flatten_cons, List.length_append, ih]; simp; omega
theorem pairs_at {x y : Value} : ∀ {n i : Nat}, i < n → (pairs n x y)[i * 2]? = some x ∧ (pairs n x y)[i * 2 + 1]? = some y := by
  intro n
  induction n with
  | zero => intro i hi; omega
  | succ n ih =>
    intro i hi
    have e : pairs (n + 1) x y = x :: y :: pairs n x y := by unfold pairs; rw [List.replicate_succ]; rfl
    rw [e]
    cases i with
    | zero => exact ⟨rfl, rfl⟩
    | succ i =>
      rw [show (i + 1) * 2 = i * 2 + 2 by omega, show i * 2 + 2 + 1 = i * 2 + 1 + 2 by omega]
      exact ih (by omega)
theorem madeCells_pairs (x y : Value) (n : Nat) : madeCells #[x, y] (n * 2) = (pairs n x y).toArray := by
  apply Array.ext
  · simp [madeCells, pairs_len]
  · intro i h1 h2
    rw [size_madeCells] at h1
    obtain ⟨k, hk⟩ : ∃ k, k = i / 2 := ⟨_, rfl⟩
    have hkn : k < n := by omega
    obtain ⟨p0, p1⟩ := pairs_at (x := x) (y := y) hkn
    have e : (pairs n x y).toArray[i]? = some ((pairs n x y).toArray[i]) := Array.getElem?_eq_getElem h2
    rw [List.getElem?_toArray] at e
    by_cases hm : i = k * 2
    · clear hk
      subst hm
      rw [p0] at e
      rw [← Option.some.inj e]
      simp [madeCells, Nat.mul_mod_left]
    · have hm2 : i = k * 2 + 1 := by omega
      clear hk hm
      subst hm2
      rw [p1] at e
      rw [← Option.some.inj e]
      simp [madeCells, Nat.add_mod, Nat.mul_mod_left]
/-- make of so many things of two cells. -/
theorem run_make_pairs {P : Program} (t e : TypeId) (z0 z1 : Value) (bytes : Nat) (ht : P.underlying t = some (.slice e)) (hinfo : (P.info? e).map (fun i => (i.zero, i.size, i.bytes)) = some (some (.agg #[z0, z1]), 2, bytes)) (h0 : (Value.agg #[z0, z1]).cells = #[z0, z1]) (kl kc : IntKind) (n : Nat) (hb : (bytes : Int) * n ≤ 281474976710656) (h63 : (n : Int) ≤ 9223372036854775807) (w : World) :
    (Instr.makeSlice t (.int kl (n : Int)) (.int kc (n : Int))).run P w = .ok (.slice (some ⟨w.heap.size, 0, none⟩) n n) (w.alloc (.cells (pairs n z0 z1).toArray e)) := by
  cases hq : P.info? e with
  | none => simp [hq] at hinfo
  | some i =>
    rw [hq] at hinfo
    simp only [Option.map_some, Option.some.injEq, Prod.mk.injEq] at hinfo
    obtain ⟨hz, hs, hby⟩ := hinfo
    have h := run_make (P := P) w t e i _ ht hq hz kl kc (n : Int) (n : Int) (by omega) (Int.le_refl _) (by rw [hby]; exact hb) h63
    rw [h0, hs, Int.toNat_natCast, madeCells_pairs] at h
    exact h

end Go.Proofs.YtaehkcnankijfaaDoor

namespace Go.Proofs.YtaehkcnankijfaaDoor
open Go.RowKit

/-- The cells of a table of places. -/
def rowP (t : List (Int × Int)) : Array Value := (t.flatMap fun p => [Value.int .i64 p.1, Value.int .i64 p.2]).toArray
theorem flat2_get : ∀ (t : List (Int × Int)) (i : Nat), (t.flatMap fun p => [Value.int .i64 p.1, Value.int .i64 p.2])[i]? = (t[i / 2]?).map fun p => if i % 2 = 0 then Value.int .i64 p.1 else Value.int .i64 p.2
  | [], i => by simp
  | p :: t, 0 => rfl
  | p :: t, 1 => rfl
  | p :: t, i + 2 => by
    have h := flat2_get t i
    rw [List.flatMap_cons, show (i + 2) / 2 = i / 2 + 1 by omega, List.getElem?_cons_succ, show (i + 2) % 2 = i % 2 by omega, ← h]
    rfl
theorem rowP_get (t : List (Int × Int)) (i : Nat) : (rowP t)[i]? = (t[i / 2]?).map fun p => if i % 2 = 0 then Value.int .i64 p.1 else Value.int .i64 p.2 := by
  unfold rowP
  rw [List.getElem?_toArray, flat2_get]
theorem rowP_at {t : List (Int × Int)} {r : Nat} (hr : r < t.length) : (rowP t)[r * 2]? = some (.int .i64 t[r].1) ∧ (rowP t)[r * 2 + 1]? = some (.int .i64 t[r].2) := by
  rw [rowP_get, rowP_get, show r * 2 / 2 = r by omega, show (r * 2 + 1) / 2 = r by omega, List.getElem?_eq_getElem hr]
  refine ⟨?_, ?_⟩
  · rw [show r * 2 % 2 = 0 by omega]; rfl
  · rw [show (r * 2 + 1) % 2 = 1 by omega]; rfl
theorem rowP_size (t : List (Int × Int)) : (rowP t).size = t.length * 2 := by
  unfold rowP
  rw [List.size_toArray]
  induction t with
  | nil => rfl
  | cons p t ih => rw [List.flatMap_cons, List.length_append, ih, List.length_cons]; simp; omega
theorem rowP_set {t : List (Int × Int)} {r : Nat} (hr : r < t.length) (b a : Int) : ((rowP t).setIfInBounds (r * 2) (.int .i64 b)).setIfInBounds (r * 2 + 1) (.int .i64 a) = rowP (t.set r (b, a)) := by
  apply Array.ext_getElem?
  intro i
  have hz := rowP_size t
  rw [Array.getElem?_setIfInBounds, Array.getElem?_setIfInBounds, rowP_get, rowP_get, List.getElem?_set]
  by_cases h1 : r * 2 + 1 = i
  · subst h1
    rw [if_pos rfl, if_pos (by simp [hz]; omega), if_pos (by omega), if_pos hr]
    rw [show (r * 2 + 1) % 2 = 1 by omega]; rfl
  · rw [if_neg h1]
    by_cases h2 : r * 2 = i
    · subst h2
      rw [if_pos rfl, if_pos (by omega), if_pos (by omega), if_pos hr]
      rw [show r * 2 % 2 = 0 by omega]; rfl
    · rw [if_neg h2, if_neg (by omega)]
theorem rowP_rep (n : Nat) (x y : Int) : rowP (List.replicate n (x, y)) = (pairs n (.int .i64 x) (.int .i64 y)).toArray := by
  unfold rowP pairs
  congr 1
  induction n with
  | zero => rfl
  | succ n ih => rw [List.replicate_succ, List.replicate_succ, List.flatMap_cons, List.flatten_cons, ih]

end Go.Proofs.YtaehkcnankijfaaDoor
