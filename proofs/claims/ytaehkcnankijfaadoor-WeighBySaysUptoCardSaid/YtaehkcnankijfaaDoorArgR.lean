/- A list of lists of numbers that comes as an argument. -/
import Derived.Test.YtaehkcnankijfaaDoorFrame
import Derived.Test.YtaehkcnankijfaaDoorChk8
namespace Go.Proofs.YtaehkcnankijfaaDoor
open Go.RowKit Go.ChangeShapes Go.WideShapes Go.ChangeAt Go.Deep

theorem rd_rows : Rd 53 1 (rL 1 rRow) (szL (szL szInt)) := rd_slice Tryd.underlying53 cells_ints (by decide) rd_ints
set_option maxRecDepth 100000 in
theorem arg_rows {H : Type} {enc : TypeId × Value → H} {W : World} {base : Nat} {v : Value} {d : DataW H} {p : List MemPlace} (hv : Value.okWide Tryd.prog W .any base 53 v) (h : DataW.Trod enc Tryd.prog W 0 (fun _ => true) true 53 v d p) :
    ∃ ca cc C, v = .slice ca C.length cc ∧ SlAt (fun b => b < W.heap.size) W 1 rRow (.slice ca C.length cc) C ∧ szL (szL szInt) C ≤ Rows.uptoBulk d := by
  obtain ⟨a, len, cap, rfl⟩ := okWide_slice Tryd.underlying53 hv
  obtain ⟨fuel, h⟩ := h
  obtain ⟨C, ⟨v', e, hC⟩, -, hm⟩ := rd_rows _ _ _ _ _ _ _ _ _ h
  have e' : [Value.slice a len cap] = [v'] := e
  cases e'
  obtain ⟨ca, cc, ec, -⟩ := id hC
  cases ec
  exact ⟨_, _, _, rfl, hC, hm⟩
theorem szL_ints_pos (x : List Int) : 1 ≤ szL szInt x := szL_pos _ _
/-- The sizes that small rows have. -/
theorem rows_small {Cs : List (List Int)} (h : szL (szL szInt) Cs ≤ 1048576) : Cs.length ≤ 1048576 ∧ ∀ C ∈ Cs, C.length ≤ 1048576 :=
  ⟨Nat.le_trans (szL_len szL_ints_pos Cs) h, fun C hC => Nat.le_trans (szL_len szInt_pos C) (Nat.le_trans (szL_mem hC) h)⟩

end Go.Proofs.YtaehkcnankijfaaDoor
