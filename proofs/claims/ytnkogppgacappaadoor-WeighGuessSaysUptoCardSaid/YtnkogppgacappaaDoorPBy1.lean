/- weigh.By, plainly: what it answers. What code.Check leaves: small units, functions whose blocks may be laid. A row of structs that is written one by one. WeighRest, plainly: laid twice it lies as laid once. -/
import Derived.Test.YtnkogppgacappaaDoorPRest0
import Derived.Test.YtnkogppgacappaaDoorPHotW
import Derived.Test.YtnkogppgacappaaDoorPQueue
import Derived.Test.YtnkogppgacappaaDoorPCopy
namespace Go.Proofs.YtnkogppgacappaaDoor
open Go.RowKit

end Go.Proofs.YtnkogppgacappaaDoor

namespace Go.Proofs.YtnkogppgacappaaDoor
open Go.RowKit

/-- The facts of one function of a unit in its form. -/
theorem checkF_at {u : DUnit} (h : checkF u = (0, 0)) {k : Nat} {f : DFunc} (hf : u.funcs[k]? = some f) :
    headE (fNames u.globals u.funcs k) f = 0 ∧ bodyE u.funcs f = 0 := by
  obtain ⟨-, -, -, h2, h3⟩ := checkF_ok (u := u) (by rw [h])
  have g2 := h2 k
  have g3 := h3 k
  unfold headsE at g2
  unfold bodiesE at g3
  rw [hf] at g2 g3
  exact ⟨g2, g3⟩
theorem manyOf_mem {l : List DBlock} {x : DBlock} (h : x ∈ l) : x.phis.length + x.list.length ≤ manyOf l := by
  unfold manyOf
  induction l with
  | nil => cases h
  | cons a l ih =>
    rw [List.map_cons, List.sum_cons]
    rcases List.mem_cons.1 h with rfl | h
    · omega
    · have := ih h; omega
theorem insE_args {fs : List DFunc} {regs : Int} {x : DIns} (h : insE fs regs x = 0) : x.args.length = 0 ∨ ∃ f ∈ fs, (x.args.length : Int) = f.params := by
  unfold insE at h
  by_cases h1 : ¬ (1 ≤ x.op ∧ x.op ≤ 22)
  · rw [if_pos h1] at h; omega
  rw [if_neg h1] at h
  by_cases h2 : formBad x = true
  · rw [if_pos h2] at h; omega
  rw [if_neg h2] at h
  by_cases h3 : (shpD x.op = true ∧ ¬ (x.op = 20 ∧ x.dst = -1)) ∧ dstE regs x.dst ≠ 0
  · rw [if_pos h3] at h; omega
  rw [if_neg h3] at h
  by_cases hop : x.op = 20
  · right
    unfold firstE at h
    by_cases a1 : valE regs x.a ≠ 0
    · rw [if_pos a1] at h; exact absurd h a1
    rw [if_neg a1] at h
    by_cases a2 : valE regs x.b ≠ 0
    · rw [if_pos a2] at h; exact absurd h a2
    rw [if_neg a2] at h
    unfold callE at h
    rw [if_neg (by simpa using hop)] at h
    by_cases b1 : ¬ (0 ≤ x.fn ∧ x.fn ≤ (fs.length : Int) - 1)
    · rw [if_pos b1] at h; omega
    rw [if_neg b1] at h
    by_cases b2 : (x.args.length : Int) ≠ (fs.getD x.fn.toNat ⟨ByteArray.empty, 0, 0, []⟩).params
    · rw [if_pos b2] at h; omega
    have hk : x.fn.toNat < fs.length := by omega
    rw [List.getD_eq_getElem?_getD, List.getElem?_eq_getElem hk, Option.getD_some] at b2
    exact ⟨_, List.getElem_mem hk, by omega⟩
  · left
    unfold formBad at h2
    simp only [Bool.or_eq_true, Bool.and_eq_true, decide_eq_true_eq, not_or, not_and] at h2
    have := (h2.2 hop).2
    omega
theorem checkF_small {u : DUnit} (h : checkF u = (0, 0)) : (∀ g ∈ u.globals, g.init.length ≤ 1048576) ∧ ∀ f ∈ u.funcs, SmallF f := by
  obtain ⟨-, -, h1, -, -⟩ := checkF_ok (u := u) (by rw [h])
  have hpar : ∀ f ∈ u.funcs, f.params ≤ 6 := fun f hf => by
    obtain ⟨i, hi, rfl⟩ := List.getElem_of_mem hf
    exact (headE_ok (checkF_at h (List.getElem?_eq_getElem hi)).1).2.2.2.1
  refine ⟨fun g hg => ?_, fun f hf => ?_⟩
  · obtain ⟨i, hi, rfl⟩ := List.getElem_of_mem hg
    have g1 := h1 i
    unfold globE at g1
    rw [List.getElem?_eq_getElem hi] at g1
    have := globErr_ok g1
    omega
  · obtain ⟨i, hi, rfl⟩ := List.getElem_of_mem hf
    obtain ⟨hh, hb⟩ := checkF_at h (List.getElem?_eq_getElem hi)
    obtain ⟨-, -, -, -, -, -, -, h40, hm⟩ := headE_ok hh
    refine ⟨by omega, fun x hx => ?_⟩
    have hmx := manyOf_mem hx
    obtain ⟨j, hj, rfl⟩ := List.getElem_of_mem hx
    obtain ⟨e1, e2⟩ := bodyE_zero.1 hb
    have he := e1 j hj
    unfold endsE at he
    rw [List.getElem?_eq_getElem hj] at he
    have he' := endE_iff.1 he
    obtain ⟨hph, hin⟩ := (blockE_zero (List.getElem?_eq_getElem hj)).1 (e2 j hj)
    refine ⟨by omega, by omega, by omega, fun p hp => ?_, fun x hx => ?_⟩
    · have h3 := phiE_iff.1 (hph p hp)
      rw [aheadF_getD hj] at h3
      rw [h3.2.2.1]
      have := predsOf_len j u.funcs[i].blocks 0 (fun x hx => by
        obtain ⟨j', hj', rfl⟩ := List.getElem_of_mem hx
        have he := e1 j' hj'
        unfold endsE at he
        rw [List.getElem?_eq_getElem hj'] at he
        have := endE_iff.1 he
        omega)
      omega
    · rcases insE_args (hin x hx) with h4 | ⟨f, hf, h4⟩
      · omega
      · have := hpar f hf; omega

end Go.Proofs.YtnkogppgacappaaDoor

namespace Go.Proofs.YtnkogppgacappaaDoor
open Go.RowKit

end Go.Proofs.YtnkogppgacappaaDoor
