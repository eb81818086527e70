/- dom.TreeOf, in plain Lean: the order of a search in depth is fit for the tree; the rounds end, and what holds then. ssa.Check, in plain Lean; and what code.Check says of a function, gathered. -/
import Derived.Test.YtaehkcnankijfaaDoorPWar0
import Derived.Test.YtaehkcnankijfaaDoorPDom0
import Derived.Test.YtaehkcnankijfaaDoorPTurnT
import Derived.Test.YtaehkcnankijfaaDoorPKnown
import Derived.Test.YtaehkcnankijfaaDoorPFits
import Derived.Test.YtaehkcnankijfaaDoorPHotW
namespace Go.Proofs.YtaehkcnankijfaaDoor
open Go.RowKit

/- The rounds. -/
end Go.Proofs.YtaehkcnankijfaaDoor

namespace Go.Proofs.YtaehkcnankijfaaDoor
open Go.RowKit

def VOk (regs : Int) (v : DVal) : Prop := v.reg = true → 0 ≤ v.n ∧ v.n < regs
theorem valE_ok {regs : Int} {v : DVal} (h : valE regs v = 0) : VOk regs v := by
  intro hr
  unfold valE at h
  by_cases h1 : v.reg = true ∧ ¬ (0 ≤ v.n ∧ v.n ≤ regs - 1)
  · rw [if_pos h1] at h; omega
  · have h2 : ¬ ¬ (0 ≤ v.n ∧ v.n ≤ regs - 1) := fun h3 => h1 ⟨hr, h3⟩
    omega
theorem dstE_ok {regs n : Int} (h : dstE regs n = 0) : 0 ≤ n ∧ n < regs := by
  unfold dstE at h
  by_cases h1 : ¬ (0 ≤ n ∧ n ≤ regs - 1)
  · rw [if_pos h1] at h; omega
  · omega
/-- What an instruction of a checked function is. -/
structure InsOk (regs : Int) (x : DIns) : Prop where
  op : 1 ≤ x.op ∧ x.op ≤ 22
  dst : -1 ≤ x.dst ∧ x.dst < regs
  low : x.op ≤ 18 → 0 ≤ x.dst
  a : VOk regs x.a
  b : VOk regs x.b
  offA : shpA x.op = false → x.a = ⟨false, 0⟩
  offB : shpB x.op = false → x.b = ⟨false, 0⟩
  args : ∀ v ∈ x.args, VOk regs v
theorem insE_ok {fs : List DFunc} {regs : Int} {x : DIns} (hr : 0 ≤ regs) (h : insE fs regs x = 0) : InsOk regs x := by
  unfold insE at h
  by_cases h1 : ¬ (1 ≤ x.op ∧ x.op ≤ 22)
  · rw [if_pos h1] at h; omega
  rw [if_neg h1] at h
  by_cases h2 : formBad x = true
  · rw [if_pos h2] at h; omega
  rw [if_neg h2] at h
  by_cases h3 : (shpD x.op = true ∧ ¬ (x.op = 20 ∧ x.dst = -1)) ∧ dstE regs x.dst ≠ 0
  · rw [if_pos h3] at h; omega
  rw [if_neg h3] at h
  have hf : firstE (valE regs x.a) (valE regs x.b) (callE fs regs x) = 0 → valE regs x.a = 0 ∧ valE regs x.b = 0 ∧ callE fs regs x = 0 := by
    unfold firstE
    by_cases a1 : valE regs x.a ≠ 0
    · rw [if_pos a1]; exact fun h => absurd h a1
    rw [if_neg a1]
    by_cases a2 : valE regs x.b ≠ 0
    · rw [if_pos a2]; exact fun h => absurd h a2
    rw [if_neg a2]
    exact fun h => ⟨by omega, by omega, h⟩
  obtain ⟨h4, h5, h6⟩ := hf h
  unfold formBad at h2
  simp only [Bool.or_eq_true, Bool.and_eq_true, Bool.not_eq_true', decide_eq_true_eq, not_or, not_and] at h2
  obtain ⟨⟨⟨g1, g2⟩, g3⟩, g4⟩ := h2
  have hdst : -1 ≤ x.dst ∧ x.dst < regs ∧ (x.op ≤ 18 → 0 ≤ x.dst) := by
    cases hD : shpD x.op with
    | false =>
      have := g1 hD
      refine ⟨by omega, by omega, fun h18 => ?_⟩
      unfold shpD at hD
      simp only [Bool.or_eq_false_iff, decide_eq_false_iff_not] at hD
      omega
    | true =>
      by_cases h7 : x.op = 20 ∧ x.dst = -1
      · exact ⟨by omega, by omega, fun h => by omega⟩
      · have h8 : dstE regs x.dst = 0 := by
          by_cases h9 : dstE regs x.dst = 0
          · exact h9
          · exact absurd ⟨⟨hD, h7⟩, h9⟩ h3
        have := dstE_ok h8
        exact ⟨by omega, by omega, fun _ => this.1⟩
  refine ⟨by omega, ⟨hdst.1, hdst.2.1⟩, hdst.2.2, valE_ok h4, valE_ok h5, fun h => by have := g2 h; exact Classical.not_not.1 this, fun h => by have := g3 h; exact Classical.not_not.1 this, fun v hv => ?_⟩
  by_cases hop : x.op = 20
  · unfold callE at h6
    rw [if_neg (by simpa using hop)] at h6
    by_cases b1 : ¬ (0 ≤ x.fn ∧ x.fn ≤ (fs.length : Int) - 1)
    · rw [if_pos b1] at h6; omega
    rw [if_neg b1] at h6
    by_cases b2 : (x.args.length : Int) ≠ (fs.getD x.fn.toNat ⟨ByteArray.empty, 0, 0, []⟩).params
    · rw [if_pos b2] at h6; omega
    rw [if_neg b2] at h6
    exact valE_ok (argsE_iff.1 h6 v hv)
  · have := (g4 hop).2
    have : x.args.length = 0 := by omega
    rw [List.length_eq_zero_iff.1 this] at hv
    cases hv
/-- What a function of a checked unit is. -/
structure FnOk (f : DFunc) : Prop where
  len : 1 ≤ f.blocks.length ∧ f.blocks.length ≤ 40
  pr : 0 ≤ f.params ∧ f.params ≤ 6 ∧ f.params ≤ f.regs ∧ f.regs ≤ 100
  many : ∀ x ∈ f.blocks, x.phis.length ≤ 300 ∧ x.list.length ≤ 300
  tgt : ∀ (k : Nat) (x : DBlock), f.blocks[k]? = some x → x.fin.to.length ≤ 2 ∧ ∀ t ∈ x.fin.to, 0 ≤ t ∧ t < (f.blocks.length : Int)
  kind : ∀ (k : Nat) (x : DBlock), f.blocks[k]? = some x → 1 ≤ x.fin.kind ∧ x.fin.kind ≤ 3 ∧ (x.fin.to.length : Int) = x.fin.kind - 1 ∧ (∀ t ∈ x.fin.to, 1 ≤ t) ∧ ¬ (x.fin.kind = 3 ∧ x.fin.to.getD 0 0 = x.fin.to.getD 1 0)
  on : ∀ (k : Nat) (x : DBlock), f.blocks[k]? = some x → VOk f.regs x.fin.on
  phi : ∀ (k : Nat) (x : DBlock), f.blocks[k]? = some x → ∀ p ∈ x.phis, (0 ≤ p.dst ∧ p.dst < f.regs) ∧ p.src.length = (predsOf f.blocks 0 k).length ∧ ∀ v ∈ p.src, VOk f.regs v
  phi0 : ∀ (k : Nat) (x : DBlock), f.blocks[k]? = some x → ∀ p ∈ x.phis, k ≠ 0
  ins : ∀ (k : Nat) (x : DBlock), f.blocks[k]? = some x → ∀ y ∈ x.list, InsOk f.regs y
  args : ∀ (k : Nat) (x : DBlock), f.blocks[k]? = some x → ∀ y ∈ x.list, y.args.length ≤ 1048576
theorem fnOk {u : DUnit} (h : checkF u = (0, 0)) {k : Nat} {f : DFunc} (hf : u.funcs[k]? = some f) : FnOk f := by
  obtain ⟨hh, hb⟩ := checkF_at h hf
  obtain ⟨-, -, p1, p2, p3, p4, l1, l2, hm⟩ := headE_ok hh
  obtain ⟨e1, e2⟩ := bodyE_zero.1 hb
  have hsm := (checkF_small h).2 f (List.mem_of_getElem? hf)
  have he : ∀ (k : Nat) (x : DBlock), f.blocks[k]? = some x → endE f.blocks.length f.regs x.fin = 0 := fun k x hx => by
    have := e1 k (List.getElem?_eq_some_iff.1 hx).1
    unfold endsE at this
    rw [hx] at this
    exact this
  have hbk : ∀ (k : Nat) (x : DBlock), f.blocks[k]? = some x → (∀ p ∈ x.phis, phiE f.regs k (aheadF f.blocks) p = 0) ∧ ∀ y ∈ x.list, insE u.funcs f.regs y = 0 := fun k x hx =>
    (blockE_zero hx).1 (e2 k (List.getElem?_eq_some_iff.1 hx).1)
  refine ⟨⟨l1, l2⟩, ⟨p1, p2, p3, p4⟩, fun x hx => by have := manyOf_mem hx; omega, fun k x hx => ?_, fun k x hx => ?_, fun k x hx => ?_, fun k x hx p hp => ?_, fun k x hx p hp => ?_, fun k x hx y hy => ?_, fun k x hx y hy => ?_⟩
  · have := endE_ok (he k x hx)
    refine ⟨by omega, fun t ht => ?_⟩
    have := this.2.2.2.1 t ht
    omega
  · obtain ⟨a1, a2, a3, a4, a5, -⟩ := endE_ok (he k x hx)
    exact ⟨a1, a2, a3, fun t ht => (a4 t ht).1, a5⟩
  · exact valE_ok (endE_ok (he k x hx)).2.2.2.2.2
  · obtain ⟨-, a2, a3, a4⟩ := phiE_iff.1 ((hbk k x hx).1 p hp)
    rw [aheadF_getD (List.getElem?_eq_some_iff.1 hx).1] at a3
    exact ⟨dstE_ok a2, a3, fun v hv => valE_ok (argsE_iff.1 a4 v hv)⟩
  · exact (phiE_iff.1 ((hbk k x hx).1 p hp)).1
  · exact insE_ok (by omega) ((hbk k x hx).2 y hy)
  · rcases insE_args ((hbk k x hx).2 y hy) with h4 | ⟨g, hg, h4⟩
    · omega
    · obtain ⟨i, hi, rfl⟩ := List.getElem_of_mem hg
      have := (headE_ok (checkF_at h (List.getElem?_eq_getElem hi)).1).2.2.2.1
      omega
def noIns : DIns := ⟨0, 0, ⟨false, 0⟩, ⟨false, 0⟩, 0, []⟩
end Go.Proofs.YtaehkcnankijfaaDoor
