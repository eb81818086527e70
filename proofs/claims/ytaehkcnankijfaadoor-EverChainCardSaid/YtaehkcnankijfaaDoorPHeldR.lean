/- The words of the memory that never change, plainly. still.within; turnerysame.Bools; turneryref5.WordsOf; turneryref6.StillFirst. A region without a defer statement, inside a round: what serves outside a round serves in it. A region that draws its order, inside a round of a loop over a function: a condition on the world is held through it, as outside (the kit's 'wpAnyH'). -/
import Derived.Test.YtaehkcnankijfaaDoorPFits
import Derived.Test.YtaehkcnankijfaaDoorPCopy
import Derived.Test.YtaehkcnankijfaaDoorPSameU
import Derived.BigRegion
import Derived.Lib.QuietBelowIn
import Derived.Sort.BigQuietIn
import Derived.RangeFuncCalls
import Derived.Deep.RegionHeld3
namespace Go.Proofs.YtaehkcnankijfaaDoor
open Go.RowKit

end Go.Proofs.YtaehkcnankijfaaDoor

namespace Go.Proofs.YtaehkcnankijfaaDoor
open Go.RowKit

end Go.Proofs.YtaehkcnankijfaaDoor

namespace Go.Proofs.YtaehkcnankijfaaDoor
open Go.RowKit Go.Sort

def undeferred (ops : Array Oper) : Bool := ops.all fun o => match o.op with | .defer _ => false | _ => true

theorem undeferred_spec {ops : Array Oper} (h : undeferred ops = true) {i : Nat} {o : Oper} (ho : ops[i]? = some o) : ∀ c, o.op ≠ .defer c := by
  intro c hc
  unfold undeferred at h
  rw [Array.all_eq_true] at h
  obtain ⟨hi, he⟩ := Array.getElem?_eq_some_iff.1 ho
  have := h i hi
  rw [he, hc] at this
  cases this

theorem uponIn_round {F : Fence} {n l : Nat} {P : Program} {o : Oper} {a : Act} {K K' : Act → World → Prop} {Q : Exit → Act → World → Prop} (hK : ∀ a w, K a w → K' a w) (r : Result Next)
    (h : o.uponIn F n P a K Q r) : o.uponIn (F.inRound l) n P a K' Q r := by
  cases r with
  | ok x w' =>
    cases x <;> simp only [Oper.uponIn] at h ⊢ <;>
      first
        | exact hK _ _ h
        | exact ⟨h.1, CallsIn.inRound l (CallsIn.mono h.2 (fun e w'' he => by cases e <;> first | exact hK _ _ he | exact he))⟩
        | exact ⟨h.1, RowsIn.mono h.2 (fun _ _ he => hK _ _ he)⟩
        | exact ⟨h.1, RoundIn.mono h.2 (fun e w'' he => by cases e <;> first | exact hK _ _ he | exact he)⟩
  | halt x w' => cases x <;> simp only [Oper.uponIn] at h ⊢ <;> exact h

theorem wpOpIn_round {F : Fence} {n l : Nat} {P : Program} {ops : Array Oper} {Q : Exit → Act → World → Prop} (hd : undeferred ops = true) {i : Nat} {a : Act} {w : World} {K K' : Act → World → Prop}
    (hK : ∀ a w, K a w → K' a w) (h : wpOpIn F n P ops Q i K a w) : wpOpIn (F.inRound l) n P ops Q i K' a w := by
  unfold wpOpIn at *
  split
  · rename_i ho; simp only [ho] at h; exact hK _ _ h
  · rename_i o ho
    simp only [ho] at h
    split
    · rename_i hw
      simp only [hw, if_true] at h
      unfold Oper.wpIn at *
      rw [Oper.semAt_eq _ _ _ (undeferred_spec hd ho)] at *
      exact ⟨h.1, uponIn_round hK _ h.2⟩
    · rename_i hw
      simp only [hw] at h
      exact ⟨h.1, hK _ _ h.2⟩

theorem wpAnyIn_round {F : Fence} {n l : Nat} {P : Program} {md : Region.Mode} {ops : Array Oper} {Q : Exit → Act → World → Prop} (hd : undeferred ops = true) :
    ∀ (fuel : Nat) (listed : Array Bool) (a : Act) (w : World), wpAnyIn F n P md ops Q fuel listed a w → wpAnyIn (F.inRound l) n P md ops Q fuel listed a w
  | 0, _, _, _, h => h
  | fuel + 1, _, _, _, h => ⟨h.1, fun i hi => wpOpIn_round hd (fun a' w' h' => wpAnyIn_round hd fuel _ a' w' h') (h.2 i hi)⟩

end Go.Proofs.YtaehkcnankijfaaDoor

namespace Go.Proofs.YtaehkcnankijfaaDoor
open Go.RowKit Go.Sort

/-- Only the plain way out. -/
def only (K : Act → World → Prop) : Exit → Act → World → Prop := fun e a w => e = .normal ∧ K a w
theorem only_lets {K : Act → World → Prop} (h : LetsOut (only K)) : False := by
  obtain ⟨a, w, h, -⟩ := h
  cases h

theorem rowsIn_wide {n : Nat} {P : Program} {row : String} {args : Array Value} {w : World} {R : Value → World → Prop} (h : Rows P row args w R) : RowsIn Fence.wide n P row args w R :=
  fun c cs _ => let ⟨v, w', r, s⟩ := h c cs; ⟨v, w', r, stepsIn_wide.2 s⟩

theorem uponIn_of_upon {n : Nat} {P : Program} {o : Oper} {a : Act} {K K' : Act → World → Prop} {Q : Exit → Act → World → Prop} {L : Act → World → Prop} (hK : ∀ a w, K a w → K' a w) (r : Result Next)
    (h : o.upon P a K (only L) r) : o.uponIn Fence.wide n P a K' Q r := by
  have hd : Fence.wide.depth.isSome = true → 1 ≤ n := fun h => by simp [Fence.wide] at h
  cases r with
  | ok x w' =>
    cases x <;> simp only [Oper.upon, Oper.uponIn] at h ⊢ <;>
      first
        | exact hK _ _ h
        | exact ⟨hd, callsIn_wide.2 (Calls.mono h (fun e w'' he => by
            cases e with
            | returned v => exact hK _ _ he
            | panicked chain => exact absurd he.1 (by simp)
            | outgrown => exact (only_lets he).elim))⟩
        | exact ⟨hd, rowsIn_wide (Rows.mono h (fun _ _ he => hK _ _ he))⟩
  | halt x w' => cases x <;> simp only [Oper.upon] at h <;> first | exact absurd h.1 (by simp) | exact h.elim

theorem wpAnyIn_of_any {n : Nat} {P : Program} {md : Region.Mode} {ops : Array Oper} {Q : Exit → Act → World → Prop} :
    ∀ (fuel : Nat) (listed : Array Bool) (a : Act) (w : World), wpAny P md ops (only (Q .normal)) fuel listed a w → wpAnyIn Fence.wide n P md ops Q fuel listed a w
  | 0, _, _, _, h => ⟨h.1, h.2.2⟩
  | fuel + 1, listed, a, w, h => ⟨fun hr => (h.1 hr).2, fun i hi => by
      have h2 := h.2 i hi
      unfold wpOp at h2
      unfold wpOpIn
      split
      · rename_i ho
        simp only [ho] at h2
        exact wpAnyIn_of_any fuel _ a w h2
      · rename_i o ho
        simp only [ho] at h2
        split
        · rename_i hw
          simp only [hw, if_true] at h2
          rcases h2 with h2 | ⟨-, h2⟩
          · unfold Oper.wp at h2
            unfold Oper.wpIn
            exact ⟨fun _ _ => trivial, uponIn_of_upon (fun a' w' h' => wpAnyIn_of_any fuel _ a' w' h') _ h2⟩
          · exact (only_lets h2).elim
        · rename_i hw
          simp only [hw] at h2
          exact ⟨fun _ _ => trivial, wpAnyIn_of_any fuel _ _ w h2⟩⟩

/-- One condition is held through a region inside a round. -/
theorem wpIn_region_round_held {n r : Nat} {P : Program} {id : Nat} {Q : Exit → Act → World → Prop} {a : Act} {w : World} {ops : Array Oper} (S : World → Prop) (hm : P.follows .mixedOrders = true) (hd : undeferred ops = true) (hS : S w.drew)
    (h : S w.drew → wpAnyH P .any ops (only (Q .normal)) S ops.size (Array.replicate ops.size false) a w.drew) : (Code.region id ops true).wpIn (Fence.wide.inRound r) n P Q a w :=
  wpIn_region_any hm (wpAnyIn_round hd _ _ _ _ (wpAnyIn_of_any _ _ _ _ (wpAny_of_held _ _ _ _ (h hS))))

end Go.Proofs.YtaehkcnankijfaaDoor
