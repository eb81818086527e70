/- A loop over a function whose variable lies in a box of its own, made anew each round. -/
import Derived.Test.YtaehkcnankijfaaDoorPBack
namespace Go.Proofs.YtaehkcnankijfaaDoor
open Go.RowKit

theorem alloc_put (W : World) (o p : Obj) {l : Nat} (hl : l < W.heap.size) : (W.alloc o).putObj l p = (W.putObj l p).alloc o := by
  rw [← World.alloc_eq, ← World.alloc_eq]
  cases W with
  | mk heap tape drawn os output =>
    simp only [World.putObj] at hl ⊢
    congr 1
    apply Array.ext_getElem?
    intro i
    simp only [Array.getElem?_setIfInBounds, Array.getElem?_push, Array.size_setIfInBounds, Array.size_push]
    by_cases h1 : l = i
    · subst h1
      rw [if_pos rfl, if_pos (by omega), if_neg (by omega), if_pos rfl, if_pos hl]
    · rw [if_neg h1]
      by_cases h2 : i = heap.size
      · rw [if_pos h2, if_pos h2]
      · rw [if_neg h2, if_neg h2, if_neg h1]

/-- The books of such a loop: its record, and the calls that it defers (none). -/
structure Books (L D : Nat) (r : Loop) (W : World) : Prop where
  loop : W.heap[L]? = some (.loop r)
  mark : W.heap[D]? = some (.deferred (some []))
section
variable {L D : Nat} {r r' : Loop} {W W' : World}
theorem Books.grown (h : Books L D r W) {B : Nat} {row : Option Nat} (hg : W.grownBy W' row) (hr : ∀ k, row = some k → B ≤ k ∧ ∃ o : Obj, W.heap[k]? = some o ∧ o.isWalk = true) : Books L D r W' :=
  ⟨(grownBy_keeps hg (fun k e => (hr k e).2) h.loop rfl).trans h.loop, (grownBy_keeps hg (fun k e => (hr k e).2) h.mark rfl).trans h.mark⟩
theorem Books.put (h : Books L D r W) (hLD : D ≠ L) : Books L D r' (W.putObj L (.loop r')) :=
  ⟨World.putObj_heap_same (Array.getElem?_eq_some_iff.1 h.loop).1, (World.putObj_heap_other hLD).trans h.mark⟩
theorem Books.others (h : Books L D r W) (hk : KeepsOthers W W') : Books L D r W' := ⟨hk.same _ _ h.loop rfl, hk.same _ _ h.mark rfl⟩
end

theorem wpIn_rangeFunc_boxed {F : Fence} {n : Nat} {P : Program} {α : Type} {g : Operand} {ps : Array Tmp} {assign body : Code} {Q : Exit → Act → World → Prop} {a : Act} {w : World}
    (hro : F.round = none) (h1 : 1 ≤ n) {gf : Nat} {lb : Array Value} (hg : a.eval g = .func (.func gf) #[] lb) (hFg : F.fn gf) (eg : ∀ args w, (callFunc gf args).run P w = .ok (.enter gf args) w)
    {encs : α → Array Value} {Kp : World → World → Prop} {S Sp : List α → Prop} {N : Nat} {w0 : World} (hseq : SeqStopsK F (n - 1) P gf lb encs Kp S Sp N w0)
    (hKt : ∀ {A B C : World}, Kp A B → Kp B C → Kp A C) (hKb : ∀ (W : World) (l : Nat) (o o' : Obj), w.heap.size ≤ l → W.heap[l]? = some o → o.isCells = false → o.isWalk = false → Kp W (W.putObj l o')) (hb0 : Below w0.heap.size w0 w) (hps : ∀ x, (encs x).size = ps.size)
    (I : List α → World → Prop) (Ix : Code → List α → World → Prop) (hI : OwnFrom w.heap.size I) (hIx : ∀ c, OwnFrom w.heap.size (Ix c)) (h0 : I [] w) (bx : α → Obj) (a₁ : α → Nat → Act)
    (hassign : ∀ (l : Nat) (x : α) (W : World) (K : Act → World → Prop), K (a₁ x W.heap.size) (W.alloc (bx x)) →
      assign.wpIn (F.inRound l) (n - 1 - 1) P (Exit.then K (fun _ _ _ => False)) { tmps := (ps.zip (encs x)).foldl (fun t (p, v) => t.setIfInBounds p v) a.tmps, defers := [] } W)
    (hbody : ∀ (l : Nat) (pre : List α) (x : α) (W : World), I pre W → pre.length < N → body.wpIn (F.inRound l) (n - 1 - 1) P (ownPostK Kp I Ix (pre ++ [x]) W) (a₁ x W.heap.size) (W.alloc (bx x)))
    (hdone : ∀ (D : Nat) (xs : List α) (W : World), w.heap.size ≤ D → S xs → I xs W → W.heap[D]? = some (.deferred (some [])) → Q .normal { a with defers := { target := .collected D, args := #[] } :: a.defers } W)
    (hstop : ∀ (D : Nat) (c : Code) (pre : List α) (W : World), w.heap.size ≤ D → Sp pre → Ix c pre W → W.heap[D]? = some (.deferred (some [])) → c.wpIn F n P Q { a with defers := { target := .collected D, args := #[] } :: a.defers } W) :
    (Code.rangeFunc g ps assign body).wpIn F n P Q a w := by
  refine wpIn_rangeFunc ?_
  intro fn hfn
  rw [hro]
  obtain ⟨D, hD⟩ : ∃ D, D = w.heap.size := ⟨_, rfl⟩
  obtain ⟨rc, hrc⟩ : ∃ rc : LoopState → Option Code → Loop, rc = fun st pe => { state := st, pending := pe, fn, tmps := a.tmps, params := ps, assign, body, defers := w.heap.size } := ⟨_, rfl⟩
  have hDL : D ≠ D + 1 := by omega
  obtain ⟨W1, hW1⟩ : ∃ W1, W1 = (w.alloc (.deferred (some []))).alloc (.loop (rc .ready none)) := ⟨_, rfl⟩
  have hbk1 : Books (D + 1) D (rc .ready none) W1 := by
    refine ⟨?_, ?_⟩
    · have h := World.alloc_heap_new (w.alloc (.deferred (some []))) (.loop (rc .ready none))
      rw [World.size_alloc, ← hD, ← hW1] at h; exact h
    · rw [hW1, hD]; exact (Below.heap_alloc _ _ _ (by simp)).trans (World.alloc_heap_new w _)
  have hbel : Below w.heap.size w W1 := by rw [hW1]; exact ((Below.refl _ w).alloc (Nat.le_refl _) _).alloc (by simp) _
  have hz1 : w.heap.size ≤ W1.heap.size := hbel.size
  refine ⟨D + 1, [{ target := .collected D, args := #[] }], W1, { target := .fn (.func gf) lb, args := #[.func (.yield (D + 1)) #[] #[]] }, W1, gf,
    #[.func (.yield (D + 1)) #[] #[]] ++ lb, W1, ?_, ?_, ?_, ?_, fun _ => h1, ?_⟩
  · rw [hW1, hrc, hD]; exact run_enterLoop_outer _ _ _ _ _
  · simp only [resolve, hg]
    simp [go_sem]
  · intro f' hf'; simp [Target.leads] at hf'; subst hf'; exact hFg
  · simp [invoke, go_sem, eg]
  have hfrom : ∀ {A : World} {row : Option Nat}, (∀ k, row = some k → W1.heap.size ≤ k ∧ ∃ o : Obj, A.heap[k]? = some o ∧ o.isWalk = true) → (∀ k, row = some k → w.heap.size ≤ k ∧ ∃ o : Obj, A.heap[k]? = some o ∧ o.isCells = false) := fun hr k e => by
    obtain ⟨q1, o, q2, q3⟩ := hr k e
    exact ⟨Nat.le_trans hz1 q1, o, q2, Obj.not_cells_of_walk q3⟩
  refine (hseq (D + 1) (fun pre W => I pre W ∧ Books (D + 1) D (rc .ready none) W) (fun pre W => ∃ c, Ix c pre W ∧ Books (D + 1) D (rc .done (some c)) W) W1 (hb0.trans (hbel.mono hb0.size))
    (fun s A B row hs hgr hr => ⟨hI s A B row hs.1 hgr (hfrom hr), hs.2.grown hgr hr⟩)
    (fun s A B row hs hgr hr => hs.elim fun c hc => ⟨c, hIx c s A B row hc.1 hgr (hfrom hr), hc.2.grown hgr hr⟩)
    ?round ⟨by rw [hW1]; exact hI.alloc _ (hI.alloc _ h0), hbk1⟩).mono ?behind
  case round =>
    rintro pre x W ⟨hi, hbk⟩ hlen
    have hlt : D + 1 < W.heap.size := (Array.getElem?_eq_some_iff.1 hbk.loop).1
    have hyld := run_yield (P := P) (args := encs x) hbk.loop (by rw [hrc]; exact hps x)
    rw [hrc] at hyld
    -- the world in which the body begins, but for the box
    obtain ⟨V, hV⟩ : ∃ V, V = W.putObj (D + 1) (.loop { rc .ready none with state := .busy }) := ⟨_, rfl⟩
    have hVs : V.heap.size = W.heap.size := by rw [hV]; exact World.putObj_size
    have hbkV : Books (D + 1) D { rc .ready none with state := .busy } V := by rw [hV]; exact hbk.put hDL
    have hKV : Kp W V := by rw [hV]; exact hKb _ _ _ _ (by omega) hbk.loop rfl rfl
    have hbox : Books (D + 1) D (rc .ready none) (W.alloc (bx x)) := hbk.others (KeepsOthers.alloc _ _)
    refine ⟨fn, _, assign, body, hyld, roundIn_of_wpIn hfn (hassign _ x W _ ⟨_, run_beginRound hbox.loop (by rw [hrc]), ?_⟩)⟩
    rw [alloc_put W _ _ hlt, ← hV, ← hVs]
    refine wpIn_mono (hbody _ pre x V (by rw [hV]; exact hI.putObj _ hi (by omega) hbk.loop rfl) hlen) ?_
    have hend : ∀ (jump : Option Code) (W3 : World), Books (D + 1) D { rc .ready none with state := .busy } W3 →
        (Instr.endRound (D + 1) jump).run P W3 = .ok (.bool jump.isNone) (W3.putObj (D + 1) (.loop (rc (if jump.isNone then .ready else .done) jump))) := fun jump W3 hb3 => by
      have h := run_endRound (P := P) jump hb3.loop
      rw [hrc] at h ⊢
      exact h
    rintro e a3 W3 hp
    cases e with
    | normal =>
      obtain ⟨hk3, hkp3, hi3⟩ := hp
      have hb3 := hbkV.others hk3
      exact ⟨_, _, hend none W3 hb3, .inl ⟨rfl, ⟨hI.putObj _ hi3 (by omega) hb3.loop rfl, hb3.put hDL⟩, hKt (hKt hKV hkp3) (hKb _ _ _ _ (by omega) hb3.loop rfl rfl)⟩⟩
    | ret =>
      have hb3 := hbkV.others hp.1
      exact ⟨_, _, hend (some .ret) W3 hb3, .inr ⟨rfl, .ret, (hIx _).putObj _ hp.2 (by omega) hb3.loop rfl, hb3.put hDL⟩⟩
    | exit id =>
      have hb3 := hbkV.others hp.1
      exact ⟨_, _, hend (some (.exit id)) W3 hb3, .inr ⟨rfl, .exit id, (hIx _).putObj _ hp.2 (by omega) hb3.loop rfl, hb3.put hDL⟩⟩
    | goto t =>
      have hb3 := hbkV.others hp.1
      exact ⟨_, _, hend (some (.goto t)) W3 hb3, .inr ⟨rfl, .goto t, (hIx _).putObj _ hp.2 (by omega) hb3.loop rfl, hb3.put hDL⟩⟩
    | panic ch => exact hp.elim
    | outgrown => exact hp.elim
  case behind =>
    rintro e W2 ⟨⟨v, rfl⟩, (⟨xs, hS, hi, hbk⟩ | ⟨pre, hSp, c, hi, hbk⟩)⟩
    · exact ⟨none, _, by have h := run_endLoop (P := P) hbk.loop (by rw [hrc]; simp); rw [hrc] at h; exact h, hdone D xs _ (by omega) hS (hI.putObj _ hi (by omega) hbk.loop rfl) ((World.putObj_heap_other hDL).trans hbk.mark)⟩
    · exact ⟨some c, _, by have h := run_endLoop (P := P) hbk.loop (by rw [hrc]; simp); rw [hrc] at h; exact h, hstop D c pre _ (by omega) hSp ((hIx c).putObj _ hi (by omega) hbk.loop rfl) ((World.putObj_heap_other hDL).trans hbk.mark)⟩

end Go.Proofs.YtaehkcnankijfaaDoor
