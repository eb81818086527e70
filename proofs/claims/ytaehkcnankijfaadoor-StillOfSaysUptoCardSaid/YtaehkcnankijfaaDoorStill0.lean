/- The words of the memory that never change, plainly. -/
import Derived.Test.YtaehkcnankijfaaDoorBy1
namespace Go.Proofs.YtaehkcnankijfaaDoor
open Go.RowKit

def wordsG (g : DGlobal) : List Int := g.init ++ List.replicate (g.size - g.init.length).toNat 0
/-- The words of the first k parts of the memory. -/
def wordsK (gs : List DGlobal) (k : Nat) : List Int := (gs.take k).flatMap wordsG
def wordsL (gs : List DGlobal) : List Int := wordsK gs gs.length
theorem wordsK_succ {gs : List DGlobal} {k : Nat} (h : k < gs.length) : wordsK gs (k + 1) = wordsK gs k ++ wordsG gs[k] := by
  unfold wordsK; rw [List.take_succ_eq_append_getElem h, List.flatMap_append]; simp
theorem wordsG_len {g : DGlobal} (h : (g.init.length : Int) ≤ g.size) : ((wordsG g).length : Int) = g.size := by
  unfold wordsG; rw [List.length_append, List.length_replicate]; omega
theorem wordsK_len {gs : List DGlobal} (h : ∀ g ∈ gs, (g.init.length : Int) ≤ g.size) : ∀ k, k ≤ gs.length → ((wordsK gs k).length : Int) = wordsUp gs k := by
  intro k
  induction k with
  | zero => intro _; simp [wordsK, wordsUp]
  | succ k ih =>
    intro hk
    rw [wordsK_succ hk, wordsUp_succ hk, List.length_append, Int.natCast_add, ih (by omega), wordsG_len (h _ (List.getElem_mem hk))]

/-- What a word is at first, as the document counts. -/
def stFirst : List DGlobal → Int → Int × Bool
  | [], _ => (0, false)
  | g :: gs, p => if 0 ≤ p ∧ p < g.size then (g.init.getD p.toNat 0, true) else stFirst gs (p - g.size)
theorem stFirst_at : ∀ (gs : List DGlobal), (∀ g ∈ gs, (g.init.length : Int) ≤ g.size) → ∀ (p : Nat), p < (gs.flatMap wordsG).length → stFirst gs p = ((gs.flatMap wordsG).getD p 0, true)
  | [], _, p, hp => by simp at hp
  | g :: gs, h, p, hp => by
    have hg := wordsG_len (h g (by simp))
    rw [List.flatMap_cons] at hp ⊢
    unfold stFirst
    by_cases hlt : (p : Int) < g.size
    · rw [if_pos ⟨by omega, hlt⟩, Int.toNat_natCast]
      have hpl : p < (wordsG g).length := by omega
      rw [List.getD_eq_getElem?_getD (l := wordsG g ++ _), List.getElem?_append_left hpl]
      unfold wordsG
      by_cases hi : p < g.init.length
      · rw [List.getElem?_append_left hi, List.getD_eq_getElem?_getD]
      · rw [List.getElem?_append_right (by omega), List.getElem?_replicate, if_pos (by omega), List.getD_eq_getElem?_getD, List.getElem?_eq_none (by omega)]; rfl
    · rw [if_neg (by omega)]
      have hpl : (wordsG g).length ≤ p := by omega
      rw [List.length_append] at hp
      have e : (p : Int) - g.size = ((p - (wordsG g).length : Nat) : Int) := by omega
      rw [e, stFirst_at gs (fun x hx => h x (by simp [hx])) _ (by omega)]
      rw [List.getD_eq_getElem?_getD (l := wordsG g ++ _), List.getElem?_append_right hpl, ← List.getD_eq_getElem?_getD]

def wildB (i : DIns) : Bool := decide (i.op = 19) && i.a.reg
def hurtB (mem : List Int) (p : Nat) (i : DIns) : Bool := decide (i.op = 19) && (!i.a.reg && (decide (i.a.n = (p : Int)) && (i.b.reg || decide (i.b.n ≠ mem.getD p 0))))
def insF (f : DFunc) : List DIns := f.blocks.flatMap (·.list)
def insU (fs : List DFunc) : List DIns := fs.flatMap insF
def calmL (mem : List Int) (l : List DIns) : List Bool := (List.range mem.length).map fun p => !(l.any (hurtB mem p))
/-- Which words never change. -/
def stillF (mem : List Int) (l : List DIns) : List Bool := if l.any wildB = true then List.replicate mem.length false else calmL mem l
/-- Which instructions spoil a word, as the document says. -/
def spoilB (first : Int) (p : Nat) (i : DIns) : Bool := decide (i.op = 19) && (i.a.reg || (decide (i.a.n = (p : Int)) && (i.b.reg || decide (i.b.n ≠ first))))
def refStill (gs : List DGlobal) (l : List DIns) (n : Nat) : List Bool := (List.range n).map fun (p : Nat) => !(l.any (spoilB (stFirst gs (p : Int)).1 p))

theorem spoil_eq (mem : List Int) (p : Nat) (i : DIns) : spoilB (mem.getD p 0) p i = (wildB i || hurtB mem p i) := by
  unfold spoilB wildB hurtB
  cases decide (i.op = 19) <;> cases i.a.reg <;> simp
theorem any_or' {α : Type} (f g : α → Bool) (l : List α) : l.any (fun x => f x || g x) = (l.any f || l.any g) := by
  induction l with
  | nil => rfl
  | cons a l ih => simp only [List.any_cons, ih]; cases f a <;> cases g a <;> cases l.any f <;> simp
/-- Both count alike. -/
theorem still_eq {gs : List DGlobal} (h : ∀ g ∈ gs, (g.init.length : Int) ≤ g.size) (l : List DIns) : refStill gs l (wordsL gs).length = stillF (wordsL gs) l := by
  have hw : wordsL gs = gs.flatMap wordsG := by unfold wordsL wordsK; rw [List.take_length]
  have key : ∀ p : Nat, p < (wordsL gs).length → (!(l.any (spoilB (stFirst gs (p : Int)).1 p))) = !(l.any wildB || l.any (hurtB (wordsL gs) p)) := fun p hp => by
    rw [← any_or']
    have e : (stFirst gs (p : Int)).1 = (wordsL gs).getD p 0 := by rw [hw] at hp ⊢; rw [stFirst_at gs h p hp]
    rw [e]
    congr 2
    funext i
    exact spoil_eq _ _ _
  unfold stillF refStill
  by_cases hw' : l.any wildB = true
  · rw [if_pos hw']
    refine List.ext_getElem? fun p => ?_
    by_cases hp : p < (wordsL gs).length
    · rw [List.getElem?_map, List.getElem?_range hp, List.getElem?_replicate, if_pos hp, Option.map_some, key p hp, hw']; rfl
    · rw [List.getElem?_eq_none (by simp; omega), List.getElem?_eq_none (by simp; omega)]
  · rw [if_neg hw']
    unfold calmL
    refine List.map_congr_left fun p hp => ?_
    rw [key p (by simpa using hp), show l.any wildB = false by simpa using hw', Bool.false_or]

theorem calmL_nil (mem : List Int) : calmL mem [] = List.replicate mem.length true := by
  unfold calmL
  refine List.ext_getElem? fun p => ?_
  by_cases hp : p < mem.length
  · rw [List.getElem?_map, List.getElem?_range hp, List.getElem?_replicate, if_pos hp]; rfl
  · rw [List.getElem?_eq_none (by simp; omega), List.getElem?_eq_none (by simp; omega)]
theorem calmL_len (mem : List Int) (l : List DIns) : (calmL mem l).length = mem.length := by unfold calmL; simp
theorem calmL_get {mem : List Int} {l : List DIns} {p : Nat} (hp : p < mem.length) : (calmL mem l)[p]'(by rw [calmL_len]; exact hp) = !(l.any (hurtB mem p)) := by
  unfold calmL; simp
/-- One instruction more: a word that it hurts, and no other, is struck. -/
theorem calmL_snoc (mem : List Int) (l : List DIns) (i : DIns) : calmL mem (l ++ [i]) = (List.range mem.length).map fun p => if hurtB mem p i = true then false else !(l.any (hurtB mem p)) := by
  unfold calmL
  refine List.map_congr_left fun p _ => ?_
  rw [List.any_append]
  cases h : hurtB mem p i <;> simp [h]
theorem calm_same {mem : List Int} {l : List DIns} {i : DIns} (h : ∀ p, p < mem.length → hurtB mem p i = false) : calmL mem (l ++ [i]) = calmL mem l := by
  rw [calmL_snoc]
  unfold calmL
  refine List.map_congr_left fun p hp => ?_
  rw [h p (by simpa using hp)]; rfl
theorem calm_set {mem : List Int} {l : List DIns} {i : DIns} {q : Nat} (h1 : i.op = 19) (h2 : i.a.reg = false) (h3 : i.a.n = (q : Int)) (h4 : i.b.reg = true ∨ i.b.n ≠ mem.getD q 0) : calmL mem (l ++ [i]) = (calmL mem l).set q false := by
  rw [calmL_snoc]
  unfold calmL
  refine List.ext_getElem? fun p => ?_
  by_cases hp : p < mem.length
  · rw [List.getElem?_map, List.getElem?_range hp, Option.map_some]
    by_cases hpq : p = q
    · subst hpq
      rw [List.getElem?_set_self (by simpa using hp)]
      have : hurtB mem p i = true := by
        unfold hurtB
        rw [h1, h2, h3]
        rcases h4 with h4 | h4
        · simp [h4]
        · simp only [decide_true, Bool.not_false, Bool.true_and, Bool.or_eq_true, decide_eq_true_eq]; exact .inr h4
      rw [if_pos this]
    · rw [List.getElem?_set_ne (by omega), List.getElem?_map, List.getElem?_range hp, Option.map_some]
      have : hurtB mem p i = false := by
        unfold hurtB
        rw [h1, h2, h3, show decide ((q : Int) = (p : Int)) = false by simp; omega]; simp
      rw [if_neg (by rw [this]; simp)]
  · rw [List.getElem?_eq_none (by simp; omega), List.getElem?_eq_none (by simp; omega)]

end Go.Proofs.YtaehkcnankijfaaDoor
