/- What is wrong with a unit: plain. -/
import Derived.Test.YtaehkcnankijfaaDoorChkA
import Derived.Test.YtaehkcnankijfaaDoorChk4
namespace Go.Proofs.YtaehkcnankijfaaDoor
open Go.RowKit

/-- The first place below n at which e is not 0; n if there is none. -/
def posF (e : Nat → Int) : Nat → Nat
  | 0 => 0
  | n + 1 => if posF e n < n then posF e n else if e n ≠ 0 then n else n + 1
theorem posF_all {e : Nat → Int} {n : Nat} (h : ∀ j, j < n → e j = 0) : posF e n = n := by
  induction n with
  | zero => rfl
  | succ n ih => rw [posF, ih (fun j hj => h j (by omega)), if_neg (by omega), if_neg (by simpa using h n (by omega))]
theorem posF_at {e : Nat → Int} {n k : Nat} (h : ∀ j, j < k → e j = 0) (hk : k < n) (he : e k ≠ 0) : posF e n = k := by
  induction n with
  | zero => omega
  | succ n ih =>
    rw [posF]
    rcases Nat.lt_succ_iff_lt_or_eq.1 hk with h1 | h1
    · rw [ih h1, if_pos h1]
    · subst h1; rw [posF_all h, if_neg (by omega), if_pos he]
theorem posF_inv {e : Nat → Int} {n : Nat} (h : ¬ posF e n < n) : ∀ j, j < n → e j = 0 := by
  induction n with
  | zero => intro j hj; omega
  | succ n ih =>
    rw [posF] at h
    by_cases h1 : posF e n < n
    · rw [if_pos h1] at h; omega
    · rw [if_neg h1] at h
      by_cases h2 : e n = 0
      · exact ext_lt (ih h1) h2
      · rw [if_pos h2] at h; omega
theorem posF_ne {e : Nat → Int} {n : Nat} (h : posF e n < n) : e (posF e n) ≠ 0 := by
  induction n with
  | zero => omega
  | succ n ih =>
    rw [posF] at h ⊢
    by_cases h1 : posF e n < n
    · rw [if_pos h1]; exact ih h1
    · rw [if_neg h1] at h ⊢
      by_cases h2 : e n ≠ 0
      · rw [if_pos h2]; exact h2
      · rw [if_neg h2] at h; omega

def gNames (gs : List DGlobal) (k : Nat) : List ByteArray := (gs.take k).map (·.name)
def wordsUp (gs : List DGlobal) (k : Nat) : Int := ((gs.take k).map (·.size)).sum
def fNames (gs : List DGlobal) (fs : List DFunc) (k : Nat) : List ByteArray := gNames gs gs.length ++ (fs.take k).map (·.name)
def globErr (names : List ByteArray) (words : Int) (g : DGlobal) : Int :=
  if nameOk g.name = false then 12
  else if hasStr names g.name = true then 7
  else if ¬ (1 ≤ g.size ∧ g.size ≤ 200) then 3
  else if g.size < (g.init.length : Int) then 9
  else if 200 < words + g.size then 10
  else 0
def globE (gs : List DGlobal) (k : Nat) : Int := match gs[k]? with | some g => globErr (gNames gs k) (wordsUp gs k) g | none => 0
def headsE (gs : List DGlobal) (fs : List DFunc) (k : Nat) : Int := match fs[k]? with | some f => headE (fNames gs fs k) f | none => 0
def bodiesE (fs : List DFunc) (k : Nat) : Int := match fs[k]? with | some f => bodyE fs f | none => 0
def lastE (fs : List DFunc) : Int × Int :=
  if idxMain fs < 0 then (6, 0) else if 0 < (fs.getD (idxMain fs).toNat ⟨ByteArray.empty, 0, 0, []⟩).params then (5, idxMain fs) else (0, 0)
def checkF (u : DUnit) : Int × Int :=
  if 10 < u.globals.length ∨ 10 < u.funcs.length then (2, 0)
  else if posF (globE u.globals) u.globals.length < u.globals.length then (globE u.globals (posF (globE u.globals) u.globals.length), posF (globE u.globals) u.globals.length)
  else if posF (headsE u.globals u.funcs) u.funcs.length < u.funcs.length then (headsE u.globals u.funcs (posF (headsE u.globals u.funcs) u.funcs.length), posF (headsE u.globals u.funcs) u.funcs.length)
  else if posF (bodiesE u.funcs) u.funcs.length < u.funcs.length then (bodiesE u.funcs (posF (bodiesE u.funcs) u.funcs.length), posF (bodiesE u.funcs) u.funcs.length)
  else lastE u.funcs

theorem gNames_succ {gs : List DGlobal} {k : Nat} (h : k < gs.length) : gNames gs (k + 1) = gNames gs k ++ [gs[k].name] := by
  unfold gNames; rw [List.take_succ_eq_append_getElem h, List.map_append]; rfl
theorem fNames_succ {gs : List DGlobal} {fs : List DFunc} {k : Nat} (h : k < fs.length) : fNames gs fs (k + 1) = fNames gs fs k ++ [fs[k].name] := by
  unfold fNames; rw [List.take_succ_eq_append_getElem h, List.map_append, List.append_assoc]; rfl
theorem wordsUp_succ {gs : List DGlobal} {k : Nat} (h : k < gs.length) : wordsUp gs (k + 1) = wordsUp gs k + gs[k].size := by
  unfold wordsUp; rw [List.take_succ_eq_append_getElem h, List.map_append, List.sum_append]; simp
theorem globErr_ok {names : List ByteArray} {words : Int} {g : DGlobal} (h : globErr names words g = 0) :
    nameOk g.name = true ∧ hasStr names g.name = false ∧ 1 ≤ g.size ∧ g.size ≤ 200 ∧ (g.init.length : Int) ≤ g.size ∧ words + g.size ≤ 200 := by
  unfold globErr at h
  by_cases h1 : nameOk g.name = false
  · rw [if_pos h1] at h; omega
  rw [if_neg h1] at h
  by_cases h2 : hasStr names g.name = true
  · rw [if_pos h2] at h; omega
  rw [if_neg h2] at h
  by_cases h3 : 1 ≤ g.size ∧ g.size ≤ 200
  case neg => rw [if_pos h3] at h; omega
  rw [if_neg (by simpa using h3)] at h
  by_cases h4 : g.size < (g.init.length : Int)
  · rw [if_pos h4] at h; omega
  rw [if_neg h4] at h
  by_cases h5 : 200 < words + g.size
  · rw [if_pos h5] at h; omega
  exact ⟨by simpa using h1, by simpa using h2, h3.1, h3.2, by omega, by omega⟩
theorem headE_ok {names : List ByteArray} {f : DFunc} (h : headE names f = 0) :
    nameOk f.name = true ∧ hasStr names f.name = false ∧ 0 ≤ f.params ∧ f.params ≤ 6 ∧ f.params ≤ f.regs ∧ f.regs ≤ 100 ∧ 1 ≤ f.blocks.length ∧ f.blocks.length ≤ 40 ∧ manyOf f.blocks ≤ 300 := by
  unfold headE at h
  by_cases h1 : nameOk f.name = false
  · rw [if_pos h1] at h; omega
  rw [if_neg h1] at h
  by_cases h2 : hasStr names f.name = true
  · rw [if_pos h2] at h; omega
  rw [if_neg h2] at h
  by_cases h3 : ¬ (0 ≤ f.params ∧ f.params ≤ 6) ∨ ¬ (f.params ≤ f.regs ∧ f.regs ≤ 100)
  · rw [if_pos h3] at h; omega
  rw [if_neg h3] at h
  by_cases h4 : ¬ (1 ≤ f.blocks.length ∧ f.blocks.length ≤ 40) ∨ 300 < manyOf f.blocks
  · rw [if_pos h4] at h; omega
  exact ⟨by simpa using h1, by simpa using h2, by omega, by omega, by omega, by omega, by omega, by omega, by omega⟩
theorem idxMain_lt {fs : List DFunc} (h : ¬ idxMain fs < 0) : ∃ m : Nat, m < fs.length ∧ idxMain fs = m := by
  unfold idxMain at *
  split at h
  · rename_i k hk
    rw [List.findIdx?_eq_some_iff_getElem] at hk
    exact ⟨k, hk.1, rfl⟩
  · omega
theorem words_bound {gs : List DGlobal} {k : Nat} (hk : k ≤ gs.length) (h : ∀ j, j < k → globE gs j = 0) : 0 ≤ wordsUp gs k ∧ wordsUp gs k ≤ 200 := by
  induction k with
  | zero => simp [wordsUp]
  | succ k ih =>
    have h1 := ih (by omega) (fun j hj => h j (by omega))
    have h2 := h k (by omega)
    have hlt : k < gs.length := by omega
    unfold globE at h2
    rw [List.getElem?_eq_getElem hlt] at h2
    have h3 := globErr_ok h2
    rw [wordsUp_succ hlt]
    omega

/-- What is owned stays owned where nothing that was there is turned. -/
theorem ownsRow_later {w w' : World} {base : Nat} {e : TypeId} {size n : Nat} {v : Value} {xs : List Value} (h : w.ownsRow base e size v n xs) (hb : Below w.heap.size w w') : w'.ownsRow base e size v n xs := by
  obtain ⟨h1, h2⟩ := h
  refine ⟨h1, ?_⟩
  rcases h2 with h2 | ⟨g, cap, cur, hv, hg, hh, r⟩
  · exact .inl h2
  · have hlt : g < w.heap.size := by
      rcases Nat.lt_or_ge g w.heap.size with h3 | h3
      · exact h3
      · rw [Array.getElem?_eq_none h3] at hh; cases hh
    exact .inr ⟨g, cap, cur, hv, hg, by rw [hb.block g hlt]; exact hh, r⟩

/-- An owned row of one-cell things, read. -/
theorem own_sl {α : Type} {r : Rp α} (f : α → Value) {w : World} {base : Nat} {e : TypeId} {v : Value} {l : List α} (h : w.ownsRow base e 1 v l.length (l.map f)) (hr : ∀ x ∈ l, r (fun b => base ≤ b) w [f x] x) :
    SlAt (fun b => base ≤ b) w 1 r v l := by
  obtain ⟨h1, h2⟩ := h
  rcases h2 with ⟨rfl, h2⟩ | ⟨g, cap, cur, rfl, hg, hh, hn, hm, hs, ht⟩
  · have : l = [] := List.eq_nil_of_length_eq_zero h2
    subst this
    exact ⟨none, 0, rfl, Nat.le_refl _, by omega, fun h => absurd rfl h⟩
  · refine ⟨_, cap, rfl, hn, by unfold maxLen at hm; exact hm, fun _ => ⟨g, 0, rfl, hg, fun i x hx => ⟨[f x], hr x (List.mem_of_getElem? hx), rfl, ?_⟩⟩⟩
    refine .cons ?_ (.nil _ _ _)
    have h3 : (l.map f)[i]? = some (f x) := by rw [List.getElem?_map, hx]; rfl
    rw [← ht, Nat.mul_one, List.getElem?_take] at h3
    have hi : i < l.length := (List.getElem?_eq_some_iff.1 hx).1
    rw [if_pos hi] at h3
    simp only [World.cell?, hh, Nat.zero_add, Nat.mul_one]
    simpa using h3
theorem own_strs {w : World} {base : Nat} {e : TypeId} {v : Value} {l : List ByteArray} (h : w.ownsRow base e 1 v l.length (l.map Value.string)) : SlAt (fun b => base ≤ b) w 1 rStr v l :=
  own_sl Value.string h (fun _ _ => rfl)

end Go.Proofs.YtaehkcnankijfaaDoor
