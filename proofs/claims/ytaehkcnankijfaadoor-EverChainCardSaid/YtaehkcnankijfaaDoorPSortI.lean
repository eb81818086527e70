/- ever.tells in plain Lean. No program in sight. calls.graph in plain Lean: whom each function calls, sorted, each once. No program in sight. slices.Sort and slices.Compact of a row of numbers of the call's own. -/
import Derived.Test.YtaehkcnankijfaaDoorPSsa0
import Derived.Test.YtaehkcnankijfaaDoorPReachW
import Derived.Lib.SlicesCompact
import Derived.Test.YtaehkcnankijfaaDoorPLays
import Derived.Test.YtaehkcnankijfaaDoorPStillR
import Derived.Sort.OwnSortedInts
namespace Go.Proofs.YtaehkcnankijfaaDoor
open Go.RowKit

theorem insE_call {fs : List DFunc} {regs : Int} {x : DIns} (h : insE fs regs x = 0) (hop : x.op = 20) : (0 ≤ x.fn ∧ x.fn < (fs.length : Int)) ∧ (x.args.length : Int) = (fs.getD x.fn.toNat noFunc).params := by
  unfold insE at h
  by_cases h1 : ¬ (1 ≤ x.op ∧ x.op ≤ 22)
  · rw [if_pos h1] at h; omega
  rw [if_neg h1] at h
  by_cases h2 : formBad x = true
  · rw [if_pos h2] at h; omega
  rw [if_neg h2] at h
  by_cases h3 : (shpD x.op = true ∧ ¬ (x.op = 20 ∧ x.dst = -1)) ∧ dstE regs x.dst ≠ 0
  · rw [if_pos h3] at h; omega
  rw [if_neg h3] at h
  unfold firstE at h
  by_cases a1 : valE regs x.a ≠ 0
  · rw [if_pos a1] at h; exact absurd h a1
  rw [if_neg a1] at h
  by_cases a2 : valE regs x.b ≠ 0
  · rw [if_pos a2] at h; exact absurd h a2
  rw [if_neg a2] at h
  unfold callE at h
  rw [if_neg (by simpa using hop)] at h
  by_cases b1 : ¬ (0 ≤ x.fn ∧ x.fn ≤ (fs.length : Int) - 1)
  · rw [if_pos b1] at h; omega
  rw [if_neg b1] at h
  by_cases b2 : (x.args.length : Int) ≠ (fs.getD x.fn.toNat ⟨ByteArray.empty, 0, 0, []⟩).params
  · rw [if_pos b2] at h; omega
  · exact ⟨by omega, Classical.not_not.1 b2⟩
/-- A call of a checked unit: whom it calls is there, and takes so many. -/
theorem call_ok {u : DUnit} (h : checkF u = (0, 0)) {k : Nat} {f : DFunc} (hf : u.funcs[k]? = some f) {b : Nat} {x : DBlock} (hx : f.blocks[b]? = some x) {y : DIns} (hy : y ∈ x.list) (hop : y.op = 20) :
    (0 ≤ y.fn ∧ y.fn < (u.funcs.length : Int)) ∧ (y.args.length : Int) = (u.funcs.getD y.fn.toNat noFunc).params := by
  obtain ⟨-, hb⟩ := checkF_at h hf
  obtain ⟨-, e2⟩ := bodyE_zero.1 hb
  exact insE_call (((blockE_zero hx).1 (e2 b (List.getElem?_eq_some_iff.1 hx).1)).2 y hy) hop

def callB (fs : List DFunc) (k x : Nat) : Bool := (fs.getD k noFunc).blocks.any fun b => b.list.any fun y => decide (y.op = 20) && decide (y.fn = (x : Int))
theorem callB_iff {fs : List DFunc} {k x : Nat} : callB fs k x = true ↔ ∃ b ∈ (fs.getD k noFunc).blocks, ∃ y ∈ b.list, y.op = 20 ∧ y.fn = (x : Int) := by
  unfold callB
  simp only [List.any_eq_true, Bool.and_eq_true, decide_eq_true_eq]
theorem getD_some {α : Type} {l : List α} {k : Nat} {d : α} (h : k < l.length) : l[k]? = some (l.getD k d) := by
  rw [List.getD_eq_getElem?_getD, List.getElem?_eq_getElem h]; rfl
theorem callB_lt {u : DUnit} (h : checkF u = (0, 0)) (k x : Nat) (hc : callB u.funcs k x = true) : x < u.funcs.length := by
  obtain ⟨b, hb, y, hy, hop, hfn⟩ := callB_iff.1 hc
  rcases Nat.lt_or_ge k u.funcs.length with hk | hk
  · obtain ⟨i, hi, rfl⟩ := List.getElem_of_mem hb
    have := (call_ok h (getD_some hk) (List.getElem?_eq_getElem hi) hy hop).1
    omega
  · rw [List.getD_eq_getElem?_getD, List.getElem?_eq_none hk] at hb
    cases hb

/-- A kind, and the number or the parameter. -/
abbrev Told := Int × Int
def writesB (f : DFunc) (r : Int) : Bool := f.blocks.any fun b => b.phis.any (fun p => decide (p.dst = r)) || b.list.any fun y => decide (y.dst = r)
def startF (f : DFunc) (v : DVal) : Told := if v.reg = false then (1, v.n) else if v.n < f.params ∧ writesB f v.n = false then (2, v.n) else (0, 0)
/-- What a value comes to behind so many instructions. -/
def comesF (f : DFunc) (l : List DIns) (kn : List Told) : Nat → DVal → Told
  | 0, v => startF f v
  | n + 1, v =>
    if v.reg = false then (1, v.n)
    else if (l.getD n noIns).dst ≠ v.n then comesF f l kn n v
    else if (l.getD n noIns).op = 1 then comesF f l kn n (l.getD n noIns).a
    else if (l.getD n noIns).op = 20 then
      if (kn.getD (l.getD n noIns).fn.toNat (0, 0)).1 = 1 then kn.getD (l.getD n noIns).fn.toNat (0, 0)
      else if (kn.getD (l.getD n noIns).fn.toNat (0, 0)).1 = 2 then comesF f l kn n ((l.getD n noIns).args.getD (kn.getD (l.getD n noIns).fn.toNat (0, 0)).2.toNat ⟨false, 0⟩)
      else (0, 0)
    else (0, 0)
def retsF (f : DFunc) (kn : List Told) (m : Nat) : List Told := ((f.blocks.take m).filter fun x => decide (x.fin.kind = 1)).map fun x => comesF f x.list kn x.list.length x.fin.on
def allSameF : List Told → Told
  | [] => (0, 0)
  | t :: l => if l.all (fun x => decide (x = t)) = true then t else (0, 0)
theorem same_cons (t : Told) (l : List Told) : allSameF (t :: l) = if l.all (fun x => decide (x = t)) = true then t else (0, 0) := rfl
theorem getD_mem {α : Type} {l : List α} {k : Nat} {d : α} (h : k < l.length) : l.getD k d ∈ l := by
  rw [List.getD_eq_getElem?_getD, List.getElem?_eq_getElem h]; exact List.getElem_mem _
def tellsSt (fs : List DFunc) (ord : List Int) : Nat → List Told
  | 0 => List.replicate fs.length (0, 0)
  | j + 1 => (tellsSt fs ord j).set (ord.getD j 0).toNat (allSameF (retsF (fs.getD (ord.getD j 0).toNat noFunc) (tellsSt fs ord j) (fs.getD (ord.getD j 0).toNat noFunc).blocks.length))
theorem tellsSt_len (fs : List DFunc) (ord : List Int) : ∀ j, (tellsSt fs ord j).length = fs.length
  | 0 => by simp [tellsSt]
  | j + 1 => by rw [tellsSt, List.length_set, tellsSt_len fs ord j]
theorem retsF_succ {f : DFunc} {kn : List Told} {m : Nat} (h : m < f.blocks.length) : retsF f kn (m + 1) = retsF f kn m ++ if f.blocks[m].fin.kind = 1 then [comesF f f.blocks[m].list kn f.blocks[m].list.length f.blocks[m].fin.on] else [] := by
  unfold retsF
  rw [List.take_succ_eq_append_getElem h, List.filter_append, List.map_append]
  by_cases hk : f.blocks[m].fin.kind = 1
  · rw [if_pos hk]; simp [hk]
  · rw [if_neg hk]; simp [hk]

/-- What is known of functions fits them. -/
def KnOk (fs : List DFunc) (kn : List Told) : Prop := ∀ j, (kn.getD j (0, 0)).1 = 2 → 0 ≤ (kn.getD j (0, 0)).2 ∧ (kn.getD j (0, 0)).2 < (fs.getD j noFunc).params
/-- The value steps on within the function's registers. -/
theorem arg_vok {u : DUnit} {kn : List Told} (hu : checkF u = (0, 0)) (hkn : KnOk u.funcs kn) {k : Nat} {f : DFunc} (hf : u.funcs[k]? = some f) {b : Nat} {x : DBlock} (hx : f.blocks[b]? = some x) {y : DIns} (hy : y ∈ x.list) (hop : y.op = 20)
    (h2 : (kn.getD y.fn.toNat (0, 0)).1 = 2) : 0 ≤ (kn.getD y.fn.toNat (0, 0)).2 ∧ (kn.getD y.fn.toNat (0, 0)).2 < (y.args.length : Int) := by
  have h := hkn _ h2
  rw [(call_ok hu hf hx hy hop).2]
  exact h
theorem comes_param {u : DUnit} {kn : List Told} (hu : checkF u = (0, 0)) (hkn : KnOk u.funcs kn) {k : Nat} {f : DFunc} (hf : u.funcs[k]? = some f) {b : Nat} {x : DBlock} (hx : f.blocks[b]? = some x) :
    ∀ (n : Nat) (v : DVal), n ≤ x.list.length → VOk f.regs v → (comesF f x.list kn n v).1 = 2 → 0 ≤ (comesF f x.list kn n v).2 ∧ (comesF f x.list kn n v).2 < f.params
  | 0, v, _, hv, h => by
    rw [comesF, startF] at h ⊢
    by_cases h1 : v.reg = false
    · rw [if_pos h1] at h; cases h
    rw [if_neg h1] at h ⊢
    by_cases h2 : v.n < f.params ∧ writesB f v.n = false
    · rw [if_pos h2]; exact ⟨(hv (by simpa using h1)).1, h2.1⟩
    · rw [if_neg h2] at h; cases h
  | n + 1, v, hn, hv, h => by
    have hm : x.list.getD n noIns ∈ x.list := by
      rw [List.getD_eq_getElem?_getD, List.getElem?_eq_getElem (by omega)]; exact List.getElem_mem _
    have hi := (fnOk hu hf).ins b x hx _ hm
    rw [comesF] at h ⊢
    by_cases h1 : v.reg = false
    · rw [if_pos h1] at h; cases h
    rw [if_neg h1] at h ⊢
    by_cases h2 : (x.list.getD n noIns).dst ≠ v.n
    · rw [if_pos h2] at h ⊢; exact comes_param hu hkn hf hx n v (by omega) hv h
    rw [if_neg h2] at h ⊢
    by_cases h3 : (x.list.getD n noIns).op = 1
    · rw [if_pos h3] at h ⊢; exact comes_param hu hkn hf hx n _ (by omega) hi.a h
    rw [if_neg h3] at h ⊢
    by_cases h4 : (x.list.getD n noIns).op = 20
    · rw [if_pos h4] at h ⊢
      by_cases h5 : (kn.getD (x.list.getD n noIns).fn.toNat (0, 0)).1 = 1
      · rw [if_pos h5] at h; omega
      rw [if_neg h5] at h ⊢
      by_cases h6 : (kn.getD (x.list.getD n noIns).fn.toNat (0, 0)).1 = 2
      · rw [if_pos h6] at h ⊢
        have ha := arg_vok hu hkn hf hx hm h4 h6
        exact comes_param hu hkn hf hx n _ (by omega) (hi.args _ (getD_mem (by omega))) h
      · rw [if_neg h6] at h; cases h
    · rw [if_neg h4] at h; cases h
theorem comes_zero {f : DFunc} {l : List DIns} {kn : List Told} : ∀ (n : Nat) (v : DVal), (comesF f l kn n v).1 = 0 → comesF f l kn n v = (0, 0)
  | 0, v, h => by
    rw [comesF, startF] at h ⊢
    by_cases h1 : v.reg = false
    · rw [if_pos h1] at h; cases h
    rw [if_neg h1] at h ⊢
    by_cases h2 : v.n < f.params ∧ writesB f v.n = false
    · rw [if_pos h2] at h; cases h
    · rw [if_neg h2]
  | n + 1, v, h => by
    rw [comesF] at h ⊢
    by_cases h1 : v.reg = false
    · rw [if_pos h1] at h; cases h
    rw [if_neg h1] at h ⊢
    by_cases h2 : (l.getD n noIns).dst ≠ v.n
    · rw [if_pos h2] at h ⊢; exact comes_zero n v h
    rw [if_neg h2] at h ⊢
    by_cases h3 : (l.getD n noIns).op = 1
    · rw [if_pos h3] at h ⊢; exact comes_zero n _ h
    rw [if_neg h3] at h ⊢
    by_cases h4 : (l.getD n noIns).op = 20
    · rw [if_pos h4] at h ⊢
      by_cases h5 : (kn.getD (l.getD n noIns).fn.toNat (0, 0)).1 = 1
      · rw [if_pos h5] at h; omega
      rw [if_neg h5] at h ⊢
      by_cases h6 : (kn.getD (l.getD n noIns).fn.toNat (0, 0)).1 = 2
      · rw [if_pos h6] at h ⊢; exact comes_zero n _ h
      · rw [if_neg h6]
    · rw [if_neg h4]
theorem one_param {l : List Told} {p : Int} (h : ∀ t ∈ l, t.1 = 2 → 0 ≤ t.2 ∧ t.2 < p) (h2 : (allSameF l).1 = 2) : 0 ≤ (allSameF l).2 ∧ (allSameF l).2 < p := by
  cases l with
  | nil => cases h2
  | cons t l =>
    rw [same_cons] at h2 ⊢
    by_cases hc : l.all (fun x => decide (x = t)) = true
    · rw [if_pos hc] at h2 ⊢; exact h t (List.mem_cons_self ..) h2
    · rw [if_neg hc] at h2; cases h2
theorem rets_mem {f : DFunc} {kn : List Told} {m : Nat} {t : Told} (h : t ∈ retsF f kn m) : ∃ (b : Nat) (x : DBlock), f.blocks[b]? = some x ∧ t = comesF f x.list kn x.list.length x.fin.on := by
  unfold retsF at h
  obtain ⟨x, hx, rfl⟩ := List.mem_map.1 h
  obtain ⟨b, hb, he⟩ := List.getElem_of_mem (List.mem_of_mem_take (List.mem_filter.1 hx).1)
  exact ⟨b, x, by rw [List.getElem?_eq_getElem hb, he], rfl⟩
theorem tells_ok {u : DUnit} (hu : checkF u = (0, 0)) (ord : List Int) : ∀ j, KnOk u.funcs (tellsSt u.funcs ord j)
  | 0 => fun j h => by
    exfalso
    rw [tellsSt, List.getD_eq_getElem?_getD, List.getElem?_replicate] at h
    split at h <;> cases h
  | j + 1 => fun i h => by
    have ih := tells_ok hu ord j
    rw [tellsSt, List.getD_eq_getElem?_getD, List.getElem?_set] at h ⊢
    by_cases e : (ord.getD j 0).toNat = i
    · rw [if_pos e] at h ⊢
      by_cases hl : (ord.getD j 0).toNat < (tellsSt u.funcs ord j).length
      · rw [if_pos hl] at h ⊢
        rw [tellsSt_len] at hl
        rw [e] at hl h ⊢
        refine one_param (fun t ht h2 => ?_) h
        obtain ⟨b, x, hx, rfl⟩ := rets_mem ht
        exact comes_param hu ih (getD_some hl) hx _ _ (Nat.le_refl _) ((fnOk hu (getD_some hl)).on b x hx) h2
      · rw [if_neg hl] at h; cases h
    · rw [if_neg e, ← List.getD_eq_getElem?_getD] at h ⊢
      exact ih i h
/-- Of one whose turn has not come nothing is known. -/
theorem tells_none {fs : List DFunc} {ord : List Int} {k : Nat} : ∀ j, (∀ i, i < j → (ord.getD i 0).toNat ≠ k) → (tellsSt fs ord j).getD k (0, 0) = (0, 0)
  | 0, _ => by
    rw [tellsSt, List.getD_eq_getElem?_getD, List.getElem?_replicate]
    split <;> rfl
  | j + 1, h => by
    rw [tellsSt, List.getD_eq_getElem?_getD, List.getElem?_set, if_neg (h j (Nat.lt_succ_self _)), ← List.getD_eq_getElem?_getD]
    exact tells_none j (fun i hi => h i (by omega))
theorem set_same {l : List Told} {k : Nat} (h : l.getD k (0, 0) = (0, 0)) : l.set k (0, 0) = l := by
  apply List.ext_getElem?
  intro i
  rw [List.getElem?_set]
  by_cases e : k = i
  · subst e
    rw [if_pos rfl]
    rw [List.getD_eq_getElem?_getD] at h
    by_cases hl : k < l.length
    · rw [if_pos hl, List.getElem?_eq_getElem hl]
      rw [List.getElem?_eq_getElem hl] at h
      exact congrArg some h.symm
    · rw [if_neg hl, List.getElem?_eq_none (by omega)]
  · rw [if_neg e]

/- The document's way with the several returns of a function. -/
def seenF (s : Told × Bool) (x : Told) : Told × Bool := (if s.2 = false ∨ s.1.1 ≠ 0 then (if s.2 = true ∧ (x.1 ≠ s.1.1 ∨ x.2 ≠ s.1.2) then (0, 0) else x) else s.1, true)
theorem one_snoc {l : List Told} {x : Told} (hne : l ≠ []) (hz : ∀ t ∈ l, t.1 = 0 → t = (0, 0)) : allSameF (l ++ [x]) = if (allSameF l).1 ≠ 0 then (if x.1 ≠ (allSameF l).1 ∨ x.2 ≠ (allSameF l).2 then (0, 0) else x) else allSameF l := by
  cases l with
  | nil => exact absurd rfl hne
  | cons t l =>
    have ht := hz t (List.mem_cons_self ..)
    rw [List.cons_append, same_cons, same_cons, List.all_append]
    by_cases hc : l.all (fun x => decide (x = t)) = true
    · rw [if_pos hc, hc]
      by_cases hx : x = t
      · subst hx
        simp
      · have h1 : x.1 ≠ t.1 ∨ x.2 ≠ t.2 := by
          by_cases h2 : x.1 = t.1
          · exact .inr fun h3 => hx (Prod.ext h2 h3)
          · exact .inl h2
        simp only [List.all_cons, List.all_nil, hx, decide_false, Bool.and_false, Bool.false_and, Bool.false_eq_true, if_false]
        by_cases h0 : t.1 ≠ 0
        · rw [if_pos h0, if_pos h1]
        · rw [if_neg h0, ht (Classical.not_not.1 h0)]
    · have hc' : l.all (fun x => decide (x = t)) = false := by simpa using hc
      rw [hc']
      simp
theorem seen_from : ∀ (l p : List Told), (∀ t ∈ p ++ l, t.1 = 0 → t = (0, 0)) → l.foldl seenF (allSameF p, decide (p ≠ [])) = (allSameF (p ++ l), decide (p ++ l ≠ []))
  | [], p, _ => by simp
  | x :: l, p, h => by
    have e : seenF (allSameF p, decide (p ≠ [])) x = (allSameF (p ++ [x]), decide (p ++ [x] ≠ [])) := by
      by_cases hne : p = []
      · subst hne
        simp [seenF, allSameF]
      · rw [one_snoc hne (fun t ht => h t (List.mem_append_left _ ht))]
        simp [seenF, hne]
    rw [List.foldl_cons, e, seen_from l (p ++ [x]) (by simpa using h)]
    simp
theorem seen_one (l : List Told) (h : ∀ t ∈ l, t.1 = 0 → t = (0, 0)) : l.foldl seenF ((0, 0), false) = (allSameF l, decide (l ≠ [])) := seen_from l [] (by simpa using h)

end Go.Proofs.YtaehkcnankijfaaDoor

namespace Go.Proofs.YtaehkcnankijfaaDoor

theorem mem_compact {zs : List Int} {x : Int} : x ∈ Go.Lib.compact zs ↔ x ∈ zs := by
  unfold Go.Lib.compact Go.Lib.compactUpTo
  simp only [List.mem_map, List.mem_filter, List.mem_range]
  constructor
  · rintro ⟨j, ⟨hj, -⟩, rfl⟩
    rw [getElem!_pos zs.toArray j (by simpa using hj)]
    simp
  · intro h
    obtain ⟨j, hj, rfl⟩ := List.getElem_of_mem h
    clear h
    induction j with
    | zero => exact ⟨0, ⟨hj, by simp [Go.Lib.keeps]⟩, by rw [getElem!_pos zs.toArray 0 (by simpa using hj)]; simp⟩
    | succ j ih =>
      cases hk : Go.Lib.keeps zs.toArray (j + 1) with
      | true => exact ⟨j + 1, ⟨hj, hk⟩, by rw [getElem!_pos zs.toArray (j + 1) (by simpa using hj)]; simp⟩
      | false =>
        obtain ⟨i, h1, h2⟩ := ih (by omega)
        refine ⟨i, h1, ?_⟩
        have he : zs.toArray[j + 1]! = zs.toArray[j]! := by
          unfold Go.Lib.keeps at hk
          simp only [decide_eq_false_iff_not, not_or, Classical.not_not] at hk
          exact hk.2
        rw [getElem!_pos zs.toArray (j + 1) (by simpa using hj), getElem!_pos zs.toArray j (by simp; omega)] at he
        rw [h2]
        simpa using he.symm
theorem compact_len (zs : List Int) : (Go.Lib.compact zs).length ≤ zs.length := by
  unfold Go.Lib.compact Go.Lib.compactUpTo
  rw [List.length_map]
  exact Nat.le_trans (List.length_filter_le _ _) (by simp)

def callsL (l : List DIns) : List Int := (l.filter fun y => decide (y.op = 20)).map (·.fn)
theorem callsL_snoc (l : List DIns) (y : DIns) : callsL (l ++ [y]) = callsL l ++ if y.op = 20 then [y.fn] else [] := by
  unfold callsL
  rw [List.filter_append, List.map_append]
  by_cases h : y.op = 20 <;> simp [h]
theorem callsL_len (l : List DIns) : (callsL l).length ≤ l.length := by
  unfold callsL; rw [List.length_map]; exact List.length_filter_le _ _
theorem mem_callsL {l : List DIns} {x : Int} : x ∈ callsL l ↔ ∃ y ∈ l, y.op = 20 ∧ y.fn = x := by
  unfold callsL
  simp only [List.mem_map, List.mem_filter, decide_eq_true_eq]
  exact ⟨fun ⟨y, ⟨h1, h2⟩, h3⟩ => ⟨y, h1, h2, h3⟩, fun ⟨y, h1, h2, h3⟩ => ⟨y, ⟨h1, h2⟩, h3⟩⟩
def sortI (l : List Int) : List Int := l.mergeSort fun x y => decide (x ≤ y)
def rowG (f : DFunc) : List Int := Go.Lib.compact (sortI (callsL (f.blocks.flatMap (·.list))))
def graphF (fs : List DFunc) : List (List Int) := fs.map rowG
theorem sortI_len (l : List Int) : (sortI l).length = l.length := by unfold sortI; exact List.length_mergeSort _
theorem mem_rowG {f : DFunc} {x : Int} : x ∈ rowG f ↔ ∃ b ∈ f.blocks, ∃ y ∈ b.list, y.op = 20 ∧ y.fn = x := by
  unfold rowG sortI
  rw [mem_compact, List.mem_mergeSort, mem_callsL]
  simp only [List.mem_flatMap]
  exact ⟨fun ⟨y, ⟨b, hb, hy⟩, h⟩ => ⟨b, hb, y, hy, h⟩, fun ⟨b, hb, y, hy, h⟩ => ⟨y, ⟨b, hb, hy⟩, h⟩⟩
theorem list_len_many (l : List DBlock) : (l.flatMap (·.list)).length ≤ manyOf l := by
  unfold manyOf
  induction l with
  | nil => exact Nat.le_refl _
  | cons b l ih => simp only [List.flatMap_cons, List.length_append, List.map_cons, List.sum_cons]; omega
theorem rowG_len (f : DFunc) : (rowG f).length ≤ manyOf f.blocks := by
  have h1 := compact_len (sortI (callsL (f.blocks.flatMap (·.list))))
  have h2 := sortI_len (callsL (f.blocks.flatMap (·.list)))
  have h3 := callsL_len (f.blocks.flatMap (·.list))
  have h4 := list_len_many f.blocks
  unfold rowG; omega
theorem graphF_at {fs : List DFunc} {k : Nat} (h : k < fs.length) : (graphF fs).getD k [] = rowG (fs.getD k noFunc) := by
  unfold graphF
  rw [List.getD_eq_getElem?_getD, List.getElem?_map, List.getD_eq_getElem?_getD, List.getElem?_eq_getElem h]; rfl
theorem graphF_ok {u : DUnit} (hu : checkF u = (0, 0)) : GraphOk (callB u.funcs) u.funcs.length (graphF u.funcs) := by
  refine ⟨by simp [graphF], fun k x hx => ?_, fun k x hk _ => ?_⟩
  · rcases Nat.lt_or_ge k u.funcs.length with hk | hk
    · rw [graphF_at hk] at hx
      obtain ⟨b, hb, y, hy, hop, rfl⟩ := mem_rowG.1 hx
      obtain ⟨i, hi, rfl⟩ := List.getElem_of_mem hb
      exact (call_ok hu (getD_some hk) (List.getElem?_eq_getElem hi) hy hop).1
    · rw [List.getD_eq_getElem?_getD, List.getElem?_eq_none (by simpa [graphF] using hk)] at hx
      cases hx
  · rw [graphF_at hk, mem_rowG, callB_iff]
theorem graphF_len {fs : List DFunc} (h : ∀ (k : Nat) (f : DFunc), fs[k]? = some f → manyOf f.blocks ≤ 1048576) : ∀ l ∈ graphF fs, l.length ≤ 1048576 := by
  intro l hl
  obtain ⟨f, hf, rfl⟩ := List.mem_map.1 hl
  obtain ⟨i, hi, rfl⟩ := List.getElem_of_mem hf
  exact Nat.le_trans (rowG_len _) (h i _ (List.getElem?_eq_getElem hi))

end Go.Proofs.YtaehkcnankijfaaDoor

namespace Go.Proofs.YtaehkcnankijfaaDoor
open Go.RowKit Go.Shelf Go.Sort

theorem sort_own {base : Nat} {w : World} {v : Value} {l : List Int} (h : OwnInts base w v l) (hl : l.length ≤ 1048576) :
    Calls Tryd.prog 158 #[v] w fun e w' => e = .returned (.tuple #[]) ∧ OwnInts base w' v (sortI l) ∧ w.grownBy w' v.ownBlock := by
  obtain ⟨h1, h2⟩ := h
  have hlen := sortI_len l
  have hi : ∀ x ∈ sortI l, I64 x := fun x hx => h2 x (by unfold sortI at hx; rwa [List.mem_mergeSort] at hx)
  rcases h1.2 with ⟨rfl, h0⟩ | ⟨g, cap, cur, rfl, hg, hh, hn, hm, hsz, ht⟩
  · have hl0 : l = [] := List.length_eq_zero_iff.1 h0
    subst hl0
    refine (Any.slices_Sort_int_none laysSort none 0 w).mono ?_
    rintro e w' ⟨rfl, rfl⟩
    exact ⟨rfl, ⟨by simpa [sortI] using World.ownsRow_nil _ base 3 1, fun x hx => hi x hx⟩, ⟨rfl, rfl, rfl, Nat.le_refl _, fun _ _ _ => rfl⟩⟩
  · have hglt : g < w.heap.size := (Array.getElem?_eq_some_iff.1 hh).1
    rw [Nat.mul_one] at ht
    refine (Any.slices_Sort_int laysSort g 0 cap l w (holds_of_blockI hh ht) hglt (by omega)).mono ?_
    rintro e w' ⟨rfl, n, os, rfl⟩
    refine ⟨rfl, ⟨?_, hi⟩, grownBy_sortedI _⟩
    have h3 := ownsRow_sortedI (n := n) (os := os) hlen hg hh hn hm hsz
    rw [← hlen] at h3 ⊢
    exact h3

theorem compact_own {base : Nat} {w : World} {v : Value} {l : List Int} (h : OwnInts base w v l) (hl : l.length ≤ 1048576) :
    Calls Tryd.prog 159 #[v] w fun e w' => ∃ v', e = .returned v' ∧ OwnInts base w' v' (Go.Lib.compact l) ∧ w.grownBy w' v.ownBlock ∧ v'.ownBlock = v.ownBlock := by
  obtain ⟨h1, h2⟩ := h
  have hi : ∀ x ∈ Go.Lib.compact l, I64 x := fun x hx => h2 x (mem_compact.1 hx)
  have hcl := compact_len l
  rcases h1.2 with ⟨rfl, h0⟩ | ⟨g, cap, cur, rfl, hg, hh, hn, hm, hsz, ht⟩
  · have hl0 : l = [] := List.length_eq_zero_iff.1 h0
    subst hl0
    refine (Any.slices_Compact_int_empty laysCompact none 0 w).mono ?_
    rintro e w' ⟨rfl, rfl⟩
    exact ⟨_, rfl, ⟨by simpa [Go.Lib.compact, Go.Lib.compactUpTo] using World.ownsRow_nil _ base 3 1, hi⟩, ⟨rfl, rfl, rfl, Nat.le_refl _, fun _ _ _ => rfl⟩, rfl⟩
  · rw [Nat.mul_one] at ht
    refine (Any.slices_Compact_int laysCompact g 0 cap l w (holds_of_blockI hh ht) (by omega) hn).mono ?_
    rintro e w' ⟨rfl, q, hw'⟩
    rw [← grow_empty (putRow _ _ _ _ _)] at hw'
    subst hw'
    refine ⟨_, rfl, ⟨?_, hi⟩, grownBy_sortedI _, rfl⟩
    refine ⟨by simp, .inr ⟨g, cap, _, rfl, hg, heap_sortedI _ hh, by omega, hm, by simp [putCells, hsz], ?_⟩⟩
    rw [Nat.mul_one]
    have ht2 := take_putCellsI cur (Go.Lib.compact l ++ List.replicate (l.length - (Go.Lib.compact l).length) 0) (by
      have hs : l.length ≤ cur.size := by rw [hsz]; omega
      simp only [List.length_append, List.length_replicate]
      omega)
    have ht3 := congrArg (List.take (Go.Lib.compact l).length) ht2
    rw [List.take_take, Nat.min_eq_left (by simp)] at ht3
    rw [ht3]
    simp

end Go.Proofs.YtaehkcnankijfaaDoor
