/- From what a row reads to the plain structures: each argument as a plain datum that memory holds, its size within the bulk. Pairs of numbers in memory. -/
import Derived.Test.YtnkogppgacappaaDoorRows
import Derived.Test.YtnkogppgacappaaDoorPChk2
import Derived.ProofKit
import Derived.OpenShut
import Derived.Deep.Slices
import Derived.ChangeSame
import Derived.Carry
namespace Go.Proofs.YtnkogppgacappaaDoor
open Go.RowKit Go.ChangeShapes Go.WideShapes Go.Deep

def szInt (_ : Int) : Nat := 1
def szVal (_ : DVal) : Nat := 1
def szL {α : Type} (f : α → Nat) (l : List α) : Nat := (l.map f).sum + 1
def szIns (x : DIns) : Nat := szL szVal x.args
def szPhi (x : DPhi) : Nat := szL szVal x.src
def szBlock (x : DBlock) : Nat := szL szPhi x.phis + szL szIns x.list + szL szInt x.fin.to
def szFunc (x : DFunc) : Nat := szL szBlock x.blocks + x.name.size
def szGlobal (x : DGlobal) : Nat := szL szInt x.init + x.name.size
def szUnit (x : DUnit) : Nat := szL szGlobal x.globals + szL szFunc x.funcs
theorem szL_pos {α : Type} (f : α → Nat) (l : List α) : 1 ≤ szL f l := by unfold szL; omega
theorem szL_len {α : Type} {f : α → Nat} (h : ∀ x, 1 ≤ f x) (l : List α) : l.length ≤ szL f l := by
  unfold szL
  induction l with
  | nil => simp
  | cons a l ih => have := h a; simp only [List.length_cons, List.map_cons, List.sum_cons]; omega
theorem szL_mem {α : Type} {f : α → Nat} {l : List α} {x : α} (h : x ∈ l) : f x ≤ szL f l := by
  unfold szL
  induction l with
  | nil => cases h
  | cons a l ih =>
    simp only [List.map_cons, List.sum_cons]
    rcases List.mem_cons.1 h with rfl | h
    · omega
    · have := ih h; omega

/-- A list of things, in one slice value. -/
def rL {α : Type} (sz : Nat) (r : Rp α) : Rp (List α) := fun S w cs l => ∃ v, cs = [v] ∧ SlAt S w sz r v l

/-- What a type's reading gives. -/
def Rd {α : Type} (t : TypeId) (sz : Nat) (r : Rp α) (mu : α → Nat) : Prop :=
  ∀ (H : Type) (enc : TypeId × Value → H) (w : World) (base : Nat) (spare : Nat → Bool) (held : Bool) (fuel : Nat) (cs : List Value) (x : DataW H × List MemPlace),
    DataW.trod enc Tryd.prog w base spare held fuel t cs = some x → ∃ d : α, r (fun b => b < w.heap.size) w cs d ∧ cs.length = sz ∧ mu d ≤ Rows.uptoBulk x.1

theorem rd_int {t : TypeId} (ht : Tryd.prog.underlying t = some (.int .i64)) : Rd t 1 rInt szInt := by
  intro H enc w base spare held fuel cs x h
  obtain ⟨n, rfl, rfl, hw⟩ := DataW.trod_int ht h
  have b := bounds_i64 hw
  exact ⟨n, ⟨rfl, b.1, b.2⟩, rfl, by simp [szInt, Rows.uptoBulk]⟩
theorem rd_str {t : TypeId} (ht : Tryd.prog.underlying t = some .string) : Rd t 1 rStr (fun s => s.size) := by
  intro H enc w base spare held fuel cs x h
  obtain ⟨s, rfl, rfl, hw⟩ := DataW.trod_string ht h
  exact ⟨s, rfl, rfl, by simp [Rows.uptoBulk]⟩

/-- A list gathered place by place. -/
theorem gather {α : Type} {n : Nat} {p : Nat → α → Prop} {mu : α → Nat} {f : Nat → Nat} (h : ∀ i, i < n → ∃ d, p i d ∧ mu d ≤ f i) :
    ∃ l : List α, l.length = n ∧ (∀ (i : Nat) x, l[i]? = some x → p i x) ∧ (l.map mu).sum ≤ ((List.range n).map f).sum := by
  induction n with
  | zero => exact ⟨[], rfl, fun i x h => by simp at h, Nat.le_refl _⟩
  | succ n ih =>
    obtain ⟨l, h1, h2, h3⟩ := ih (fun i hi => h i (by omega))
    obtain ⟨d, h4, h5⟩ := h n (by omega)
    refine ⟨l ++ [d], by simp [h1], fun i x hx => ?_, ?_⟩
    · rcases Nat.lt_or_ge i l.length with hi | hi
      · rw [List.getElem?_append_left hi] at hx; exact h2 i x hx
      · rw [List.getElem?_append_right hi] at hx
        have hi0 : i - l.length = 0 := by
          rcases Nat.eq_zero_or_pos (i - l.length) with h | h
          · exact h
          · rw [List.getElem?_eq_none (by simp; omega)] at hx; cases hx
        rw [hi0] at hx
        cases hx
        rw [show i = n by omega]; exact h4
    · rw [List.range_succ, List.map_append, List.map_append, List.sum_append, List.sum_append]
      simp; omega
theorem bulk_map {H : Type} (D : Nat → DataW H) (n : Nat) : Rows.uptoBulkAll ((List.range n).map D) = ((List.range n).map fun i => Rows.uptoBulk (D i)).sum := by
  have key : ∀ l : List Nat, Rows.uptoBulkAll (l.map D) = (l.map fun i => Rows.uptoBulk (D i)).sum := by
    intro l
    induction l with
    | nil => simp [Rows.uptoBulkAll]
    | cons a l ih => simp only [List.map_cons, Rows.uptoBulkAll, List.sum_cons, ih]
  exact key _

theorem rd_slice {α : Type} {t e : TypeId} {sz : Nat} {r : Rp α} {mu : α → Nat} (ht : Tryd.prog.underlying t = some (.slice e)) (hc : Tryd.prog.cellsOf e = sz) (h0 : 0 < sz) (he : Rd e sz r mu) : Rd t 1 (rL sz r) (szL mu) := by
  intro H enc w base spare held fuel cs x h
  rcases open_slice ht h with ⟨rfl, rfl⟩ | ⟨a, len, cap, m, n, D, Pl, rfl, hb, hl, hm, hmm, rfl, hx⟩
  · exact ⟨[], ⟨_, rfl, none, 0, rfl, Nat.le_refl _, by decide, fun h => absurd rfl h⟩, rfl, by simp [szL, Rows.uptoBulk]⟩
  · rw [hc] at hx
    have hlm : len ≤ m := by rw [hmm]; split <;> omega
    obtain ⟨l, h1, h2, h3⟩ := gather (n := len) (p := fun i d => ∃ cs', w.cells? base (a.add (i * sz)) sz = some cs' ∧ r (fun b => b < w.heap.size) w cs' d ∧ cs'.length = sz) (mu := mu) (f := fun i => Rows.uptoBulk (D i)) (fun i hi => by
      obtain ⟨cs', h1, h2⟩ := hx i (by omega)
      obtain ⟨d, h3, h4, h5⟩ := he H enc w base spare held n cs' _ h2
      exact ⟨d, ⟨cs', h1, h3, h4⟩, h5⟩)
    subst h1
    unfold maxLen at hm
    refine ⟨l, ⟨_, rfl, some a, cap, rfl, hl, by omega, fun hne => ?_⟩, rfl, ?_⟩
    · have hl0 : 0 < l.length := List.length_pos_iff.2 hne
      obtain ⟨b, off, spot⟩ := a
      have hspot : spot = none := by
        obtain ⟨cs', q1, -, q3⟩ := h2 0 l[0] (List.getElem?_eq_getElem hl0)
        obtain ⟨-, -, q4⟩ := World.cells?_some q1
        have q5 := q4 0 h0
        rw [List.getElem?_eq_getElem (by omega)] at q5
        simpa [Addr.add] using World.cell?_spot q5
      subst hspot
      have hcell : ∀ i x, l[i]? = some x → ∃ cs, r (fun b => b < w.heap.size) w cs x ∧ cs.length = sz ∧ CellsAt w b (off + i * sz) cs := by
        intro i x hx
        obtain ⟨cs', q1, q2, q3⟩ := h2 i x hx
        obtain ⟨-, -, q4⟩ := World.cells?_some q1
        refine ⟨cs', q2, q3, fun j v hj => ?_⟩
        have hjl : j < sz := by rw [← q3]; exact (List.getElem?_eq_some_iff.1 hj).1
        have q5 := q4 j hjl
        rw [hj, add_plain, add_plain] at q5
        exact q5
      refine ⟨b, off, rfl, ?_, hcell⟩
      obtain ⟨cs', q1, q2, q3⟩ := hcell 0 l[0] (List.getElem?_eq_getElem hl0)
      have q4 := q3 0 cs'[0] (List.getElem?_eq_getElem (by omega))
      exact cell_lt q4
    · simp only [szL, Rows.uptoBulk, bulk_map]; omega

theorem cells_int : Tryd.prog.cellsOf 3 = 1 := by kernel_rfl
theorem cells_bool : Tryd.prog.cellsOf 4 = 1 := by kernel_rfl
theorem cells_str : Tryd.prog.cellsOf 9 = 1 := by kernel_rfl
theorem cells_val : Tryd.prog.cellsOf 48 = 2 := by kernel_rfl
theorem cells_vals : Tryd.prog.cellsOf 53 = 1 := by kernel_rfl
theorem cells_ints : Tryd.prog.cellsOf 26 = 1 := by kernel_rfl
theorem cells_end : Tryd.prog.cellsOf 50 = 4 := by kernel_rfl
theorem cells_ins : Tryd.prog.cellsOf 55 = 8 := by kernel_rfl
theorem cells_inss : Tryd.prog.cellsOf 46 = 1 := by kernel_rfl
theorem cells_phi : Tryd.prog.cellsOf 114 = 2 := by kernel_rfl
theorem cells_phis : Tryd.prog.cellsOf 45 = 1 := by kernel_rfl
theorem cells_block : Tryd.prog.cellsOf 52 = 6 := by kernel_rfl
theorem cells_blocks : Tryd.prog.cellsOf 33 = 1 := by kernel_rfl
theorem cells_func : Tryd.prog.cellsOf 35 = 4 := by kernel_rfl
theorem cells_funcs : Tryd.prog.cellsOf 23 = 1 := by kernel_rfl
theorem cells_global : Tryd.prog.cellsOf 71 = 3 := by kernel_rfl
theorem cells_globals : Tryd.prog.cellsOf 22 = 1 := by kernel_rfl
theorem cells_unit : Tryd.prog.cellsOf 25 = 2 := by kernel_rfl

theorem list2 {α : Type} {l : List α} (h : l.length = 2) : ∃ a b, l = [a, b] := by
  match l, h with
  | [a, b], _ => exact ⟨a, b, rfl⟩
theorem list3 {α : Type} {l : List α} (h : l.length = 3) : ∃ a b c, l = [a, b, c] := by
  match l, h with
  | [a, b, c], _ => exact ⟨a, b, c, rfl⟩
theorem list4 {α : Type} {l : List α} (h : l.length = 4) : ∃ a b c d, l = [a, b, c, d] := by
  match l, h with
  | [a, b, c, d], _ => exact ⟨a, b, c, d, rfl⟩
theorem list6 {α : Type} {l : List α} (h : l.length = 6) : ∃ a b c d e f, l = [a, b, c, d, e, f] := by
  match l, h with
  | [a, b, c, d, e, f], _ => exact ⟨a, b, c, d, e, f, rfl⟩
theorem list8 {α : Type} {l : List α} (h : l.length = 8) : ∃ a b c d e f g i, l = [a, b, c, d, e, f, g, i] := by
  match l, h with
  | [a, b, c, d, e, f, g, i], _ => exact ⟨a, b, c, d, e, f, g, i, rfl⟩

theorem fields2 {f0 f1 : Field} {p : Nat → Field → Prop} (h : ∀ (i : Nat) (f : Field), #[f0, f1][i]? = some f → p i f) : p 0 f0 ∧ p 1 f1 := ⟨h 0 _ rfl, h 1 _ rfl⟩
theorem fields3 {f0 f1 f2 : Field} {p : Nat → Field → Prop} (h : ∀ (i : Nat) (f : Field), #[f0, f1, f2][i]? = some f → p i f) : p 0 f0 ∧ p 1 f1 ∧ p 2 f2 := ⟨h 0 _ rfl, h 1 _ rfl, h 2 _ rfl⟩
theorem fields4 {f0 f1 f2 f3 : Field} {p : Nat → Field → Prop} (h : ∀ (i : Nat) (f : Field), #[f0, f1, f2, f3][i]? = some f → p i f) : p 0 f0 ∧ p 1 f1 ∧ p 2 f2 ∧ p 3 f3 := ⟨h 0 _ rfl, h 1 _ rfl, h 2 _ rfl, h 3 _ rfl⟩
theorem fields6 {f0 f1 f2 f3 f4 f5 : Field} {p : Nat → Field → Prop} (h : ∀ (i : Nat) (f : Field), #[f0, f1, f2, f3, f4, f5][i]? = some f → p i f) : p 0 f0 ∧ p 1 f1 ∧ p 2 f2 ∧ p 3 f3 ∧ p 4 f4 ∧ p 5 f5 := ⟨h 0 _ rfl, h 1 _ rfl, h 2 _ rfl, h 3 _ rfl, h 4 _ rfl, h 5 _ rfl⟩

theorem rd_val : Rd 48 2 rVal szVal := by
  intro H enc w base spare held fuel cs x h
  obtain ⟨xs, n, -, rfl, hc, hl, hf⟩ := DataW.trod_struct Tryd.underlying48 h
  rw [cells_val] at hc
  obtain ⟨c0, c1, rfl⟩ := list2 hc
  obtain ⟨x0, x1, rfl⟩ := list2 hl
  obtain ⟨f0, f1⟩ := fields2 hf
  clear hf hc hl h
  simp only [cells_bool, cells_int, List.drop_zero, List.drop_succ_cons, List.take_succ_cons, List.take_zero, List.getElem?_cons_zero, List.getElem?_cons_succ] at f0 f1
  obtain ⟨b, e0, -⟩ := DataW.trod_bool Tryd.underlying4 f0
  obtain ⟨d, ⟨e1, h1⟩, -, -⟩ := rd_int Tryd.underlying3 _ _ _ _ _ _ _ _ _ f1
  cases e0
  cases e1
  exact ⟨⟨b, d⟩, ⟨rfl, h1⟩, rfl, by simp [szVal, Rows.uptoBulk]⟩

theorem rd_ints : Rd 26 1 (rL 1 rInt) (szL szInt) := rd_slice Tryd.underlying26 cells_int (by decide) (rd_int Tryd.underlying3)
theorem rd_vals : Rd 53 1 (rL 2 rVal) (szL szVal) := rd_slice Tryd.underlying53 cells_val (by decide) rd_val

theorem rd_end : Rd 50 4 rEnd (fun e => szL szInt e.to) := by
  intro H enc w base spare held fuel cs x h
  obtain ⟨xs, n, -, rfl, hc, hl, hf⟩ := DataW.trod_struct Tryd.underlying50 h
  rw [cells_end] at hc
  obtain ⟨c0, c1, c2, c3, rfl⟩ := list4 hc
  obtain ⟨x0, x1, x2, rfl⟩ := list3 hl
  obtain ⟨f0, f1, f2⟩ := fields3 hf
  clear hf hc hl h
  simp only [cells_val, cells_int, cells_ints, List.drop_zero, List.drop_succ_cons, List.take_succ_cons, List.take_zero, List.getElem?_cons_zero, List.getElem?_cons_succ] at f0 f1 f2
  obtain ⟨d0, ⟨e0, h0⟩, -, -⟩ := rd_int Tryd.underlying3 _ _ _ _ _ _ _ _ _ f0
  obtain ⟨d1, ⟨e1, h1⟩, -, -⟩ := rd_val _ _ _ _ _ _ _ _ _ f1
  obtain ⟨d2, ⟨v2, e2, h2⟩, -, m2⟩ := rd_ints _ _ _ _ _ _ _ _ _ f2
  cases e0
  cases e1
  cases e2
  exact ⟨⟨d0, d1, d2⟩, ⟨_, rfl, h2, h0, h1⟩, rfl, by simp only [Rows.uptoBulk, Rows.uptoBulkAll, List.map_cons]; omega⟩

theorem rd_ins : Rd 55 8 rIns szIns := by
  intro H enc w base spare held fuel cs x h
  obtain ⟨xs, n, -, rfl, hc, hl, hf⟩ := DataW.trod_struct Tryd.underlying55 h
  rw [cells_ins] at hc
  obtain ⟨c0, c1, c2, c3, c4, c5, c6, c7, rfl⟩ := list8 hc
  obtain ⟨x0, x1, x2, x3, x4, x5, rfl⟩ := list6 hl
  obtain ⟨f0, f1, f2, f3, f4, f5⟩ := fields6 hf
  clear hf hc hl h
  simp only [cells_val, cells_int, cells_vals, List.drop_zero, List.drop_succ_cons, List.take_succ_cons, List.take_zero, List.getElem?_cons_zero, List.getElem?_cons_succ] at f0 f1 f2 f3 f4 f5
  obtain ⟨d0, ⟨e0, h0⟩, -, -⟩ := rd_int Tryd.underlying3 _ _ _ _ _ _ _ _ _ f0
  obtain ⟨d1, ⟨e1, h1⟩, -, -⟩ := rd_int Tryd.underlying3 _ _ _ _ _ _ _ _ _ f1
  obtain ⟨d2, ⟨e2, h2⟩, -, -⟩ := rd_val _ _ _ _ _ _ _ _ _ f2
  obtain ⟨d3, ⟨e3, h3⟩, -, -⟩ := rd_val _ _ _ _ _ _ _ _ _ f3
  obtain ⟨d4, ⟨e4, h4⟩, -, -⟩ := rd_int Tryd.underlying3 _ _ _ _ _ _ _ _ _ f4
  obtain ⟨d5, ⟨v5, e5, h5⟩, -, m5⟩ := rd_vals _ _ _ _ _ _ _ _ _ f5
  cases e0
  cases e1
  cases e2
  cases e3
  cases e4
  cases e5
  exact ⟨⟨d0, d1, d2, d3, d4, d5⟩, ⟨_, rfl, h5, h0, h1, h2, h3, h4⟩, rfl, by simp only [szIns, Rows.uptoBulk, Rows.uptoBulkAll, List.map_cons]; omega⟩
theorem rd_inss : Rd 46 1 (rL 8 rIns) (szL szIns) := rd_slice Tryd.underlying46 cells_ins (by decide) rd_ins

theorem rd_phi : Rd 114 2 rPhi szPhi := by
  intro H enc w base spare held fuel cs x h
  obtain ⟨xs, n, -, rfl, hc, hl, hf⟩ := DataW.trod_struct Tryd.underlying114 h
  rw [cells_phi] at hc
  obtain ⟨c0, c1, rfl⟩ := list2 hc
  obtain ⟨x0, x1, rfl⟩ := list2 hl
  obtain ⟨f0, f1⟩ := fields2 hf
  clear hf hc hl h
  simp only [cells_vals, cells_int, List.drop_zero, List.drop_succ_cons, List.take_succ_cons, List.take_zero, List.getElem?_cons_zero, List.getElem?_cons_succ] at f0 f1
  obtain ⟨d0, ⟨e0, h0⟩, -, -⟩ := rd_int Tryd.underlying3 _ _ _ _ _ _ _ _ _ f0
  obtain ⟨d1, ⟨v1, e1, h1⟩, -, m1⟩ := rd_vals _ _ _ _ _ _ _ _ _ f1
  cases e0
  cases e1
  exact ⟨⟨d0, d1⟩, ⟨_, rfl, h1, h0⟩, rfl, by simp only [szPhi, Rows.uptoBulk, Rows.uptoBulkAll, List.map_cons]; omega⟩
theorem rd_phis : Rd 45 1 (rL 2 rPhi) (szL szPhi) := rd_slice Tryd.underlying45 cells_phi (by decide) rd_phi

theorem rd_block : Rd 52 6 rBlock szBlock := by
  intro H enc w base spare held fuel cs x h
  obtain ⟨xs, n, -, rfl, hc, hl, hf⟩ := DataW.trod_struct Tryd.underlying52 h
  rw [cells_block] at hc
  obtain ⟨c0, c1, c2, c3, c4, c5, rfl⟩ := list6 hc
  obtain ⟨x0, x1, x2, rfl⟩ := list3 hl
  obtain ⟨f0, f1, f2⟩ := fields3 hf
  clear hf hc hl h
  simp only [cells_phis, cells_inss, cells_end, List.drop_zero, List.drop_succ_cons, List.take_succ_cons, List.take_zero, List.getElem?_cons_zero, List.getElem?_cons_succ] at f0 f1 f2
  obtain ⟨d0, ⟨v0, e0, h0⟩, -, m0⟩ := rd_phis _ _ _ _ _ _ _ _ _ f0
  obtain ⟨d1, ⟨v1, e1, h1⟩, -, m1⟩ := rd_inss _ _ _ _ _ _ _ _ _ f1
  obtain ⟨d2, h2, -, m2⟩ := rd_end _ _ _ _ _ _ _ _ _ f2
  cases e0
  cases e1
  exact ⟨⟨d0, d1, d2⟩, ⟨_, _, _, rfl, h0, h1, h2⟩, rfl, by dsimp only at m2; simp only [szBlock, Rows.uptoBulk, Rows.uptoBulkAll, List.map_cons]; omega⟩
theorem rd_blocks : Rd 33 1 (rL 6 rBlock) (szL szBlock) := rd_slice Tryd.underlying33 cells_block (by decide) rd_block

theorem rd_func : Rd 35 4 rFunc szFunc := by
  intro H enc w base spare held fuel cs x h
  obtain ⟨xs, n, -, rfl, hc, hl, hf⟩ := DataW.trod_struct Tryd.underlying35 h
  rw [cells_func] at hc
  obtain ⟨c0, c1, c2, c3, rfl⟩ := list4 hc
  obtain ⟨x0, x1, x2, x3, rfl⟩ := list4 hl
  obtain ⟨f0, f1, f2, f3⟩ := fields4 hf
  clear hf hc hl h
  simp only [cells_str, cells_int, cells_blocks, List.drop_zero, List.drop_succ_cons, List.take_succ_cons, List.take_zero, List.getElem?_cons_zero, List.getElem?_cons_succ] at f0 f1 f2 f3
  obtain ⟨d0, e0, -, m0⟩ := rd_str Tryd.underlying9 _ _ _ _ _ _ _ _ _ f0
  obtain ⟨d1, ⟨e1, h1⟩, -, -⟩ := rd_int Tryd.underlying3 _ _ _ _ _ _ _ _ _ f1
  obtain ⟨d2, ⟨e2, h2⟩, -, -⟩ := rd_int Tryd.underlying3 _ _ _ _ _ _ _ _ _ f2
  obtain ⟨d3, ⟨v3, e3, h3⟩, -, m3⟩ := rd_blocks _ _ _ _ _ _ _ _ _ f3
  cases e0
  cases e1
  cases e2
  cases e3
  exact ⟨⟨d0, d1, d2, d3⟩, ⟨_, rfl, h3, h1, h2⟩, rfl, by dsimp only at m0; simp only [szFunc, Rows.uptoBulk, Rows.uptoBulkAll, List.map_cons]; omega⟩
theorem rd_funcs : Rd 23 1 (rL 4 rFunc) (szL szFunc) := rd_slice Tryd.underlying23 cells_func (by decide) rd_func

theorem rd_global : Rd 71 3 rGlobal szGlobal := by
  intro H enc w base spare held fuel cs x h
  obtain ⟨xs, n, -, rfl, hc, hl, hf⟩ := DataW.trod_struct Tryd.underlying71 h
  rw [cells_global] at hc
  obtain ⟨c0, c1, c2, rfl⟩ := list3 hc
  obtain ⟨x0, x1, x2, rfl⟩ := list3 hl
  obtain ⟨f0, f1, f2⟩ := fields3 hf
  clear hf hc hl h
  simp only [cells_str, cells_int, cells_ints, List.drop_zero, List.drop_succ_cons, List.take_succ_cons, List.take_zero, List.getElem?_cons_zero, List.getElem?_cons_succ] at f0 f1 f2
  obtain ⟨d0, e0, -, m0⟩ := rd_str Tryd.underlying9 _ _ _ _ _ _ _ _ _ f0
  obtain ⟨d1, ⟨e1, h1⟩, -, -⟩ := rd_int Tryd.underlying3 _ _ _ _ _ _ _ _ _ f1
  obtain ⟨d2, ⟨v2, e2, h2⟩, -, m2⟩ := rd_ints _ _ _ _ _ _ _ _ _ f2
  cases e0
  cases e1
  cases e2
  exact ⟨⟨d0, d1, d2⟩, ⟨_, rfl, h2, h1⟩, rfl, by dsimp only at m0; simp only [szGlobal, Rows.uptoBulk, Rows.uptoBulkAll, List.map_cons]; omega⟩
theorem rd_globals : Rd 22 1 (rL 3 rGlobal) (szL szGlobal) := rd_slice Tryd.underlying22 cells_global (by decide) rd_global

theorem rd_unit : Rd 25 2 rUnit szUnit := by
  intro H enc w base spare held fuel cs x h
  obtain ⟨xs, n, -, rfl, hc, hl, hf⟩ := DataW.trod_struct Tryd.underlying25 h
  rw [cells_unit] at hc
  obtain ⟨c0, c1, rfl⟩ := list2 hc
  obtain ⟨x0, x1, rfl⟩ := list2 hl
  obtain ⟨f0, f1⟩ := fields2 hf
  clear hf hc hl h
  simp only [cells_globals, cells_funcs, List.drop_zero, List.drop_succ_cons, List.take_succ_cons, List.take_zero, List.getElem?_cons_zero, List.getElem?_cons_succ] at f0 f1
  obtain ⟨d0, ⟨v0, e0, h0⟩, -, m0⟩ := rd_globals _ _ _ _ _ _ _ _ _ f0
  obtain ⟨d1, ⟨v1, e1, h1⟩, -, m1⟩ := rd_funcs _ _ _ _ _ _ _ _ _ f1
  cases e0
  cases e1
  exact ⟨⟨d0, d1⟩, ⟨_, _, rfl, h0, h1⟩, rfl, by simp only [szUnit, Rows.uptoBulk, Rows.uptoBulkAll, List.map_cons]; omega⟩

end Go.Proofs.YtnkogppgacappaaDoor

namespace Go.Proofs.YtnkogppgacappaaDoor
open Go.RowKit

def rPair : Rp (Int × Int) := fun _ _ cs x => cs = [.int .i64 x.1, .int .i64 x.2]
theorem rPair_mono : rPair.Mono := ⟨fun _ _ _ _ _ _ _ _ h => h⟩
theorem infoPair : (Tryd.prog.info? 77).map (fun i => (i.zero, i.size, i.bytes)) = some (some (.agg #[.int .i64 0, .int .i64 0]), 2, 16) := by kernel_rfl

end Go.Proofs.YtnkogppgacappaaDoor
