/- The data of the program as plain Lean structures, and what it means that memory holds them. No program in sight. -/
import Derived.WalkKit
namespace Go.Proofs.YtaehkcnankijfaaDoor
open Go.RowKit

/-- A fact kept from the walk. -/
theorem hid {p : Prop} (h : p) : Hid p := h

theorem ext_lt {p : Nat → Prop} {k : Nat} (h : ∀ j, j < k → p j) (hk : p k) : ∀ j, j < k + 1 → p j := fun j hj => by
  rcases Nat.lt_succ_iff_lt_or_eq.1 hj with h' | rfl
  · exact h j h'
  · exact hk

/- THE WALK's OWN FORMS OF TESTS: a 'not' in front of a comparison is the opposite comparison, so that linear arithmetic sees it. -/
@[go_sem] theorem not_decide_le (a b : Int) : (!decide (a ≤ b)) = decide (b < a) := by rw [Bool.eq_iff_iff]; simp
@[go_sem] theorem not_decide_lt (a b : Int) : (!decide (a < b)) = decide (b ≤ a) := by rw [Bool.eq_iff_iff]; simp
@[go_sem] theorem beq_int (a b : Int) : (a == b) = (decide (a ≤ b) && decide (b ≤ a)) := by rw [Bool.eq_iff_iff]; simp; omega
@[go_sem] theorem bne_int (a b : Int) : (a != b) = (decide (a < b) || decide (b < a)) := by rw [Bool.eq_iff_iff]; simp; omega

theorem ret_bool {a b : Bool} (h : a = b) : Ending.returned (.bool a) = .returned (.bool b) := by rw [h]
theorem ret_int {k : IntKind} {a b : Int} (h : a = b) : Ending.returned (.int k a) = .returned (.int k b) := by rw [h]

structure DVal where
  reg : Bool
  n : Int
  deriving DecidableEq
structure DIns where
  op : Int
  dst : Int
  a : DVal
  b : DVal
  fn : Int
  args : List DVal
  deriving DecidableEq
structure DPhi where
  dst : Int
  src : List DVal
  deriving DecidableEq
structure DEnd where
  kind : Int
  on : DVal
  to : List Int
  deriving DecidableEq
structure DBlock where
  phis : List DPhi
  list : List DIns
  fin : DEnd
  deriving DecidableEq
structure DFunc where
  name : ByteArray
  params : Int
  regs : Int
  blocks : List DBlock
structure DGlobal where
  name : ByteArray
  size : Int
  init : List Int
structure DUnit where
  globals : List DGlobal
  funcs : List DFunc

/-- The block's cells from 'off' on are the listed ones. -/
def CellsAt (w : World) (b off : Nat) (cs : List Value) : Prop := ∀ j v, cs[j]? = some v → w.cell? ⟨b, off + j, none⟩ = some v

/-- A reading: within the blocks of S, in a world, these cells hold this thing. -/
abbrev Rp (α : Type) := (Nat → Prop) → World → List Value → α → Prop

/-- The slice value v holds the list l, 'sz' cells an element, each read by r. -/
def SlAt {α : Type} (S : Nat → Prop) (w : World) (sz : Nat) (r : Rp α) (v : Value) (l : List α) : Prop :=
  ∃ ao c, v = .slice ao l.length c ∧ l.length ≤ c ∧ c ≤ 9223372036854775807 ∧ (l ≠ [] → ∃ b off, ao = some ⟨b, off, none⟩ ∧ S b ∧
    ∀ i x, l[i]? = some x → ∃ cs, r S w cs x ∧ cs.length = sz ∧ CellsAt w b (off + i * sz) cs)

def rInt : Rp Int := fun _ _ cs x => cs = [.int .i64 x] ∧ -9223372036854775808 ≤ x ∧ x ≤ 9223372036854775807
def rBool : Rp Bool := fun _ _ cs x => cs = [.bool x]
def rStr : Rp ByteArray := fun _ _ cs x => cs = [.string x]
def rVal : Rp DVal := fun _ _ cs x => cs = [.bool x.reg, .int .i64 x.n] ∧ -9223372036854775808 ≤ x.n ∧ x.n ≤ 9223372036854775807
def I64 (x : Int) : Prop := -9223372036854775808 ≤ x ∧ x ≤ 9223372036854775807
def rIns : Rp DIns := fun S w cs x => ∃ v, cs = [.int .i64 x.op, .int .i64 x.dst, .bool x.a.reg, .int .i64 x.a.n, .bool x.b.reg, .int .i64 x.b.n, .int .i64 x.fn, v] ∧
  SlAt S w 2 rVal v x.args ∧ I64 x.op ∧ I64 x.dst ∧ I64 x.a.n ∧ I64 x.b.n ∧ I64 x.fn
def rPhi : Rp DPhi := fun S w cs x => ∃ v, cs = [.int .i64 x.dst, v] ∧ SlAt S w 2 rVal v x.src ∧ I64 x.dst
def rEnd : Rp DEnd := fun S w cs x => ∃ v, cs = [.int .i64 x.kind, .bool x.on.reg, .int .i64 x.on.n, v] ∧ SlAt S w 1 rInt v x.to ∧ I64 x.kind ∧ I64 x.on.n
def rBlock : Rp DBlock := fun S w cs x => ∃ p l e, cs = p :: l :: e ∧ SlAt S w 2 rPhi p x.phis ∧ SlAt S w 8 rIns l x.list ∧ rEnd S w e x.fin
def rFunc : Rp DFunc := fun S w cs x => ∃ v, cs = [.string x.name, .int .i64 x.params, .int .i64 x.regs, v] ∧ SlAt S w 6 rBlock v x.blocks ∧ I64 x.params ∧ I64 x.regs
def rGlobal : Rp DGlobal := fun S w cs x => ∃ v, cs = [.string x.name, .int .i64 x.size, v] ∧ SlAt S w 1 rInt v x.init ∧ I64 x.size
def rUnit : Rp DUnit := fun S w cs x => ∃ g f, cs = [g, f] ∧ SlAt S w 3 rGlobal g x.globals ∧ SlAt S w 4 rFunc f x.funcs

/-- A reading stays where the cells that it may meet stay. -/
def Stays (S : Nat → Prop) (w w' : World) : Prop := ∀ b o v, S b → w.cell? ⟨b, o, none⟩ = some v → w'.cell? ⟨b, o, none⟩ = some v
structure Rp.Mono {α : Type} (r : Rp α) : Prop where
  out : ∀ (S S' : Nat → Prop) (w w' : World) (cs : List Value) (x : α), (∀ b, S b → S' b) → Stays S w w' → r S w cs x → r S' w' cs x

theorem SlAt.mono {α : Type} {r : Rp α} (hr : r.Mono) {S S' : Nat → Prop} {w w' : World} {sz : Nat} {v : Value} {l : List α} (hS : ∀ b, S b → S' b) (hw : Stays S w w')
    (h : SlAt S w sz r v l) : SlAt S' w' sz r v l := by
  obtain ⟨ao, c, hv, hc, hm, h⟩ := h
  refine ⟨ao, c, hv, hc, hm, fun hne => ?_⟩
  obtain ⟨b, off, ha, hb, h⟩ := h hne
  refine ⟨b, off, ha, hS _ hb, fun i x hx => ?_⟩
  obtain ⟨cs, h1, h2, h3⟩ := h i x hx
  exact ⟨cs, hr.out _ _ _ _ _ _ hS hw h1, h2, fun j v hj => hw _ _ _ hb (h3 j v hj)⟩

theorem rInt_mono : rInt.Mono := ⟨fun _ _ _ _ _ _ _ _ h => h⟩
theorem rBool_mono : rBool.Mono := ⟨fun _ _ _ _ _ _ _ _ h => h⟩
theorem rStr_mono : rStr.Mono := ⟨fun _ _ _ _ _ _ _ _ h => h⟩
theorem rVal_mono : rVal.Mono := ⟨fun _ _ _ _ _ _ _ _ h => h⟩
theorem rIns_mono : rIns.Mono := ⟨fun _ _ _ _ _ _ hS hw ⟨v, h1, h2, h3⟩ => ⟨v, h1, h2.mono rVal_mono hS hw, h3⟩⟩
theorem rPhi_mono : rPhi.Mono := ⟨fun _ _ _ _ _ _ hS hw ⟨v, h1, h2, h3⟩ => ⟨v, h1, h2.mono rVal_mono hS hw, h3⟩⟩
theorem rEnd_mono : rEnd.Mono := ⟨fun _ _ _ _ _ _ hS hw ⟨v, h1, h2, h3⟩ => ⟨v, h1, h2.mono rInt_mono hS hw, h3⟩⟩
theorem rBlock_mono : rBlock.Mono := ⟨fun _ _ _ _ _ _ hS hw ⟨p, l, e, h1, h2, h3, h4⟩ => ⟨p, l, e, h1, h2.mono rPhi_mono hS hw, h3.mono rIns_mono hS hw, rEnd_mono.out _ _ _ _ _ _ hS hw h4⟩⟩
theorem rFunc_mono : rFunc.Mono := ⟨fun _ _ _ _ _ _ hS hw ⟨v, h1, h2, h3⟩ => ⟨v, h1, h2.mono rBlock_mono hS hw, h3⟩⟩
theorem rGlobal_mono : rGlobal.Mono := ⟨fun _ _ _ _ _ _ hS hw ⟨v, h1, h2, h3⟩ => ⟨v, h1, h2.mono rInt_mono hS hw, h3⟩⟩
theorem rUnit_mono : rUnit.Mono := ⟨fun _ _ _ _ _ _ hS hw ⟨g, f, h1, h2, h3⟩ => ⟨g, f, h1, h2.mono rGlobal_mono hS hw, h3.mono rFunc_mono hS hw⟩⟩

/-- What was there is there yet, old blocks being untouched. -/
theorem Stays.below {B : Nat} {w w' : World} (h : Below B w w') : Stays (· < B) w w' := fun b o v hb hc => by rw [h.cell (p := ⟨b, o, none⟩) hb]; exact hc
theorem Stays.refl (S : Nat → Prop) (w : World) : Stays S w w := fun _ _ _ _ h => h
theorem Stays.trans {S : Nat → Prop} {a b c : World} (h : Stays S a b) (k : Stays S b c) : Stays S a c := fun _ _ _ hs hc => k _ _ _ hs (h _ _ _ hs hc)
theorem cell_lt {w : World} {b o : Nat} {v : Value} (h : w.cell? ⟨b, o, none⟩ = some v) : b < w.heap.size := by
  unfold World.cell? at h
  rcases Nat.lt_or_ge b w.heap.size with h1 | h1
  · exact h1
  · rw [Array.getElem?_eq_none h1] at h; cases h
theorem Stays.below' {S : Nat → Prop} {w w' : World} (h : Below w.heap.size w w') : Stays S w w' := fun b o v _ hc => by
  rw [h.cell (p := ⟨b, o, none⟩) (cell_lt hc)]; exact hc

/- The cells of a row, one by one. -/
theorem CellsAt.get1 {w : World} {b o : Nat} {v0 : Value} (h : CellsAt w b o [v0]) : w.cell? ⟨b, o, none⟩ = some v0 := h 0 _ rfl
theorem CellsAt.get2 {w : World} {b o : Nat} {v0 v1 : Value} (h : CellsAt w b o [v0, v1]) : w.cell? ⟨b, o, none⟩ = some v0 ∧ w.cell? ⟨b, o + 1, none⟩ = some v1 := ⟨h 0 _ rfl, h 1 _ rfl⟩
theorem CellsAt.get3 {w : World} {b o : Nat} {v0 v1 v2 : Value} (h : CellsAt w b o [v0, v1, v2]) : w.cell? ⟨b, o, none⟩ = some v0 ∧ w.cell? ⟨b, o + 1, none⟩ = some v1 ∧ w.cell? ⟨b, o + 2, none⟩ = some v2 := ⟨h 0 _ rfl, h 1 _ rfl, h 2 _ rfl⟩
theorem CellsAt.get4 {w : World} {b o : Nat} {v0 v1 v2 v3 : Value} (h : CellsAt w b o [v0, v1, v2, v3]) : w.cell? ⟨b, o, none⟩ = some v0 ∧ w.cell? ⟨b, o + 1, none⟩ = some v1 ∧ w.cell? ⟨b, o + 2, none⟩ = some v2 ∧ w.cell? ⟨b, o + 3, none⟩ = some v3 := ⟨h 0 _ rfl, h 1 _ rfl, h 2 _ rfl, h 3 _ rfl⟩
theorem CellsAt.get5 {w : World} {b o : Nat} {v0 v1 v2 v3 v4 : Value} (h : CellsAt w b o [v0, v1, v2, v3, v4]) : w.cell? ⟨b, o, none⟩ = some v0 ∧ w.cell? ⟨b, o + 1, none⟩ = some v1 ∧ w.cell? ⟨b, o + 2, none⟩ = some v2 ∧ w.cell? ⟨b, o + 3, none⟩ = some v3 ∧ w.cell? ⟨b, o + 4, none⟩ = some v4 := ⟨h 0 _ rfl, h 1 _ rfl, h 2 _ rfl, h 3 _ rfl, h 4 _ rfl⟩
theorem CellsAt.get6 {w : World} {b o : Nat} {v0 v1 v2 v3 v4 v5 : Value} (h : CellsAt w b o [v0, v1, v2, v3, v4, v5]) : w.cell? ⟨b, o, none⟩ = some v0 ∧ w.cell? ⟨b, o + 1, none⟩ = some v1 ∧ w.cell? ⟨b, o + 2, none⟩ = some v2 ∧ w.cell? ⟨b, o + 3, none⟩ = some v3 ∧ w.cell? ⟨b, o + 4, none⟩ = some v4 ∧ w.cell? ⟨b, o + 5, none⟩ = some v5 := ⟨h 0 _ rfl, h 1 _ rfl, h 2 _ rfl, h 3 _ rfl, h 4 _ rfl, h 5 _ rfl⟩
theorem CellsAt.get7 {w : World} {b o : Nat} {v0 v1 v2 v3 v4 v5 v6 : Value} (h : CellsAt w b o [v0, v1, v2, v3, v4, v5, v6]) : w.cell? ⟨b, o, none⟩ = some v0 ∧ w.cell? ⟨b, o + 1, none⟩ = some v1 ∧ w.cell? ⟨b, o + 2, none⟩ = some v2 ∧ w.cell? ⟨b, o + 3, none⟩ = some v3 ∧ w.cell? ⟨b, o + 4, none⟩ = some v4 ∧ w.cell? ⟨b, o + 5, none⟩ = some v5 ∧ w.cell? ⟨b, o + 6, none⟩ = some v6 := ⟨h 0 _ rfl, h 1 _ rfl, h 2 _ rfl, h 3 _ rfl, h 4 _ rfl, h 5 _ rfl, h 6 _ rfl⟩
theorem CellsAt.get8 {w : World} {b o : Nat} {v0 v1 v2 v3 v4 v5 v6 v7 : Value} (h : CellsAt w b o [v0, v1, v2, v3, v4, v5, v6, v7]) : w.cell? ⟨b, o, none⟩ = some v0 ∧ w.cell? ⟨b, o + 1, none⟩ = some v1 ∧ w.cell? ⟨b, o + 2, none⟩ = some v2 ∧ w.cell? ⟨b, o + 3, none⟩ = some v3 ∧ w.cell? ⟨b, o + 4, none⟩ = some v4 ∧ w.cell? ⟨b, o + 5, none⟩ = some v5 ∧ w.cell? ⟨b, o + 6, none⟩ = some v6 ∧ w.cell? ⟨b, o + 7, none⟩ = some v7 := ⟨h 0 _ rfl, h 1 _ rfl, h 2 _ rfl, h 3 _ rfl, h 4 _ rfl, h 5 _ rfl, h 6 _ rfl, h 7 _ rfl⟩

end Go.Proofs.YtaehkcnankijfaaDoor
