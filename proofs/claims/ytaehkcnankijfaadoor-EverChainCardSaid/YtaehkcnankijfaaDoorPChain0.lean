/- A row of functions of which each one returns what the next one returned: plain. -/
import Derived.Test.YtaehkcnankijfaaDoorPTellsG
namespace Go.Proofs.YtaehkcnankijfaaDoor
open Go.RowKit

/-- The k-th of the row calls the one behind it. -/
def linkB (k : Nat) : DBlock := ⟨[], [⟨20, 1, ⟨false, 0⟩, ⟨false, 0⟩, (k : Int) + 1, [⟨true, 0⟩]⟩], ⟨1, ⟨true, 1⟩, []⟩⟩
def linkF (k : Nat) : DFunc := ⟨⟨#[102]⟩ ++ ⟨#[97 + UInt8.ofNat k]⟩, 1, 2, [linkB k]⟩
def endF (n : Int) (back : Bool) : DFunc := ⟨⟨#[108, 97, 115, 116]⟩, 1, 1, [⟨[], [], ⟨1, if back = true then ⟨true, 0⟩ else ⟨false, n⟩, []⟩⟩]⟩
def mainF : DFunc := ⟨⟨#[109, 97, 105, 110]⟩, 0, 0, [⟨[], [], ⟨1, ⟨false, 0⟩, []⟩⟩]⟩
def linksF (m : Nat) : List DFunc := (List.range m).map linkF
def chainF (m : Nat) (n : Int) (back : Bool) : List DFunc := linksF m ++ [endF n back, mainF]

theorem chain_check {m : Nat} (h1 : 1 ≤ m) (h8 : m ≤ 8) (n : Int) (back : Bool) : checkF ⟨[], chainF m n back⟩ = (0, 0) := by
  have h : m = 1 ∨ m = 2 ∨ m = 3 ∨ m = 4 ∨ m = 5 ∨ m = 6 ∨ m = 7 ∨ m = 8 := by omega
  rcases h with rfl | rfl | rfl | rfl | rfl | rfl | rfl | rfl <;> cases back <;> show _ = _ <;> kernel_rfl
theorem chain_tells {m : Nat} (h1 : 1 ≤ m) (h8 : m ≤ 8) (n : Int) (back : Bool) : tellsF (chainF m n back) = List.replicate (m + 1) (if back = true then (2, 0) else (1, n)) ++ [(1, 0)] := by
  have h : m = 1 ∨ m = 2 ∨ m = 3 ∨ m = 4 ∨ m = 5 ∨ m = 6 ∨ m = 7 ∨ m = 8 := by omega
  rcases h with rfl | rfl | rfl | rfl | rfl | rfl | rfl | rfl <;> cases back <;> show _ = _ <;> kernel_rfl
theorem links_succ (k : Nat) : linksF (k + 1) = linksF k ++ [linkF k] := by
  unfold linksF
  rw [List.range_succ, List.map_append]; rfl
theorem chain_len (m : Nat) (n : Int) (back : Bool) : (chainF m n back).length = m + 2 := by simp [chainF, linksF]
theorem links_len (k : Nat) : (linksF k).length = k := by simp [linksF]

end Go.Proofs.YtaehkcnankijfaaDoor
