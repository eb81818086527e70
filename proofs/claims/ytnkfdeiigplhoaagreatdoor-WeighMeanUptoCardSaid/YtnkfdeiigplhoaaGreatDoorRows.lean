/-
  NARROWER THAN 'FOR EVERY INPUT', by the rows' own cells (each row's printed sentence says how): WeighMean: laid · StillMean: laid · StillTrue: laid · MemMean: laid · MemThere: laid.
  DERIVED. THE GIVEN ROWS OF THIS SEAT. 5 by the template 'for every input the law returns true; each argument reads behind the call as it read before'; 0 by the template 'total and deterministic' (their statements: YtnkfdeiigplhoaaGreatDoorTotals.lean).
  GIVEN WITH THE SEED: the statements are not yours to turn. If you find one false, say at which input.
  Laid BY PROGRAM, IN A SANDBOX (cutbox-rows.mjs): the forced cells as the released guide's own fill.sh prints them over the translation d29dac4305d2c3cd… (all of the seat's roots in one cut). By AI agents, Wed Nov 11 2026. No macro, syntax, notation, axiom, sorry.
-/
import Derived.Test.YtnkfdeiigplhoaaGreatDoorChecked
import GoSem.Claim
import GoSem.ClaimJoined
import GoSem.ClaimMapViews
import Derived.JoinedTies
import Derived.KernelRfl
namespace Go.Proofs.YtnkfdeiigplhoaaGreatDoor
/- THE CELL 'sum', in the pinned program and in every row, IS THE sha256 OF THE DUMP (.gsa) THAT YtnkfdeiigplhoaaGreatDoorProg.lean LOADS. Nothing in Lean hashes anything: it is a label: what it is worth is what the hold of that sum in a sandbox is worth. -/
noncomputable def Tryz.pinned : Pinned := { name := "ytnkfdeiigplhoaagreatdoor", sum := "d29dac4305d2c3cdbf45ca30363be4aa51c3c916fc64d8f1016ebee68b629c62", checked := Tryz.checked }
namespace Rows
def none {H : Type} : Left H := { results := [], args := [] }

/- WHAT THE LISTED PACKAGE-LEVEL VARIABLES READ AS WHEN THE CALL BEGINS. Each datum BY PROGRAM (the guide's laid-datum.mjs) off the statement by which the dump's own 'gosem.cut.vars' lays the variable. In a bare row this is a premise. The card (YtnkfdeiigplhoaaGreatDoorCards.lean) ties it to the program's text. -/
def laid_turnery_code_ways {H : Type} : DataW H := .agg [.lit (.int .i64 0), .lit (.int .i64 0), .lit (.int .i64 1), .lit (.int .i64 2)]

/-- 'turnerylaw6.WeighMean': WHATEVER THE INPUT: true; the input reads as it did. -/
def weighMeanSpec : ChangeSpec := { name := "weighMean", fn := fun _ => fun
  | [d1, d2, d3] => { results := [.lit (.bool true)], args := [d1, d2, d3] }
  | _ => none }
def weighMeanRow : OpenClaim := { program := "ytnkfdeiigplhoaagreatdoor", sum := "d29dac4305d2c3cdbf45ca30363be4aa51c3c916fc64d8f1016ebee68b629c62", func := "turnery/turnerylaw6.WeighMean", spec := "weighMean", unfollowed := true, recurses := true, named := ["turnery/code.ways"], apart := false, laid := [("turnery/code.ways", laid_turnery_code_ways)] }
def WeighMeanSaid : Prop := weighMeanRow.holds Tryz.pinned (OpenSpec.ofChange weighMeanSpec)

/-- ITS FALSE NEIGHBOUR: 'it returns false'. Refute it at one input. -/
def weighMeanWrong : ChangeSpec := { name := "weighMean", fn := fun _ => fun
  | [d1, d2, d3] => { results := [.lit (.bool false)], args := [d1, d2, d3] }
  | _ => none }
def WeighMeanWrongFalsely : Prop := weighMeanRow.holds Tryz.pinned (OpenSpec.ofChange weighMeanWrong)

/-- 'turnerylaw6.StillMean': WHATEVER THE INPUT: true; the input reads as it did. -/
def stillMeanSpec : ChangeSpec := { name := "stillMean", fn := fun _ => fun
  | [d1, d2, d3] => { results := [.lit (.bool true)], args := [d1, d2, d3] }
  | _ => none }
def stillMeanRow : OpenClaim := { program := "ytnkfdeiigplhoaagreatdoor", sum := "d29dac4305d2c3cdbf45ca30363be4aa51c3c916fc64d8f1016ebee68b629c62", func := "turnery/turnerylaw6.StillMean", spec := "stillMean", inPlace := ["slices.overlaps[turnery/api.Val]"], unfollowed := true, recurses := true, named := ["turnery/code.ways"], apart := false, laid := [("turnery/code.ways", laid_turnery_code_ways)] }
def StillMeanSaid : Prop := stillMeanRow.holds Tryz.pinned (OpenSpec.ofChange stillMeanSpec)

/-- ITS FALSE NEIGHBOUR: 'it returns false'. Refute it at one input. -/
def stillMeanWrong : ChangeSpec := { name := "stillMean", fn := fun _ => fun
  | [d1, d2, d3] => { results := [.lit (.bool false)], args := [d1, d2, d3] }
  | _ => none }
def StillMeanWrongFalsely : Prop := stillMeanRow.holds Tryz.pinned (OpenSpec.ofChange stillMeanWrong)

/-- 'turnerylaw6.StillTrue': WHATEVER THE INPUT: true; the input reads as it did. -/
def stillTrueSpec : ChangeSpec := { name := "stillTrue", fn := fun _ => fun
  | [d1, d2, d3, d4] => { results := [.lit (.bool true)], args := [d1, d2, d3, d4] }
  | _ => none }
def stillTrueRow : OpenClaim := { program := "ytnkfdeiigplhoaagreatdoor", sum := "d29dac4305d2c3cdbf45ca30363be4aa51c3c916fc64d8f1016ebee68b629c62", func := "turnery/turnerylaw6.StillTrue", spec := "stillTrue", inPlace := ["slices.overlaps[turnery/api.Val]"], unfollowed := true, recurses := true, named := ["turnery/code.ways"], apart := false, laid := [("turnery/code.ways", laid_turnery_code_ways)] }
def StillTrueSaid : Prop := stillTrueRow.holds Tryz.pinned (OpenSpec.ofChange stillTrueSpec)

/-- ITS FALSE NEIGHBOUR: 'it returns false'. Refute it at one input. -/
def stillTrueWrong : ChangeSpec := { name := "stillTrue", fn := fun _ => fun
  | [d1, d2, d3, d4] => { results := [.lit (.bool false)], args := [d1, d2, d3, d4] }
  | _ => none }
def StillTrueWrongFalsely : Prop := stillTrueRow.holds Tryz.pinned (OpenSpec.ofChange stillTrueWrong)

/-- 'turnerylaw6.MemMean': WHATEVER THE INPUT: true; the input reads as it did. -/
def memMeanSpec : ChangeSpec := { name := "memMean", fn := fun _ => fun
  | [d1, d2, d3] => { results := [.lit (.bool true)], args := [d1, d2, d3] }
  | _ => none }
def memMeanRow : OpenClaim := { program := "ytnkfdeiigplhoaagreatdoor", sum := "d29dac4305d2c3cdbf45ca30363be4aa51c3c916fc64d8f1016ebee68b629c62", func := "turnery/turnerylaw6.MemMean", spec := "memMean", inPlace := ["slices.overlaps[turnery/api.Val]"], unfollowed := true, recurses := true, named := ["turnery/code.ways"], apart := false, laid := [("turnery/code.ways", laid_turnery_code_ways)] }
def MemMeanSaid : Prop := memMeanRow.holds Tryz.pinned (OpenSpec.ofChange memMeanSpec)

/-- ITS FALSE NEIGHBOUR: 'it returns false'. Refute it at one input. -/
def memMeanWrong : ChangeSpec := { name := "memMean", fn := fun _ => fun
  | [d1, d2, d3] => { results := [.lit (.bool false)], args := [d1, d2, d3] }
  | _ => none }
def MemMeanWrongFalsely : Prop := memMeanRow.holds Tryz.pinned (OpenSpec.ofChange memMeanWrong)

/-- 'turnerylaw6.MemThere': WHATEVER THE INPUT: true; the input reads as it did. -/
def memThereSpec : ChangeSpec := { name := "memThere", fn := fun _ => fun
  | [d1, d2] => { results := [.lit (.bool true)], args := [d1, d2] }
  | _ => none }
def memThereRow : OpenClaim := { program := "ytnkfdeiigplhoaagreatdoor", sum := "d29dac4305d2c3cdbf45ca30363be4aa51c3c916fc64d8f1016ebee68b629c62", func := "turnery/turnerylaw6.MemThere", spec := "memThere", inPlace := ["slices.overlaps[turnery/api.Val]"], unfollowed := true, recurses := true, named := ["turnery/code.ways"], apart := false, laid := [("turnery/code.ways", laid_turnery_code_ways)] }
def MemThereSaid : Prop := memThereRow.holds Tryz.pinned (OpenSpec.ofChange memThereSpec)

/-- ITS FALSE NEIGHBOUR: 'it returns false'. Refute it at one input. -/
def memThereWrong : ChangeSpec := { name := "memThere", fn := fun _ => fun
  | [d1, d2] => { results := [.lit (.bool false)], args := [d1, d2] }
  | _ => none }
def MemThereWrongFalsely : Prop := memThereRow.holds Tryz.pinned (OpenSpec.ofChange memThereWrong)

/- THE SECOND FORM. 'bulk': how many values and letters a reading holds, each counted each time it is reached (what is shared counts as often as it is met; a slice's spare places count too). A statement '..UptoSaid' is the law's where the arguments, and the package variables that the reading takes, are together of bulk at most 1048576: NARROWER than '..Said'. Prove '..Said' where nothing that the law and all that it calls make is longer than what came in: it says more and counts as full. Else prove '..UptoSaid'. A law counts once. -/
mutual
def uptoBulk {H : Type} : DataW H → Nat
  | .lit (.string bytes) => bytes.length + 1
  | .lit _ => 1
  | .nil => 1
  | .ptr d => uptoBulk d + 1
  | .slice elems spare => uptoBulkAll elems + uptoBulkAll spare + 1
  | .agg parts => uptoBulkAll parts + 1
  | .iface _ d => uptoBulk d + 1
  | .map entries => uptoBulkEntries entries + 1
  | .held _ => 1
def uptoBulkAll {H : Type} : List (DataW H) → Nat
  | [] => 0
  | d :: r => uptoBulk d + uptoBulkAll r
def uptoBulkEntries {H : Type} : List (Lit × DataW H) → Nat
  | [] => 0
  | x :: r => uptoBulkEntry x + uptoBulkEntries r
def uptoBulkEntry {H : Type} : Lit × DataW H → Nat
  | (.string bytes, d) => bytes.length + uptoBulk d + 1
  | (_, d) => uptoBulk d + 1
 end
def uptoSmall : (H : Type) → List (DataW H) → Bool := fun _ ds => decide (uptoBulkAll ds ≤ 1048576)
def OpenSpec.upto (s : _root_.Go.ChangeSpec) : _root_.Go.OpenSpec := { _root_.Go.OpenSpec.ofChange s with cond := some uptoSmall }

/-- 'turnerylaw6.WeighMean', WHERE WHAT IT READS IS OF BULK AT MOST 1048576: true; the input reads as it did. -/
def weighMeanUptoRow : OpenClaim := { program := "ytnkfdeiigplhoaagreatdoor", sum := "d29dac4305d2c3cdbf45ca30363be4aa51c3c916fc64d8f1016ebee68b629c62", func := "turnery/turnerylaw6.WeighMean", spec := "weighMean", unfollowed := true, recurses := true, named := ["turnery/code.ways"], apart := false, laid := [("turnery/code.ways", laid_turnery_code_ways)], narrowed := true }
def WeighMeanUptoSaid : Prop := weighMeanUptoRow.holds Tryz.pinned (OpenSpec.upto weighMeanSpec)

/-- 'turnerylaw6.StillMean', WHERE WHAT IT READS IS OF BULK AT MOST 1048576: true; the input reads as it did. -/
def stillMeanUptoRow : OpenClaim := { program := "ytnkfdeiigplhoaagreatdoor", sum := "d29dac4305d2c3cdbf45ca30363be4aa51c3c916fc64d8f1016ebee68b629c62", func := "turnery/turnerylaw6.StillMean", spec := "stillMean", inPlace := ["slices.overlaps[turnery/api.Val]"], unfollowed := true, recurses := true, named := ["turnery/code.ways"], apart := false, laid := [("turnery/code.ways", laid_turnery_code_ways)], narrowed := true }
def StillMeanUptoSaid : Prop := stillMeanUptoRow.holds Tryz.pinned (OpenSpec.upto stillMeanSpec)

/-- 'turnerylaw6.StillTrue', WHERE WHAT IT READS IS OF BULK AT MOST 1048576: true; the input reads as it did. -/
def stillTrueUptoRow : OpenClaim := { program := "ytnkfdeiigplhoaagreatdoor", sum := "d29dac4305d2c3cdbf45ca30363be4aa51c3c916fc64d8f1016ebee68b629c62", func := "turnery/turnerylaw6.StillTrue", spec := "stillTrue", inPlace := ["slices.overlaps[turnery/api.Val]"], unfollowed := true, recurses := true, named := ["turnery/code.ways"], apart := false, laid := [("turnery/code.ways", laid_turnery_code_ways)], narrowed := true }
def StillTrueUptoSaid : Prop := stillTrueUptoRow.holds Tryz.pinned (OpenSpec.upto stillTrueSpec)

/-- 'turnerylaw6.MemMean', WHERE WHAT IT READS IS OF BULK AT MOST 1048576: true; the input reads as it did. -/
def memMeanUptoRow : OpenClaim := { program := "ytnkfdeiigplhoaagreatdoor", sum := "d29dac4305d2c3cdbf45ca30363be4aa51c3c916fc64d8f1016ebee68b629c62", func := "turnery/turnerylaw6.MemMean", spec := "memMean", inPlace := ["slices.overlaps[turnery/api.Val]"], unfollowed := true, recurses := true, named := ["turnery/code.ways"], apart := false, laid := [("turnery/code.ways", laid_turnery_code_ways)], narrowed := true }
def MemMeanUptoSaid : Prop := memMeanUptoRow.holds Tryz.pinned (OpenSpec.upto memMeanSpec)

/-- 'turnerylaw6.MemThere', WHERE WHAT IT READS IS OF BULK AT MOST 1048576: true; the input reads as it did. -/
def memThereUptoRow : OpenClaim := { program := "ytnkfdeiigplhoaagreatdoor", sum := "d29dac4305d2c3cdbf45ca30363be4aa51c3c916fc64d8f1016ebee68b629c62", func := "turnery/turnerylaw6.MemThere", spec := "memThere", inPlace := ["slices.overlaps[turnery/api.Val]"], unfollowed := true, recurses := true, named := ["turnery/code.ways"], apart := false, laid := [("turnery/code.ways", laid_turnery_code_ways)], narrowed := true }
def MemThereUptoSaid : Prop := memThereUptoRow.holds Tryz.pinned (OpenSpec.upto memThereSpec)

end Rows
end Go.Proofs.YtnkfdeiigplhoaaGreatDoor
