/-
  NARROWER THAN 'FOR EVERY INPUT', by the rows' own cells (each row's printed sentence says how): MemSays: laid · MemFewer: laid · MemOnce: laid · MemSsa: laid.
  DERIVED. THE GIVEN ROWS OF THIS SEAT. 4 by the template 'for every input the law returns true; each argument reads behind the call as it read before'; 0 by the template 'total and deterministic' (their statements: YtpeejlpcikefcaaGreatDoorTotals.lean).
  GIVEN WITH THE SEED: the statements are not yours to turn. If you find one false, say at which input.
  Laid BY PROGRAM, IN A SANDBOX (cutbox-rows.mjs): the forced cells as the released guide's own fill.sh prints them over the translation 0a226a60074b4fa6… (all of the seat's roots in one cut). By AI agents, Wed Nov 11 2026. No macro, syntax, notation, axiom, sorry.
-/
import Derived.Test.YtpeejlpcikefcaaGreatDoorChecked
import GoSem.Claim
import GoSem.ClaimJoined
import GoSem.ClaimMapViews
import Derived.JoinedTies
import Derived.KernelRfl
namespace Go.Proofs.YtpeejlpcikefcaaGreatDoor
/- THE CELL 'sum', in the pinned program and in every row, IS THE sha256 OF THE DUMP (.gsa) THAT YtpeejlpcikefcaaGreatDoorProg.lean LOADS. Nothing in Lean hashes anything: it is a label: what it is worth is what the hold of that sum in a sandbox is worth. -/
noncomputable def Tryz.pinned : Pinned := { name := "ytpeejlpcikefcaagreatdoor", sum := "0a226a60074b4fa68e58490975737a5556cc2bab91a52f727d328002b868e18b", checked := Tryz.checked }
namespace Rows
def none {H : Type} : Left H := { results := [], args := [] }

/- WHAT THE LISTED PACKAGE-LEVEL VARIABLES READ AS WHEN THE CALL BEGINS. Each datum BY PROGRAM (the guide's laid-datum.mjs) off the statement by which the dump's own 'gosem.cut.vars' lays the variable. In a bare row this is a premise. The card (YtpeejlpcikefcaaGreatDoorCards.lean) ties it to the program's text. -/
def laid_turnery_code_ways {H : Type} : DataW H := .agg [.lit (.int .i64 0), .lit (.int .i64 0), .lit (.int .i64 1), .lit (.int .i64 2)]

/-- 'turnerylaw6.MemSays': WHATEVER THE INPUT: true; the input reads as it did. -/
def memSaysSpec : ChangeSpec := { name := "memSays", fn := fun _ => fun
  | [d] => { results := [.lit (.bool true)], args := [d] }
  | _ => none }
def memSaysRow : OpenClaim := { program := "ytpeejlpcikefcaagreatdoor", sum := "0a226a60074b4fa68e58490975737a5556cc2bab91a52f727d328002b868e18b", func := "turnery/turnerylaw6.MemSays", spec := "memSays", inPlace := ["slices.overlaps[turnery/api.Val]"], unfollowed := true, recurses := true, named := ["turnery/code.ways"], apart := false, laid := [("turnery/code.ways", laid_turnery_code_ways)] }
def MemSaysSaid : Prop := memSaysRow.holds Tryz.pinned (OpenSpec.ofChange memSaysSpec)

/-- ITS FALSE NEIGHBOUR: 'it returns false'. Refute it at one input. -/
def memSaysWrong : ChangeSpec := { name := "memSays", fn := fun _ => fun
  | [d] => { results := [.lit (.bool false)], args := [d] }
  | _ => none }
def MemSaysWrongFalsely : Prop := memSaysRow.holds Tryz.pinned (OpenSpec.ofChange memSaysWrong)

/-- 'turnerylaw6.MemFewer': WHATEVER THE INPUT: true; the input reads as it did. -/
def memFewerSpec : ChangeSpec := { name := "memFewer", fn := fun _ => fun
  | [d] => { results := [.lit (.bool true)], args := [d] }
  | _ => none }
def memFewerRow : OpenClaim := { program := "ytpeejlpcikefcaagreatdoor", sum := "0a226a60074b4fa68e58490975737a5556cc2bab91a52f727d328002b868e18b", func := "turnery/turnerylaw6.MemFewer", spec := "memFewer", inPlace := ["slices.overlaps[turnery/api.Val]"], unfollowed := true, recurses := true, named := ["turnery/code.ways"], apart := false, laid := [("turnery/code.ways", laid_turnery_code_ways)] }
def MemFewerSaid : Prop := memFewerRow.holds Tryz.pinned (OpenSpec.ofChange memFewerSpec)

/-- ITS FALSE NEIGHBOUR: 'it returns false'. Refute it at one input. -/
def memFewerWrong : ChangeSpec := { name := "memFewer", fn := fun _ => fun
  | [d] => { results := [.lit (.bool false)], args := [d] }
  | _ => none }
def MemFewerWrongFalsely : Prop := memFewerRow.holds Tryz.pinned (OpenSpec.ofChange memFewerWrong)

/-- 'turnerylaw6.MemOnce': WHATEVER THE INPUT: true; the input reads as it did. -/
def memOnceSpec : ChangeSpec := { name := "memOnce", fn := fun _ => fun
  | [d] => { results := [.lit (.bool true)], args := [d] }
  | _ => none }
def memOnceRow : OpenClaim := { program := "ytpeejlpcikefcaagreatdoor", sum := "0a226a60074b4fa68e58490975737a5556cc2bab91a52f727d328002b868e18b", func := "turnery/turnerylaw6.MemOnce", spec := "memOnce", inPlace := ["slices.overlaps[turnery/api.Val]"], unfollowed := true, recurses := true, named := ["turnery/code.ways"], apart := false, laid := [("turnery/code.ways", laid_turnery_code_ways)] }
def MemOnceSaid : Prop := memOnceRow.holds Tryz.pinned (OpenSpec.ofChange memOnceSpec)

/-- ITS FALSE NEIGHBOUR: 'it returns false'. Refute it at one input. -/
def memOnceWrong : ChangeSpec := { name := "memOnce", fn := fun _ => fun
  | [d] => { results := [.lit (.bool false)], args := [d] }
  | _ => none }
def MemOnceWrongFalsely : Prop := memOnceRow.holds Tryz.pinned (OpenSpec.ofChange memOnceWrong)

/-- 'turnerylaw6.MemSsa': WHATEVER THE INPUT: true; the input reads as it did. -/
def memSsaSpec : ChangeSpec := { name := "memSsa", fn := fun _ => fun
  | [d] => { results := [.lit (.bool true)], args := [d] }
  | _ => none }
def memSsaRow : OpenClaim := { program := "ytpeejlpcikefcaagreatdoor", sum := "0a226a60074b4fa68e58490975737a5556cc2bab91a52f727d328002b868e18b", func := "turnery/turnerylaw6.MemSsa", spec := "memSsa", inPlace := ["slices.overlaps[turnery/api.Val]"], unfollowed := true, recurses := true, named := ["turnery/code.ways"], apart := false, laid := [("turnery/code.ways", laid_turnery_code_ways)] }
def MemSsaSaid : Prop := memSsaRow.holds Tryz.pinned (OpenSpec.ofChange memSsaSpec)

/-- ITS FALSE NEIGHBOUR: 'it returns false'. Refute it at one input. -/
def memSsaWrong : ChangeSpec := { name := "memSsa", fn := fun _ => fun
  | [d] => { results := [.lit (.bool false)], args := [d] }
  | _ => none }
def MemSsaWrongFalsely : Prop := memSsaRow.holds Tryz.pinned (OpenSpec.ofChange memSsaWrong)

/- THE SECOND FORM. 'bulk': how many values and letters a reading holds, each counted each time it is reached (what is shared counts as often as it is met; a slice's spare places count too). A statement '..UptoSaid' is the law's where the arguments, and the package variables that the reading takes, are together of bulk at most 1048576: NARROWER than '..Said'. Prove '..Said' where nothing that the law and all that it calls make is longer than what came in: it says more and counts as full. Else prove '..UptoSaid'. A law counts once. -/
mutual
def uptoBulk {H : Type} : DataW H → Nat
  | .lit (.string bytes) => bytes.length + 1
  | .lit _ => 1
  | .nil => 1
  | .ptr d => uptoBulk d + 1
  | .slice elems spare => uptoBulkAll elems + uptoBulkAll spare + 1
  | .agg parts => uptoBulkAll parts + 1
  | .iface _ d => uptoBulk d + 1
  | .map entries => uptoBulkEntries entries + 1
  | .held _ => 1
def uptoBulkAll {H : Type} : List (DataW H) → Nat
  | [] => 0
  | d :: r => uptoBulk d + uptoBulkAll r
def uptoBulkEntries {H : Type} : List (Lit × DataW H) → Nat
  | [] => 0
  | x :: r => uptoBulkEntry x + uptoBulkEntries r
def uptoBulkEntry {H : Type} : Lit × DataW H → Nat
  | (.string bytes, d) => bytes.length + uptoBulk d + 1
  | (_, d) => uptoBulk d + 1
 end
def uptoSmall : (H : Type) → List (DataW H) → Bool := fun _ ds => decide (uptoBulkAll ds ≤ 1048576)
def OpenSpec.upto (s : _root_.Go.ChangeSpec) : _root_.Go.OpenSpec := { _root_.Go.OpenSpec.ofChange s with cond := some uptoSmall }

/-- 'turnerylaw6.MemSays', WHERE WHAT IT READS IS OF BULK AT MOST 1048576: true; the input reads as it did. -/
def memSaysUptoRow : OpenClaim := { program := "ytpeejlpcikefcaagreatdoor", sum := "0a226a60074b4fa68e58490975737a5556cc2bab91a52f727d328002b868e18b", func := "turnery/turnerylaw6.MemSays", spec := "memSays", inPlace := ["slices.overlaps[turnery/api.Val]"], unfollowed := true, recurses := true, named := ["turnery/code.ways"], apart := false, laid := [("turnery/code.ways", laid_turnery_code_ways)], narrowed := true }
def MemSaysUptoSaid : Prop := memSaysUptoRow.holds Tryz.pinned (OpenSpec.upto memSaysSpec)

/-- 'turnerylaw6.MemFewer', WHERE WHAT IT READS IS OF BULK AT MOST 1048576: true; the input reads as it did. -/
def memFewerUptoRow : OpenClaim := { program := "ytpeejlpcikefcaagreatdoor", sum := "0a226a60074b4fa68e58490975737a5556cc2bab91a52f727d328002b868e18b", func := "turnery/turnerylaw6.MemFewer", spec := "memFewer", inPlace := ["slices.overlaps[turnery/api.Val]"], unfollowed := true, recurses := true, named := ["turnery/code.ways"], apart := false, laid := [("turnery/code.ways", laid_turnery_code_ways)], narrowed := true }
def MemFewerUptoSaid : Prop := memFewerUptoRow.holds Tryz.pinned (OpenSpec.upto memFewerSpec)

/-- 'turnerylaw6.MemOnce', WHERE WHAT IT READS IS OF BULK AT MOST 1048576: true; the input reads as it did. -/
def memOnceUptoRow : OpenClaim := { program := "ytpeejlpcikefcaagreatdoor", sum := "0a226a60074b4fa68e58490975737a5556cc2bab91a52f727d328002b868e18b", func := "turnery/turnerylaw6.MemOnce", spec := "memOnce", inPlace := ["slices.overlaps[turnery/api.Val]"], unfollowed := true, recurses := true, named := ["turnery/code.ways"], apart := false, laid := [("turnery/code.ways", laid_turnery_code_ways)], narrowed := true }
def MemOnceUptoSaid : Prop := memOnceUptoRow.holds Tryz.pinned (OpenSpec.upto memOnceSpec)

/-- 'turnerylaw6.MemSsa', WHERE WHAT IT READS IS OF BULK AT MOST 1048576: true; the input reads as it did. -/
def memSsaUptoRow : OpenClaim := { program := "ytpeejlpcikefcaagreatdoor", sum := "0a226a60074b4fa68e58490975737a5556cc2bab91a52f727d328002b868e18b", func := "turnery/turnerylaw6.MemSsa", spec := "memSsa", inPlace := ["slices.overlaps[turnery/api.Val]"], unfollowed := true, recurses := true, named := ["turnery/code.ways"], apart := false, laid := [("turnery/code.ways", laid_turnery_code_ways)], narrowed := true }
def MemSsaUptoSaid : Prop := memSsaUptoRow.holds Tryz.pinned (OpenSpec.upto memSsaSpec)

end Rows
end Go.Proofs.YtpeejlpcikefcaaGreatDoor
