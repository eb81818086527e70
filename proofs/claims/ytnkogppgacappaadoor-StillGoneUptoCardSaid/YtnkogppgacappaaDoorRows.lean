/-
  NARROWER THAN 'FOR EVERY INPUT', by the rows' own cells (each row's printed sentence says how): WeighGuessSays: laid · StillGone: laid.
  DERIVED. THE GIVEN ROWS OF THIS SEAT. 2 by the template 'for every input the law returns true; each argument reads behind the call as it read before'; 0 by the template 'total and deterministic' (their statements: YtnkogppgacappaaDoorTotals.lean).
  GIVEN WITH THE SEED: the statements are not yours to turn. If you find one false, say at which input.
  Laid BY PROGRAM, IN A SANDBOX (cutbox-rows.mjs): the forced cells as the released guide's own fill.sh prints them over the translation 88f9d5b24bc8b59e… (all of the seat's roots in one cut). By AI agents, Wed Nov 11 2026. No macro, syntax, notation, axiom, sorry.
-/
import Derived.Test.YtnkogppgacappaaDoorChecked
import GoSem.Claim
import GoSem.ClaimJoined
import GoSem.ClaimMapViews
import Derived.JoinedTies
import Derived.KernelRfl
namespace Go.Proofs.YtnkogppgacappaaDoor
/- THE CELL 'sum', in the pinned program and in every row, IS THE sha256 OF THE DUMP (.gsa) THAT YtnkogppgacappaaDoorProg.lean LOADS. Nothing in Lean hashes anything: it is a label: what it is worth is what the hold of that sum in a sandbox is worth. -/
noncomputable def Tryd.pinned : Pinned := { name := "ytnkogppgacappaadoor", sum := "88f9d5b24bc8b59ecd039bc05c069aa90a71086b725785d87896d944dd340b4e", checked := Tryd.checked }
namespace Rows
def none {H : Type} : Left H := { results := [], args := [] }

/- WHAT THE LISTED PACKAGE-LEVEL VARIABLES READ AS WHEN THE CALL BEGINS. Each datum BY PROGRAM (the guide's laid-datum.mjs) off the statement by which the dump's own 'gosem.cut.vars' lays the variable. In a bare row this is a premise. The card (YtnkogppgacappaaDoorCards.lean) ties it to the program's text. -/
def laid_turnery_code_ways {H : Type} : DataW H := .agg [.lit (.int .i64 0), .lit (.int .i64 0), .lit (.int .i64 1), .lit (.int .i64 2)]

/-- 'turnerylaw6.WeighGuessSays': WHATEVER THE INPUT: true; the input reads as it did. -/
def weighGuessSaysSpec : ChangeSpec := { name := "weighGuessSays", fn := fun _ => fun
  | [d1, d2] => { results := [.lit (.bool true)], args := [d1, d2] }
  | _ => none }
def weighGuessSaysRow : OpenClaim := { program := "ytnkogppgacappaadoor", sum := "88f9d5b24bc8b59ecd039bc05c069aa90a71086b725785d87896d944dd340b4e", func := "turnery/turnerylaw6.WeighGuessSays", spec := "weighGuessSays", unfollowed := true, recurses := true, named := ["turnery/code.ways"], apart := false, laid := [("turnery/code.ways", laid_turnery_code_ways)] }
def WeighGuessSaysSaid : Prop := weighGuessSaysRow.holds Tryd.pinned (OpenSpec.ofChange weighGuessSaysSpec)

/-- ITS FALSE NEIGHBOUR: 'it returns false'. Refute it at one input. -/
def weighGuessSaysWrong : ChangeSpec := { name := "weighGuessSays", fn := fun _ => fun
  | [d1, d2] => { results := [.lit (.bool false)], args := [d1, d2] }
  | _ => none }
def WeighGuessSaysWrongFalsely : Prop := weighGuessSaysRow.holds Tryd.pinned (OpenSpec.ofChange weighGuessSaysWrong)

/-- 'turnerylaw6.StillGone': WHATEVER THE INPUT: true; the input reads as it did. -/
def stillGoneSpec : ChangeSpec := { name := "stillGone", fn := fun _ => fun
  | [d] => { results := [.lit (.bool true)], args := [d] }
  | _ => none }
def stillGoneRow : OpenClaim := { program := "ytnkogppgacappaadoor", sum := "88f9d5b24bc8b59ecd039bc05c069aa90a71086b725785d87896d944dd340b4e", func := "turnery/turnerylaw6.StillGone", spec := "stillGone", inPlace := ["slices.overlaps[turnery/api.Val]"], unfollowed := true, recurses := true, named := ["turnery/code.ways"], apart := false, laid := [("turnery/code.ways", laid_turnery_code_ways)] }
def StillGoneSaid : Prop := stillGoneRow.holds Tryd.pinned (OpenSpec.ofChange stillGoneSpec)

/-- ITS FALSE NEIGHBOUR: 'it returns false'. Refute it at one input. -/
def stillGoneWrong : ChangeSpec := { name := "stillGone", fn := fun _ => fun
  | [d] => { results := [.lit (.bool false)], args := [d] }
  | _ => none }
def StillGoneWrongFalsely : Prop := stillGoneRow.holds Tryd.pinned (OpenSpec.ofChange stillGoneWrong)

/- THE SECOND FORM. 'bulk': how many values and letters a reading holds, each counted each time it is reached (what is shared counts as often as it is met; a slice's spare places count too). A statement '..UptoSaid' is the law's where the arguments, and the package variables that the reading takes, are together of bulk at most 1048576: NARROWER than '..Said'. Prove '..Said' where nothing that the law and all that it calls make is longer than what came in: it says more and counts as full. Else prove '..UptoSaid'. A law counts once. -/
mutual
def uptoBulk {H : Type} : DataW H → Nat
  | .lit (.string bytes) => bytes.length + 1
  | .lit _ => 1
  | .nil => 1
  | .ptr d => uptoBulk d + 1
  | .slice elems spare => uptoBulkAll elems + uptoBulkAll spare + 1
  | .agg parts => uptoBulkAll parts + 1
  | .iface _ d => uptoBulk d + 1
  | .map entries => uptoBulkEntries entries + 1
  | .held _ => 1
def uptoBulkAll {H : Type} : List (DataW H) → Nat
  | [] => 0
  | d :: r => uptoBulk d + uptoBulkAll r
def uptoBulkEntries {H : Type} : List (Lit × DataW H) → Nat
  | [] => 0
  | x :: r => uptoBulkEntry x + uptoBulkEntries r
def uptoBulkEntry {H : Type} : Lit × DataW H → Nat
  | (.string bytes, d) => bytes.length + uptoBulk d + 1
  | (_, d) => uptoBulk d + 1
 end
def uptoSmall : (H : Type) → List (DataW H) → Bool := fun _ ds => decide (uptoBulkAll ds ≤ 1048576)
def OpenSpec.upto (s : _root_.Go.ChangeSpec) : _root_.Go.OpenSpec := { _root_.Go.OpenSpec.ofChange s with cond := some uptoSmall }

/-- 'turnerylaw6.WeighGuessSays', WHERE WHAT IT READS IS OF BULK AT MOST 1048576: true; the input reads as it did. -/
def weighGuessSaysUptoRow : OpenClaim := { program := "ytnkogppgacappaadoor", sum := "88f9d5b24bc8b59ecd039bc05c069aa90a71086b725785d87896d944dd340b4e", func := "turnery/turnerylaw6.WeighGuessSays", spec := "weighGuessSays", unfollowed := true, recurses := true, named := ["turnery/code.ways"], apart := false, laid := [("turnery/code.ways", laid_turnery_code_ways)], narrowed := true }
def WeighGuessSaysUptoSaid : Prop := weighGuessSaysUptoRow.holds Tryd.pinned (OpenSpec.upto weighGuessSaysSpec)

/-- 'turnerylaw6.StillGone', WHERE WHAT IT READS IS OF BULK AT MOST 1048576: true; the input reads as it did. -/
def stillGoneUptoRow : OpenClaim := { program := "ytnkogppgacappaadoor", sum := "88f9d5b24bc8b59ecd039bc05c069aa90a71086b725785d87896d944dd340b4e", func := "turnery/turnerylaw6.StillGone", spec := "stillGone", inPlace := ["slices.overlaps[turnery/api.Val]"], unfollowed := true, recurses := true, named := ["turnery/code.ways"], apart := false, laid := [("turnery/code.ways", laid_turnery_code_ways)], narrowed := true }
def StillGoneUptoSaid : Prop := stillGoneUptoRow.holds Tryd.pinned (OpenSpec.upto stillGoneSpec)

end Rows
end Go.Proofs.YtnkogppgacappaaDoor
