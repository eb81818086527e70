/-
  NARROWER THAN 'FOR EVERY INPUT', by the rows' own cells (each row's printed sentence says how): WeighDoSays: laid · StillSays: laid · StillRest: laid · WeighTidy: laid.
  DERIVED. THE GIVEN ROWS OF THIS SEAT. 4 by the template 'for every input the law returns true; each argument reads behind the call as it read before'; 0 by the template 'total and deterministic' (their statements: YtnkogppgacappaaGreatDoorTotals.lean).
  GIVEN WITH THE SEED: the statements are not yours to turn. If you find one false, say at which input.
  Laid BY PROGRAM, IN A SANDBOX (cutbox-rows.mjs): the forced cells as the released guide's own fill.sh prints them over the translation 34280a725e43f28a… (all of the seat's roots in one cut). By AI agents, Wed Nov 11 2026. No macro, syntax, notation, axiom, sorry.
-/
import Derived.Test.YtnkogppgacappaaGreatDoorChecked
import GoSem.Claim
import GoSem.ClaimJoined
import GoSem.ClaimMapViews
import Derived.JoinedTies
import Derived.KernelRfl
namespace Go.Proofs.YtnkogppgacappaaGreatDoor
/- THE CELL 'sum', in the pinned program and in every row, IS THE sha256 OF THE DUMP (.gsa) THAT YtnkogppgacappaaGreatDoorProg.lean LOADS. Nothing in Lean hashes anything: it is a label: what it is worth is what the hold of that sum in a sandbox is worth. -/
noncomputable def Tryz.pinned : Pinned := { name := "ytnkogppgacappaagreatdoor", sum := "34280a725e43f28aca51c80ba1af6c0adf6594fcc7fc3d0d6602dff2e1eef0a2", checked := Tryz.checked }
namespace Rows
def none {H : Type} : Left H := { results := [], args := [] }

/- WHAT THE LISTED PACKAGE-LEVEL VARIABLES READ AS WHEN THE CALL BEGINS. Each datum BY PROGRAM (the guide's laid-datum.mjs) off the statement by which the dump's own 'gosem.cut.vars' lays the variable. In a bare row this is a premise. The card (YtnkogppgacappaaGreatDoorCards.lean) ties it to the program's text. -/
def laid_turnery_code_ways {H : Type} : DataW H := .agg [.lit (.int .i64 0), .lit (.int .i64 0), .lit (.int .i64 1), .lit (.int .i64 2)]

/-- 'turnerylaw6.WeighDoSays': WHATEVER THE INPUT: true; the input reads as it did. -/
def weighDoSaysSpec : ChangeSpec := { name := "weighDoSays", fn := fun _ => fun
  | [d] => { results := [.lit (.bool true)], args := [d] }
  | _ => none }
def weighDoSaysRow : OpenClaim := { program := "ytnkogppgacappaagreatdoor", sum := "34280a725e43f28aca51c80ba1af6c0adf6594fcc7fc3d0d6602dff2e1eef0a2", func := "turnery/turnerylaw6.WeighDoSays", spec := "weighDoSays", unfollowed := true, recurses := true, named := ["turnery/code.ways"], apart := false, laid := [("turnery/code.ways", laid_turnery_code_ways)] }
def WeighDoSaysSaid : Prop := weighDoSaysRow.holds Tryz.pinned (OpenSpec.ofChange weighDoSaysSpec)

/-- ITS FALSE NEIGHBOUR: 'it returns false'. Refute it at one input. -/
def weighDoSaysWrong : ChangeSpec := { name := "weighDoSays", fn := fun _ => fun
  | [d] => { results := [.lit (.bool false)], args := [d] }
  | _ => none }
def WeighDoSaysWrongFalsely : Prop := weighDoSaysRow.holds Tryz.pinned (OpenSpec.ofChange weighDoSaysWrong)

/-- 'turnerylaw6.StillSays': WHATEVER THE INPUT: true; the input reads as it did. -/
def stillSaysSpec : ChangeSpec := { name := "stillSays", fn := fun _ => fun
  | [d] => { results := [.lit (.bool true)], args := [d] }
  | _ => none }
def stillSaysRow : OpenClaim := { program := "ytnkogppgacappaagreatdoor", sum := "34280a725e43f28aca51c80ba1af6c0adf6594fcc7fc3d0d6602dff2e1eef0a2", func := "turnery/turnerylaw6.StillSays", spec := "stillSays", inPlace := ["slices.overlaps[turnery/api.Val]"], unfollowed := true, recurses := true, named := ["turnery/code.ways"], apart := false, laid := [("turnery/code.ways", laid_turnery_code_ways)] }
def StillSaysSaid : Prop := stillSaysRow.holds Tryz.pinned (OpenSpec.ofChange stillSaysSpec)

/-- ITS FALSE NEIGHBOUR: 'it returns false'. Refute it at one input. -/
def stillSaysWrong : ChangeSpec := { name := "stillSays", fn := fun _ => fun
  | [d] => { results := [.lit (.bool false)], args := [d] }
  | _ => none }
def StillSaysWrongFalsely : Prop := stillSaysRow.holds Tryz.pinned (OpenSpec.ofChange stillSaysWrong)

/-- 'turnerylaw6.StillRest': WHATEVER THE INPUT: true; the input reads as it did. -/
def stillRestSpec : ChangeSpec := { name := "stillRest", fn := fun _ => fun
  | [d] => { results := [.lit (.bool true)], args := [d] }
  | _ => none }
def stillRestRow : OpenClaim := { program := "ytnkogppgacappaagreatdoor", sum := "34280a725e43f28aca51c80ba1af6c0adf6594fcc7fc3d0d6602dff2e1eef0a2", func := "turnery/turnerylaw6.StillRest", spec := "stillRest", inPlace := ["slices.overlaps[turnery/api.Val]"], unfollowed := true, recurses := true, named := ["turnery/code.ways"], apart := false, laid := [("turnery/code.ways", laid_turnery_code_ways)] }
def StillRestSaid : Prop := stillRestRow.holds Tryz.pinned (OpenSpec.ofChange stillRestSpec)

/-- ITS FALSE NEIGHBOUR: 'it returns false'. Refute it at one input. -/
def stillRestWrong : ChangeSpec := { name := "stillRest", fn := fun _ => fun
  | [d] => { results := [.lit (.bool false)], args := [d] }
  | _ => none }
def StillRestWrongFalsely : Prop := stillRestRow.holds Tryz.pinned (OpenSpec.ofChange stillRestWrong)

/-- 'turnerylaw6.WeighTidy': WHATEVER THE INPUT: true; the input reads as it did. -/
def weighTidySpec : ChangeSpec := { name := "weighTidy", fn := fun _ => fun
  | [d1, d2] => { results := [.lit (.bool true)], args := [d1, d2] }
  | _ => none }
def weighTidyRow : OpenClaim := { program := "ytnkogppgacappaagreatdoor", sum := "34280a725e43f28aca51c80ba1af6c0adf6594fcc7fc3d0d6602dff2e1eef0a2", func := "turnery/turnerylaw6.WeighTidy", spec := "weighTidy", inPlace := ["slices.overlaps[turnery/api.Val]"], unfollowed := true, recurses := true, named := ["turnery/code.ways"], apart := false, laid := [("turnery/code.ways", laid_turnery_code_ways)] }
def WeighTidySaid : Prop := weighTidyRow.holds Tryz.pinned (OpenSpec.ofChange weighTidySpec)

/-- ITS FALSE NEIGHBOUR: 'it returns false'. Refute it at one input. -/
def weighTidyWrong : ChangeSpec := { name := "weighTidy", fn := fun _ => fun
  | [d1, d2] => { results := [.lit (.bool false)], args := [d1, d2] }
  | _ => none }
def WeighTidyWrongFalsely : Prop := weighTidyRow.holds Tryz.pinned (OpenSpec.ofChange weighTidyWrong)

/- THE SECOND FORM. 'bulk': how many values and letters a reading holds, each counted each time it is reached (what is shared counts as often as it is met; a slice's spare places count too). A statement '..UptoSaid' is the law's where the arguments, and the package variables that the reading takes, are together of bulk at most 1048576: NARROWER than '..Said'. Prove '..Said' where nothing that the law and all that it calls make is longer than what came in: it says more and counts as full. Else prove '..UptoSaid'. A law counts once. -/
mutual
def uptoBulk {H : Type} : DataW H → Nat
  | .lit (.string bytes) => bytes.length + 1
  | .lit _ => 1
  | .nil => 1
  | .ptr d => uptoBulk d + 1
  | .slice elems spare => uptoBulkAll elems + uptoBulkAll spare + 1
  | .agg parts => uptoBulkAll parts + 1
  | .iface _ d => uptoBulk d + 1
  | .map entries => uptoBulkEntries entries + 1
  | .held _ => 1
def uptoBulkAll {H : Type} : List (DataW H) → Nat
  | [] => 0
  | d :: r => uptoBulk d + uptoBulkAll r
def uptoBulkEntries {H : Type} : List (Lit × DataW H) → Nat
  | [] => 0
  | x :: r => uptoBulkEntry x + uptoBulkEntries r
def uptoBulkEntry {H : Type} : Lit × DataW H → Nat
  | (.string bytes, d) => bytes.length + uptoBulk d + 1
  | (_, d) => uptoBulk d + 1
 end
def uptoSmall : (H : Type) → List (DataW H) → Bool := fun _ ds => decide (uptoBulkAll ds ≤ 1048576)
def OpenSpec.upto (s : _root_.Go.ChangeSpec) : _root_.Go.OpenSpec := { _root_.Go.OpenSpec.ofChange s with cond := some uptoSmall }

/-- 'turnerylaw6.WeighDoSays', WHERE WHAT IT READS IS OF BULK AT MOST 1048576: true; the input reads as it did. -/
def weighDoSaysUptoRow : OpenClaim := { program := "ytnkogppgacappaagreatdoor", sum := "34280a725e43f28aca51c80ba1af6c0adf6594fcc7fc3d0d6602dff2e1eef0a2", func := "turnery/turnerylaw6.WeighDoSays", spec := "weighDoSays", unfollowed := true, recurses := true, named := ["turnery/code.ways"], apart := false, laid := [("turnery/code.ways", laid_turnery_code_ways)], narrowed := true }
def WeighDoSaysUptoSaid : Prop := weighDoSaysUptoRow.holds Tryz.pinned (OpenSpec.upto weighDoSaysSpec)

/-- 'turnerylaw6.StillSays', WHERE WHAT IT READS IS OF BULK AT MOST 1048576: true; the input reads as it did. -/
def stillSaysUptoRow : OpenClaim := { program := "ytnkogppgacappaagreatdoor", sum := "34280a725e43f28aca51c80ba1af6c0adf6594fcc7fc3d0d6602dff2e1eef0a2", func := "turnery/turnerylaw6.StillSays", spec := "stillSays", inPlace := ["slices.overlaps[turnery/api.Val]"], unfollowed := true, recurses := true, named := ["turnery/code.ways"], apart := false, laid := [("turnery/code.ways", laid_turnery_code_ways)], narrowed := true }
def StillSaysUptoSaid : Prop := stillSaysUptoRow.holds Tryz.pinned (OpenSpec.upto stillSaysSpec)

/-- 'turnerylaw6.StillRest', WHERE WHAT IT READS IS OF BULK AT MOST 1048576: true; the input reads as it did. -/
def stillRestUptoRow : OpenClaim := { program := "ytnkogppgacappaagreatdoor", sum := "34280a725e43f28aca51c80ba1af6c0adf6594fcc7fc3d0d6602dff2e1eef0a2", func := "turnery/turnerylaw6.StillRest", spec := "stillRest", inPlace := ["slices.overlaps[turnery/api.Val]"], unfollowed := true, recurses := true, named := ["turnery/code.ways"], apart := false, laid := [("turnery/code.ways", laid_turnery_code_ways)], narrowed := true }
def StillRestUptoSaid : Prop := stillRestUptoRow.holds Tryz.pinned (OpenSpec.upto stillRestSpec)

/-- 'turnerylaw6.WeighTidy', WHERE WHAT IT READS IS OF BULK AT MOST 1048576: true; the input reads as it did. -/
def weighTidyUptoRow : OpenClaim := { program := "ytnkogppgacappaagreatdoor", sum := "34280a725e43f28aca51c80ba1af6c0adf6594fcc7fc3d0d6602dff2e1eef0a2", func := "turnery/turnerylaw6.WeighTidy", spec := "weighTidy", inPlace := ["slices.overlaps[turnery/api.Val]"], unfollowed := true, recurses := true, named := ["turnery/code.ways"], apart := false, laid := [("turnery/code.ways", laid_turnery_code_ways)], narrowed := true }
def WeighTidyUptoSaid : Prop := weighTidyUptoRow.holds Tryz.pinned (OpenSpec.upto weighTidySpec)

end Rows
end Go.Proofs.YtnkogppgacappaaGreatDoor
