/-
  NARROWER THAN 'FOR EVERY INPUT', by the rows' own cells (each row's printed sentence says how): WeighLaySays: laid · WeighOnce: laid · WeighHot: laid · StillOfSays: laid · WeighBySays: laid · WeighRest: laid · BitsOfSays: laid · BitsApart: laid · UnrollRoundsSays: laid · UnrollOther: laid · EverTellsSays: laid · EverChain: laid.
  DERIVED. THE GIVEN ROWS OF THIS SEAT. 12 by the template 'for every input the law returns true; each argument reads behind the call as it read before'; 0 by the template 'total and deterministic' (their statements: YtaehkcnankijfaaDoorTotals.lean).
  GIVEN WITH THE SEED: the statements are not yours to turn. If you find one false, say at which input.
  Laid BY PROGRAM, IN A SANDBOX (cutbox-rows.mjs): the forced cells as the released guide's own fill.sh prints them over the translation a46491f4a4a91660… (all of the seat's roots in one cut). By AI agents, Wed Nov 11 2026. No macro, syntax, notation, axiom, sorry.
-/
import Derived.Test.YtaehkcnankijfaaDoorChecked
import GoSem.Claim
import GoSem.ClaimJoined
import GoSem.ClaimMapViews
import Derived.JoinedTies
import Derived.KernelRfl
namespace Go.Proofs.YtaehkcnankijfaaDoor
/- THE CELL 'sum', in the pinned program and in every row, IS THE sha256 OF THE DUMP (.gsa) THAT YtaehkcnankijfaaDoorProg.lean LOADS. Nothing in Lean hashes anything: it is a label: what it is worth is what the hold of that sum in a sandbox is worth. -/
noncomputable def Tryd.pinned : Pinned := { name := "ytaehkcnankijfaadoor", sum := "a46491f4a4a91660e6c273a9707277a40e401ee5d3ccedcc1a3c452729fdc248", checked := Tryd.checked }
namespace Rows
def none {H : Type} : Left H := { results := [], args := [] }

/- WHAT THE LISTED PACKAGE-LEVEL VARIABLES READ AS WHEN THE CALL BEGINS. Each datum BY PROGRAM (the guide's laid-datum.mjs) off the statement by which the dump's own 'gosem.cut.vars' lays the variable. In a bare row this is a premise. The card (YtaehkcnankijfaaDoorCards.lean) ties it to the program's text. -/
def laid_turnery_code_ways {H : Type} : DataW H := .agg [.lit (.int .i64 0), .lit (.int .i64 0), .lit (.int .i64 1), .lit (.int .i64 2)]
def laid_math_bits_deBruijn64tab {H : Type} : DataW H := .agg [.lit (.int .u8 0), .lit (.int .u8 1), .lit (.int .u8 56), .lit (.int .u8 2), .lit (.int .u8 57), .lit (.int .u8 49), .lit (.int .u8 28), .lit (.int .u8 3), .lit (.int .u8 61), .lit (.int .u8 58), .lit (.int .u8 42), .lit (.int .u8 50), .lit (.int .u8 38), .lit (.int .u8 29), .lit (.int .u8 17), .lit (.int .u8 4), .lit (.int .u8 62), .lit (.int .u8 47), .lit (.int .u8 59), .lit (.int .u8 36), .lit (.int .u8 45), .lit (.int .u8 43), .lit (.int .u8 51), .lit (.int .u8 22), .lit (.int .u8 53), .lit (.int .u8 39), .lit (.int .u8 33), .lit (.int .u8 30), .lit (.int .u8 24), .lit (.int .u8 18), .lit (.int .u8 12), .lit (.int .u8 5), .lit (.int .u8 63), .lit (.int .u8 55), .lit (.int .u8 48), .lit (.int .u8 27), .lit (.int .u8 60), .lit (.int .u8 41), .lit (.int .u8 37), .lit (.int .u8 16), .lit (.int .u8 46), .lit (.int .u8 35), .lit (.int .u8 44), .lit (.int .u8 21), .lit (.int .u8 52), .lit (.int .u8 32), .lit (.int .u8 23), .lit (.int .u8 11), .lit (.int .u8 54), .lit (.int .u8 26), .lit (.int .u8 40), .lit (.int .u8 15), .lit (.int .u8 34), .lit (.int .u8 20), .lit (.int .u8 31), .lit (.int .u8 10), .lit (.int .u8 25), .lit (.int .u8 14), .lit (.int .u8 19), .lit (.int .u8 9), .lit (.int .u8 13), .lit (.int .u8 8), .lit (.int .u8 7), .lit (.int .u8 6)]

/-- 'turnerylaw6.WeighLaySays': WHATEVER THE INPUT: true; the input reads as it did. -/
def weighLaySaysSpec : ChangeSpec := { name := "weighLaySays", fn := fun _ => fun
  | [d1, d2, d3] => { results := [.lit (.bool true)], args := [d1, d2, d3] }
  | _ => none }
def weighLaySaysRow : OpenClaim := { program := "ytaehkcnankijfaadoor", sum := "a46491f4a4a91660e6c273a9707277a40e401ee5d3ccedcc1a3c452729fdc248", func := "turnery/turnerylaw6.WeighLaySays", spec := "weighLaySays", unfollowed := true, recurses := true, named := ["turnery/code.ways"], apart := false, laid := [("turnery/code.ways", laid_turnery_code_ways)] }
def WeighLaySaysSaid : Prop := weighLaySaysRow.holds Tryd.pinned (OpenSpec.ofChange weighLaySaysSpec)

/-- ITS FALSE NEIGHBOUR: 'it returns false'. Refute it at one input. -/
def weighLaySaysWrong : ChangeSpec := { name := "weighLaySays", fn := fun _ => fun
  | [d1, d2, d3] => { results := [.lit (.bool false)], args := [d1, d2, d3] }
  | _ => none }
def WeighLaySaysWrongFalsely : Prop := weighLaySaysRow.holds Tryd.pinned (OpenSpec.ofChange weighLaySaysWrong)

/-- 'turnerylaw6.WeighOnce': WHATEVER THE INPUT: true; the input reads as it did. -/
def weighOnceSpec : ChangeSpec := { name := "weighOnce", fn := fun _ => fun
  | [d1, d2, d3] => { results := [.lit (.bool true)], args := [d1, d2, d3] }
  | _ => none }
def weighOnceRow : OpenClaim := { program := "ytaehkcnankijfaadoor", sum := "a46491f4a4a91660e6c273a9707277a40e401ee5d3ccedcc1a3c452729fdc248", func := "turnery/turnerylaw6.WeighOnce", spec := "weighOnce", unfollowed := true, recurses := true, named := ["turnery/code.ways"], apart := false, laid := [("turnery/code.ways", laid_turnery_code_ways)] }
def WeighOnceSaid : Prop := weighOnceRow.holds Tryd.pinned (OpenSpec.ofChange weighOnceSpec)

/-- ITS FALSE NEIGHBOUR: 'it returns false'. Refute it at one input. -/
def weighOnceWrong : ChangeSpec := { name := "weighOnce", fn := fun _ => fun
  | [d1, d2, d3] => { results := [.lit (.bool false)], args := [d1, d2, d3] }
  | _ => none }
def WeighOnceWrongFalsely : Prop := weighOnceRow.holds Tryd.pinned (OpenSpec.ofChange weighOnceWrong)

/-- 'turnerylaw6.WeighHot': WHATEVER THE INPUT: true; the input reads as it did. -/
def weighHotSpec : ChangeSpec := { name := "weighHot", fn := fun _ => fun
  | [d1, d2, d3] => { results := [.lit (.bool true)], args := [d1, d2, d3] }
  | _ => none }
def weighHotRow : OpenClaim := { program := "ytaehkcnankijfaadoor", sum := "a46491f4a4a91660e6c273a9707277a40e401ee5d3ccedcc1a3c452729fdc248", func := "turnery/turnerylaw6.WeighHot", spec := "weighHot", unfollowed := true, recurses := true, named := ["turnery/code.ways"], apart := false, laid := [("turnery/code.ways", laid_turnery_code_ways)] }
def WeighHotSaid : Prop := weighHotRow.holds Tryd.pinned (OpenSpec.ofChange weighHotSpec)

/-- ITS FALSE NEIGHBOUR: 'it returns false'. Refute it at one input. -/
def weighHotWrong : ChangeSpec := { name := "weighHot", fn := fun _ => fun
  | [d1, d2, d3] => { results := [.lit (.bool false)], args := [d1, d2, d3] }
  | _ => none }
def WeighHotWrongFalsely : Prop := weighHotRow.holds Tryd.pinned (OpenSpec.ofChange weighHotWrong)

/-- 'turnerylaw6.StillOfSays': WHATEVER THE INPUT: true; the input reads as it did. -/
def stillOfSaysSpec : ChangeSpec := { name := "stillOfSays", fn := fun _ => fun
  | [d] => { results := [.lit (.bool true)], args := [d] }
  | _ => none }
def stillOfSaysRow : OpenClaim := { program := "ytaehkcnankijfaadoor", sum := "a46491f4a4a91660e6c273a9707277a40e401ee5d3ccedcc1a3c452729fdc248", func := "turnery/turnerylaw6.StillOfSays", spec := "stillOfSays", unfollowed := true, recurses := true, named := ["turnery/code.ways"], apart := false, laid := [("turnery/code.ways", laid_turnery_code_ways)] }
def StillOfSaysSaid : Prop := stillOfSaysRow.holds Tryd.pinned (OpenSpec.ofChange stillOfSaysSpec)

/-- ITS FALSE NEIGHBOUR: 'it returns false'. Refute it at one input. -/
def stillOfSaysWrong : ChangeSpec := { name := "stillOfSays", fn := fun _ => fun
  | [d] => { results := [.lit (.bool false)], args := [d] }
  | _ => none }
def StillOfSaysWrongFalsely : Prop := stillOfSaysRow.holds Tryd.pinned (OpenSpec.ofChange stillOfSaysWrong)

/-- 'turnerylaw6.WeighBySays': WHATEVER THE INPUT: true; the input reads as it did. -/
def weighBySaysSpec : ChangeSpec := { name := "weighBySays", fn := fun _ => fun
  | [d1, d2] => { results := [.lit (.bool true)], args := [d1, d2] }
  | _ => none }
def weighBySaysRow : OpenClaim := { program := "ytaehkcnankijfaadoor", sum := "a46491f4a4a91660e6c273a9707277a40e401ee5d3ccedcc1a3c452729fdc248", func := "turnery/turnerylaw6.WeighBySays", spec := "weighBySays", unfollowed := true, recurses := true, named := ["turnery/code.ways"], apart := false, laid := [("turnery/code.ways", laid_turnery_code_ways)] }
def WeighBySaysSaid : Prop := weighBySaysRow.holds Tryd.pinned (OpenSpec.ofChange weighBySaysSpec)

/-- ITS FALSE NEIGHBOUR: 'it returns false'. Refute it at one input. -/
def weighBySaysWrong : ChangeSpec := { name := "weighBySays", fn := fun _ => fun
  | [d1, d2] => { results := [.lit (.bool false)], args := [d1, d2] }
  | _ => none }
def WeighBySaysWrongFalsely : Prop := weighBySaysRow.holds Tryd.pinned (OpenSpec.ofChange weighBySaysWrong)

/-- 'turnerylaw6.WeighRest': WHATEVER THE INPUT: true; the input reads as it did. -/
def weighRestSpec : ChangeSpec := { name := "weighRest", fn := fun _ => fun
  | [d1, d2] => { results := [.lit (.bool true)], args := [d1, d2] }
  | _ => none }
def weighRestRow : OpenClaim := { program := "ytaehkcnankijfaadoor", sum := "a46491f4a4a91660e6c273a9707277a40e401ee5d3ccedcc1a3c452729fdc248", func := "turnery/turnerylaw6.WeighRest", spec := "weighRest", unfollowed := true, recurses := true, named := ["turnery/code.ways"], apart := false, laid := [("turnery/code.ways", laid_turnery_code_ways)] }
def WeighRestSaid : Prop := weighRestRow.holds Tryd.pinned (OpenSpec.ofChange weighRestSpec)

/-- ITS FALSE NEIGHBOUR: 'it returns false'. Refute it at one input. -/
def weighRestWrong : ChangeSpec := { name := "weighRest", fn := fun _ => fun
  | [d1, d2] => { results := [.lit (.bool false)], args := [d1, d2] }
  | _ => none }
def WeighRestWrongFalsely : Prop := weighRestRow.holds Tryd.pinned (OpenSpec.ofChange weighRestWrong)

/-- 'turnerylaw6.BitsOfSays': WHATEVER THE INPUT: true; the input reads as it did. -/
def bitsOfSaysSpec : ChangeSpec := { name := "bitsOfSays", fn := fun _ => fun
  | [d1, d2] => { results := [.lit (.bool true)], args := [d1, d2] }
  | _ => none }
def bitsOfSaysRow : OpenClaim := { program := "ytaehkcnankijfaadoor", sum := "a46491f4a4a91660e6c273a9707277a40e401ee5d3ccedcc1a3c452729fdc248", func := "turnery/turnerylaw6.BitsOfSays", spec := "bitsOfSays", unfollowed := true, recurses := true, named := ["turnery/code.ways", "math/bits.deBruijn64tab"], apart := false, laid := [("math/bits.deBruijn64tab", laid_math_bits_deBruijn64tab), ("turnery/code.ways", laid_turnery_code_ways)] }
def BitsOfSaysSaid : Prop := bitsOfSaysRow.holds Tryd.pinned (OpenSpec.ofChange bitsOfSaysSpec)

/-- ITS FALSE NEIGHBOUR: 'it returns false'. Refute it at one input. -/
def bitsOfSaysWrong : ChangeSpec := { name := "bitsOfSays", fn := fun _ => fun
  | [d1, d2] => { results := [.lit (.bool false)], args := [d1, d2] }
  | _ => none }
def BitsOfSaysWrongFalsely : Prop := bitsOfSaysRow.holds Tryd.pinned (OpenSpec.ofChange bitsOfSaysWrong)

/-- 'turnerylaw6.BitsApart': WHATEVER THE INPUT: true; the input reads as it did. -/
def bitsApartSpec : ChangeSpec := { name := "bitsApart", fn := fun _ => fun
  | [d1, d2] => { results := [.lit (.bool true)], args := [d1, d2] }
  | _ => none }
def bitsApartRow : OpenClaim := { program := "ytaehkcnankijfaadoor", sum := "a46491f4a4a91660e6c273a9707277a40e401ee5d3ccedcc1a3c452729fdc248", func := "turnery/turnerylaw6.BitsApart", spec := "bitsApart", unfollowed := true, recurses := true, named := ["turnery/code.ways", "math/bits.deBruijn64tab"], apart := false, laid := [("math/bits.deBruijn64tab", laid_math_bits_deBruijn64tab), ("turnery/code.ways", laid_turnery_code_ways)] }
def BitsApartSaid : Prop := bitsApartRow.holds Tryd.pinned (OpenSpec.ofChange bitsApartSpec)

/-- ITS FALSE NEIGHBOUR: 'it returns false'. Refute it at one input. -/
def bitsApartWrong : ChangeSpec := { name := "bitsApart", fn := fun _ => fun
  | [d1, d2] => { results := [.lit (.bool false)], args := [d1, d2] }
  | _ => none }
def BitsApartWrongFalsely : Prop := bitsApartRow.holds Tryd.pinned (OpenSpec.ofChange bitsApartWrong)

/-- 'turnerylaw6.UnrollRoundsSays': WHATEVER THE INPUT: true; the input reads as it did. -/
def unrollRoundsSaysSpec : ChangeSpec := { name := "unrollRoundsSays", fn := fun _ => fun
  | [d1, d2, d3] => { results := [.lit (.bool true)], args := [d1, d2, d3] }
  | _ => none }
def unrollRoundsSaysRow : OpenClaim := { program := "ytaehkcnankijfaadoor", sum := "a46491f4a4a91660e6c273a9707277a40e401ee5d3ccedcc1a3c452729fdc248", func := "turnery/turnerylaw6.UnrollRoundsSays", spec := "unrollRoundsSays", unfollowed := true, recurses := true, named := ["turnery/code.ways"], apart := false, laid := [("turnery/code.ways", laid_turnery_code_ways)] }
def UnrollRoundsSaysSaid : Prop := unrollRoundsSaysRow.holds Tryd.pinned (OpenSpec.ofChange unrollRoundsSaysSpec)

/-- ITS FALSE NEIGHBOUR: 'it returns false'. Refute it at one input. -/
def unrollRoundsSaysWrong : ChangeSpec := { name := "unrollRoundsSays", fn := fun _ => fun
  | [d1, d2, d3] => { results := [.lit (.bool false)], args := [d1, d2, d3] }
  | _ => none }
def UnrollRoundsSaysWrongFalsely : Prop := unrollRoundsSaysRow.holds Tryd.pinned (OpenSpec.ofChange unrollRoundsSaysWrong)

/-- 'turnerylaw6.UnrollOther': WHATEVER THE INPUT: true; the input reads as it did. -/
def unrollOtherSpec : ChangeSpec := { name := "unrollOther", fn := fun _ => fun
  | [d1, d2, d3] => { results := [.lit (.bool true)], args := [d1, d2, d3] }
  | _ => none }
def unrollOtherRow : OpenClaim := { program := "ytaehkcnankijfaadoor", sum := "a46491f4a4a91660e6c273a9707277a40e401ee5d3ccedcc1a3c452729fdc248", func := "turnery/turnerylaw6.UnrollOther", spec := "unrollOther", unfollowed := true, recurses := true, named := ["turnery/code.ways"], apart := false, laid := [("turnery/code.ways", laid_turnery_code_ways)] }
def UnrollOtherSaid : Prop := unrollOtherRow.holds Tryd.pinned (OpenSpec.ofChange unrollOtherSpec)

/-- ITS FALSE NEIGHBOUR: 'it returns false'. Refute it at one input. -/
def unrollOtherWrong : ChangeSpec := { name := "unrollOther", fn := fun _ => fun
  | [d1, d2, d3] => { results := [.lit (.bool false)], args := [d1, d2, d3] }
  | _ => none }
def UnrollOtherWrongFalsely : Prop := unrollOtherRow.holds Tryd.pinned (OpenSpec.ofChange unrollOtherWrong)

/-- 'turnerylaw6.EverTellsSays': WHATEVER THE INPUT: true; the input reads as it did. -/
def everTellsSaysSpec : ChangeSpec := { name := "everTellsSays", fn := fun _ => fun
  | [d] => { results := [.lit (.bool true)], args := [d] }
  | _ => none }
def everTellsSaysRow : OpenClaim := { program := "ytaehkcnankijfaadoor", sum := "a46491f4a4a91660e6c273a9707277a40e401ee5d3ccedcc1a3c452729fdc248", func := "turnery/turnerylaw6.EverTellsSays", spec := "everTellsSays", unfollowed := true, recurses := true, named := ["turnery/code.ways"], apart := false, laid := [("turnery/code.ways", laid_turnery_code_ways)] }
def EverTellsSaysSaid : Prop := everTellsSaysRow.holds Tryd.pinned (OpenSpec.ofChange everTellsSaysSpec)

/-- ITS FALSE NEIGHBOUR: 'it returns false'. Refute it at one input. -/
def everTellsSaysWrong : ChangeSpec := { name := "everTellsSays", fn := fun _ => fun
  | [d] => { results := [.lit (.bool false)], args := [d] }
  | _ => none }
def EverTellsSaysWrongFalsely : Prop := everTellsSaysRow.holds Tryd.pinned (OpenSpec.ofChange everTellsSaysWrong)

/-- 'turnerylaw6.EverChain': WHATEVER THE INPUT: true; the input reads as it did. -/
def everChainSpec : ChangeSpec := { name := "everChain", fn := fun _ => fun
  | [d1, d2, d3] => { results := [.lit (.bool true)], args := [d1, d2, d3] }
  | _ => none }
def everChainRow : OpenClaim := { program := "ytaehkcnankijfaadoor", sum := "a46491f4a4a91660e6c273a9707277a40e401ee5d3ccedcc1a3c452729fdc248", func := "turnery/turnerylaw6.EverChain", spec := "everChain", unfollowed := true, recurses := true, named := ["turnery/code.ways"], apart := false, laid := [("turnery/code.ways", laid_turnery_code_ways)] }
def EverChainSaid : Prop := everChainRow.holds Tryd.pinned (OpenSpec.ofChange everChainSpec)

/-- ITS FALSE NEIGHBOUR: 'it returns false'. Refute it at one input. -/
def everChainWrong : ChangeSpec := { name := "everChain", fn := fun _ => fun
  | [d1, d2, d3] => { results := [.lit (.bool false)], args := [d1, d2, d3] }
  | _ => none }
def EverChainWrongFalsely : Prop := everChainRow.holds Tryd.pinned (OpenSpec.ofChange everChainWrong)

/- THE SECOND FORM. 'bulk': how many values and letters a reading holds, each counted each time it is reached (what is shared counts as often as it is met; a slice's spare places count too). A statement '..UptoSaid' is the law's where the arguments, and the package variables that the reading takes, are together of bulk at most 1048576: NARROWER than '..Said'. Prove '..Said' where nothing that the law and all that it calls make is longer than what came in: it says more and counts as full. Else prove '..UptoSaid'. A law counts once. -/
mutual
def uptoBulk {H : Type} : DataW H → Nat
  | .lit (.string bytes) => bytes.length + 1
  | .lit _ => 1
  | .nil => 1
  | .ptr d => uptoBulk d + 1
  | .slice elems spare => uptoBulkAll elems + uptoBulkAll spare + 1
  | .agg parts => uptoBulkAll parts + 1
  | .iface _ d => uptoBulk d + 1
  | .map entries => uptoBulkEntries entries + 1
  | .held _ => 1
def uptoBulkAll {H : Type} : List (DataW H) → Nat
  | [] => 0
  | d :: r => uptoBulk d + uptoBulkAll r
def uptoBulkEntries {H : Type} : List (Lit × DataW H) → Nat
  | [] => 0
  | x :: r => uptoBulkEntry x + uptoBulkEntries r
def uptoBulkEntry {H : Type} : Lit × DataW H → Nat
  | (.string bytes, d) => bytes.length + uptoBulk d + 1
  | (_, d) => uptoBulk d + 1
 end
def uptoSmall : (H : Type) → List (DataW H) → Bool := fun _ ds => decide (uptoBulkAll ds ≤ 1048576)
def OpenSpec.upto (s : _root_.Go.ChangeSpec) : _root_.Go.OpenSpec := { _root_.Go.OpenSpec.ofChange s with cond := some uptoSmall }

/-- 'turnerylaw6.WeighLaySays', WHERE WHAT IT READS IS OF BULK AT MOST 1048576: true; the input reads as it did. -/
def weighLaySaysUptoRow : OpenClaim := { program := "ytaehkcnankijfaadoor", sum := "a46491f4a4a91660e6c273a9707277a40e401ee5d3ccedcc1a3c452729fdc248", func := "turnery/turnerylaw6.WeighLaySays", spec := "weighLaySays", unfollowed := true, recurses := true, named := ["turnery/code.ways"], apart := false, laid := [("turnery/code.ways", laid_turnery_code_ways)], narrowed := true }
def WeighLaySaysUptoSaid : Prop := weighLaySaysUptoRow.holds Tryd.pinned (OpenSpec.upto weighLaySaysSpec)

/-- 'turnerylaw6.WeighOnce', WHERE WHAT IT READS IS OF BULK AT MOST 1048576: true; the input reads as it did. -/
def weighOnceUptoRow : OpenClaim := { program := "ytaehkcnankijfaadoor", sum := "a46491f4a4a91660e6c273a9707277a40e401ee5d3ccedcc1a3c452729fdc248", func := "turnery/turnerylaw6.WeighOnce", spec := "weighOnce", unfollowed := true, recurses := true, named := ["turnery/code.ways"], apart := false, laid := [("turnery/code.ways", laid_turnery_code_ways)], narrowed := true }
def WeighOnceUptoSaid : Prop := weighOnceUptoRow.holds Tryd.pinned (OpenSpec.upto weighOnceSpec)

/-- 'turnerylaw6.WeighHot', WHERE WHAT IT READS IS OF BULK AT MOST 1048576: true; the input reads as it did. -/
def weighHotUptoRow : OpenClaim := { program := "ytaehkcnankijfaadoor", sum := "a46491f4a4a91660e6c273a9707277a40e401ee5d3ccedcc1a3c452729fdc248", func := "turnery/turnerylaw6.WeighHot", spec := "weighHot", unfollowed := true, recurses := true, named := ["turnery/code.ways"], apart := false, laid := [("turnery/code.ways", laid_turnery_code_ways)], narrowed := true }
def WeighHotUptoSaid : Prop := weighHotUptoRow.holds Tryd.pinned (OpenSpec.upto weighHotSpec)

/-- 'turnerylaw6.StillOfSays', WHERE WHAT IT READS IS OF BULK AT MOST 1048576: true; the input reads as it did. -/
def stillOfSaysUptoRow : OpenClaim := { program := "ytaehkcnankijfaadoor", sum := "a46491f4a4a91660e6c273a9707277a40e401ee5d3ccedcc1a3c452729fdc248", func := "turnery/turnerylaw6.StillOfSays", spec := "stillOfSays", unfollowed := true, recurses := true, named := ["turnery/code.ways"], apart := false, laid := [("turnery/code.ways", laid_turnery_code_ways)], narrowed := true }
def StillOfSaysUptoSaid : Prop := stillOfSaysUptoRow.holds Tryd.pinned (OpenSpec.upto stillOfSaysSpec)

/-- 'turnerylaw6.WeighBySays', WHERE WHAT IT READS IS OF BULK AT MOST 1048576: true; the input reads as it did. -/
def weighBySaysUptoRow : OpenClaim := { program := "ytaehkcnankijfaadoor", sum := "a46491f4a4a91660e6c273a9707277a40e401ee5d3ccedcc1a3c452729fdc248", func := "turnery/turnerylaw6.WeighBySays", spec := "weighBySays", unfollowed := true, recurses := true, named := ["turnery/code.ways"], apart := false, laid := [("turnery/code.ways", laid_turnery_code_ways)], narrowed := true }
def WeighBySaysUptoSaid : Prop := weighBySaysUptoRow.holds Tryd.pinned (OpenSpec.upto weighBySaysSpec)

/-- 'turnerylaw6.WeighRest', WHERE WHAT IT READS IS OF BULK AT MOST 1048576: true; the input reads as it did. -/
def weighRestUptoRow : OpenClaim := { program := "ytaehkcnankijfaadoor", sum := "a46491f4a4a91660e6c273a9707277a40e401ee5d3ccedcc1a3c452729fdc248", func := "turnery/turnerylaw6.WeighRest", spec := "weighRest", unfollowed := true, recurses := true, named := ["turnery/code.ways"], apart := false, laid := [("turnery/code.ways", laid_turnery_code_ways)], narrowed := true }
def WeighRestUptoSaid : Prop := weighRestUptoRow.holds Tryd.pinned (OpenSpec.upto weighRestSpec)

/-- 'turnerylaw6.BitsOfSays', WHERE WHAT IT READS IS OF BULK AT MOST 1048576: true; the input reads as it did. -/
def bitsOfSaysUptoRow : OpenClaim := { program := "ytaehkcnankijfaadoor", sum := "a46491f4a4a91660e6c273a9707277a40e401ee5d3ccedcc1a3c452729fdc248", func := "turnery/turnerylaw6.BitsOfSays", spec := "bitsOfSays", unfollowed := true, recurses := true, named := ["turnery/code.ways", "math/bits.deBruijn64tab"], apart := false, laid := [("math/bits.deBruijn64tab", laid_math_bits_deBruijn64tab), ("turnery/code.ways", laid_turnery_code_ways)], narrowed := true }
def BitsOfSaysUptoSaid : Prop := bitsOfSaysUptoRow.holds Tryd.pinned (OpenSpec.upto bitsOfSaysSpec)

/-- 'turnerylaw6.BitsApart', WHERE WHAT IT READS IS OF BULK AT MOST 1048576: true; the input reads as it did. -/
def bitsApartUptoRow : OpenClaim := { program := "ytaehkcnankijfaadoor", sum := "a46491f4a4a91660e6c273a9707277a40e401ee5d3ccedcc1a3c452729fdc248", func := "turnery/turnerylaw6.BitsApart", spec := "bitsApart", unfollowed := true, recurses := true, named := ["turnery/code.ways", "math/bits.deBruijn64tab"], apart := false, laid := [("math/bits.deBruijn64tab", laid_math_bits_deBruijn64tab), ("turnery/code.ways", laid_turnery_code_ways)], narrowed := true }
def BitsApartUptoSaid : Prop := bitsApartUptoRow.holds Tryd.pinned (OpenSpec.upto bitsApartSpec)

/-- 'turnerylaw6.UnrollRoundsSays', WHERE WHAT IT READS IS OF BULK AT MOST 1048576: true; the input reads as it did. -/
def unrollRoundsSaysUptoRow : OpenClaim := { program := "ytaehkcnankijfaadoor", sum := "a46491f4a4a91660e6c273a9707277a40e401ee5d3ccedcc1a3c452729fdc248", func := "turnery/turnerylaw6.UnrollRoundsSays", spec := "unrollRoundsSays", unfollowed := true, recurses := true, named := ["turnery/code.ways"], apart := false, laid := [("turnery/code.ways", laid_turnery_code_ways)], narrowed := true }
def UnrollRoundsSaysUptoSaid : Prop := unrollRoundsSaysUptoRow.holds Tryd.pinned (OpenSpec.upto unrollRoundsSaysSpec)

/-- 'turnerylaw6.UnrollOther', WHERE WHAT IT READS IS OF BULK AT MOST 1048576: true; the input reads as it did. -/
def unrollOtherUptoRow : OpenClaim := { program := "ytaehkcnankijfaadoor", sum := "a46491f4a4a91660e6c273a9707277a40e401ee5d3ccedcc1a3c452729fdc248", func := "turnery/turnerylaw6.UnrollOther", spec := "unrollOther", unfollowed := true, recurses := true, named := ["turnery/code.ways"], apart := false, laid := [("turnery/code.ways", laid_turnery_code_ways)], narrowed := true }
def UnrollOtherUptoSaid : Prop := unrollOtherUptoRow.holds Tryd.pinned (OpenSpec.upto unrollOtherSpec)

/-- 'turnerylaw6.EverTellsSays', WHERE WHAT IT READS IS OF BULK AT MOST 1048576: true; the input reads as it did. -/
def everTellsSaysUptoRow : OpenClaim := { program := "ytaehkcnankijfaadoor", sum := "a46491f4a4a91660e6c273a9707277a40e401ee5d3ccedcc1a3c452729fdc248", func := "turnery/turnerylaw6.EverTellsSays", spec := "everTellsSays", unfollowed := true, recurses := true, named := ["turnery/code.ways"], apart := false, laid := [("turnery/code.ways", laid_turnery_code_ways)], narrowed := true }
def EverTellsSaysUptoSaid : Prop := everTellsSaysUptoRow.holds Tryd.pinned (OpenSpec.upto everTellsSaysSpec)

/-- 'turnerylaw6.EverChain', WHERE WHAT IT READS IS OF BULK AT MOST 1048576: true; the input reads as it did. -/
def everChainUptoRow : OpenClaim := { program := "ytaehkcnankijfaadoor", sum := "a46491f4a4a91660e6c273a9707277a40e401ee5d3ccedcc1a3c452729fdc248", func := "turnery/turnerylaw6.EverChain", spec := "everChain", unfollowed := true, recurses := true, named := ["turnery/code.ways"], apart := false, laid := [("turnery/code.ways", laid_turnery_code_ways)], narrowed := true }
def EverChainUptoSaid : Prop := everChainUptoRow.holds Tryd.pinned (OpenSpec.upto everChainSpec)

end Rows
end Go.Proofs.YtaehkcnankijfaaDoor
