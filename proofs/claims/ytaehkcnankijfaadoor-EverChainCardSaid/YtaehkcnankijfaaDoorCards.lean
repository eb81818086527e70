/-
  DERIVED. GIVEN WITH THE SEED: THE CARDS: each row of YtaehkcnankijfaaDoorRows.lean that lists a variable, with what it lists TIED to the program's text (the seventh form; the later family's looks); each row that meets fmt, with fmt's text TOLD by the authors' own Lean function (tested against real Go, not proved from fmt's source: count such statements apart). THE CARD IS WHAT COUNTS. Prove the row's statement (the work); the ties are given (YtaehkcnankijfaaDoorTie.lean); close each card by the builder's one call (the guide's Derived/Test/ToyasCard.lean, 'card_holds'). Laid BY PROGRAM, IN A SANDBOX (cutbox-door.mjs). By AI agents, Wed Nov 11 2026. No macro, syntax, notation, axiom, sorry.
-/
import Derived.Test.YtaehkcnankijfaaDoorRows
import GoSem.ClaimSeven
namespace Go.Proofs.YtaehkcnankijfaaDoor
namespace Rows

/-- THE TIED CARD OF 'turnerylaw6.WeighLaySays'. -/
def weighLaySaysCard : Claim7 := { stood := { row := weighLaySaysRow, standIns := [], harness := (true, "ba04738e01d91512f5dcf3472be0ce84f4c194c311930e836aeafb886ad81ded"), looks := true }, kinds := [], alts := [], laidByText := true, laidKinds := [.data], laidTests := true, laidLooks := .later }
def WeighLaySaysCardSaid : Prop := Claim7.holds Tryd.pinned (.plain (OpenSpec.ofChange weighLaySaysSpec)) weighLaySaysCard

/-- THE TIED CARD OF 'turnerylaw6.WeighOnce'. -/
def weighOnceCard : Claim7 := { stood := { row := weighOnceRow, standIns := [], harness := (true, "ba04738e01d91512f5dcf3472be0ce84f4c194c311930e836aeafb886ad81ded"), looks := true }, kinds := [], alts := [], laidByText := true, laidKinds := [.data], laidTests := true, laidLooks := .later }
def WeighOnceCardSaid : Prop := Claim7.holds Tryd.pinned (.plain (OpenSpec.ofChange weighOnceSpec)) weighOnceCard

/-- THE TIED CARD OF 'turnerylaw6.WeighHot'. -/
def weighHotCard : Claim7 := { stood := { row := weighHotRow, standIns := [], harness := (true, "ba04738e01d91512f5dcf3472be0ce84f4c194c311930e836aeafb886ad81ded"), looks := true }, kinds := [], alts := [], laidByText := true, laidKinds := [.data], laidTests := true, laidLooks := .later }
def WeighHotCardSaid : Prop := Claim7.holds Tryd.pinned (.plain (OpenSpec.ofChange weighHotSpec)) weighHotCard

/-- THE TIED CARD OF 'turnerylaw6.StillOfSays'. -/
def stillOfSaysCard : Claim7 := { stood := { row := stillOfSaysRow, standIns := [], harness := (true, "ba04738e01d91512f5dcf3472be0ce84f4c194c311930e836aeafb886ad81ded"), looks := true }, kinds := [], alts := [], laidByText := true, laidKinds := [.data], laidTests := true, laidLooks := .later }
def StillOfSaysCardSaid : Prop := Claim7.holds Tryd.pinned (.plain (OpenSpec.ofChange stillOfSaysSpec)) stillOfSaysCard

/-- THE TIED CARD OF 'turnerylaw6.WeighBySays'. -/
def weighBySaysCard : Claim7 := { stood := { row := weighBySaysRow, standIns := [], harness := (true, "ba04738e01d91512f5dcf3472be0ce84f4c194c311930e836aeafb886ad81ded"), looks := true }, kinds := [], alts := [], laidByText := true, laidKinds := [.data], laidTests := true, laidLooks := .later }
def WeighBySaysCardSaid : Prop := Claim7.holds Tryd.pinned (.plain (OpenSpec.ofChange weighBySaysSpec)) weighBySaysCard

/-- THE TIED CARD OF 'turnerylaw6.WeighRest'. -/
def weighRestCard : Claim7 := { stood := { row := weighRestRow, standIns := [], harness := (true, "ba04738e01d91512f5dcf3472be0ce84f4c194c311930e836aeafb886ad81ded"), looks := true }, kinds := [], alts := [], laidByText := true, laidKinds := [.data], laidTests := true, laidLooks := .later }
def WeighRestCardSaid : Prop := Claim7.holds Tryd.pinned (.plain (OpenSpec.ofChange weighRestSpec)) weighRestCard

/-- THE TIED CARD OF 'turnerylaw6.BitsOfSays'. -/
def bitsOfSaysCard : Claim7 := { stood := { row := bitsOfSaysRow, standIns := [], harness := (true, "ba04738e01d91512f5dcf3472be0ce84f4c194c311930e836aeafb886ad81ded"), looks := true }, kinds := [], alts := [], laidByText := true, laidKinds := [.data, .data], laidTests := true, laidLooks := .later }
def BitsOfSaysCardSaid : Prop := Claim7.holds Tryd.pinned (.plain (OpenSpec.ofChange bitsOfSaysSpec)) bitsOfSaysCard

/-- THE TIED CARD OF 'turnerylaw6.BitsApart'. -/
def bitsApartCard : Claim7 := { stood := { row := bitsApartRow, standIns := [], harness := (true, "ba04738e01d91512f5dcf3472be0ce84f4c194c311930e836aeafb886ad81ded"), looks := true }, kinds := [], alts := [], laidByText := true, laidKinds := [.data, .data], laidTests := true, laidLooks := .later }
def BitsApartCardSaid : Prop := Claim7.holds Tryd.pinned (.plain (OpenSpec.ofChange bitsApartSpec)) bitsApartCard

/-- THE TIED CARD OF 'turnerylaw6.UnrollRoundsSays'. -/
def unrollRoundsSaysCard : Claim7 := { stood := { row := unrollRoundsSaysRow, standIns := [], harness := (true, "ba04738e01d91512f5dcf3472be0ce84f4c194c311930e836aeafb886ad81ded"), looks := true }, kinds := [], alts := [], laidByText := true, laidKinds := [.data], laidTests := true, laidLooks := .later }
def UnrollRoundsSaysCardSaid : Prop := Claim7.holds Tryd.pinned (.plain (OpenSpec.ofChange unrollRoundsSaysSpec)) unrollRoundsSaysCard

/-- THE TIED CARD OF 'turnerylaw6.UnrollOther'. -/
def unrollOtherCard : Claim7 := { stood := { row := unrollOtherRow, standIns := [], harness := (true, "ba04738e01d91512f5dcf3472be0ce84f4c194c311930e836aeafb886ad81ded"), looks := true }, kinds := [], alts := [], laidByText := true, laidKinds := [.data], laidTests := true, laidLooks := .later }
def UnrollOtherCardSaid : Prop := Claim7.holds Tryd.pinned (.plain (OpenSpec.ofChange unrollOtherSpec)) unrollOtherCard

/-- THE TIED CARD OF 'turnerylaw6.EverTellsSays'. -/
def everTellsSaysCard : Claim7 := { stood := { row := everTellsSaysRow, standIns := [], harness := (true, "ba04738e01d91512f5dcf3472be0ce84f4c194c311930e836aeafb886ad81ded"), looks := true }, kinds := [], alts := [], laidByText := true, laidKinds := [.data], laidTests := true, laidLooks := .later }
def EverTellsSaysCardSaid : Prop := Claim7.holds Tryd.pinned (.plain (OpenSpec.ofChange everTellsSaysSpec)) everTellsSaysCard

/-- THE TIED CARD OF 'turnerylaw6.EverChain'. -/
def everChainCard : Claim7 := { stood := { row := everChainRow, standIns := [], harness := (true, "ba04738e01d91512f5dcf3472be0ce84f4c194c311930e836aeafb886ad81ded"), looks := true }, kinds := [], alts := [], laidByText := true, laidKinds := [.data], laidTests := true, laidLooks := .later }
def EverChainCardSaid : Prop := Claim7.holds Tryd.pinned (.plain (OpenSpec.ofChange everChainSpec)) everChainCard

/-- THE SECOND FORM's CARD OF 'turnerylaw6.WeighLaySays'. -/
def weighLaySaysUptoCard : Claim7 := { stood := { row := weighLaySaysUptoRow, standIns := [], harness := (true, "ba04738e01d91512f5dcf3472be0ce84f4c194c311930e836aeafb886ad81ded"), looks := true }, kinds := [], alts := [], laidByText := true, laidKinds := [.data], laidTests := true, laidLooks := .later }
def WeighLaySaysUptoCardSaid : Prop := Claim7.holds Tryd.pinned (.plain (OpenSpec.upto weighLaySaysSpec)) weighLaySaysUptoCard

/-- THE SECOND FORM's CARD OF 'turnerylaw6.WeighOnce'. -/
def weighOnceUptoCard : Claim7 := { stood := { row := weighOnceUptoRow, standIns := [], harness := (true, "ba04738e01d91512f5dcf3472be0ce84f4c194c311930e836aeafb886ad81ded"), looks := true }, kinds := [], alts := [], laidByText := true, laidKinds := [.data], laidTests := true, laidLooks := .later }
def WeighOnceUptoCardSaid : Prop := Claim7.holds Tryd.pinned (.plain (OpenSpec.upto weighOnceSpec)) weighOnceUptoCard

/-- THE SECOND FORM's CARD OF 'turnerylaw6.WeighHot'. -/
def weighHotUptoCard : Claim7 := { stood := { row := weighHotUptoRow, standIns := [], harness := (true, "ba04738e01d91512f5dcf3472be0ce84f4c194c311930e836aeafb886ad81ded"), looks := true }, kinds := [], alts := [], laidByText := true, laidKinds := [.data], laidTests := true, laidLooks := .later }
def WeighHotUptoCardSaid : Prop := Claim7.holds Tryd.pinned (.plain (OpenSpec.upto weighHotSpec)) weighHotUptoCard

/-- THE SECOND FORM's CARD OF 'turnerylaw6.StillOfSays'. -/
def stillOfSaysUptoCard : Claim7 := { stood := { row := stillOfSaysUptoRow, standIns := [], harness := (true, "ba04738e01d91512f5dcf3472be0ce84f4c194c311930e836aeafb886ad81ded"), looks := true }, kinds := [], alts := [], laidByText := true, laidKinds := [.data], laidTests := true, laidLooks := .later }
def StillOfSaysUptoCardSaid : Prop := Claim7.holds Tryd.pinned (.plain (OpenSpec.upto stillOfSaysSpec)) stillOfSaysUptoCard

/-- THE SECOND FORM's CARD OF 'turnerylaw6.WeighBySays'. -/
def weighBySaysUptoCard : Claim7 := { stood := { row := weighBySaysUptoRow, standIns := [], harness := (true, "ba04738e01d91512f5dcf3472be0ce84f4c194c311930e836aeafb886ad81ded"), looks := true }, kinds := [], alts := [], laidByText := true, laidKinds := [.data], laidTests := true, laidLooks := .later }
def WeighBySaysUptoCardSaid : Prop := Claim7.holds Tryd.pinned (.plain (OpenSpec.upto weighBySaysSpec)) weighBySaysUptoCard

/-- THE SECOND FORM's CARD OF 'turnerylaw6.WeighRest'. -/
def weighRestUptoCard : Claim7 := { stood := { row := weighRestUptoRow, standIns := [], harness := (true, "ba04738e01d91512f5dcf3472be0ce84f4c194c311930e836aeafb886ad81ded"), looks := true }, kinds := [], alts := [], laidByText := true, laidKinds := [.data], laidTests := true, laidLooks := .later }
def WeighRestUptoCardSaid : Prop := Claim7.holds Tryd.pinned (.plain (OpenSpec.upto weighRestSpec)) weighRestUptoCard

/-- THE SECOND FORM's CARD OF 'turnerylaw6.BitsOfSays'. -/
def bitsOfSaysUptoCard : Claim7 := { stood := { row := bitsOfSaysUptoRow, standIns := [], harness := (true, "ba04738e01d91512f5dcf3472be0ce84f4c194c311930e836aeafb886ad81ded"), looks := true }, kinds := [], alts := [], laidByText := true, laidKinds := [.data, .data], laidTests := true, laidLooks := .later }
def BitsOfSaysUptoCardSaid : Prop := Claim7.holds Tryd.pinned (.plain (OpenSpec.upto bitsOfSaysSpec)) bitsOfSaysUptoCard

/-- THE SECOND FORM's CARD OF 'turnerylaw6.BitsApart'. -/
def bitsApartUptoCard : Claim7 := { stood := { row := bitsApartUptoRow, standIns := [], harness := (true, "ba04738e01d91512f5dcf3472be0ce84f4c194c311930e836aeafb886ad81ded"), looks := true }, kinds := [], alts := [], laidByText := true, laidKinds := [.data, .data], laidTests := true, laidLooks := .later }
def BitsApartUptoCardSaid : Prop := Claim7.holds Tryd.pinned (.plain (OpenSpec.upto bitsApartSpec)) bitsApartUptoCard

/-- THE SECOND FORM's CARD OF 'turnerylaw6.UnrollRoundsSays'. -/
def unrollRoundsSaysUptoCard : Claim7 := { stood := { row := unrollRoundsSaysUptoRow, standIns := [], harness := (true, "ba04738e01d91512f5dcf3472be0ce84f4c194c311930e836aeafb886ad81ded"), looks := true }, kinds := [], alts := [], laidByText := true, laidKinds := [.data], laidTests := true, laidLooks := .later }
def UnrollRoundsSaysUptoCardSaid : Prop := Claim7.holds Tryd.pinned (.plain (OpenSpec.upto unrollRoundsSaysSpec)) unrollRoundsSaysUptoCard

/-- THE SECOND FORM's CARD OF 'turnerylaw6.UnrollOther'. -/
def unrollOtherUptoCard : Claim7 := { stood := { row := unrollOtherUptoRow, standIns := [], harness := (true, "ba04738e01d91512f5dcf3472be0ce84f4c194c311930e836aeafb886ad81ded"), looks := true }, kinds := [], alts := [], laidByText := true, laidKinds := [.data], laidTests := true, laidLooks := .later }
def UnrollOtherUptoCardSaid : Prop := Claim7.holds Tryd.pinned (.plain (OpenSpec.upto unrollOtherSpec)) unrollOtherUptoCard

/-- THE SECOND FORM's CARD OF 'turnerylaw6.EverTellsSays'. -/
def everTellsSaysUptoCard : Claim7 := { stood := { row := everTellsSaysUptoRow, standIns := [], harness := (true, "ba04738e01d91512f5dcf3472be0ce84f4c194c311930e836aeafb886ad81ded"), looks := true }, kinds := [], alts := [], laidByText := true, laidKinds := [.data], laidTests := true, laidLooks := .later }
def EverTellsSaysUptoCardSaid : Prop := Claim7.holds Tryd.pinned (.plain (OpenSpec.upto everTellsSaysSpec)) everTellsSaysUptoCard

/-- THE SECOND FORM's CARD OF 'turnerylaw6.EverChain'. -/
def everChainUptoCard : Claim7 := { stood := { row := everChainUptoRow, standIns := [], harness := (true, "ba04738e01d91512f5dcf3472be0ce84f4c194c311930e836aeafb886ad81ded"), looks := true }, kinds := [], alts := [], laidByText := true, laidKinds := [.data], laidTests := true, laidLooks := .later }
def EverChainUptoCardSaid : Prop := Claim7.holds Tryd.pinned (.plain (OpenSpec.upto everChainSpec)) everChainUptoCard
end Rows
end Go.Proofs.YtaehkcnankijfaaDoor
