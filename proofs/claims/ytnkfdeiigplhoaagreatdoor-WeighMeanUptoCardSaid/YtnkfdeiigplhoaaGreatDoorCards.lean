/-
  DERIVED. GIVEN WITH THE SEED: THE CARDS: each row of YtnkfdeiigplhoaaGreatDoorRows.lean that lists a variable, with what it lists TIED to the program's text (the seventh form; the later family's looks); each row that meets fmt, with fmt's text TOLD by the authors' own Lean function (tested against real Go, not proved from fmt's source: count such statements apart). THE CARD IS WHAT COUNTS. Prove the row's statement (the work); the ties are given (YtnkfdeiigplhoaaGreatDoorTie.lean); close each card by the builder's one call (the guide's Derived/Test/ToyasCard.lean, 'card_holds'). Laid BY PROGRAM, IN A SANDBOX (cutbox-door.mjs). By AI agents, Wed Nov 11 2026. No macro, syntax, notation, axiom, sorry.
-/
import Derived.Test.YtnkfdeiigplhoaaGreatDoorRows
import GoSem.ClaimSeven
namespace Go.Proofs.YtnkfdeiigplhoaaGreatDoor
namespace Rows

/-- THE TIED CARD OF 'turnerylaw6.WeighMean'. -/
def weighMeanCard : Claim7 := { stood := { row := weighMeanRow, standIns := [], harness := (true, "6d4090bb7bea1b48077ad23574a85ddb6fbb8a7d882c5b0e9f718d4698b7bed3"), looks := true }, kinds := [], alts := [], laidByText := true, laidKinds := [.data], laidTests := true, laidLooks := .later }
def WeighMeanCardSaid : Prop := Claim7.holds Tryz.pinned (.plain (OpenSpec.ofChange weighMeanSpec)) weighMeanCard

/-- THE TIED CARD OF 'turnerylaw6.StillMean'. -/
def stillMeanCard : Claim7 := { stood := { row := stillMeanRow, standIns := [], harness := (true, "6d4090bb7bea1b48077ad23574a85ddb6fbb8a7d882c5b0e9f718d4698b7bed3"), looks := true }, kinds := [], alts := [], laidByText := true, laidKinds := [.data], laidTests := true, laidLooks := .later }
def StillMeanCardSaid : Prop := Claim7.holds Tryz.pinned (.plain (OpenSpec.ofChange stillMeanSpec)) stillMeanCard

/-- THE TIED CARD OF 'turnerylaw6.StillTrue'. -/
def stillTrueCard : Claim7 := { stood := { row := stillTrueRow, standIns := [], harness := (true, "6d4090bb7bea1b48077ad23574a85ddb6fbb8a7d882c5b0e9f718d4698b7bed3"), looks := true }, kinds := [], alts := [], laidByText := true, laidKinds := [.data], laidTests := true, laidLooks := .later }
def StillTrueCardSaid : Prop := Claim7.holds Tryz.pinned (.plain (OpenSpec.ofChange stillTrueSpec)) stillTrueCard

/-- THE TIED CARD OF 'turnerylaw6.MemMean'. -/
def memMeanCard : Claim7 := { stood := { row := memMeanRow, standIns := [], harness := (true, "6d4090bb7bea1b48077ad23574a85ddb6fbb8a7d882c5b0e9f718d4698b7bed3"), looks := true }, kinds := [], alts := [], laidByText := true, laidKinds := [.data], laidTests := true, laidLooks := .later }
def MemMeanCardSaid : Prop := Claim7.holds Tryz.pinned (.plain (OpenSpec.ofChange memMeanSpec)) memMeanCard

/-- THE TIED CARD OF 'turnerylaw6.MemThere'. -/
def memThereCard : Claim7 := { stood := { row := memThereRow, standIns := [], harness := (true, "6d4090bb7bea1b48077ad23574a85ddb6fbb8a7d882c5b0e9f718d4698b7bed3"), looks := true }, kinds := [], alts := [], laidByText := true, laidKinds := [.data], laidTests := true, laidLooks := .later }
def MemThereCardSaid : Prop := Claim7.holds Tryz.pinned (.plain (OpenSpec.ofChange memThereSpec)) memThereCard

/-- THE SECOND FORM's CARD OF 'turnerylaw6.WeighMean'. -/
def weighMeanUptoCard : Claim7 := { stood := { row := weighMeanUptoRow, standIns := [], harness := (true, "6d4090bb7bea1b48077ad23574a85ddb6fbb8a7d882c5b0e9f718d4698b7bed3"), looks := true }, kinds := [], alts := [], laidByText := true, laidKinds := [.data], laidTests := true, laidLooks := .later }
def WeighMeanUptoCardSaid : Prop := Claim7.holds Tryz.pinned (.plain (OpenSpec.upto weighMeanSpec)) weighMeanUptoCard

/-- THE SECOND FORM's CARD OF 'turnerylaw6.StillMean'. -/
def stillMeanUptoCard : Claim7 := { stood := { row := stillMeanUptoRow, standIns := [], harness := (true, "6d4090bb7bea1b48077ad23574a85ddb6fbb8a7d882c5b0e9f718d4698b7bed3"), looks := true }, kinds := [], alts := [], laidByText := true, laidKinds := [.data], laidTests := true, laidLooks := .later }
def StillMeanUptoCardSaid : Prop := Claim7.holds Tryz.pinned (.plain (OpenSpec.upto stillMeanSpec)) stillMeanUptoCard

/-- THE SECOND FORM's CARD OF 'turnerylaw6.StillTrue'. -/
def stillTrueUptoCard : Claim7 := { stood := { row := stillTrueUptoRow, standIns := [], harness := (true, "6d4090bb7bea1b48077ad23574a85ddb6fbb8a7d882c5b0e9f718d4698b7bed3"), looks := true }, kinds := [], alts := [], laidByText := true, laidKinds := [.data], laidTests := true, laidLooks := .later }
def StillTrueUptoCardSaid : Prop := Claim7.holds Tryz.pinned (.plain (OpenSpec.upto stillTrueSpec)) stillTrueUptoCard

/-- THE SECOND FORM's CARD OF 'turnerylaw6.MemMean'. -/
def memMeanUptoCard : Claim7 := { stood := { row := memMeanUptoRow, standIns := [], harness := (true, "6d4090bb7bea1b48077ad23574a85ddb6fbb8a7d882c5b0e9f718d4698b7bed3"), looks := true }, kinds := [], alts := [], laidByText := true, laidKinds := [.data], laidTests := true, laidLooks := .later }
def MemMeanUptoCardSaid : Prop := Claim7.holds Tryz.pinned (.plain (OpenSpec.upto memMeanSpec)) memMeanUptoCard

/-- THE SECOND FORM's CARD OF 'turnerylaw6.MemThere'. -/
def memThereUptoCard : Claim7 := { stood := { row := memThereUptoRow, standIns := [], harness := (true, "6d4090bb7bea1b48077ad23574a85ddb6fbb8a7d882c5b0e9f718d4698b7bed3"), looks := true }, kinds := [], alts := [], laidByText := true, laidKinds := [.data], laidTests := true, laidLooks := .later }
def MemThereUptoCardSaid : Prop := Claim7.holds Tryz.pinned (.plain (OpenSpec.upto memThereSpec)) memThereUptoCard
end Rows
end Go.Proofs.YtnkfdeiigplhoaaGreatDoor
