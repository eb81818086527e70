/-
  DERIVED. GIVEN WITH THE SEED: THE CARDS: each row of YtnkogppgacappaaGreatDoorRows.lean that lists a variable, with what it lists TIED to the program's text (the seventh form; the later family's looks); each row that meets fmt, with fmt's text TOLD by the authors' own Lean function (tested against real Go, not proved from fmt's source: count such statements apart). THE CARD IS WHAT COUNTS. Prove the row's statement (the work); the ties are given (YtnkogppgacappaaGreatDoorTie.lean); close each card by the builder's one call (the guide's Derived/Test/ToyasCard.lean, 'card_holds'). Laid BY PROGRAM, IN A SANDBOX (cutbox-door.mjs). By AI agents, Wed Nov 11 2026. No macro, syntax, notation, axiom, sorry.
-/
import Derived.Test.YtnkogppgacappaaGreatDoorRows
import GoSem.ClaimSeven
namespace Go.Proofs.YtnkogppgacappaaGreatDoor
namespace Rows

/-- THE TIED CARD OF 'turnerylaw6.WeighDoSays'. -/
def weighDoSaysCard : Claim7 := { stood := { row := weighDoSaysRow, standIns := [], harness := (true, "0502de633fd52f721768b640196d3118e507cb0df410b244390271a71024a79a"), looks := true }, kinds := [], alts := [], laidByText := true, laidKinds := [.data], laidTests := true, laidLooks := .later }
def WeighDoSaysCardSaid : Prop := Claim7.holds Tryz.pinned (.plain (OpenSpec.ofChange weighDoSaysSpec)) weighDoSaysCard

/-- THE TIED CARD OF 'turnerylaw6.StillSays'. -/
def stillSaysCard : Claim7 := { stood := { row := stillSaysRow, standIns := [], harness := (true, "0502de633fd52f721768b640196d3118e507cb0df410b244390271a71024a79a"), looks := true }, kinds := [], alts := [], laidByText := true, laidKinds := [.data], laidTests := true, laidLooks := .later }
def StillSaysCardSaid : Prop := Claim7.holds Tryz.pinned (.plain (OpenSpec.ofChange stillSaysSpec)) stillSaysCard

/-- THE TIED CARD OF 'turnerylaw6.StillRest'. -/
def stillRestCard : Claim7 := { stood := { row := stillRestRow, standIns := [], harness := (true, "0502de633fd52f721768b640196d3118e507cb0df410b244390271a71024a79a"), looks := true }, kinds := [], alts := [], laidByText := true, laidKinds := [.data], laidTests := true, laidLooks := .later }
def StillRestCardSaid : Prop := Claim7.holds Tryz.pinned (.plain (OpenSpec.ofChange stillRestSpec)) stillRestCard

/-- THE TIED CARD OF 'turnerylaw6.WeighTidy'. -/
def weighTidyCard : Claim7 := { stood := { row := weighTidyRow, standIns := [], harness := (true, "0502de633fd52f721768b640196d3118e507cb0df410b244390271a71024a79a"), looks := true }, kinds := [], alts := [], laidByText := true, laidKinds := [.data], laidTests := true, laidLooks := .later }
def WeighTidyCardSaid : Prop := Claim7.holds Tryz.pinned (.plain (OpenSpec.ofChange weighTidySpec)) weighTidyCard

/-- THE SECOND FORM's CARD OF 'turnerylaw6.WeighDoSays'. -/
def weighDoSaysUptoCard : Claim7 := { stood := { row := weighDoSaysUptoRow, standIns := [], harness := (true, "0502de633fd52f721768b640196d3118e507cb0df410b244390271a71024a79a"), looks := true }, kinds := [], alts := [], laidByText := true, laidKinds := [.data], laidTests := true, laidLooks := .later }
def WeighDoSaysUptoCardSaid : Prop := Claim7.holds Tryz.pinned (.plain (OpenSpec.upto weighDoSaysSpec)) weighDoSaysUptoCard

/-- THE SECOND FORM's CARD OF 'turnerylaw6.StillSays'. -/
def stillSaysUptoCard : Claim7 := { stood := { row := stillSaysUptoRow, standIns := [], harness := (true, "0502de633fd52f721768b640196d3118e507cb0df410b244390271a71024a79a"), looks := true }, kinds := [], alts := [], laidByText := true, laidKinds := [.data], laidTests := true, laidLooks := .later }
def StillSaysUptoCardSaid : Prop := Claim7.holds Tryz.pinned (.plain (OpenSpec.upto stillSaysSpec)) stillSaysUptoCard

/-- THE SECOND FORM's CARD OF 'turnerylaw6.StillRest'. -/
def stillRestUptoCard : Claim7 := { stood := { row := stillRestUptoRow, standIns := [], harness := (true, "0502de633fd52f721768b640196d3118e507cb0df410b244390271a71024a79a"), looks := true }, kinds := [], alts := [], laidByText := true, laidKinds := [.data], laidTests := true, laidLooks := .later }
def StillRestUptoCardSaid : Prop := Claim7.holds Tryz.pinned (.plain (OpenSpec.upto stillRestSpec)) stillRestUptoCard

/-- THE SECOND FORM's CARD OF 'turnerylaw6.WeighTidy'. -/
def weighTidyUptoCard : Claim7 := { stood := { row := weighTidyUptoRow, standIns := [], harness := (true, "0502de633fd52f721768b640196d3118e507cb0df410b244390271a71024a79a"), looks := true }, kinds := [], alts := [], laidByText := true, laidKinds := [.data], laidTests := true, laidLooks := .later }
def WeighTidyUptoCardSaid : Prop := Claim7.holds Tryz.pinned (.plain (OpenSpec.upto weighTidySpec)) weighTidyUptoCard
end Rows
end Go.Proofs.YtnkogppgacappaaGreatDoor
