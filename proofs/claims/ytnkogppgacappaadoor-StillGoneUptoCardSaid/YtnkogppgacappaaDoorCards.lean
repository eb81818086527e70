/-
  DERIVED. GIVEN WITH THE SEED: THE CARDS: each row of YtnkogppgacappaaDoorRows.lean that lists a variable, with what it lists TIED to the program's text (the seventh form; the later family's looks); each row that meets fmt, with fmt's text TOLD by the authors' own Lean function (tested against real Go, not proved from fmt's source: count such statements apart). THE CARD IS WHAT COUNTS. Prove the row's statement (the work); the ties are given (YtnkogppgacappaaDoorTie.lean); close each card by the builder's one call (the guide's Derived/Test/ToyasCard.lean, 'card_holds'). Laid BY PROGRAM, IN A SANDBOX (cutbox-door.mjs). By AI agents, Wed Nov 11 2026. No macro, syntax, notation, axiom, sorry.
-/
import Derived.Test.YtnkogppgacappaaDoorRows
import GoSem.ClaimSeven
namespace Go.Proofs.YtnkogppgacappaaDoor
namespace Rows

/-- THE TIED CARD OF 'turnerylaw6.WeighGuessSays'. -/
def weighGuessSaysCard : Claim7 := { stood := { row := weighGuessSaysRow, standIns := [], harness := (true, "2b3ecf83da6f57f9990b7978ee65b648d2629914f6db206724c4696757633109"), looks := false }, kinds := [], alts := [], laidByText := true, laidKinds := [.data], laidTests := true, laidLooks := .later }
def WeighGuessSaysCardSaid : Prop := Claim7.holds Tryd.pinned (.plain (OpenSpec.ofChange weighGuessSaysSpec)) weighGuessSaysCard

/-- THE TIED CARD OF 'turnerylaw6.StillGone'. -/
def stillGoneCard : Claim7 := { stood := { row := stillGoneRow, standIns := [], harness := (true, "2b3ecf83da6f57f9990b7978ee65b648d2629914f6db206724c4696757633109"), looks := false }, kinds := [], alts := [], laidByText := true, laidKinds := [.data], laidTests := true, laidLooks := .later }
def StillGoneCardSaid : Prop := Claim7.holds Tryd.pinned (.plain (OpenSpec.ofChange stillGoneSpec)) stillGoneCard

/-- THE SECOND FORM's CARD OF 'turnerylaw6.WeighGuessSays'. -/
def weighGuessSaysUptoCard : Claim7 := { stood := { row := weighGuessSaysUptoRow, standIns := [], harness := (true, "2b3ecf83da6f57f9990b7978ee65b648d2629914f6db206724c4696757633109"), looks := false }, kinds := [], alts := [], laidByText := true, laidKinds := [.data], laidTests := true, laidLooks := .later }
def WeighGuessSaysUptoCardSaid : Prop := Claim7.holds Tryd.pinned (.plain (OpenSpec.upto weighGuessSaysSpec)) weighGuessSaysUptoCard

/-- THE SECOND FORM's CARD OF 'turnerylaw6.StillGone'. -/
def stillGoneUptoCard : Claim7 := { stood := { row := stillGoneUptoRow, standIns := [], harness := (true, "2b3ecf83da6f57f9990b7978ee65b648d2629914f6db206724c4696757633109"), looks := false }, kinds := [], alts := [], laidByText := true, laidKinds := [.data], laidTests := true, laidLooks := .later }
def StillGoneUptoCardSaid : Prop := Claim7.holds Tryd.pinned (.plain (OpenSpec.upto stillGoneSpec)) stillGoneUptoCard
end Rows
end Go.Proofs.YtnkogppgacappaaDoor
