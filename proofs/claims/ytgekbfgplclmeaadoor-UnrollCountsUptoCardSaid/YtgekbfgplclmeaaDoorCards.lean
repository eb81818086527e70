/-
  DERIVED. GIVEN WITH THE SEED: THE CARDS: each row of YtgekbfgplclmeaaDoorRows.lean that lists a variable, with what it lists TIED to the program's text (the seventh form; the later family's looks); each row that meets fmt, with fmt's text TOLD by the authors' own Lean function (tested against real Go, not proved from fmt's source: count such statements apart). THE CARD IS WHAT COUNTS. Prove the row's statement (the work); the ties are given (YtgekbfgplclmeaaDoorTie.lean); close each card by the builder's one call (the guide's Derived/Test/ToyasCard.lean, 'card_holds'). Laid BY PROGRAM, IN A SANDBOX (cutbox-door.mjs). By AI agents, Wed Nov 11 2026. No macro, syntax, notation, axiom, sorry.
-/
import Derived.Test.YtgekbfgplclmeaaDoorRows
import GoSem.ClaimSeven
namespace Go.Proofs.YtgekbfgplclmeaaDoor
namespace Rows

/-- THE TIED CARD OF 'turnerylaw6.UnrollCounts'. -/
def unrollCountsCard : Claim7 := { stood := { row := unrollCountsRow, standIns := [], harness := (true, "c4ccb48451834293416a2af479b1e3a787782761c9774fb7f6e7d4d883fa5728"), looks := false }, kinds := [], alts := [], laidByText := true, laidKinds := [.data], laidTests := true, laidLooks := .later }
def UnrollCountsCardSaid : Prop := Claim7.holds Tryd.pinned (.plain (OpenSpec.ofChange unrollCountsSpec)) unrollCountsCard

/-- THE TIED CARD OF 'turnerylaw6.BitsTrue'. -/
def bitsTrueCard : Claim7 := { stood := { row := bitsTrueRow, standIns := [], harness := (true, "c4ccb48451834293416a2af479b1e3a787782761c9774fb7f6e7d4d883fa5728"), looks := false }, kinds := [], alts := [], laidByText := true, laidKinds := [.data, .data], laidTests := true, laidLooks := .later }
def BitsTrueCardSaid : Prop := Claim7.holds Tryd.pinned (.plain (OpenSpec.ofChange bitsTrueSpec)) bitsTrueCard

/-- THE TIED CARD OF 'turnerylaw6.EverTrue'. -/
def everTrueCard : Claim7 := { stood := { row := everTrueRow, standIns := [], harness := (true, "c4ccb48451834293416a2af479b1e3a787782761c9774fb7f6e7d4d883fa5728"), looks := false }, kinds := [], alts := [], laidByText := true, laidKinds := [.data], laidTests := true, laidLooks := .later }
def EverTrueCardSaid : Prop := Claim7.holds Tryd.pinned (.plain (OpenSpec.ofChange everTrueSpec)) everTrueCard

/-- THE SECOND FORM's CARD OF 'turnerylaw6.UnrollCounts'. -/
def unrollCountsUptoCard : Claim7 := { stood := { row := unrollCountsUptoRow, standIns := [], harness := (true, "c4ccb48451834293416a2af479b1e3a787782761c9774fb7f6e7d4d883fa5728"), looks := false }, kinds := [], alts := [], laidByText := true, laidKinds := [.data], laidTests := true, laidLooks := .later }
def UnrollCountsUptoCardSaid : Prop := Claim7.holds Tryd.pinned (.plain (OpenSpec.upto unrollCountsSpec)) unrollCountsUptoCard

/-- THE SECOND FORM's CARD OF 'turnerylaw6.BitsTrue'. -/
def bitsTrueUptoCard : Claim7 := { stood := { row := bitsTrueUptoRow, standIns := [], harness := (true, "c4ccb48451834293416a2af479b1e3a787782761c9774fb7f6e7d4d883fa5728"), looks := false }, kinds := [], alts := [], laidByText := true, laidKinds := [.data, .data], laidTests := true, laidLooks := .later }
def BitsTrueUptoCardSaid : Prop := Claim7.holds Tryd.pinned (.plain (OpenSpec.upto bitsTrueSpec)) bitsTrueUptoCard

/-- THE SECOND FORM's CARD OF 'turnerylaw6.EverTrue'. -/
def everTrueUptoCard : Claim7 := { stood := { row := everTrueUptoRow, standIns := [], harness := (true, "c4ccb48451834293416a2af479b1e3a787782761c9774fb7f6e7d4d883fa5728"), looks := false }, kinds := [], alts := [], laidByText := true, laidKinds := [.data], laidTests := true, laidLooks := .later }
def EverTrueUptoCardSaid : Prop := Claim7.holds Tryd.pinned (.plain (OpenSpec.upto everTrueSpec)) everTrueUptoCard
end Rows
end Go.Proofs.YtgekbfgplclmeaaDoor
