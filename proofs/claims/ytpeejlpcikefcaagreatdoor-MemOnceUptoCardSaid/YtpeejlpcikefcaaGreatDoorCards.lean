/-
  DERIVED. GIVEN WITH THE SEED: THE CARDS: each row of YtpeejlpcikefcaaGreatDoorRows.lean that lists a variable, with what it lists TIED to the program's text (the seventh form; the later family's looks); each row that meets fmt, with fmt's text TOLD by the authors' own Lean function (tested against real Go, not proved from fmt's source: count such statements apart). THE CARD IS WHAT COUNTS. Prove the row's statement (the work); the ties are given (YtpeejlpcikefcaaGreatDoorTie.lean); close each card by the builder's one call (the guide's Derived/Test/ToyasCard.lean, 'card_holds'). Laid BY PROGRAM, IN A SANDBOX (cutbox-door.mjs). By AI agents, Wed Nov 11 2026. No macro, syntax, notation, axiom, sorry.
-/
import Derived.Test.YtpeejlpcikefcaaGreatDoorRows
import GoSem.ClaimSeven
namespace Go.Proofs.YtpeejlpcikefcaaGreatDoor
namespace Rows

/-- THE TIED CARD OF 'turnerylaw6.MemSays'. -/
def memSaysCard : Claim7 := { stood := { row := memSaysRow, standIns := [], harness := (true, "6cd438521eb14b12227dcbfe466b354e7892500ef3db8892ae05d6060c2802aa"), looks := false }, kinds := [], alts := [], laidByText := true, laidKinds := [.data], laidTests := true, laidLooks := .later }
def MemSaysCardSaid : Prop := Claim7.holds Tryz.pinned (.plain (OpenSpec.ofChange memSaysSpec)) memSaysCard

/-- THE TIED CARD OF 'turnerylaw6.MemFewer'. -/
def memFewerCard : Claim7 := { stood := { row := memFewerRow, standIns := [], harness := (true, "6cd438521eb14b12227dcbfe466b354e7892500ef3db8892ae05d6060c2802aa"), looks := false }, kinds := [], alts := [], laidByText := true, laidKinds := [.data], laidTests := true, laidLooks := .later }
def MemFewerCardSaid : Prop := Claim7.holds Tryz.pinned (.plain (OpenSpec.ofChange memFewerSpec)) memFewerCard

/-- THE TIED CARD OF 'turnerylaw6.MemOnce'. -/
def memOnceCard : Claim7 := { stood := { row := memOnceRow, standIns := [], harness := (true, "6cd438521eb14b12227dcbfe466b354e7892500ef3db8892ae05d6060c2802aa"), looks := false }, kinds := [], alts := [], laidByText := true, laidKinds := [.data], laidTests := true, laidLooks := .later }
def MemOnceCardSaid : Prop := Claim7.holds Tryz.pinned (.plain (OpenSpec.ofChange memOnceSpec)) memOnceCard

/-- THE TIED CARD OF 'turnerylaw6.MemSsa'. -/
def memSsaCard : Claim7 := { stood := { row := memSsaRow, standIns := [], harness := (true, "6cd438521eb14b12227dcbfe466b354e7892500ef3db8892ae05d6060c2802aa"), looks := false }, kinds := [], alts := [], laidByText := true, laidKinds := [.data], laidTests := true, laidLooks := .later }
def MemSsaCardSaid : Prop := Claim7.holds Tryz.pinned (.plain (OpenSpec.ofChange memSsaSpec)) memSsaCard

/-- THE SECOND FORM's CARD OF 'turnerylaw6.MemSays'. -/
def memSaysUptoCard : Claim7 := { stood := { row := memSaysUptoRow, standIns := [], harness := (true, "6cd438521eb14b12227dcbfe466b354e7892500ef3db8892ae05d6060c2802aa"), looks := false }, kinds := [], alts := [], laidByText := true, laidKinds := [.data], laidTests := true, laidLooks := .later }
def MemSaysUptoCardSaid : Prop := Claim7.holds Tryz.pinned (.plain (OpenSpec.upto memSaysSpec)) memSaysUptoCard

/-- THE SECOND FORM's CARD OF 'turnerylaw6.MemFewer'. -/
def memFewerUptoCard : Claim7 := { stood := { row := memFewerUptoRow, standIns := [], harness := (true, "6cd438521eb14b12227dcbfe466b354e7892500ef3db8892ae05d6060c2802aa"), looks := false }, kinds := [], alts := [], laidByText := true, laidKinds := [.data], laidTests := true, laidLooks := .later }
def MemFewerUptoCardSaid : Prop := Claim7.holds Tryz.pinned (.plain (OpenSpec.upto memFewerSpec)) memFewerUptoCard

/-- THE SECOND FORM's CARD OF 'turnerylaw6.MemOnce'. -/
def memOnceUptoCard : Claim7 := { stood := { row := memOnceUptoRow, standIns := [], harness := (true, "6cd438521eb14b12227dcbfe466b354e7892500ef3db8892ae05d6060c2802aa"), looks := false }, kinds := [], alts := [], laidByText := true, laidKinds := [.data], laidTests := true, laidLooks := .later }
def MemOnceUptoCardSaid : Prop := Claim7.holds Tryz.pinned (.plain (OpenSpec.upto memOnceSpec)) memOnceUptoCard

/-- THE SECOND FORM's CARD OF 'turnerylaw6.MemSsa'. -/
def memSsaUptoCard : Claim7 := { stood := { row := memSsaUptoRow, standIns := [], harness := (true, "6cd438521eb14b12227dcbfe466b354e7892500ef3db8892ae05d6060c2802aa"), looks := false }, kinds := [], alts := [], laidByText := true, laidKinds := [.data], laidTests := true, laidLooks := .later }
def MemSsaUptoCardSaid : Prop := Claim7.holds Tryz.pinned (.plain (OpenSpec.upto memSsaSpec)) memSsaUptoCard
end Rows
end Go.Proofs.YtpeejlpcikefcaaGreatDoor
