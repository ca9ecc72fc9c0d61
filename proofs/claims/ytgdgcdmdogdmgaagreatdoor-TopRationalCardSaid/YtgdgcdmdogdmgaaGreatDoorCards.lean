/-
  DERIVED. GIVEN WITH THE SEED: THE CARDS: each row of YtgdgcdmdogdmgaaGreatDoorRows.lean that lists a variable, with what it lists TIED to the program's text (the seventh form; the later family's looks); each row that meets fmt, with fmt's text TOLD by the authors' own Lean function (tested against real Go, not proved from fmt's source: count such statements apart). THE CARD IS WHAT COUNTS. Prove the row's statement (the work); the ties are given (YtgdgcdmdogdmgaaGreatDoorTie.lean); close each card by the builder's one call (the guide's Derived/Test/ToyasCard.lean, 'card_holds'). Laid BY PROGRAM, IN A SANDBOX (cutbox-door.mjs). By AI agents, Wed Nov 11 2026. No macro, syntax, notation, axiom, sorry.
-/
import Derived.Test.YtgdgcdmdogdmgaaGreatDoorRows
import GoSem.ClaimSeven
namespace Go.Proofs.YtgdgcdmdogdmgaaGreatDoor
namespace Rows

/-- THE TIED CARD OF 'deliberationtop.TopRational'. -/
def topRationalCard : Claim7 := { stood := { row := topRationalRow, standIns := [], harness := (true, "80fdecfe094b18f870d44e6da4b3a0669ead0916216e0633e99501157affac92"), looks := false }, kinds := [], alts := [], goes := true, laidByText := true, laidKinds := [.data, .data, .data, .listed, .data, .data], laidTests := true, laidLooks := .later }
def TopRationalCardSaid : Prop := Claim7.holds Tryz.pinned (.plain (OpenSpec.ofChange topRationalSpec)) topRationalCard

/-- THE SECOND FORM's CARD OF 'deliberationtop.TopRational'. -/
def topRationalUptoCard : Claim7 := { stood := { row := topRationalUptoRow, standIns := [], harness := (true, "80fdecfe094b18f870d44e6da4b3a0669ead0916216e0633e99501157affac92"), looks := false }, kinds := [], alts := [], goes := true, laidByText := true, laidKinds := [.data, .data, .data, .listed, .data, .data], laidTests := true, laidLooks := .later }
def TopRationalUptoCardSaid : Prop := Claim7.holds Tryz.pinned (.plain (OpenSpec.upto topRationalSpec)) topRationalUptoCard
end Rows
end Go.Proofs.YtgdgcdmdogdmgaaGreatDoor
