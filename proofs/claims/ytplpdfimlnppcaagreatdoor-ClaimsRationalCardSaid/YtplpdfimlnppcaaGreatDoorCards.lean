/-
  DERIVED. GIVEN WITH THE SEED: THE CARDS: each row of YtplpdfimlnppcaaGreatDoorRows.lean that lists a variable, with what it lists TIED to the program's text (the seventh form; the later family's looks); each row that meets fmt, with fmt's text TOLD by the authors' own Lean function (tested against real Go, not proved from fmt's source: count such statements apart). THE CARD IS WHAT COUNTS. Prove the row's statement (the work); the ties are given (YtplpdfimlnppcaaGreatDoorTie.lean); close each card by the builder's one call (the guide's Derived/Test/ToyasCard.lean, 'card_holds'). Laid BY PROGRAM, IN A SANDBOX (cutbox-door.mjs). By AI agents, Wed Nov 11 2026. No macro, syntax, notation, axiom, sorry.
-/
import Derived.Test.YtplpdfimlnppcaaGreatDoorRows
import GoSem.ClaimSeven
namespace Go.Proofs.YtplpdfimlnppcaaGreatDoor
namespace Rows

/-- THE TIED CARD OF 'deliberationlaw20.ClaimsRational'. -/
def claimsRationalCard : Claim7 := { stood := { row := claimsRationalRow, standIns := [], harness := (true, "904a1c9354ba11f04b2df17fd48a9b88728d38779dfab8648295ae4003cd03d0"), looks := false }, kinds := [], alts := [], goes := true, laidByText := true, laidKinds := [.data, .data, .data, .listed, .data, .data], laidTests := true, laidLooks := .later }
def ClaimsRationalCardSaid : Prop := Claim7.holds Tryz.pinned (.plain (OpenSpec.ofChange claimsRationalSpec)) claimsRationalCard

/-- THE SECOND FORM's CARD OF 'deliberationlaw20.ClaimsRational'. -/
def claimsRationalUptoCard : Claim7 := { stood := { row := claimsRationalUptoRow, standIns := [], harness := (true, "904a1c9354ba11f04b2df17fd48a9b88728d38779dfab8648295ae4003cd03d0"), looks := false }, kinds := [], alts := [], goes := true, laidByText := true, laidKinds := [.data, .data, .data, .listed, .data, .data], laidTests := true, laidLooks := .later }
def ClaimsRationalUptoCardSaid : Prop := Claim7.holds Tryz.pinned (.plain (OpenSpec.upto claimsRationalSpec)) claimsRationalUptoCard
end Rows
end Go.Proofs.YtplpdfimlnppcaaGreatDoor
