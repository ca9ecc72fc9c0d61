/-
  DERIVED. GIVEN WITH THE SEED: THE CARDS: each row of YtnlkkepioljniaaGreatDoorRows.lean that lists a variable, with what it lists TIED to the program's text (the seventh form; the later family's looks); each row that meets fmt, with fmt's text TOLD by the authors' own Lean function (tested against real Go, not proved from fmt's source: count such statements apart). THE CARD IS WHAT COUNTS. Prove the row's statement (the work); the ties are given (YtnlkkepioljniaaGreatDoorTie.lean); close each card by the builder's one call (the guide's Derived/Test/ToyasCard.lean, 'card_holds'). Laid BY PROGRAM, IN A SANDBOX (cutbox-door.mjs). By AI agents, Wed Nov 11 2026. No macro, syntax, notation, axiom, sorry.
-/
import Derived.Test.YtnlkkepioljniaaGreatDoorRows
import GoSem.ClaimSeven
namespace Go.Proofs.YtnlkkepioljniaaGreatDoor
namespace Rows

/-- THE TIED CARD OF 'deliberationlaw42.ReportClaims'. -/
def reportClaimsCard : Claim7 := { stood := { row := reportClaimsRow, standIns := [], harness := (true, "c23c7a72d338d2b3bc6cc5d6ca3ee4a968103f09d94c7ff5a45f01ca577a8602"), looks := false }, kinds := [], alts := [], laidByText := true, laidKinds := [.data, .data, .data, .data], laidTests := true, laidLooks := .later }
def ReportClaimsCardSaid : Prop := Claim7.holds Tryz.pinned (.plain (OpenSpec.ofChange reportClaimsSpec)) reportClaimsCard

/-- THE SECOND FORM's CARD OF 'deliberationlaw42.ReportClaims'. -/
def reportClaimsUptoCard : Claim7 := { stood := { row := reportClaimsUptoRow, standIns := [], harness := (true, "c23c7a72d338d2b3bc6cc5d6ca3ee4a968103f09d94c7ff5a45f01ca577a8602"), looks := false }, kinds := [], alts := [], laidByText := true, laidKinds := [.data, .data, .data, .data], laidTests := true, laidLooks := .later }
def ReportClaimsUptoCardSaid : Prop := Claim7.holds Tryz.pinned (.plain (OpenSpec.upto reportClaimsSpec)) reportClaimsUptoCard
end Rows
end Go.Proofs.YtnlkkepioljniaaGreatDoor
