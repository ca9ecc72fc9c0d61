/-
  DERIVED. GIVEN WITH THE SEED: THE CARDS: each row of YtjfjjkgaddknfaaGreatDoorRows.lean that lists a variable, with what it lists TIED to the program's text (the seventh form; the later family's looks); each row that meets fmt, with fmt's text TOLD by the authors' own Lean function (tested against real Go, not proved from fmt's source: count such statements apart). THE CARD IS WHAT COUNTS. Prove the row's statement (the work); the ties are given (YtjfjjkgaddknfaaGreatDoorTie.lean); close each card by the builder's one call (the guide's Derived/Test/ToyasCard.lean, 'card_holds'). Laid BY PROGRAM, IN A SANDBOX (cutbox-door.mjs). By AI agents, Wed Nov 11 2026. No macro, syntax, notation, axiom, sorry.
-/
import Derived.Test.YtjfjjkgaddknfaaGreatDoorRows
import GoSem.ClaimSeven
namespace Go.Proofs.YtjfjjkgaddknfaaGreatDoor
namespace Rows

/-- THE TIED CARD OF 'deliberationlaw20.ClaimsClosed'. -/
def claimsClosedCard : Claim7 := { stood := { row := claimsClosedRow, standIns := [], harness := (true, "c0215db1b0497bfea3a20865cf234a1b6313cfb14f4e2a9c5ed7a8729a6cc37f"), looks := false }, kinds := [], alts := [], goes := true, laidByText := true, laidKinds := [.data, .data, .data, .listed, .data, .data], laidTests := true, laidLooks := .later }
def ClaimsClosedCardSaid : Prop := Claim7.holds Tryz.pinned (.plain (OpenSpec.ofChange claimsClosedSpec)) claimsClosedCard

/-- THE TIED CARD OF 'deliberationlaw20.ClaimsNested'. -/
def claimsNestedCard : Claim7 := { stood := { row := claimsNestedRow, standIns := [], harness := (true, "c0215db1b0497bfea3a20865cf234a1b6313cfb14f4e2a9c5ed7a8729a6cc37f"), looks := false }, kinds := [], alts := [], goes := true, laidByText := true, laidKinds := [.data, .data, .data, .listed, .data, .data], laidTests := true, laidLooks := .later }
def ClaimsNestedCardSaid : Prop := Claim7.holds Tryz.pinned (.plain (OpenSpec.ofChange claimsNestedSpec)) claimsNestedCard

/-- THE SECOND FORM's CARD OF 'deliberationlaw20.ClaimsClosed'. -/
def claimsClosedUptoCard : Claim7 := { stood := { row := claimsClosedUptoRow, standIns := [], harness := (true, "c0215db1b0497bfea3a20865cf234a1b6313cfb14f4e2a9c5ed7a8729a6cc37f"), looks := false }, kinds := [], alts := [], goes := true, laidByText := true, laidKinds := [.data, .data, .data, .listed, .data, .data], laidTests := true, laidLooks := .later }
def ClaimsClosedUptoCardSaid : Prop := Claim7.holds Tryz.pinned (.plain (OpenSpec.upto claimsClosedSpec)) claimsClosedUptoCard

/-- THE SECOND FORM's CARD OF 'deliberationlaw20.ClaimsNested'. -/
def claimsNestedUptoCard : Claim7 := { stood := { row := claimsNestedUptoRow, standIns := [], harness := (true, "c0215db1b0497bfea3a20865cf234a1b6313cfb14f4e2a9c5ed7a8729a6cc37f"), looks := false }, kinds := [], alts := [], goes := true, laidByText := true, laidKinds := [.data, .data, .data, .listed, .data, .data], laidTests := true, laidLooks := .later }
def ClaimsNestedUptoCardSaid : Prop := Claim7.holds Tryz.pinned (.plain (OpenSpec.upto claimsNestedSpec)) claimsNestedUptoCard
end Rows
end Go.Proofs.YtjfjjkgaddknfaaGreatDoor
