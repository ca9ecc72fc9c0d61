/-
  DERIVED. GIVEN WITH THE SEED: THE CARDS: each row of YtegdfdnjenffnaaGreatDoorRows.lean that lists a variable, with what it lists TIED to the program's text (the seventh form; the later family's looks); each row that meets fmt, with fmt's text TOLD by the authors' own Lean function (tested against real Go, not proved from fmt's source: count such statements apart). THE CARD IS WHAT COUNTS. Prove the row's statement (the work); the ties are given (YtegdfdnjenffnaaGreatDoorTie.lean); close each card by the builder's one call (the guide's Derived/Test/ToyasCard.lean, 'card_holds'). Laid BY PROGRAM, IN A SANDBOX (cutbox-door.mjs). By AI agents, Wed Nov 11 2026. No macro, syntax, notation, axiom, sorry.
-/
import Derived.Test.YtegdfdnjenffnaaGreatDoorRows
import GoSem.ClaimSeven
namespace Go.Proofs.YtegdfdnjenffnaaGreatDoor
namespace Rows

/-- THE TIED CARD OF 'deliberationlaw30.RefereeTexts'. -/
def refereeTextsCard : Claim7 := { stood := { row := refereeTextsRow, standIns := [], harness := (true, "bca1a046fd4d7f55b6ef61b12b3e93e0619d482f2fed0f27c4fa393770257446"), looks := true }, kinds := [], alts := [], laidByText := true, laidKinds := [.data, .data, .data, .data, .sentinel, .sentinel, .data, .pinned], laidTests := true, laidLooks := .later }
def RefereeTextsCardSaid : Prop := Claim7.holds Tryz.pinned (.plain (OpenSpec.ofChange refereeTextsSpec)) refereeTextsCard

/-- THE TIED CARD OF 'deliberationlaw30.RefereeBack'. -/
def refereeBackCard : Claim7 := { stood := { row := refereeBackRow, standIns := [], harness := (true, "bca1a046fd4d7f55b6ef61b12b3e93e0619d482f2fed0f27c4fa393770257446"), looks := true }, kinds := [], alts := [], laidByText := true, laidKinds := [.data, .data, .data, .data, .sentinel, .sentinel, .data, .pinned], laidTests := true, laidLooks := .later }
def RefereeBackCardSaid : Prop := Claim7.holds Tryz.pinned (.plain (OpenSpec.ofChange refereeBackSpec)) refereeBackCard

/-- THE TIED CARD OF 'deliberationlaw30.RefereeStops'. -/
def refereeStopsCard : Claim7 := { stood := { row := refereeStopsRow, standIns := [], harness := (true, "bca1a046fd4d7f55b6ef61b12b3e93e0619d482f2fed0f27c4fa393770257446"), looks := true }, kinds := [], alts := [], laidByText := true, laidKinds := [.data, .data, .data, .data, .sentinel, .sentinel, .data, .pinned], laidTests := true, laidLooks := .later }
def RefereeStopsCardSaid : Prop := Claim7.holds Tryz.pinned (.plain (OpenSpec.ofChange refereeStopsSpec)) refereeStopsCard

/-- THE TIED CARD OF 'deliberationlaw30.RefereeReplays'. -/
def refereeReplaysCard : Claim7 := { stood := { row := refereeReplaysRow, standIns := [], harness := (true, "bca1a046fd4d7f55b6ef61b12b3e93e0619d482f2fed0f27c4fa393770257446"), looks := true }, kinds := [], alts := [], laidByText := true, laidKinds := [.data, .data, .data, .data, .sentinel, .sentinel, .data, .pinned], laidTests := true, laidLooks := .later }
def RefereeReplaysCardSaid : Prop := Claim7.holds Tryz.pinned (.plain (OpenSpec.ofChange refereeReplaysSpec)) refereeReplaysCard

/-- THE SECOND FORM's CARD OF 'deliberationlaw30.RefereeTexts'. -/
def refereeTextsUptoCard : Claim7 := { stood := { row := refereeTextsUptoRow, standIns := [], harness := (true, "bca1a046fd4d7f55b6ef61b12b3e93e0619d482f2fed0f27c4fa393770257446"), looks := true }, kinds := [], alts := [], laidByText := true, laidKinds := [.data, .data, .data, .data, .sentinel, .sentinel, .data, .pinned], laidTests := true, laidLooks := .later }
def RefereeTextsUptoCardSaid : Prop := Claim7.holds Tryz.pinned (.plain (OpenSpec.upto refereeTextsSpec)) refereeTextsUptoCard

/-- THE SECOND FORM's CARD OF 'deliberationlaw30.RefereeBack'. -/
def refereeBackUptoCard : Claim7 := { stood := { row := refereeBackUptoRow, standIns := [], harness := (true, "bca1a046fd4d7f55b6ef61b12b3e93e0619d482f2fed0f27c4fa393770257446"), looks := true }, kinds := [], alts := [], laidByText := true, laidKinds := [.data, .data, .data, .data, .sentinel, .sentinel, .data, .pinned], laidTests := true, laidLooks := .later }
def RefereeBackUptoCardSaid : Prop := Claim7.holds Tryz.pinned (.plain (OpenSpec.upto refereeBackSpec)) refereeBackUptoCard

/-- THE SECOND FORM's CARD OF 'deliberationlaw30.RefereeStops'. -/
def refereeStopsUptoCard : Claim7 := { stood := { row := refereeStopsUptoRow, standIns := [], harness := (true, "bca1a046fd4d7f55b6ef61b12b3e93e0619d482f2fed0f27c4fa393770257446"), looks := true }, kinds := [], alts := [], laidByText := true, laidKinds := [.data, .data, .data, .data, .sentinel, .sentinel, .data, .pinned], laidTests := true, laidLooks := .later }
def RefereeStopsUptoCardSaid : Prop := Claim7.holds Tryz.pinned (.plain (OpenSpec.upto refereeStopsSpec)) refereeStopsUptoCard

/-- THE SECOND FORM's CARD OF 'deliberationlaw30.RefereeReplays'. -/
def refereeReplaysUptoCard : Claim7 := { stood := { row := refereeReplaysUptoRow, standIns := [], harness := (true, "bca1a046fd4d7f55b6ef61b12b3e93e0619d482f2fed0f27c4fa393770257446"), looks := true }, kinds := [], alts := [], laidByText := true, laidKinds := [.data, .data, .data, .data, .sentinel, .sentinel, .data, .pinned], laidTests := true, laidLooks := .later }
def RefereeReplaysUptoCardSaid : Prop := Claim7.holds Tryz.pinned (.plain (OpenSpec.upto refereeReplaysSpec)) refereeReplaysUptoCard
end Rows
end Go.Proofs.YtegdfdnjenffnaaGreatDoor
