/-
  DERIVED. GIVEN WITH THE SEED: THE CARDS: each row of YteleongkifgjhaaGreatDoorRows.lean that lists a variable, with what it lists TIED to the program's text (the seventh form; the later family's looks); each row that meets fmt, with fmt's text TOLD by the authors' own Lean function (tested against real Go, not proved from fmt's source: count such statements apart). THE CARD IS WHAT COUNTS. Prove the row's statement (the work); the ties are given (YteleongkifgjhaaGreatDoorTie.lean); close each card by the builder's one call (the guide's Derived/Test/ToyasCard.lean, 'card_holds'). Laid BY PROGRAM, IN A SANDBOX (cutbox-door.mjs). By AI agents, Wed Nov 11 2026. No macro, syntax, notation, axiom, sorry.
-/
import Derived.Test.YteleongkifgjhaaGreatDoorRows
import GoSem.ClaimSeven
namespace Go.Proofs.YteleongkifgjhaaGreatDoor
namespace Rows

/-- THE TIED CARD OF 'deliberationlaw42.ReportOrders'. -/
def reportOrdersCard : Claim7 := { stood := { row := reportOrdersRow, standIns := [], harness := (true, "4da43fdf06cf511f08a9df6f8bb805453328210d25441f171ac95935ab4d4a4f"), looks := false }, kinds := [], alts := [], laidByText := true, laidKinds := [.data, .data, .data, .data], laidTests := true, laidLooks := .later }
def ReportOrdersCardSaid : Prop := Claim7.holds Tryz.pinned (.plain (OpenSpec.ofChange reportOrdersSpec)) reportOrdersCard

/-- THE TIED CARD OF 'deliberationlaw42.ReportStores'. -/
def reportStoresCard : Claim7 := { stood := { row := reportStoresRow, standIns := [], harness := (true, "4da43fdf06cf511f08a9df6f8bb805453328210d25441f171ac95935ab4d4a4f"), looks := false }, kinds := [], alts := [], laidByText := true, laidKinds := [.data, .data, .data, .data], laidTests := true, laidLooks := .later }
def ReportStoresCardSaid : Prop := Claim7.holds Tryz.pinned (.plain (OpenSpec.ofChange reportStoresSpec)) reportStoresCard

/-- THE SECOND FORM's CARD OF 'deliberationlaw42.ReportOrders'. -/
def reportOrdersUptoCard : Claim7 := { stood := { row := reportOrdersUptoRow, standIns := [], harness := (true, "4da43fdf06cf511f08a9df6f8bb805453328210d25441f171ac95935ab4d4a4f"), looks := false }, kinds := [], alts := [], laidByText := true, laidKinds := [.data, .data, .data, .data], laidTests := true, laidLooks := .later }
def ReportOrdersUptoCardSaid : Prop := Claim7.holds Tryz.pinned (.plain (OpenSpec.upto reportOrdersSpec)) reportOrdersUptoCard

/-- THE SECOND FORM's CARD OF 'deliberationlaw42.ReportStores'. -/
def reportStoresUptoCard : Claim7 := { stood := { row := reportStoresUptoRow, standIns := [], harness := (true, "4da43fdf06cf511f08a9df6f8bb805453328210d25441f171ac95935ab4d4a4f"), looks := false }, kinds := [], alts := [], laidByText := true, laidKinds := [.data, .data, .data, .data], laidTests := true, laidLooks := .later }
def ReportStoresUptoCardSaid : Prop := Claim7.holds Tryz.pinned (.plain (OpenSpec.upto reportStoresSpec)) reportStoresUptoCard
end Rows
end Go.Proofs.YteleongkifgjhaaGreatDoor
