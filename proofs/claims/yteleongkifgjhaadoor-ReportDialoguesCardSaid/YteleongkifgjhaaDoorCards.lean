/-
  DERIVED. GIVEN WITH THE SEED: THE CARDS: each row of YteleongkifgjhaaDoorRows.lean that lists a variable, with what it lists TIED to the program's text (the seventh form; the later family's looks); each row that meets fmt, with fmt's text TOLD by the authors' own Lean function (tested against real Go, not proved from fmt's source: count such statements apart). THE CARD IS WHAT COUNTS. Prove the row's statement (the work); the ties are given (YteleongkifgjhaaDoorTie.lean); close each card by the builder's one call (the guide's Derived/Test/ToyasCard.lean, 'card_holds'). Laid BY PROGRAM, IN A SANDBOX (cutbox-door.mjs). By AI agents, Wed Nov 11 2026. No macro, syntax, notation, axiom, sorry.
-/
import Derived.Test.YteleongkifgjhaaDoorRows
import GoSem.ClaimSeven
namespace Go.Proofs.YteleongkifgjhaaDoor
namespace Rows

/-- THE TIED CARD OF 'deliberationlaw42.ReportDialogues'. -/
def reportDialoguesCard : Claim7 := { stood := { row := reportDialoguesRow, standIns := [], harness := (true, "6136897d01a9b18437e35fc26b36df6f526ce215e93b2289cf6f914cb52f922a"), looks := false }, kinds := [], alts := [], laidByText := true, laidKinds := [.data, .data, .data, .data], laidTests := true, laidLooks := .later }
def ReportDialoguesCardSaid : Prop := Claim7.holds Tryd.pinned (.plain (OpenSpec.ofChange reportDialoguesSpec)) reportDialoguesCard

/-- THE SECOND FORM's CARD OF 'deliberationlaw42.ReportDialogues'. -/
def reportDialoguesUptoCard : Claim7 := { stood := { row := reportDialoguesUptoRow, standIns := [], harness := (true, "6136897d01a9b18437e35fc26b36df6f526ce215e93b2289cf6f914cb52f922a"), looks := false }, kinds := [], alts := [], laidByText := true, laidKinds := [.data, .data, .data, .data], laidTests := true, laidLooks := .later }
def ReportDialoguesUptoCardSaid : Prop := Claim7.holds Tryd.pinned (.plain (OpenSpec.upto reportDialoguesSpec)) reportDialoguesUptoCard
end Rows
end Go.Proofs.YteleongkifgjhaaDoor
