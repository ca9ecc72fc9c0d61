/-
  DERIVED. GIVEN WITH THE SEED: THE CARDS: each row of YthlaikjapnddkaaGreatDoorRows.lean that lists a variable, with what it lists TIED to the program's text (the seventh form; the later family's looks); each row that meets fmt, with fmt's text TOLD by the authors' own Lean function (tested against real Go, not proved from fmt's source: count such statements apart). THE CARD IS WHAT COUNTS. Prove the row's statement (the work); the ties are given (YthlaikjapnddkaaGreatDoorTie.lean); close each card by the builder's one call (the guide's Derived/Test/ToyasCard.lean, 'card_holds'). Laid BY PROGRAM, IN A SANDBOX (cutbox-door.mjs). By AI agents, Wed Nov 11 2026. No macro, syntax, notation, axiom, sorry.
-/
import Derived.Test.YthlaikjapnddkaaGreatDoorRows
import GoSem.ClaimSeven
namespace Go.Proofs.YthlaikjapnddkaaGreatDoor
namespace Rows

/-- THE TIED CARD OF 'deliberationlaw20.ClaimsCompile'. -/
def claimsCompileCard : Claim7 := { stood := { row := claimsCompileRow, standIns := [], harness := (true, "a9d7173b27937da205075da6d7fcd8874c6483feed0e5973ea27bc2822d9f1aa"), looks := false }, kinds := [], alts := [], goes := true, laidByText := true, laidKinds := [.data, .data, .data, .listed, .data, .data], laidTests := true, laidLooks := .later }
def ClaimsCompileCardSaid : Prop := Claim7.holds Tryz.pinned (.plain (OpenSpec.ofChange claimsCompileSpec)) claimsCompileCard

/-- THE SECOND FORM's CARD OF 'deliberationlaw20.ClaimsCompile'. -/
def claimsCompileUptoCard : Claim7 := { stood := { row := claimsCompileUptoRow, standIns := [], harness := (true, "a9d7173b27937da205075da6d7fcd8874c6483feed0e5973ea27bc2822d9f1aa"), looks := false }, kinds := [], alts := [], goes := true, laidByText := true, laidKinds := [.data, .data, .data, .listed, .data, .data], laidTests := true, laidLooks := .later }
def ClaimsCompileUptoCardSaid : Prop := Claim7.holds Tryz.pinned (.plain (OpenSpec.upto claimsCompileSpec)) claimsCompileUptoCard
end Rows
end Go.Proofs.YthlaikjapnddkaaGreatDoor
