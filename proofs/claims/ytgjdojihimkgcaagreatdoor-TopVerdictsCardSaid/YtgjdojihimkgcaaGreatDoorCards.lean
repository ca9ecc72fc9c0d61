/-
  DERIVED. GIVEN WITH THE SEED: THE CARDS: each row of YtgjdojihimkgcaaGreatDoorRows.lean that lists a variable, with what it lists TIED to the program's text (the seventh form; the later family's looks); each row that meets fmt, with fmt's text TOLD by the authors' own Lean function (tested against real Go, not proved from fmt's source: count such statements apart). THE CARD IS WHAT COUNTS. Prove the row's statement (the work); the ties are given (YtgjdojihimkgcaaGreatDoorTie.lean); close each card by the builder's one call (the guide's Derived/Test/ToyasCard.lean, 'card_holds'). Laid BY PROGRAM, IN A SANDBOX (cutbox-door.mjs). By AI agents, Wed Nov 11 2026. No macro, syntax, notation, axiom, sorry.
-/
import Derived.Test.YtgjdojihimkgcaaGreatDoorRows
import GoSem.ClaimSeven
namespace Go.Proofs.YtgjdojihimkgcaaGreatDoor
namespace Rows

/-- THE TIED CARD OF 'deliberationtop.TopVerdicts'. -/
def topVerdictsCard : Claim7 := { stood := { row := topVerdictsRow, standIns := [], harness := (true, "faed943dbd163e9dee96f18181e206044f536560fbaf1a73840a495007c0bb8f"), looks := false }, kinds := [], alts := [], goes := true, laidByText := true, laidKinds := [.data, .data, .data, .listed, .data, .data], laidTests := true, laidLooks := .later }
def TopVerdictsCardSaid : Prop := Claim7.holds Tryz.pinned (.plain (OpenSpec.ofChange topVerdictsSpec)) topVerdictsCard

/-- THE SECOND FORM's CARD OF 'deliberationtop.TopVerdicts'. -/
def topVerdictsUptoCard : Claim7 := { stood := { row := topVerdictsUptoRow, standIns := [], harness := (true, "faed943dbd163e9dee96f18181e206044f536560fbaf1a73840a495007c0bb8f"), looks := false }, kinds := [], alts := [], goes := true, laidByText := true, laidKinds := [.data, .data, .data, .listed, .data, .data], laidTests := true, laidLooks := .later }
def TopVerdictsUptoCardSaid : Prop := Claim7.holds Tryz.pinned (.plain (OpenSpec.upto topVerdictsSpec)) topVerdictsUptoCard
end Rows
end Go.Proofs.YtgjdojihimkgcaaGreatDoor
