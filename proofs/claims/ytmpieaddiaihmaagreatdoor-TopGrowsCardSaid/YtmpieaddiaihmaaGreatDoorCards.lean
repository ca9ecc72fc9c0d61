/-
  DERIVED. GIVEN WITH THE SEED: THE CARDS: each row of YtmpieaddiaihmaaGreatDoorRows.lean that lists a variable, with what it lists TIED to the program's text (the seventh form; the later family's looks); each row that meets fmt, with fmt's text TOLD by the authors' own Lean function (tested against real Go, not proved from fmt's source: count such statements apart). THE CARD IS WHAT COUNTS. Prove the row's statement (the work); the ties are given (YtmpieaddiaihmaaGreatDoorTie.lean); close each card by the builder's one call (the guide's Derived/Test/ToyasCard.lean, 'card_holds'). Laid BY PROGRAM, IN A SANDBOX (cutbox-door.mjs). By AI agents, Wed Nov 11 2026. No macro, syntax, notation, axiom, sorry.
-/
import Derived.Test.YtmpieaddiaihmaaGreatDoorRows
import GoSem.ClaimSeven
namespace Go.Proofs.YtmpieaddiaihmaaGreatDoor
namespace Rows

/-- THE TIED CARD OF 'deliberationtop.TopGrows'. -/
def topGrowsCard : Claim7 := { stood := { row := topGrowsRow, standIns := [], harness := (true, "88c941048a81c6cff91877a6835c1e5184e82641cd6dca3ba593ca4a2efc4a3e"), looks := false }, kinds := [], alts := [], goes := true, laidByText := true, laidKinds := [.data, .data, .data, .listed, .data, .data], laidTests := true, laidLooks := .later }
def TopGrowsCardSaid : Prop := Claim7.holds Tryz.pinned (.plain (OpenSpec.ofChange topGrowsSpec)) topGrowsCard

/-- THE SECOND FORM's CARD OF 'deliberationtop.TopGrows'. -/
def topGrowsUptoCard : Claim7 := { stood := { row := topGrowsUptoRow, standIns := [], harness := (true, "88c941048a81c6cff91877a6835c1e5184e82641cd6dca3ba593ca4a2efc4a3e"), looks := false }, kinds := [], alts := [], goes := true, laidByText := true, laidKinds := [.data, .data, .data, .listed, .data, .data], laidTests := true, laidLooks := .later }
def TopGrowsUptoCardSaid : Prop := Claim7.holds Tryz.pinned (.plain (OpenSpec.upto topGrowsSpec)) topGrowsUptoCard
end Rows
end Go.Proofs.YtmpieaddiaihmaaGreatDoor
