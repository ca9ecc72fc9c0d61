/-
  DERIVED. GIVEN WITH THE SEED: THE CARDS: each row of YtofmfdlkalakaaaGreatDoorRows.lean that lists a variable, with what it lists TIED to the program's text (the seventh form; the later family's looks); each row that meets fmt, with fmt's text TOLD by the authors' own Lean function (tested against real Go, not proved from fmt's source: count such statements apart). THE CARD IS WHAT COUNTS. Prove the row's statement (the work); the ties are given (YtofmfdlkalakaaaGreatDoorTie.lean); close each card by the builder's one call (the guide's Derived/Test/ToyasCard.lean, 'card_holds'). Laid BY PROGRAM, IN A SANDBOX (cutbox-door.mjs). By AI agents, Wed Nov 11 2026. No macro, syntax, notation, axiom, sorry.
-/
import Derived.Test.YtofmfdlkalakaaaGreatDoorRows
import GoSem.ClaimSeven
namespace Go.Proofs.YtofmfdlkalakaaaGreatDoor
namespace Rows

/-- THE TIED CARD OF 'deliberationlaw30.RefereeChannel'. -/
def refereeChannelCard : Claim7 := { stood := { row := refereeChannelRow, standIns := [], harness := (true, "052ebabc1efaa3279ed2d57e0d86613769e9464fc2ba9d3669e896e3d677f1fb"), looks := true }, kinds := [], alts := [], laidByText := true, laidKinds := [.data, .data, .data, .data, .sentinel, .sentinel, .data, .pinned], laidTests := true, laidLooks := .later }
def RefereeChannelCardSaid : Prop := Claim7.holds Tryz.pinned (.plain (OpenSpec.ofChange refereeChannelSpec)) refereeChannelCard

/-- THE SECOND FORM's CARD OF 'deliberationlaw30.RefereeChannel'. -/
def refereeChannelUptoCard : Claim7 := { stood := { row := refereeChannelUptoRow, standIns := [], harness := (true, "052ebabc1efaa3279ed2d57e0d86613769e9464fc2ba9d3669e896e3d677f1fb"), looks := true }, kinds := [], alts := [], laidByText := true, laidKinds := [.data, .data, .data, .data, .sentinel, .sentinel, .data, .pinned], laidTests := true, laidLooks := .later }
def RefereeChannelUptoCardSaid : Prop := Claim7.holds Tryz.pinned (.plain (OpenSpec.upto refereeChannelSpec)) refereeChannelUptoCard
end Rows
end Go.Proofs.YtofmfdlkalakaaaGreatDoor
