/-
  DERIVED. GIVEN WITH THE SEED: THE CARDS: each row of YtkmalbjjjappgaaGreatDoorRows.lean that lists a variable, with what it lists TIED to the program's text (the seventh form; the later family's looks); each row that meets fmt, with fmt's text TOLD by the authors' own Lean function (tested against real Go, not proved from fmt's source: count such statements apart). THE CARD IS WHAT COUNTS. Prove the row's statement (the work); the ties are given (YtkmalbjjjappgaaGreatDoorTie.lean); close each card by the builder's one call (the guide's Derived/Test/ToyasCard.lean, 'card_holds'). Laid BY PROGRAM, IN A SANDBOX (cutbox-door.mjs). By AI agents, Wed Nov 11 2026. No macro, syntax, notation, axiom, sorry.
-/
import Derived.Test.YtkmalbjjjappgaaGreatDoorRows
import GoSem.ClaimSeven
namespace Go.Proofs.YtkmalbjjjappgaaGreatDoor
namespace Rows

/-- THE TIED CARD OF 'deliberationlaw41.ScriptBack'. -/
def scriptBackCard : Claim7 := { stood := { row := scriptBackRow, standIns := [], harness := (true, "dd70c13e074e2116007e8c1cc6b1394c0fa8cb7e6701266b6113bbce9279caf7"), looks := true }, kinds := [], alts := [], laidByText := true, laidKinds := [.data, .data, .data, .sentinel, .sentinel, .data], laidTests := true, laidLooks := .later }
def ScriptBackCardSaid : Prop := Claim7.holds Tryz.pinned (.plain (OpenSpec.ofChange scriptBackSpec)) scriptBackCard

/-- THE SECOND FORM's CARD OF 'deliberationlaw41.ScriptBack'. -/
def scriptBackUptoCard : Claim7 := { stood := { row := scriptBackUptoRow, standIns := [], harness := (true, "dd70c13e074e2116007e8c1cc6b1394c0fa8cb7e6701266b6113bbce9279caf7"), looks := true }, kinds := [], alts := [], laidByText := true, laidKinds := [.data, .data, .data, .sentinel, .sentinel, .data], laidTests := true, laidLooks := .later }
def ScriptBackUptoCardSaid : Prop := Claim7.holds Tryz.pinned (.plain (OpenSpec.upto scriptBackSpec)) scriptBackUptoCard
end Rows
end Go.Proofs.YtkmalbjjjappgaaGreatDoor
