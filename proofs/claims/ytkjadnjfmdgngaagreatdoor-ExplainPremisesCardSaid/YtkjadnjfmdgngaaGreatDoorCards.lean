/-
  DERIVED. GIVEN WITH THE SEED: THE CARDS: each row of YtkjadnjfmdgngaaGreatDoorRows.lean that lists a variable, with what it lists TIED to the program's text (the seventh form; the later family's looks); each row that meets fmt, with fmt's text TOLD by the authors' own Lean function (tested against real Go, not proved from fmt's source: count such statements apart). THE CARD IS WHAT COUNTS. Prove the row's statement (the work); the ties are given (YtkjadnjfmdgngaaGreatDoorTie.lean); close each card by the builder's one call (the guide's Derived/Test/ToyasCard.lean, 'card_holds'). Laid BY PROGRAM, IN A SANDBOX (cutbox-door.mjs). By AI agents, Wed Nov 11 2026. No macro, syntax, notation, axiom, sorry.
-/
import Derived.Test.YtkjadnjfmdgngaaGreatDoorRows
import GoSem.ClaimSeven
namespace Go.Proofs.YtkjadnjfmdgngaaGreatDoor
namespace Rows

/-- THE TIED CARD OF 'deliberationlaw24.ExplainCauses'. -/
def explainCausesCard : Claim7 := { stood := { row := explainCausesRow, standIns := [], harness := (true, "595f0374e79ff44be2091f962c656bd0b4023904e7aca1f540af5c35453484e2"), looks := false }, kinds := [], alts := [], goes := true, laidByText := true, laidKinds := [.data], laidTests := true, laidLooks := .later }
def ExplainCausesCardSaid : Prop := Claim7.holds Tryz.pinned (.plain (OpenSpec.ofChange explainCausesSpec)) explainCausesCard

/-- THE TIED CARD OF 'deliberationlaw24.ExplainPremises'. -/
def explainPremisesCard : Claim7 := { stood := { row := explainPremisesRow, standIns := [], harness := (true, "595f0374e79ff44be2091f962c656bd0b4023904e7aca1f540af5c35453484e2"), looks := false }, kinds := [], alts := [], goes := true, laidByText := true, laidKinds := [.data], laidTests := true, laidLooks := .later }
def ExplainPremisesCardSaid : Prop := Claim7.holds Tryz.pinned (.plain (OpenSpec.ofChange explainPremisesSpec)) explainPremisesCard

/-- THE SECOND FORM's CARD OF 'deliberationlaw24.ExplainCauses'. -/
def explainCausesUptoCard : Claim7 := { stood := { row := explainCausesUptoRow, standIns := [], harness := (true, "595f0374e79ff44be2091f962c656bd0b4023904e7aca1f540af5c35453484e2"), looks := false }, kinds := [], alts := [], goes := true, laidByText := true, laidKinds := [.data], laidTests := true, laidLooks := .later }
def ExplainCausesUptoCardSaid : Prop := Claim7.holds Tryz.pinned (.plain (OpenSpec.upto explainCausesSpec)) explainCausesUptoCard

/-- THE SECOND FORM's CARD OF 'deliberationlaw24.ExplainPremises'. -/
def explainPremisesUptoCard : Claim7 := { stood := { row := explainPremisesUptoRow, standIns := [], harness := (true, "595f0374e79ff44be2091f962c656bd0b4023904e7aca1f540af5c35453484e2"), looks := false }, kinds := [], alts := [], goes := true, laidByText := true, laidKinds := [.data], laidTests := true, laidLooks := .later }
def ExplainPremisesUptoCardSaid : Prop := Claim7.holds Tryz.pinned (.plain (OpenSpec.upto explainPremisesSpec)) explainPremisesUptoCard
end Rows
end Go.Proofs.YtkjadnjfmdgngaaGreatDoor
