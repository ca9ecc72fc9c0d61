/-
  DERIVED. GIVEN WITH THE SEED: THE CARDS: each row of YtoacfdaobkghfaaDoorRows.lean that lists a variable, with what it lists TIED to the program's text (the seventh form; the later family's looks); each row that meets fmt, with fmt's text TOLD by the authors' own Lean function (tested against real Go, not proved from fmt's source: count such statements apart). THE CARD IS WHAT COUNTS. Prove the row's statement (the work); the ties are given (YtoacfdaobkghfaaDoorTie.lean); close each card by the builder's one call (the guide's Derived/Test/ToyasCard.lean, 'card_holds'). Laid BY PROGRAM, IN A SANDBOX (cutbox-door.mjs). By AI agents, Wed Nov 11 2026. No macro, syntax, notation, axiom, sorry.
-/
import Derived.Test.YtoacfdaobkghfaaDoorRows
import GoSem.ClaimSeven
namespace Go.Proofs.YtoacfdaobkghfaaDoor
namespace Rows

/-- THE TIED CARD OF 'deliberationlaw24.ExplainAnswers'. -/
def explainAnswersCard : Claim7 := { stood := { row := explainAnswersRow, standIns := [], harness := (true, "860ca93501e29792db591e5641ef20577f4e602c000af803bec05950ec1bb83d"), looks := false }, kinds := [], alts := [], laidByText := true, laidKinds := [.data], laidTests := true, laidLooks := .later }
def ExplainAnswersCardSaid : Prop := Claim7.holds Tryd.pinned (.plain (OpenSpec.ofChange explainAnswersSpec)) explainAnswersCard

/-- THE TIED CARD OF 'deliberationlaw24.ExplainLeast'. -/
def explainLeastCard : Claim7 := { stood := { row := explainLeastRow, standIns := [], harness := (true, "860ca93501e29792db591e5641ef20577f4e602c000af803bec05950ec1bb83d"), looks := false }, kinds := [], alts := [], laidByText := true, laidKinds := [.data], laidTests := true, laidLooks := .later }
def ExplainLeastCardSaid : Prop := Claim7.holds Tryd.pinned (.plain (OpenSpec.ofChange explainLeastSpec)) explainLeastCard

/-- THE TIED CARD OF 'deliberationlaw24.ExplainDefences'. -/
def explainDefencesCard : Claim7 := { stood := { row := explainDefencesRow, standIns := [], harness := (true, "860ca93501e29792db591e5641ef20577f4e602c000af803bec05950ec1bb83d"), looks := false }, kinds := [], alts := [], laidByText := true, laidKinds := [.data], laidTests := true, laidLooks := .later }
def ExplainDefencesCardSaid : Prop := Claim7.holds Tryd.pinned (.plain (OpenSpec.ofChange explainDefencesSpec)) explainDefencesCard

/-- THE SECOND FORM's CARD OF 'deliberationlaw24.ExplainAnswers'. -/
def explainAnswersUptoCard : Claim7 := { stood := { row := explainAnswersUptoRow, standIns := [], harness := (true, "860ca93501e29792db591e5641ef20577f4e602c000af803bec05950ec1bb83d"), looks := false }, kinds := [], alts := [], laidByText := true, laidKinds := [.data], laidTests := true, laidLooks := .later }
def ExplainAnswersUptoCardSaid : Prop := Claim7.holds Tryd.pinned (.plain (OpenSpec.upto explainAnswersSpec)) explainAnswersUptoCard

/-- THE SECOND FORM's CARD OF 'deliberationlaw24.ExplainLeast'. -/
def explainLeastUptoCard : Claim7 := { stood := { row := explainLeastUptoRow, standIns := [], harness := (true, "860ca93501e29792db591e5641ef20577f4e602c000af803bec05950ec1bb83d"), looks := false }, kinds := [], alts := [], laidByText := true, laidKinds := [.data], laidTests := true, laidLooks := .later }
def ExplainLeastUptoCardSaid : Prop := Claim7.holds Tryd.pinned (.plain (OpenSpec.upto explainLeastSpec)) explainLeastUptoCard

/-- THE SECOND FORM's CARD OF 'deliberationlaw24.ExplainDefences'. -/
def explainDefencesUptoCard : Claim7 := { stood := { row := explainDefencesUptoRow, standIns := [], harness := (true, "860ca93501e29792db591e5641ef20577f4e602c000af803bec05950ec1bb83d"), looks := false }, kinds := [], alts := [], laidByText := true, laidKinds := [.data], laidTests := true, laidLooks := .later }
def ExplainDefencesUptoCardSaid : Prop := Claim7.holds Tryd.pinned (.plain (OpenSpec.upto explainDefencesSpec)) explainDefencesUptoCard
end Rows
end Go.Proofs.YtoacfdaobkghfaaDoor
