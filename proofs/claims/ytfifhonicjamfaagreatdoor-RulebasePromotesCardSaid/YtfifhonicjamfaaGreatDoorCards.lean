/-
  DERIVED. GIVEN WITH THE SEED: THE CARDS: each row of YtfifhonicjamfaaGreatDoorRows.lean that lists a variable, with what it lists TIED to the program's text (the seventh form; the later family's looks); each row that meets fmt, with fmt's text TOLD by the authors' own Lean function (tested against real Go, not proved from fmt's source: count such statements apart). THE CARD IS WHAT COUNTS. Prove the row's statement (the work); the ties are given (YtfifhonicjamfaaGreatDoorTie.lean); close each card by the builder's one call (the guide's Derived/Test/ToyasCard.lean, 'card_holds'). Laid BY PROGRAM, IN A SANDBOX (cutbox-door.mjs). By AI agents, Wed Nov 11 2026. No macro, syntax, notation, axiom, sorry.
-/
import Derived.Test.YtfifhonicjamfaaGreatDoorRows
import GoSem.ClaimSeven
namespace Go.Proofs.YtfifhonicjamfaaGreatDoor
namespace Rows

/-- THE TIED CARD OF 'deliberationlaw05.RulebaseParses'. -/
def rulebaseParsesCard : Claim7 := { stood := { row := rulebaseParsesRow, standIns := [], harness := (true, "71bcf7f64a92c70fb50b1ea21d3ae7f4067d06e62f6ff230c58d30f930305b35"), looks := false }, kinds := [], alts := [], laidByText := true, laidKinds := [.data, .data, .data, .listed, .data, .data], laidTests := true, laidLooks := .later }
def RulebaseParsesCardSaid : Prop := Claim7.holds Tryz.pinned (.plain (OpenSpec.ofChange rulebaseParsesSpec)) rulebaseParsesCard

/-- THE TIED CARD OF 'deliberationlaw05.RulebaseFormats'. -/
def rulebaseFormatsCard : Claim7 := { stood := { row := rulebaseFormatsRow, standIns := [], harness := (true, "71bcf7f64a92c70fb50b1ea21d3ae7f4067d06e62f6ff230c58d30f930305b35"), looks := false }, kinds := [], alts := [], laidByText := true, laidKinds := [.data, .data, .data, .listed, .data, .data], laidTests := true, laidLooks := .later }
def RulebaseFormatsCardSaid : Prop := Claim7.holds Tryz.pinned (.plain (OpenSpec.ofChange rulebaseFormatsSpec)) rulebaseFormatsCard

/-- THE TIED CARD OF 'deliberationlaw05.RulebasePromotes'. -/
def rulebasePromotesCard : Claim7 := { stood := { row := rulebasePromotesRow, standIns := [], harness := (true, "71bcf7f64a92c70fb50b1ea21d3ae7f4067d06e62f6ff230c58d30f930305b35"), looks := false }, kinds := [], alts := [], laidByText := true, laidKinds := [.data, .data, .data, .listed, .data, .data], laidTests := true, laidLooks := .later }
def RulebasePromotesCardSaid : Prop := Claim7.holds Tryz.pinned (.plain (OpenSpec.ofChange rulebasePromotesSpec)) rulebasePromotesCard

/-- THE SECOND FORM's CARD OF 'deliberationlaw05.RulebaseParses'. -/
def rulebaseParsesUptoCard : Claim7 := { stood := { row := rulebaseParsesUptoRow, standIns := [], harness := (true, "71bcf7f64a92c70fb50b1ea21d3ae7f4067d06e62f6ff230c58d30f930305b35"), looks := false }, kinds := [], alts := [], laidByText := true, laidKinds := [.data, .data, .data, .listed, .data, .data], laidTests := true, laidLooks := .later }
def RulebaseParsesUptoCardSaid : Prop := Claim7.holds Tryz.pinned (.plain (OpenSpec.upto rulebaseParsesSpec)) rulebaseParsesUptoCard

/-- THE SECOND FORM's CARD OF 'deliberationlaw05.RulebaseFormats'. -/
def rulebaseFormatsUptoCard : Claim7 := { stood := { row := rulebaseFormatsUptoRow, standIns := [], harness := (true, "71bcf7f64a92c70fb50b1ea21d3ae7f4067d06e62f6ff230c58d30f930305b35"), looks := false }, kinds := [], alts := [], laidByText := true, laidKinds := [.data, .data, .data, .listed, .data, .data], laidTests := true, laidLooks := .later }
def RulebaseFormatsUptoCardSaid : Prop := Claim7.holds Tryz.pinned (.plain (OpenSpec.upto rulebaseFormatsSpec)) rulebaseFormatsUptoCard

/-- THE SECOND FORM's CARD OF 'deliberationlaw05.RulebasePromotes'. -/
def rulebasePromotesUptoCard : Claim7 := { stood := { row := rulebasePromotesUptoRow, standIns := [], harness := (true, "71bcf7f64a92c70fb50b1ea21d3ae7f4067d06e62f6ff230c58d30f930305b35"), looks := false }, kinds := [], alts := [], laidByText := true, laidKinds := [.data, .data, .data, .listed, .data, .data], laidTests := true, laidLooks := .later }
def RulebasePromotesUptoCardSaid : Prop := Claim7.holds Tryz.pinned (.plain (OpenSpec.upto rulebasePromotesSpec)) rulebasePromotesUptoCard
end Rows
end Go.Proofs.YtfifhonicjamfaaGreatDoor
