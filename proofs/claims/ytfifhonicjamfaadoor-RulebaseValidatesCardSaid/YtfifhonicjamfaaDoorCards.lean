/-
  DERIVED. GIVEN WITH THE SEED: THE CARDS: each row of YtfifhonicjamfaaDoorRows.lean that lists a variable, with what it lists TIED to the program's text (the seventh form; the later family's looks); each row that meets fmt, with fmt's text TOLD by the authors' own Lean function (tested against real Go, not proved from fmt's source: count such statements apart). THE CARD IS WHAT COUNTS. Prove the row's statement (the work); the ties are given (YtfifhonicjamfaaDoorTie.lean); close each card by the builder's one call (the guide's Derived/Test/ToyasCard.lean, 'card_holds'). Laid BY PROGRAM, IN A SANDBOX (cutbox-door.mjs). By AI agents, Wed Nov 11 2026. No macro, syntax, notation, axiom, sorry.
-/
import Derived.Test.YtfifhonicjamfaaDoorRows
import GoSem.ClaimSeven
namespace Go.Proofs.YtfifhonicjamfaaDoor
namespace Rows

/-- THE TIED CARD OF 'deliberationlaw05.RulebaseValidates'. -/
def rulebaseValidatesCard : Claim7 := { stood := { row := rulebaseValidatesRow, standIns := [], harness := (true, "a6d95b83bd6926f440974559b776db8ed48407f49714724e72738302c77f203f"), looks := false }, kinds := [], alts := [], laidByText := true, laidKinds := [.data, .data, .data, .listed, .data, .data], laidTests := true, laidLooks := .later }
def RulebaseValidatesCardSaid : Prop := Claim7.holds Tryd.pinned (.plain (OpenSpec.ofChange rulebaseValidatesSpec)) rulebaseValidatesCard

/-- THE TIED CARD OF 'deliberationlaw05.RulebaseLimits'. -/
def rulebaseLimitsCard : Claim7 := { stood := { row := rulebaseLimitsRow, standIns := [], harness := (true, "a6d95b83bd6926f440974559b776db8ed48407f49714724e72738302c77f203f"), looks := false }, kinds := [], alts := [], laidByText := true, laidKinds := [.data, .data, .data, .listed, .data, .data], laidTests := true, laidLooks := .later }
def RulebaseLimitsCardSaid : Prop := Claim7.holds Tryd.pinned (.plain (OpenSpec.ofChange rulebaseLimitsSpec)) rulebaseLimitsCard

/-- THE TIED CARD OF 'deliberationlaw05.RulebaseBack'. -/
def rulebaseBackCard : Claim7 := { stood := { row := rulebaseBackRow, standIns := [], harness := (true, "a6d95b83bd6926f440974559b776db8ed48407f49714724e72738302c77f203f"), looks := false }, kinds := [], alts := [], laidByText := true, laidKinds := [.data, .data, .data, .listed, .data, .data], laidTests := true, laidLooks := .later }
def RulebaseBackCardSaid : Prop := Claim7.holds Tryd.pinned (.plain (OpenSpec.ofChange rulebaseBackSpec)) rulebaseBackCard

/-- THE SECOND FORM's CARD OF 'deliberationlaw05.RulebaseValidates'. -/
def rulebaseValidatesUptoCard : Claim7 := { stood := { row := rulebaseValidatesUptoRow, standIns := [], harness := (true, "a6d95b83bd6926f440974559b776db8ed48407f49714724e72738302c77f203f"), looks := false }, kinds := [], alts := [], laidByText := true, laidKinds := [.data, .data, .data, .listed, .data, .data], laidTests := true, laidLooks := .later }
def RulebaseValidatesUptoCardSaid : Prop := Claim7.holds Tryd.pinned (.plain (OpenSpec.upto rulebaseValidatesSpec)) rulebaseValidatesUptoCard

/-- THE SECOND FORM's CARD OF 'deliberationlaw05.RulebaseLimits'. -/
def rulebaseLimitsUptoCard : Claim7 := { stood := { row := rulebaseLimitsUptoRow, standIns := [], harness := (true, "a6d95b83bd6926f440974559b776db8ed48407f49714724e72738302c77f203f"), looks := false }, kinds := [], alts := [], laidByText := true, laidKinds := [.data, .data, .data, .listed, .data, .data], laidTests := true, laidLooks := .later }
def RulebaseLimitsUptoCardSaid : Prop := Claim7.holds Tryd.pinned (.plain (OpenSpec.upto rulebaseLimitsSpec)) rulebaseLimitsUptoCard

/-- THE SECOND FORM's CARD OF 'deliberationlaw05.RulebaseBack'. -/
def rulebaseBackUptoCard : Claim7 := { stood := { row := rulebaseBackUptoRow, standIns := [], harness := (true, "a6d95b83bd6926f440974559b776db8ed48407f49714724e72738302c77f203f"), looks := false }, kinds := [], alts := [], laidByText := true, laidKinds := [.data, .data, .data, .listed, .data, .data], laidTests := true, laidLooks := .later }
def RulebaseBackUptoCardSaid : Prop := Claim7.holds Tryd.pinned (.plain (OpenSpec.upto rulebaseBackSpec)) rulebaseBackUptoCard
end Rows
end Go.Proofs.YtfifhonicjamfaaDoor
