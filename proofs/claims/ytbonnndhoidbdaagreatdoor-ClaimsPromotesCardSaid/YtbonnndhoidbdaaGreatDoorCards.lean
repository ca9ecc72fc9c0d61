/-
  DERIVED. GIVEN WITH THE SEED: THE CARDS: each row of YtbonnndhoidbdaaGreatDoorRows.lean that lists a variable, with what it lists TIED to the program's text (the seventh form; the later family's looks); each row that meets fmt, with fmt's text TOLD by the authors' own Lean function (tested against real Go, not proved from fmt's source: count such statements apart). THE CARD IS WHAT COUNTS. Prove the row's statement (the work); the ties are given (YtbonnndhoidbdaaGreatDoorTie.lean); close each card by the builder's one call (the guide's Derived/Test/ToyasCard.lean, 'card_holds'). Laid BY PROGRAM, IN A SANDBOX (cutbox-door.mjs). By AI agents, Wed Nov 11 2026. No macro, syntax, notation, axiom, sorry.
-/
import Derived.Test.YtbonnndhoidbdaaGreatDoorRows
import GoSem.ClaimSeven
namespace Go.Proofs.YtbonnndhoidbdaaGreatDoor
namespace Rows

/-- THE TIED CARD OF 'deliberationlaw20.ClaimsCompile'. -/
def claimsCompileCard : Claim7 := { stood := { row := claimsCompileRow, standIns := [], harness := (true, "779de1cccf2d8f38e94e2db346e3b9b780d411bea2e53170eb8dc4e04a0edbdb"), looks := false }, kinds := [], alts := [], goes := true, laidByText := true, laidKinds := [.data, .data, .data, .listed, .data, .data], laidTests := true, laidLooks := .later }
def ClaimsCompileCardSaid : Prop := Claim7.holds Tryz.pinned (.plain (OpenSpec.ofChange claimsCompileSpec)) claimsCompileCard

/-- THE TIED CARD OF 'deliberationlaw20.ClaimsExtensions'. -/
def claimsExtensionsCard : Claim7 := { stood := { row := claimsExtensionsRow, standIns := [], harness := (true, "779de1cccf2d8f38e94e2db346e3b9b780d411bea2e53170eb8dc4e04a0edbdb"), looks := false }, kinds := [], alts := [], goes := true, laidByText := true, laidKinds := [.data, .data, .data, .listed, .data, .data], laidTests := true, laidLooks := .later }
def ClaimsExtensionsCardSaid : Prop := Claim7.holds Tryz.pinned (.plain (OpenSpec.ofChange claimsExtensionsSpec)) claimsExtensionsCard

/-- THE TIED CARD OF 'deliberationlaw20.ClaimsClosed'. -/
def claimsClosedCard : Claim7 := { stood := { row := claimsClosedRow, standIns := [], harness := (true, "779de1cccf2d8f38e94e2db346e3b9b780d411bea2e53170eb8dc4e04a0edbdb"), looks := false }, kinds := [], alts := [], goes := true, laidByText := true, laidKinds := [.data, .data, .data, .listed, .data, .data], laidTests := true, laidLooks := .later }
def ClaimsClosedCardSaid : Prop := Claim7.holds Tryz.pinned (.plain (OpenSpec.ofChange claimsClosedSpec)) claimsClosedCard

/-- THE TIED CARD OF 'deliberationlaw20.ClaimsPromotes'. -/
def claimsPromotesCard : Claim7 := { stood := { row := claimsPromotesRow, standIns := [], harness := (true, "779de1cccf2d8f38e94e2db346e3b9b780d411bea2e53170eb8dc4e04a0edbdb"), looks := false }, kinds := [], alts := [], goes := true, laidByText := true, laidKinds := [.data, .data, .data, .listed, .data, .data], laidTests := true, laidLooks := .later }
def ClaimsPromotesCardSaid : Prop := Claim7.holds Tryz.pinned (.plain (OpenSpec.ofChange claimsPromotesSpec)) claimsPromotesCard

/-- THE TIED CARD OF 'deliberationlaw20.ClaimsNested'. -/
def claimsNestedCard : Claim7 := { stood := { row := claimsNestedRow, standIns := [], harness := (true, "779de1cccf2d8f38e94e2db346e3b9b780d411bea2e53170eb8dc4e04a0edbdb"), looks := false }, kinds := [], alts := [], goes := true, laidByText := true, laidKinds := [.data, .data, .data, .listed, .data, .data], laidTests := true, laidLooks := .later }
def ClaimsNestedCardSaid : Prop := Claim7.holds Tryz.pinned (.plain (OpenSpec.ofChange claimsNestedSpec)) claimsNestedCard

/-- THE TIED CARD OF 'deliberationlaw20.ClaimsConclusions'. -/
def claimsConclusionsCard : Claim7 := { stood := { row := claimsConclusionsRow, standIns := [], harness := (true, "779de1cccf2d8f38e94e2db346e3b9b780d411bea2e53170eb8dc4e04a0edbdb"), looks := false }, kinds := [], alts := [], goes := true, laidByText := true, laidKinds := [.data, .data, .data, .listed, .data, .data], laidTests := true, laidLooks := .later }
def ClaimsConclusionsCardSaid : Prop := Claim7.holds Tryz.pinned (.plain (OpenSpec.ofChange claimsConclusionsSpec)) claimsConclusionsCard

/-- THE TIED CARD OF 'deliberationlaw20.ClaimsRational'. -/
def claimsRationalCard : Claim7 := { stood := { row := claimsRationalRow, standIns := [], harness := (true, "779de1cccf2d8f38e94e2db346e3b9b780d411bea2e53170eb8dc4e04a0edbdb"), looks := false }, kinds := [], alts := [], goes := true, laidByText := true, laidKinds := [.data, .data, .data, .listed, .data, .data], laidTests := true, laidLooks := .later }
def ClaimsRationalCardSaid : Prop := Claim7.holds Tryz.pinned (.plain (OpenSpec.ofChange claimsRationalSpec)) claimsRationalCard

/-- THE SECOND FORM's CARD OF 'deliberationlaw20.ClaimsCompile'. -/
def claimsCompileUptoCard : Claim7 := { stood := { row := claimsCompileUptoRow, standIns := [], harness := (true, "779de1cccf2d8f38e94e2db346e3b9b780d411bea2e53170eb8dc4e04a0edbdb"), looks := false }, kinds := [], alts := [], goes := true, laidByText := true, laidKinds := [.data, .data, .data, .listed, .data, .data], laidTests := true, laidLooks := .later }
def ClaimsCompileUptoCardSaid : Prop := Claim7.holds Tryz.pinned (.plain (OpenSpec.upto claimsCompileSpec)) claimsCompileUptoCard

/-- THE SECOND FORM's CARD OF 'deliberationlaw20.ClaimsExtensions'. -/
def claimsExtensionsUptoCard : Claim7 := { stood := { row := claimsExtensionsUptoRow, standIns := [], harness := (true, "779de1cccf2d8f38e94e2db346e3b9b780d411bea2e53170eb8dc4e04a0edbdb"), looks := false }, kinds := [], alts := [], goes := true, laidByText := true, laidKinds := [.data, .data, .data, .listed, .data, .data], laidTests := true, laidLooks := .later }
def ClaimsExtensionsUptoCardSaid : Prop := Claim7.holds Tryz.pinned (.plain (OpenSpec.upto claimsExtensionsSpec)) claimsExtensionsUptoCard

/-- THE SECOND FORM's CARD OF 'deliberationlaw20.ClaimsClosed'. -/
def claimsClosedUptoCard : Claim7 := { stood := { row := claimsClosedUptoRow, standIns := [], harness := (true, "779de1cccf2d8f38e94e2db346e3b9b780d411bea2e53170eb8dc4e04a0edbdb"), looks := false }, kinds := [], alts := [], goes := true, laidByText := true, laidKinds := [.data, .data, .data, .listed, .data, .data], laidTests := true, laidLooks := .later }
def ClaimsClosedUptoCardSaid : Prop := Claim7.holds Tryz.pinned (.plain (OpenSpec.upto claimsClosedSpec)) claimsClosedUptoCard

/-- THE SECOND FORM's CARD OF 'deliberationlaw20.ClaimsPromotes'. -/
def claimsPromotesUptoCard : Claim7 := { stood := { row := claimsPromotesUptoRow, standIns := [], harness := (true, "779de1cccf2d8f38e94e2db346e3b9b780d411bea2e53170eb8dc4e04a0edbdb"), looks := false }, kinds := [], alts := [], goes := true, laidByText := true, laidKinds := [.data, .data, .data, .listed, .data, .data], laidTests := true, laidLooks := .later }
def ClaimsPromotesUptoCardSaid : Prop := Claim7.holds Tryz.pinned (.plain (OpenSpec.upto claimsPromotesSpec)) claimsPromotesUptoCard

/-- THE SECOND FORM's CARD OF 'deliberationlaw20.ClaimsNested'. -/
def claimsNestedUptoCard : Claim7 := { stood := { row := claimsNestedUptoRow, standIns := [], harness := (true, "779de1cccf2d8f38e94e2db346e3b9b780d411bea2e53170eb8dc4e04a0edbdb"), looks := false }, kinds := [], alts := [], goes := true, laidByText := true, laidKinds := [.data, .data, .data, .listed, .data, .data], laidTests := true, laidLooks := .later }
def ClaimsNestedUptoCardSaid : Prop := Claim7.holds Tryz.pinned (.plain (OpenSpec.upto claimsNestedSpec)) claimsNestedUptoCard

/-- THE SECOND FORM's CARD OF 'deliberationlaw20.ClaimsConclusions'. -/
def claimsConclusionsUptoCard : Claim7 := { stood := { row := claimsConclusionsUptoRow, standIns := [], harness := (true, "779de1cccf2d8f38e94e2db346e3b9b780d411bea2e53170eb8dc4e04a0edbdb"), looks := false }, kinds := [], alts := [], goes := true, laidByText := true, laidKinds := [.data, .data, .data, .listed, .data, .data], laidTests := true, laidLooks := .later }
def ClaimsConclusionsUptoCardSaid : Prop := Claim7.holds Tryz.pinned (.plain (OpenSpec.upto claimsConclusionsSpec)) claimsConclusionsUptoCard

/-- THE SECOND FORM's CARD OF 'deliberationlaw20.ClaimsRational'. -/
def claimsRationalUptoCard : Claim7 := { stood := { row := claimsRationalUptoRow, standIns := [], harness := (true, "779de1cccf2d8f38e94e2db346e3b9b780d411bea2e53170eb8dc4e04a0edbdb"), looks := false }, kinds := [], alts := [], goes := true, laidByText := true, laidKinds := [.data, .data, .data, .listed, .data, .data], laidTests := true, laidLooks := .later }
def ClaimsRationalUptoCardSaid : Prop := Claim7.holds Tryz.pinned (.plain (OpenSpec.upto claimsRationalSpec)) claimsRationalUptoCard
end Rows
end Go.Proofs.YtbonnndhoidbdaaGreatDoor
