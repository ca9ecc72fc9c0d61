/-
  No cell of these rows narrows 'for every input' (looked for: loops, veiled, ifaces, maps, wideKeys, modest, calm, conditions, laid).
  DERIVED. THE GIVEN ROWS OF THIS SEAT. 5 by the template 'for every input the law returns true; each argument reads behind the call as it read before'; 0 by the template 'total and deterministic' (their statements: YticncidfihdipaaTotals.lean).
  GIVEN WITH THE SEED: the statements are not yours to turn. If you find one false, say at which input.
  Laid BY PROGRAM, IN A SANDBOX (cutbox-rows.mjs): the forced cells as the released guide's own fill.sh prints them over the translation a268d584ce7c2d83… (all of the seat's roots in one cut). By AI agents, Wed Nov 11 2026. No macro, syntax, notation, axiom, sorry.
-/
import Derived.Test.YticncidfihdipaaChecked
import GoSem.Claim
import GoSem.ClaimJoined
import GoSem.ClaimMapViews
import Derived.JoinedTies
import Derived.KernelRfl
namespace Go.Proofs.Yticncidfihdipaa
/- THE CELL 'sum', in the pinned program and in every row, IS THE sha256 OF THE DUMP (.gsa) THAT YticncidfihdipaaProg.lean LOADS. Nothing in Lean hashes anything: it is a label: what it is worth is what the hold of that sum in a sandbox is worth. -/
noncomputable def Try.pinned : Pinned := { name := "yticncidfihdipaa", sum := "a268d584ce7c2d83c32908204653f3b5e0eca24e7ad62ec9b327d6322f0d6538", checked := Try.checked }
namespace Rows
def none {H : Type} : Left H := { results := [], args := [] }

/-- 'deliberationlaw07.ArgumentFormed': WHATEVER THE INPUT: true; the input reads as it did. -/
def argumentFormedSpec : ChangeSpec := { name := "argumentFormed", fn := fun _ => fun
  | [d] => { results := [.lit (.bool true)], args := [d] }
  | _ => none }
def argumentFormedRow : OpenClaim := { program := "yticncidfihdipaa", sum := "a268d584ce7c2d83c32908204653f3b5e0eca24e7ad62ec9b327d6322f0d6538", func := "deliberation/deliberationlaw07.ArgumentFormed", spec := "argumentFormed", unfollowed := true, recurses := true, apart := false }
def ArgumentFormedSaid : Prop := argumentFormedRow.holds Try.pinned (OpenSpec.ofChange argumentFormedSpec)

/-- ITS FALSE NEIGHBOUR: 'it returns false'. Refute it at one input. -/
def argumentFormedWrong : ChangeSpec := { name := "argumentFormed", fn := fun _ => fun
  | [d] => { results := [.lit (.bool false)], args := [d] }
  | _ => none }
def ArgumentFormedWrongFalsely : Prop := argumentFormedRow.holds Try.pinned (OpenSpec.ofChange argumentFormedWrong)

/-- 'deliberationlaw07.ArgumentAll': WHATEVER THE INPUT: true; the input reads as it did. -/
def argumentAllSpec : ChangeSpec := { name := "argumentAll", fn := fun _ => fun
  | [d1, d2, d3] => { results := [.lit (.bool true)], args := [d1, d2, d3] }
  | _ => none }
def argumentAllRow : OpenClaim := { program := "yticncidfihdipaa", sum := "a268d584ce7c2d83c32908204653f3b5e0eca24e7ad62ec9b327d6322f0d6538", func := "deliberation/deliberationlaw07.ArgumentAll", spec := "argumentAll", unfollowed := true, recurses := true, apart := false }
def ArgumentAllSaid : Prop := argumentAllRow.holds Try.pinned (OpenSpec.ofChange argumentAllSpec)

/-- ITS FALSE NEIGHBOUR: 'it returns false'. Refute it at one input. -/
def argumentAllWrong : ChangeSpec := { name := "argumentAll", fn := fun _ => fun
  | [d1, d2, d3] => { results := [.lit (.bool false)], args := [d1, d2, d3] }
  | _ => none }
def ArgumentAllWrongFalsely : Prop := argumentAllRow.holds Try.pinned (OpenSpec.ofChange argumentAllWrong)

/-- 'deliberationlaw07.ArgumentConclusions': WHATEVER THE INPUT: true; the input reads as it did. -/
def argumentConclusionsSpec : ChangeSpec := { name := "argumentConclusions", fn := fun _ => fun
  | [d] => { results := [.lit (.bool true)], args := [d] }
  | _ => none }
def argumentConclusionsRow : OpenClaim := { program := "yticncidfihdipaa", sum := "a268d584ce7c2d83c32908204653f3b5e0eca24e7ad62ec9b327d6322f0d6538", func := "deliberation/deliberationlaw07.ArgumentConclusions", spec := "argumentConclusions", unfollowed := true, recurses := true, apart := false }
def ArgumentConclusionsSaid : Prop := argumentConclusionsRow.holds Try.pinned (OpenSpec.ofChange argumentConclusionsSpec)

/-- ITS FALSE NEIGHBOUR: 'it returns false'. Refute it at one input. -/
def argumentConclusionsWrong : ChangeSpec := { name := "argumentConclusions", fn := fun _ => fun
  | [d] => { results := [.lit (.bool false)], args := [d] }
  | _ => none }
def ArgumentConclusionsWrongFalsely : Prop := argumentConclusionsRow.holds Try.pinned (OpenSpec.ofChange argumentConclusionsWrong)

/-- 'deliberationlaw07.ArgumentBranches': WHATEVER THE INPUT: true; the input reads as it did. -/
def argumentBranchesSpec : ChangeSpec := { name := "argumentBranches", fn := fun _ => fun
  | [d1, d2] => { results := [.lit (.bool true)], args := [d1, d2] }
  | _ => none }
def argumentBranchesRow : OpenClaim := { program := "yticncidfihdipaa", sum := "a268d584ce7c2d83c32908204653f3b5e0eca24e7ad62ec9b327d6322f0d6538", func := "deliberation/deliberationlaw07.ArgumentBranches", spec := "argumentBranches", unfollowed := true, recurses := true, apart := false }
def ArgumentBranchesSaid : Prop := argumentBranchesRow.holds Try.pinned (OpenSpec.ofChange argumentBranchesSpec)

/-- ITS FALSE NEIGHBOUR: 'it returns false'. Refute it at one input. -/
def argumentBranchesWrong : ChangeSpec := { name := "argumentBranches", fn := fun _ => fun
  | [d1, d2] => { results := [.lit (.bool false)], args := [d1, d2] }
  | _ => none }
def ArgumentBranchesWrongFalsely : Prop := argumentBranchesRow.holds Try.pinned (OpenSpec.ofChange argumentBranchesWrong)

/-- 'deliberationlaw07.ArgumentGrows': WHATEVER THE INPUT: true; the input reads as it did. -/
def argumentGrowsSpec : ChangeSpec := { name := "argumentGrows", fn := fun _ => fun
  | [d] => { results := [.lit (.bool true)], args := [d] }
  | _ => none }
def argumentGrowsRow : OpenClaim := { program := "yticncidfihdipaa", sum := "a268d584ce7c2d83c32908204653f3b5e0eca24e7ad62ec9b327d6322f0d6538", func := "deliberation/deliberationlaw07.ArgumentGrows", spec := "argumentGrows", unfollowed := true, recurses := true, apart := false }
def ArgumentGrowsSaid : Prop := argumentGrowsRow.holds Try.pinned (OpenSpec.ofChange argumentGrowsSpec)

/-- ITS FALSE NEIGHBOUR: 'it returns false'. Refute it at one input. -/
def argumentGrowsWrong : ChangeSpec := { name := "argumentGrows", fn := fun _ => fun
  | [d] => { results := [.lit (.bool false)], args := [d] }
  | _ => none }
def ArgumentGrowsWrongFalsely : Prop := argumentGrowsRow.holds Try.pinned (OpenSpec.ofChange argumentGrowsWrong)

/- THE SECOND FORM. 'bulk': how many values and letters a reading holds, each counted each time it is reached (what is shared counts as often as it is met; a slice's spare places count too). A statement '..UptoSaid' is the law's where the arguments, and the package variables that the reading takes, are together of bulk at most 1048576: NARROWER than '..Said'. Prove '..Said' where nothing that the law and all that it calls make is longer than what came in: it says more and counts as full. Else prove '..UptoSaid'. A law counts once. -/
mutual
def uptoBulk {H : Type} : DataW H → Nat
  | .lit (.string bytes) => bytes.length + 1
  | .lit _ => 1
  | .nil => 1
  | .ptr d => uptoBulk d + 1
  | .slice elems spare => uptoBulkAll elems + uptoBulkAll spare + 1
  | .agg parts => uptoBulkAll parts + 1
  | .iface _ d => uptoBulk d + 1
  | .map entries => uptoBulkEntries entries + 1
  | .held _ => 1
def uptoBulkAll {H : Type} : List (DataW H) → Nat
  | [] => 0
  | d :: r => uptoBulk d + uptoBulkAll r
def uptoBulkEntries {H : Type} : List (Lit × DataW H) → Nat
  | [] => 0
  | x :: r => uptoBulkEntry x + uptoBulkEntries r
def uptoBulkEntry {H : Type} : Lit × DataW H → Nat
  | (.string bytes, d) => bytes.length + uptoBulk d + 1
  | (_, d) => uptoBulk d + 1
 end
def uptoSmall : (H : Type) → List (DataW H) → Bool := fun _ ds => decide (uptoBulkAll ds ≤ 1048576)
def OpenSpec.upto (s : _root_.Go.ChangeSpec) : _root_.Go.OpenSpec := { _root_.Go.OpenSpec.ofChange s with cond := some uptoSmall }

/-- 'deliberationlaw07.ArgumentFormed', WHERE WHAT IT READS IS OF BULK AT MOST 1048576: true; the input reads as it did. -/
def argumentFormedUptoRow : OpenClaim := { program := "yticncidfihdipaa", sum := "a268d584ce7c2d83c32908204653f3b5e0eca24e7ad62ec9b327d6322f0d6538", func := "deliberation/deliberationlaw07.ArgumentFormed", spec := "argumentFormed", unfollowed := true, recurses := true, apart := false, narrowed := true }
def ArgumentFormedUptoSaid : Prop := argumentFormedUptoRow.holds Try.pinned (OpenSpec.upto argumentFormedSpec)

/-- 'deliberationlaw07.ArgumentAll', WHERE WHAT IT READS IS OF BULK AT MOST 1048576: true; the input reads as it did. -/
def argumentAllUptoRow : OpenClaim := { program := "yticncidfihdipaa", sum := "a268d584ce7c2d83c32908204653f3b5e0eca24e7ad62ec9b327d6322f0d6538", func := "deliberation/deliberationlaw07.ArgumentAll", spec := "argumentAll", unfollowed := true, recurses := true, apart := false, narrowed := true }
def ArgumentAllUptoSaid : Prop := argumentAllUptoRow.holds Try.pinned (OpenSpec.upto argumentAllSpec)

/-- 'deliberationlaw07.ArgumentConclusions', WHERE WHAT IT READS IS OF BULK AT MOST 1048576: true; the input reads as it did. -/
def argumentConclusionsUptoRow : OpenClaim := { program := "yticncidfihdipaa", sum := "a268d584ce7c2d83c32908204653f3b5e0eca24e7ad62ec9b327d6322f0d6538", func := "deliberation/deliberationlaw07.ArgumentConclusions", spec := "argumentConclusions", unfollowed := true, recurses := true, apart := false, narrowed := true }
def ArgumentConclusionsUptoSaid : Prop := argumentConclusionsUptoRow.holds Try.pinned (OpenSpec.upto argumentConclusionsSpec)

/-- 'deliberationlaw07.ArgumentBranches', WHERE WHAT IT READS IS OF BULK AT MOST 1048576: true; the input reads as it did. -/
def argumentBranchesUptoRow : OpenClaim := { program := "yticncidfihdipaa", sum := "a268d584ce7c2d83c32908204653f3b5e0eca24e7ad62ec9b327d6322f0d6538", func := "deliberation/deliberationlaw07.ArgumentBranches", spec := "argumentBranches", unfollowed := true, recurses := true, apart := false, narrowed := true }
def ArgumentBranchesUptoSaid : Prop := argumentBranchesUptoRow.holds Try.pinned (OpenSpec.upto argumentBranchesSpec)

/-- 'deliberationlaw07.ArgumentGrows', WHERE WHAT IT READS IS OF BULK AT MOST 1048576: true; the input reads as it did. -/
def argumentGrowsUptoRow : OpenClaim := { program := "yticncidfihdipaa", sum := "a268d584ce7c2d83c32908204653f3b5e0eca24e7ad62ec9b327d6322f0d6538", func := "deliberation/deliberationlaw07.ArgumentGrows", spec := "argumentGrows", unfollowed := true, recurses := true, apart := false, narrowed := true }
def ArgumentGrowsUptoSaid : Prop := argumentGrowsUptoRow.holds Try.pinned (OpenSpec.upto argumentGrowsSpec)

end Rows
end Go.Proofs.Yticncidfihdipaa
