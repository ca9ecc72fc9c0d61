/-
  No cell of these rows narrows 'for every input' (looked for: loops, veiled, ifaces, maps, wideKeys, modest, calm, conditions, laid).
  DERIVED. THE GIVEN ROWS OF THIS SEAT. 6 by the template 'for every input the law returns true; each argument reads behind the call as it read before'; 0 by the template 'total and deterministic' (their statements: YtofgcpbdgokpjaaGreatTotals.lean).
  GIVEN WITH THE SEED: the statements are not yours to turn. If you find one false, say at which input.
  Laid BY PROGRAM, IN A SANDBOX (cutbox-rows.mjs): the forced cells as the released guide's own fill.sh prints them over the translation ff832e8f01bfedc0… (all of the seat's roots in one cut). By AI agents, Wed Nov 11 2026. No macro, syntax, notation, axiom, sorry.
-/
import Derived.Test.YtofgcpbdgokpjaaGreatChecked
import GoSem.Claim
import GoSem.ClaimJoined
import GoSem.ClaimMapViews
import Derived.JoinedTies
import Derived.KernelRfl
namespace Go.Proofs.YtofgcpbdgokpjaaGreat
/- THE CELL 'sum', in the pinned program and in every row, IS THE sha256 OF THE DUMP (.gsa) THAT YtofgcpbdgokpjaaGreatProg.lean LOADS. Nothing in Lean hashes anything: it is a label: what it is worth is what the hold of that sum in a sandbox is worth. -/
noncomputable def Tryz.pinned : Pinned := { name := "ytofgcpbdgokpjaagreat", sum := "ff832e8f01bfedc01c2e94ada8c8793f517a25b7cfe12fdad1e4263685602f3e", checked := Tryz.checked }
namespace Rows
def none {H : Type} : Left H := { results := [], args := [] }

/-- 'deliberationlaw09.AttackFinds': WHATEVER THE INPUT: true; the input reads as it did. -/
def attackFindsSpec : ChangeSpec := { name := "attackFinds", fn := fun _ => fun
  | [d1, d2] => { results := [.lit (.bool true)], args := [d1, d2] }
  | _ => none }
def attackFindsRow : OpenClaim := { program := "ytofgcpbdgokpjaagreat", sum := "ff832e8f01bfedc01c2e94ada8c8793f517a25b7cfe12fdad1e4263685602f3e", func := "deliberation/deliberationlaw09.AttackFinds", spec := "attackFinds", unfollowed := true, recurses := true, apart := false }
def AttackFindsSaid : Prop := attackFindsRow.holds Tryz.pinned (OpenSpec.ofChange attackFindsSpec)

/-- ITS FALSE NEIGHBOUR: 'it returns false'. Refute it at one input. -/
def attackFindsWrong : ChangeSpec := { name := "attackFinds", fn := fun _ => fun
  | [d1, d2] => { results := [.lit (.bool false)], args := [d1, d2] }
  | _ => none }
def AttackFindsWrongFalsely : Prop := attackFindsRow.holds Tryz.pinned (OpenSpec.ofChange attackFindsWrong)

/-- 'deliberationlaw09.AttackGraphs': WHATEVER THE INPUT: true; the input reads as it did. -/
def attackGraphsSpec : ChangeSpec := { name := "attackGraphs", fn := fun _ => fun
  | [d1, d2, d3] => { results := [.lit (.bool true)], args := [d1, d2, d3] }
  | _ => none }
def attackGraphsRow : OpenClaim := { program := "ytofgcpbdgokpjaagreat", sum := "ff832e8f01bfedc01c2e94ada8c8793f517a25b7cfe12fdad1e4263685602f3e", func := "deliberation/deliberationlaw09.AttackGraphs", spec := "attackGraphs", unfollowed := true, recurses := true, apart := false }
def AttackGraphsSaid : Prop := attackGraphsRow.holds Tryz.pinned (OpenSpec.ofChange attackGraphsSpec)

/-- ITS FALSE NEIGHBOUR: 'it returns false'. Refute it at one input. -/
def attackGraphsWrong : ChangeSpec := { name := "attackGraphs", fn := fun _ => fun
  | [d1, d2, d3] => { results := [.lit (.bool false)], args := [d1, d2, d3] }
  | _ => none }
def AttackGraphsWrongFalsely : Prop := attackGraphsRow.holds Tryz.pinned (OpenSpec.ofChange attackGraphsWrong)

/-- 'deliberationlaw09.AttackWhole': WHATEVER THE INPUT: true; the input reads as it did. -/
def attackWholeSpec : ChangeSpec := { name := "attackWhole", fn := fun _ => fun
  | [d] => { results := [.lit (.bool true)], args := [d] }
  | _ => none }
def attackWholeRow : OpenClaim := { program := "ytofgcpbdgokpjaagreat", sum := "ff832e8f01bfedc01c2e94ada8c8793f517a25b7cfe12fdad1e4263685602f3e", func := "deliberation/deliberationlaw09.AttackWhole", spec := "attackWhole", unfollowed := true, recurses := true, apart := false }
def AttackWholeSaid : Prop := attackWholeRow.holds Tryz.pinned (OpenSpec.ofChange attackWholeSpec)

/-- ITS FALSE NEIGHBOUR: 'it returns false'. Refute it at one input. -/
def attackWholeWrong : ChangeSpec := { name := "attackWhole", fn := fun _ => fun
  | [d] => { results := [.lit (.bool false)], args := [d] }
  | _ => none }
def AttackWholeWrongFalsely : Prop := attackWholeRow.holds Tryz.pinned (OpenSpec.ofChange attackWholeWrong)

/-- 'deliberationlaw09.AttackFirm': WHATEVER THE INPUT: true; the input reads as it did. -/
def attackFirmSpec : ChangeSpec := { name := "attackFirm", fn := fun _ => fun
  | [d] => { results := [.lit (.bool true)], args := [d] }
  | _ => none }
def attackFirmRow : OpenClaim := { program := "ytofgcpbdgokpjaagreat", sum := "ff832e8f01bfedc01c2e94ada8c8793f517a25b7cfe12fdad1e4263685602f3e", func := "deliberation/deliberationlaw09.AttackFirm", spec := "attackFirm", unfollowed := true, recurses := true, apart := false }
def AttackFirmSaid : Prop := attackFirmRow.holds Tryz.pinned (OpenSpec.ofChange attackFirmSpec)

/-- ITS FALSE NEIGHBOUR: 'it returns false'. Refute it at one input. -/
def attackFirmWrong : ChangeSpec := { name := "attackFirm", fn := fun _ => fun
  | [d] => { results := [.lit (.bool false)], args := [d] }
  | _ => none }
def AttackFirmWrongFalsely : Prop := attackFirmRow.holds Tryz.pinned (OpenSpec.ofChange attackFirmWrong)

/-- 'deliberationlaw09.AttackBack': WHATEVER THE INPUT: true; the input reads as it did. -/
def attackBackSpec : ChangeSpec := { name := "attackBack", fn := fun _ => fun
  | [d] => { results := [.lit (.bool true)], args := [d] }
  | _ => none }
def attackBackRow : OpenClaim := { program := "ytofgcpbdgokpjaagreat", sum := "ff832e8f01bfedc01c2e94ada8c8793f517a25b7cfe12fdad1e4263685602f3e", func := "deliberation/deliberationlaw09.AttackBack", spec := "attackBack", unfollowed := true, recurses := true, apart := false }
def AttackBackSaid : Prop := attackBackRow.holds Tryz.pinned (OpenSpec.ofChange attackBackSpec)

/-- ITS FALSE NEIGHBOUR: 'it returns false'. Refute it at one input. -/
def attackBackWrong : ChangeSpec := { name := "attackBack", fn := fun _ => fun
  | [d] => { results := [.lit (.bool false)], args := [d] }
  | _ => none }
def AttackBackWrongFalsely : Prop := attackBackRow.holds Tryz.pinned (OpenSpec.ofChange attackBackWrong)

/-- 'deliberationlaw09.AttackAssumed': WHATEVER THE INPUT: true; the input reads as it did. -/
def attackAssumedSpec : ChangeSpec := { name := "attackAssumed", fn := fun _ => fun
  | [d] => { results := [.lit (.bool true)], args := [d] }
  | _ => none }
def attackAssumedRow : OpenClaim := { program := "ytofgcpbdgokpjaagreat", sum := "ff832e8f01bfedc01c2e94ada8c8793f517a25b7cfe12fdad1e4263685602f3e", func := "deliberation/deliberationlaw09.AttackAssumed", spec := "attackAssumed", unfollowed := true, recurses := true, apart := false }
def AttackAssumedSaid : Prop := attackAssumedRow.holds Tryz.pinned (OpenSpec.ofChange attackAssumedSpec)

/-- ITS FALSE NEIGHBOUR: 'it returns false'. Refute it at one input. -/
def attackAssumedWrong : ChangeSpec := { name := "attackAssumed", fn := fun _ => fun
  | [d] => { results := [.lit (.bool false)], args := [d] }
  | _ => none }
def AttackAssumedWrongFalsely : Prop := attackAssumedRow.holds Tryz.pinned (OpenSpec.ofChange attackAssumedWrong)

/- THE SECOND FORM. 'bulk': how many values and letters a reading holds, each counted each time it is reached (what is shared counts as often as it is met; a slice's spare places count too). A statement '..UptoSaid' is the law's where the arguments, and the package variables that the reading takes, are together of bulk at most 1048576: NARROWER than '..Said'. Prove '..Said' where nothing that the law and all that it calls make is longer than what came in: it says more and counts as full. Else prove '..UptoSaid'. A law counts once. -/
mutual
def uptoBulk {H : Type} : DataW H → Nat
  | .lit (.string bytes) => bytes.length + 1
  | .lit _ => 1
  | .nil => 1
  | .ptr d => uptoBulk d + 1
  | .slice elems spare => uptoBulkAll elems + uptoBulkAll spare + 1
  | .agg parts => uptoBulkAll parts + 1
  | .iface _ d => uptoBulk d + 1
  | .map entries => uptoBulkEntries entries + 1
  | .held _ => 1
def uptoBulkAll {H : Type} : List (DataW H) → Nat
  | [] => 0
  | d :: r => uptoBulk d + uptoBulkAll r
def uptoBulkEntries {H : Type} : List (Lit × DataW H) → Nat
  | [] => 0
  | x :: r => uptoBulkEntry x + uptoBulkEntries r
def uptoBulkEntry {H : Type} : Lit × DataW H → Nat
  | (.string bytes, d) => bytes.length + uptoBulk d + 1
  | (_, d) => uptoBulk d + 1
 end
def uptoSmall : (H : Type) → List (DataW H) → Bool := fun _ ds => decide (uptoBulkAll ds ≤ 1048576)
def OpenSpec.upto (s : _root_.Go.ChangeSpec) : _root_.Go.OpenSpec := { _root_.Go.OpenSpec.ofChange s with cond := some uptoSmall }

/-- 'deliberationlaw09.AttackFinds', WHERE WHAT IT READS IS OF BULK AT MOST 1048576: true; the input reads as it did. -/
def attackFindsUptoRow : OpenClaim := { program := "ytofgcpbdgokpjaagreat", sum := "ff832e8f01bfedc01c2e94ada8c8793f517a25b7cfe12fdad1e4263685602f3e", func := "deliberation/deliberationlaw09.AttackFinds", spec := "attackFinds", unfollowed := true, recurses := true, apart := false, narrowed := true }
def AttackFindsUptoSaid : Prop := attackFindsUptoRow.holds Tryz.pinned (OpenSpec.upto attackFindsSpec)

/-- 'deliberationlaw09.AttackGraphs', WHERE WHAT IT READS IS OF BULK AT MOST 1048576: true; the input reads as it did. -/
def attackGraphsUptoRow : OpenClaim := { program := "ytofgcpbdgokpjaagreat", sum := "ff832e8f01bfedc01c2e94ada8c8793f517a25b7cfe12fdad1e4263685602f3e", func := "deliberation/deliberationlaw09.AttackGraphs", spec := "attackGraphs", unfollowed := true, recurses := true, apart := false, narrowed := true }
def AttackGraphsUptoSaid : Prop := attackGraphsUptoRow.holds Tryz.pinned (OpenSpec.upto attackGraphsSpec)

/-- 'deliberationlaw09.AttackWhole', WHERE WHAT IT READS IS OF BULK AT MOST 1048576: true; the input reads as it did. -/
def attackWholeUptoRow : OpenClaim := { program := "ytofgcpbdgokpjaagreat", sum := "ff832e8f01bfedc01c2e94ada8c8793f517a25b7cfe12fdad1e4263685602f3e", func := "deliberation/deliberationlaw09.AttackWhole", spec := "attackWhole", unfollowed := true, recurses := true, apart := false, narrowed := true }
def AttackWholeUptoSaid : Prop := attackWholeUptoRow.holds Tryz.pinned (OpenSpec.upto attackWholeSpec)

/-- 'deliberationlaw09.AttackFirm', WHERE WHAT IT READS IS OF BULK AT MOST 1048576: true; the input reads as it did. -/
def attackFirmUptoRow : OpenClaim := { program := "ytofgcpbdgokpjaagreat", sum := "ff832e8f01bfedc01c2e94ada8c8793f517a25b7cfe12fdad1e4263685602f3e", func := "deliberation/deliberationlaw09.AttackFirm", spec := "attackFirm", unfollowed := true, recurses := true, apart := false, narrowed := true }
def AttackFirmUptoSaid : Prop := attackFirmUptoRow.holds Tryz.pinned (OpenSpec.upto attackFirmSpec)

/-- 'deliberationlaw09.AttackBack', WHERE WHAT IT READS IS OF BULK AT MOST 1048576: true; the input reads as it did. -/
def attackBackUptoRow : OpenClaim := { program := "ytofgcpbdgokpjaagreat", sum := "ff832e8f01bfedc01c2e94ada8c8793f517a25b7cfe12fdad1e4263685602f3e", func := "deliberation/deliberationlaw09.AttackBack", spec := "attackBack", unfollowed := true, recurses := true, apart := false, narrowed := true }
def AttackBackUptoSaid : Prop := attackBackUptoRow.holds Tryz.pinned (OpenSpec.upto attackBackSpec)

/-- 'deliberationlaw09.AttackAssumed', WHERE WHAT IT READS IS OF BULK AT MOST 1048576: true; the input reads as it did. -/
def attackAssumedUptoRow : OpenClaim := { program := "ytofgcpbdgokpjaagreat", sum := "ff832e8f01bfedc01c2e94ada8c8793f517a25b7cfe12fdad1e4263685602f3e", func := "deliberation/deliberationlaw09.AttackAssumed", spec := "attackAssumed", unfollowed := true, recurses := true, apart := false, narrowed := true }
def AttackAssumedUptoSaid : Prop := attackAssumedUptoRow.holds Tryz.pinned (OpenSpec.upto attackAssumedSpec)

end Rows
end Go.Proofs.YtofgcpbdgokpjaaGreat
