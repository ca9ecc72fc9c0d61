/- What is read off them; no function starts a goroutine. Conditions: none. -/
import Derived.Test.YtkmalbjjjappgaaGreatDoorFca
import Derived.Test.YtkmalbjjjappgaaGreatDoorCards
namespace Go.Proofs.YtkmalbjjjappgaaGreatDoor
open Go
set_option maxRecDepth 100000
theorem fc1 : (Rows.scriptBackRow.inPlace == Tryz.pinned.checked.prog.inPlace 3) = true := by
  unfold Program.inPlace
  rw [clo]
  kernel_rfl
theorem fc2 : Tryz.pinned.checked.prog.unfollowed 3 = true := by
  unfold Program.unfollowed
  rw [clo]
  kernel_rfl
theorem fc3 : (Rows.scriptBackRow.recurses == Tryz.pinned.checked.prog.recurses 3) = true := by
  unfold Program.recurses
  rw [fc2, Bool.true_or]
  kernel_rfl
theorem fc4 : (Rows.scriptBackRow.named == Tryz.pinned.checked.prog.varsNamed 3) = true := by
  unfold Program.varsNamed
  rw [clo]
  kernel_rfl
theorem goes_no {P : Program} (h : P.funcs.any Func.goes = false) (f : FuncId) : P.goes f = false := by
  unfold Program.goes
  rw [h, Bool.and_false, Bool.or_false, List.any_eq_false]
  intro g _
  cases hg : P.funcs[g]? with
  | none => simp
  | some fn =>
    obtain ⟨hl, rfl⟩ := Array.getElem?_eq_some_iff.1 hg
    rw [Array.any_eq_false] at h
    simpa using h g hl
theorem fc5 : Tryz.pinned.checked.prog.funcs.any Func.goes = false := by kernel_rfl
theorem fc6 : false = Rows.scriptBackRow.goesBy Tryz.pinned.checked.prog := by
  unfold OpenClaim.goesBy Program.goesAt Program.goesFrom
  cases Tryz.pinned.checked.prog.funcNamed Rows.scriptBackRow.func with
  | none => rfl
  | some f => rw [Option.any_some, goes_no fc5]; rfl
end Go.Proofs.YtkmalbjjjappgaaGreatDoor
