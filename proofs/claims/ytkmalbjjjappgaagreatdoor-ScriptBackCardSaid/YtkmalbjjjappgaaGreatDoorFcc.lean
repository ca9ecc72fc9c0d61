/- The closed facts of the row. Conditions: none. -/
import Derived.Test.YtkmalbjjjappgaaGreatDoorFcb
import Derived.JoinedOf
namespace Go.Proofs.YtkmalbjjjappgaaGreatDoor
open Go
set_option maxRecDepth 100000
theorem fc7 : joinedFacts Tryz.pinned.checked.prog 3 Tryz.f3 Rows.scriptBackSpec Rows.scriptBackRow = true := by
  unfold joinedFacts
  have h2 : (Rows.scriptBackRow.unfollowed == Tryz.pinned.checked.prog.unfollowed 3) = true := by rw [fc2]; rfl
  rw [fc1, h2, fc3, fc4]
  exact of_decide_eq_true (by kernel_rfl)
end Go.Proofs.YtkmalbjjjappgaaGreatDoor
