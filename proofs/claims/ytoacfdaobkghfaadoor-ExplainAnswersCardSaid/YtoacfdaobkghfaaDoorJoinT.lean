/- Tables of package level: from the condition of a tied row to the fact that a walk keeps. Conditions: none. -/
import Derived.Test.YtoacfdaobkghfaaDoorJoin
import Derived.Test.YtoacfdaobkghfaaDoorGlob
import Derived.Lib.LaidTab
import Derived.LaidMore
import Derived.LaidLaws
import Derived.Stop.Joined
namespace Go.GD
open Go Go.RowKit
set_option autoImplicit false

theorem rdL_ints (k : IntKind) (Z : List Nat) (w : World) : ∀ zs : List Int, (eInt k).rdL Z w (zs.map fun z => Value.int k z) zs
  | [] => rfl
  | z :: zs => ⟨[.int k z], zs.map fun z => Value.int k z, rfl, rfl, rdL_ints k Z w zs⟩
/-- a table of integers -/
theorem pt_tab {W : World} {g n : Nat} {k : IntKind} {zs : List Int} (hc : ∀ i, i < zs.length → W.cell? ⟨g, i, none⟩ = some (.int k (zs.getD i 0))) (hn : zs.length = n) (h0 : 0 < n) : (Pt (eArr n (eInt k)) g 0 zs).h [] W := by
  refine ⟨g, 0, zs.map fun z => Value.int k z, rfl, by simp, ?_, ⟨hn, rdL_ints k [] W zs⟩, fun j u hu => ?_⟩
  · have h := hc 0 (by omega)
    by_cases hb : g < W.heap.size
    · exact hb
    · simp [World.cell?, Array.getElem?_eq_none (Nat.le_of_not_lt hb)] at h
  · rw [List.getElem?_map] at hu
    cases hz : zs[j]? with
    | none => rw [hz] at hu; cases hu
    | some z =>
      rw [hz] at hu
      have hj := (List.getElem?_eq_some_iff.1 hz).1
      rw [Nat.zero_add, hc j hj, ← hu, List.getD_eq_getElem?_getD, hz]
      rfl

end Go.GD
