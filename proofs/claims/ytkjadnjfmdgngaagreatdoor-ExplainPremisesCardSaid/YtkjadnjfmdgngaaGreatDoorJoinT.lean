/- Part of the proof. Conditions: none. -/
import Derived.Test.YtkjadnjfmdgngaaGreatDoorJoin
import Derived.Test.YtkjadnjfmdgngaaGreatDoorOps4
import Derived.Lib.LaidU8
import Derived.Lib.LaidTab
import Derived.LaidMore
import Derived.LaidLaws
import Derived.Stop.Joined
namespace Go.GD
open Go Go.RowKit
set_option autoImplicit false
variable {qd : Prop}
theorem zUc (k : IntKind) (Z : List Nat) (w : World) : ∀ zs : List Int, (zF k).rdL Z w (zs.map fun z => Value.int k z) zs
 | [] => rfl
 | z :: zs => ⟨[.int k z], zs.map fun z => Value.int k z, rfl, rfl, zUc k Z w zs⟩
theorem pt_tab {W : World} {g n : Nat} {k : IntKind} {zs : List Int} (hc : ∀ i, i < zs.length → W.cell? ⟨g, i, none⟩ = some (.int k (zs.getD i 0))) (hn : zs.length = n) (h0 : 0 < n) : (Pt (yS n (zF k)) g 0 zs).h [] W := by
 refine ⟨g, 0, zs.map fun z => Value.int k z, rfl, by simp, ?_, ⟨hn, zUc k [] W zs⟩, fun j u hu => ?_⟩
 ·have h := hc 0 (by omega)
  by_cases hb : g < W.heap.size
  ·exact hb
  ·simp [World.cell?, Array.getElem?_eq_none (Nat.le_of_not_lt hb)] at h
 ·rw [List.getElem?_map] at hu
  cases hz : zs[j]? with
  | none => rw [hz] at hu; cases hu
  | some z =>
   rw [hz] at hu
   have hj := (List.getElem?_eq_some_iff.1 hz).1
   rw [Nat.zero_add, hc j hj, ← hu, List.getD_eq_getElem?_getD, hz]
   rfl
theorem zVp {P : Program} {W : World} {name : String} {k : IntKind} {zs : List Int} {g : Nat} {t e : TypeId} {n : Nat}
  (hg : P.globalNamed name = some g) (hty : (P.globals[g]?).map (·.type) = some t) (ht : P.underlying t = some (.array n e)) (he : P.underlying e = some (.int k)) (hce : P.cellsOf e = 1) (hct : P.cellsOf t = n)
  (h : Lib.VarReads P W name (Lib.tabData k zs)) : Lib.TabIs P W name k zs := by
 obtain ⟨g', t', cs, fuel, p, hg', ht', hvar, hd⟩ := h
 obtain rfl := Option.some.inj (hg.symm.trans hg')
 obtain rfl := Option.some.inj (hty.symm.trans ht')
 unfold Lib.TabIs
 rw [hvar, ← Lib.cells_of_tab ht he hce hct hd]
end Go.GD
