/- A part. Conditions: none. -/
import Derived.Test.YtplpdfimlnppcaaGreatDoorJoin
import Derived.Test.YtplpdfimlnppcaaGreatDoorOps4
import Derived.Lib.LaidU8
import Derived.Lib.LaidTab
import Derived.LaidMore
import Derived.LaidLaws
import Derived.Stop.Joined
namespace Go.GD
open Go Go.RowKit
set_option autoImplicit false
variable {qd : Prop}
theorem z0C (k : IntKind) (Z : List Nat) (w : World) : ∀ zs : List Int, (zK k).rdL Z w (zs.map fun z => Value.int k z) zs
 | [] => rfl
 | z :: zs => ⟨[.int k z], zs.map fun z => Value.int k z, rfl, rfl, z0C k Z w zs⟩
theorem pt_tab {W : World} {g n : Nat} {k : IntKind} {zs : List Int} (hc : ∀ i, i < zs.length → W.cell? ⟨g, i, none⟩ = some (.int k (zs.getD i 0))) (hn : zs.length = n) (h0 : 0 < n) : (Pt (yH n (zK k)) g 0 zs).h [] W := by
 refine ⟨g, 0, zs.map fun z => Value.int k z, rfl, by simp, ?_, ⟨hn, z0C k [] W zs⟩, fun j u hu => ?_⟩
 ·have h := hc 0 (by omega)
  by_cases hb : g < W.heap.size
  ·exact hb
  ·simp [World.cell?, Array.getElem?_eq_none (Nat.le_of_not_lt hb)] at h
 ·rw [List.getElem?_map] at hu
  cases hz : zs[j]? with
  | none => rw [hz] at hu; cases hu
  | some z =>
   rw [hz] at hu
   have hj := (List.getElem?_eq_some_iff.1 hz).1
   rw [Nat.zero_add, hc j hj, ← hu, List.getD_eq_getElem?_getD, hz]
   rfl
theorem zUP {P : Program} {W : World} {name : String} {k : IntKind} {zs : List Int} {g : Nat} {t e : TypeId} {n : Nat}
  (hg : P.globalNamed name = some g) (hty : (P.globals[g]?).map (·.type) = some t) (ht : P.underlying t = some (.array n e)) (he : P.underlying e = some (.int k)) (hce : P.cellsOf e = 1) (hct : P.cellsOf t = n)
  (h : Lib.VarReads P W name (Lib.tabData k zs)) : Lib.TabIs P W name k zs := by
 obtain ⟨g', t', cs, fuel, p, hg', ht', hvar, hd⟩ := h
 obtain rfl := Option.some.inj (hg.symm.trans hg')
 obtain rfl := Option.some.inj (hty.symm.trans ht')
 unfold Lib.TabIs
 rw [hvar, ← Lib.cells_of_tab ht he hce hct hd]
theorem tb_of {P : Program} {W : World} {name : String} {k : IntKind} {zs : List Int} {g : Nat} (hg : P.globalNamed name = some g) (h : Lib.TabIs P W name k zs) : (Tb P name k zs).h [] W := by
 refine ⟨g, hg, by simp, ?_, h⟩
 unfold Lib.TabIs World.var? at h
 rw [hg] at h
 by_cases hb : g < W.heap.size
 ·exact hb
 ·simp [Array.getElem?_eq_none (Nat.le_of_not_lt hb)] at h
theorem wt_of {W : World} {g : Nat} (h : Lib.WhiteTab g W) : (Wt g).h [] W := by
 obtain ⟨T, oT, R, oR, h⟩ := h
 exact ⟨T, oT, R, oR, ⟨by simp, by simp, by simp⟩, h⟩
theorem z6X {P : Program} {W : World} {name : String} {ss : List qD} {g : Nat} {t e : TypeId} {n : Nat}
  (hg : P.globalNamed name = some g) (hty : (P.globals[g]?).map (·.type) = some t) (ht : P.underlying t = some (.array n e)) (he : P.underlying e = some .string) (hce : P.cellsOf e = 1) (hn : ss.length = n) (h0 : 0 < n)
  (h : Lib.VarReads P W name (.agg (ss.map fun s => .lit (.string s)))) : (Pt (yH n vK) g 0 ss).h [] W := by
 obtain ⟨g', t', cs, fuel, p, hg', ht', hvar, hd⟩ := h
 obtain rfl := Option.some.inj (hg.symm.trans hg')
 obtain rfl := Option.some.inj (hty.symm.trans ht')
 have hcell : ∀ i s, ss[i]? = some s → W.cell? ⟨g, i, none⟩ = some (.string ⟨⟨s⟩⟩) := fun i s hs => by
  have hi : i < n := by have := (List.getElem?_eq_some_iff.1 hs).1; omega
  obtain ⟨f2, d, q, h1, h2⟩ := Lib.array_elem ht hd i hi
  have hds : d = .lit (.string s) := by
   rw [List.getElem?_map, hs] at h1
   exact (Option.some.inj h1).symm
  subst hds
  rw [hce, Nat.mul_one] at h2
  have hv : (cs.toList.drop i).take 1 = [.string ⟨⟨s⟩⟩] := by
   cases f2 with
   | zero => simp [DataW.trod] at h2
   | succ f2 =>
    generalize (cs.toList.drop i).take 1 = l at h2
    simp only [DataW.trod, he] at h2
    split at h2 <;> simp_all
    obtain ⟨_, h3, _⟩ := h2
    rw [← h3]
  have hc : cs[i]? = some (.string ⟨⟨s⟩⟩) := by
   have := congrArg (·[0]?) hv
   simpa [List.getElem?_take, List.getElem?_drop] using this
  unfold World.var? at hvar
  rw [hg] at hvar
  simp only [zob] at hvar
  split at hvar
  ·rename_i cs' _ _ hh
   cases hvar
   simp [World.cell?, hh, hc]
  ·cases hvar
 refine ⟨g, 0, ss.map fun s => Value.string ⟨⟨s⟩⟩, rfl, by simp, ?_, ⟨hn, zW8 ss⟩, fun j u hu => ?_⟩
 ·obtain ⟨s, hs⟩ : ∃ s, ss[0]? = some s := ⟨ss[0], by simp⟩
  exact World.block_lt_of_cell? W _ (hcell 0 s hs)
 ·rw [List.getElem?_map] at hu
  obtain ⟨s, hs, rfl⟩ := Option.map_eq_some_iff.1 hu
  rw [Nat.zero_add]
  exact hcell j s hs
end Go.GD
