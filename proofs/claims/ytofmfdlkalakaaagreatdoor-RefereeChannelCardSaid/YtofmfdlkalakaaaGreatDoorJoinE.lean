/- Variables of package level that hold an error: from the condition of a tied row to the fact that a walk keeps. Conditions: none. -/
import Derived.Test.YtofmfdlkalakaaaGreatDoorJoinT
import Derived.Test.YtofmfdlkalakaaaGreatDoorSb4
namespace Go.GD
open Go Go.RowKit
set_option autoImplicit false

theorem trod_iface {P : Program} {w : World} {b : Nat} {sp : Nat → Bool} {hl : Bool} {fuel : Nat} {t : TypeId} {ms : Array (String × TypeId)} {cs : List Value} {d : DataW Unit} {p : List MemPlace}
    (ht : P.underlying t = some (.interface ms)) (h : DataW.trod (fun _ => ()) P w b sp hl fuel t cs = some (d, p)) : ∃ ev, cs = [ev] ∧ (ev = .nilIface ∨ ∃ te pe, ev = .iface te pe) := by
  cases fuel with
  | zero => simp [DataW.trod] at h
  | succ f =>
    simp only [DataW.trod, ht] at h
    split at h <;> first
      | exact ⟨_, rfl, .inl rfl⟩
      | exact ⟨_, rfl, .inr ⟨_, _, rfl⟩⟩
      | simp_all
/-- an error, or nil -/
theorem gve_of {P : Program} {W : World} {name : String} {d : DataW Unit} {g : Nat} {t : TypeId} {ms : Array (String × TypeId)}
    (hg : P.globalNamed name = some g) (hty : (P.globals[g]?).map (·.type) = some t) (ht : P.underlying t = some (.interface ms))
    (h : Lib.VarReads P W name d) : (Gve g).h [] W := by
  obtain ⟨g', t', cs, fuel, p, hg', ht', hvar, hd⟩ := h
  obtain rfl := Option.some.inj (hg.symm.trans hg')
  obtain rfl := Option.some.inj (hty.symm.trans ht')
  obtain ⟨ev, hcs, hev⟩ := trod_iface ht hd
  have hc : cs[0]? = some ev := by
    rw [← Array.getElem?_toList, hcs]; rfl
  refine ⟨by simp, ev, ?_, hev⟩
  unfold World.var? at hvar
  rw [hg] at hvar
  simp only [Option.bind_some] at hvar
  split at hvar
  · rename_i cs' _ _ hh
    cases hvar
    simp [World.cell?, hh, hc]
  · cases hvar
end Go.GD
