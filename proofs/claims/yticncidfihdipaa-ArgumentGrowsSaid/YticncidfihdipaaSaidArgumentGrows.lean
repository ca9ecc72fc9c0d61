/- The statement ArgumentGrows: for every input the law returns true and leaves its arguments as they were. Conditions: none. -/
import Derived.Test.YticncidfihdipaaRows
import Derived.Test.YticncidfihdipaaWalk
import Derived.Test.YticncidfihdipaaJoin
import Derived.Test.YticncidfihdipaaPl2
namespace Go.Proofs.Yticncidfihdipaa.saidArgumentGrows
open Go Go.GD Go.RowKit Go.ChangeShapes Go.WideShapes Go.ChangeAt
set_option autoImplicit false
set_option maxRecDepth 100000

theorem own : ownKnob Try.prog.godebug = none := by kernel_rfl
theorem laidOut : laidOutB Try.prog = true := by kernel_rfl
theorem rd3 : Rd Try.prog 3 (eInt .i64) (wInt .i64) := Rd.int Try.underlying3 (by kernel_rfl)
theorem rd22 : Rd Try.prog 22 (eSlice (eInt .i64)) (wList (wInt .i64)) := Rd.slice Try.underlying22 (by kernel_rfl) rd3

theorem contract (H : Type) (enc : TypeId × Value → H) (W : World) (base : Nat) (args : Array Value) (ds gs : List (DataW H)) (before : List MemPlace)
    (hval : ∀ (j : Nat) t v, Try.f7.params[j]? = some t → args[j]? = some v → Value.okWide Try.prog W .any base t v)
    (hW : DataW.Whole enc Try.prog Try.f7.params.toList Rows.argumentGrowsSpec.vars false W args.toList ds gs before) :
    Calls Try.prog 7 args W fun e W' => ∃ v, e = .returned v ∧ Rows.argumentGrowsSpec.post enc Try.prog Try.f7 false true false false W args v W' := by
  have hW' := hW
  obtain ⟨p, q, hA0, hV, hp, _, _⟩ := hW
  have hA : DataW.TrodAll enc Try.prog W 0 (fun _ => true) true Try.f7.params.toList args.toList ds p := hA0
  rw [Try.params7] at hA hval
  obtain ⟨v0, vs0, d0, ds0, p0, q0, hargs, rfl, rfl, h0, r0⟩ := trodAll_cons hA
  obtain ⟨rfl, rfl, rfl⟩ := trodAll_nil r0
  obtain rfl : args = #[v0] := by cases args; simp_all
  obtain ⟨rfl, rfl⟩ := trodVars_none hV
  rw [List.append_nil] at hp
  obtain ⟨_, _, y0, rfl, f1, w0⟩ := v_slice Try.underlying22 rd22 (hval 0 22 v0 rfl rfl) h0
  refine ((c_law07_ArgumentGrows (y0 := y0)).go [] W _ (p_law07_ArgumentGrows y0 w0) (Own.start (by simp)) ⟨R.of f1, trivial⟩).mono fun e W' he => ?_
  cases e with
  | panicked ch => exact he.elim
  | outgrown => exact he.elim
  | returned v =>
    obtain ⟨rfl, hb⟩ : v = vb true ∧ Bk _ _ _ _ _ _ := he _ fun h => h
    exact ⟨_, rfl, law_post hW' hA0 hp rfl rfl rfl rfl rfl Try.underlying4 laidOut (by kernel_rfl) hb.e⟩

set_option maxRecDepth 100000 in
theorem lifted (os : Os) (started : os.Started) (H : Type) (enc : TypeId × Value → H) :
    ReturnsInHanded {} Try.checked os 7 .any (Rows.argumentGrowsSpec.pre6 enc Try.prog Try.f7 Rows.argumentGrowsRow.domain false) (Rows.argumentGrowsSpec.post enc Try.prog Try.f7 false true false false) := by
  refine returnsInHanded_of_change (C := Try.checked) own started (by kernel_rfl) Try.func7
    (ChangeSpec.witness6 (enc := enc) (C := Try.checked) false ⟨#[], #[.slice none 0 0], []⟩ 8 (by kernel_rfl) (by kernel_rfl) (by kernel_rfl) (by kernel_rfl)) ?_
  intro W base args ds gs before hval hW _ _
  exact contract H enc W base args ds gs before hval hW

theorem proved : Rows.ArgumentGrowsSaid :=
  OpenClaim.holds_of_wide 7 Try.f7 rfl rfl rfl rfl rfl rfl rfl ⟨rfl, rfl, rfl, rfl, rfl⟩ rfl rfl rfl rfl rfl (by kernel_rfl) Try.func7 (by kernel_rfl)
    (of_decide_eq_true (by kernel_rfl)) (by unfold Func.isWrapper; first | (rw [if_pos (by decide +kernel)]; kernel_rfl) | (rw [if_neg (by decide +kernel)]; exact ⟨rfl, rfl⟩))
    (fun os started H enc _ => lifted os started H enc)
end Go.Proofs.Yticncidfihdipaa.saidArgumentGrows
namespace Go.Proofs.Yticncidfihdipaa
theorem x_ArgumentGrows : Rows.ArgumentGrowsSaid := saidArgumentGrows.proved
end Go.Proofs.Yticncidfihdipaa
