/- The statement ArgumentParts: for every input the law returns true and leaves its arguments as they were. Conditions: none. -/
import Derived.Test.YticncidfihdipaaGreatRows
import Derived.Test.YticncidfihdipaaGreatWalk
import Derived.Test.YticncidfihdipaaGreatJoin
import Derived.Test.YticncidfihdipaaGreatPl1
namespace Go.Proofs.YticncidfihdipaaGreat.saidArgumentParts
open Go Go.GD Go.RowKit Go.ChangeShapes Go.WideShapes Go.ChangeAt
set_option autoImplicit false
set_option maxRecDepth 100000

theorem own : ownKnob Tryz.prog.godebug = none := by kernel_rfl
theorem laidOut : laidOutB Tryz.prog = true := by kernel_rfl
theorem rd3 : Rd Tryz.prog 3 (eInt .i64) (wInt .i64) := Rd.int Tryz.underlying3 (by kernel_rfl)
theorem rd22 : Rd Tryz.prog 22 (eSlice (eInt .i64)) (wList (wInt .i64)) := Rd.slice Tryz.underlying22 (by kernel_rfl) rd3

theorem contract (H : Type) (enc : TypeId × Value → H) (W : World) (base : Nat) (args : Array Value) (ds gs : List (DataW H)) (before : List MemPlace)
    (hval : ∀ (j : Nat) t v, Tryz.f3.params[j]? = some t → args[j]? = some v → Value.okWide Tryz.prog W .any base t v)
    (hW : DataW.Whole enc Tryz.prog Tryz.f3.params.toList Rows.argumentPartsSpec.vars false W args.toList ds gs before) :
    Calls Tryz.prog 3 args W fun e W' => ∃ v, e = .returned v ∧ Rows.argumentPartsSpec.post enc Tryz.prog Tryz.f3 false true false false W args v W' := by
  have hW' := hW
  obtain ⟨p, q, hA0, hV, hp, _, _⟩ := hW
  have hA : DataW.TrodAll enc Tryz.prog W 0 (fun _ => true) true Tryz.f3.params.toList args.toList ds p := hA0
  rw [Tryz.params3] at hA hval
  obtain ⟨v0, vs0, d0, ds0, p0, q0, hargs, rfl, rfl, h0, r0⟩ := trodAll_cons hA
  obtain ⟨v1, vs1, d1, ds1, p1, q1, rfl, rfl, rfl, h1, r1⟩ := trodAll_cons r0
  obtain ⟨v2, vs2, d2, ds2, p2, q2, rfl, rfl, rfl, h2, r2⟩ := trodAll_cons r1
  obtain ⟨rfl, rfl, rfl⟩ := trodAll_nil r2
  obtain rfl : args = #[v0, v1, v2] := by cases args; simp_all
  obtain ⟨rfl, rfl⟩ := trodVars_none hV
  rw [List.append_nil] at hp
  obtain ⟨_, _, y0, rfl, f1, w0⟩ := v_slice Tryz.underlying22 rd22 (hval 0 22 v0 rfl rfl) h0
  obtain ⟨_, _, y1, rfl, f2, w1⟩ := v_slice Tryz.underlying22 rd22 (hval 1 22 v1 rfl rfl) h1
  obtain ⟨y2, rfl, w2⟩ := v_int Tryz.underlying3 (hval 2 3 v2 rfl rfl) h2
  refine ((c_law07_ArgumentParts (y0 := y0) (y1 := y1) (y2 := y2)).go [] W _ (p_law07_ArgumentParts y0 y1 y2 w0 w1 w2) (Own.start (by simp)) ⟨R.of f1, R.of f2, trivial⟩).mono fun e W' he => ?_
  cases e with
  | panicked ch => exact he.elim
  | outgrown => exact he.elim
  | returned v =>
    obtain ⟨rfl, hb⟩ : v = vb true ∧ Bk _ _ _ _ _ _ := he _ fun h => h
    exact ⟨_, rfl, law_post hW' hA0 hp rfl rfl rfl rfl rfl Tryz.underlying4 laidOut (by kernel_rfl) hb.e⟩

set_option maxRecDepth 100000 in
theorem lifted (os : Os) (started : os.Started) (H : Type) (enc : TypeId × Value → H) :
    ReturnsInHanded {} Tryz.checked os 3 .any (Rows.argumentPartsSpec.pre6 enc Tryz.prog Tryz.f3 Rows.argumentPartsRow.domain false) (Rows.argumentPartsSpec.post enc Tryz.prog Tryz.f3 false true false false) := by
  refine returnsInHanded_of_change (C := Tryz.checked) own started (by kernel_rfl) Tryz.func3
    (ChangeSpec.witness6 (enc := enc) (C := Tryz.checked) false ⟨#[], #[.slice none 0 0, .slice none 0 0, .int .i64 0], []⟩ 8 (by kernel_rfl) (by kernel_rfl) (by kernel_rfl) (by kernel_rfl)) ?_
  intro W base args ds gs before hval hW _ _
  exact contract H enc W base args ds gs before hval hW

theorem proved : Rows.ArgumentPartsSaid :=
  OpenClaim.holds_of_wide 3 Tryz.f3 rfl rfl rfl rfl rfl rfl rfl ⟨rfl, rfl, rfl, rfl, rfl⟩ rfl rfl rfl rfl rfl (by kernel_rfl) Tryz.func3 (by kernel_rfl)
    (of_decide_eq_true (by kernel_rfl)) (by unfold Func.isWrapper; first | (rw [if_pos (by decide +kernel)]; kernel_rfl) | (rw [if_neg (by decide +kernel)]; exact ⟨rfl, rfl⟩))
    (fun os started H enc _ => lifted os started H enc)
end Go.Proofs.YticncidfihdipaaGreat.saidArgumentParts
namespace Go.Proofs.YticncidfihdipaaGreat
theorem x_ArgumentParts : Rows.ArgumentPartsSaid := saidArgumentParts.proved
end Go.Proofs.YticncidfihdipaaGreat
