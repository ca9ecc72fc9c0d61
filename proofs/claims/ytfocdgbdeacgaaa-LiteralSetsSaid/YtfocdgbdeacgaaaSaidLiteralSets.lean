/- The statement LiteralSets: for every input the law returns true and leaves its arguments as they were. Conditions: none. -/
import Derived.Test.YtfocdgbdeacgaaaRows
import Derived.Test.YtfocdgbdeacgaaaWalk
import Derived.Test.YtfocdgbdeacgaaaJoin
import Derived.Test.YtfocdgbdeacgaaaLawLit2
namespace Go.Proofs.Ytfocdgbdeacgaaa.saidLiteralSets
open Go Go.GD Go.RowKit Go.ChangeShapes Go.WideShapes Go.ChangeAt
set_option autoImplicit false

theorem own : ownKnob Try.prog.godebug = none := by kernel_rfl
theorem laidOut : laidOutB Try.prog = true := by kernel_rfl
theorem rd4 : Rd Try.prog 4 eBool wBool := Rd.bool Try.underlying4 (by kernel_rfl)
theorem rd9 : Rd Try.prog 9 eStr wStr := Rd.str Try.underlying9 (by kernel_rfl)
theorem rd23 : Rd Try.prog 23 e_Literal (wProd wBool wStr) := Rd.struct Try.underlying23 (RdFs.cons rd4 rfl (RdFs.last rd9 rfl)) (by kernel_rfl)
theorem rd29 : Rd Try.prog 29 (eSlice e_Literal) (wList (wProd wBool wStr)) := Rd.slice Try.underlying29 (by kernel_rfl) rd23
theorem rd3 : Rd Try.prog 3 (eInt .i64) (wInt .i64) := Rd.int Try.underlying3 (by kernel_rfl)
theorem rd24 : Rd Try.prog 24 (eSlice (eInt .i64)) (wList (wInt .i64)) := Rd.slice Try.underlying24 (by kernel_rfl) rd3

theorem contract (H : Type) (enc : TypeId × Value → H) (W : World) (base : Nat) (args : Array Value) (ds gs : List (DataW H)) (before : List MemPlace)
    (hval : ∀ (j : Nat) t v, Try.f8.params[j]? = some t → args[j]? = some v → Value.okWide Try.prog W .any base t v)
    (hW : DataW.Whole enc Try.prog Try.f8.params.toList Rows.literalSetsSpec.vars false W args.toList ds gs before) :
    Calls Try.prog 8 args W fun e W' => ∃ v, e = .returned v ∧ Rows.literalSetsSpec.post enc Try.prog Try.f8 false true false false W args v W' := by
  have hW' := hW
  obtain ⟨p, q, hA0, hV, hp, _, _⟩ := hW
  have hA : DataW.TrodAll enc Try.prog W 0 (fun _ => true) true Try.f8.params.toList args.toList ds p := hA0
  rw [Try.params8] at hA hval
  obtain ⟨v0, vs0, d0, ds0, p0, q0, hargs, rfl, rfl, h0, r0⟩ := trodAll_cons hA
  obtain ⟨v1, vs1, d1, ds1, p1, q1, rfl, rfl, rfl, h1, r1⟩ := trodAll_cons r0
  obtain ⟨v2, vs2, d2, ds2, p2, q2, rfl, rfl, rfl, h2, r2⟩ := trodAll_cons r1
  obtain ⟨rfl, rfl, rfl⟩ := trodAll_nil r2
  obtain rfl : args = #[v0, v1, v2] := by cases args; simp_all
  obtain ⟨rfl, rfl⟩ := trodVars_none hV
  rw [List.append_nil] at hp
  obtain ⟨_, _, y0, rfl, f1, w0⟩ := v_slice Try.underlying29 rd29 (hval 0 29 v0 rfl rfl) h0
  obtain ⟨cs1, y1, rfl, hc1, w1⟩ := v_agg Try.underlying23 rd23 (hval 1 23 v1 rfl rfl) h1
  replace hc1 : E.rd e_Literal _ _ cs1 y1 := hc1
  obtain ⟨_, _, rfl, rfl, rfl⟩ := hc1
  obtain ⟨_, _, y2, rfl, f2, w2⟩ := v_slice Try.underlying24 rd24 (hval 2 24 v2 rfl rfl) h2
  refine (c_law01_LiteralSets (y0 := y0) (y1 := y1) (y2 := y2) (A := []) (w0 := W) (Own.start (by simp)) ⟨R.of f1, R.of f2, trivial⟩ (p_law01_LiteralSets y0 y1 y2 w0 w1 w2)).mono fun e W' he => ?_
  cases e with
  | panicked ch => exact he.elim
  | outgrown => exact he.elim
  | returned v =>
    obtain ⟨rfl, hb⟩ := he
    exact ⟨_, rfl, law_post hW' hA0 hp rfl rfl rfl rfl rfl Try.underlying4 laidOut (by kernel_rfl) hb.e⟩

set_option maxRecDepth 100000 in
theorem lifted (os : Os) (started : os.Started) (H : Type) (enc : TypeId × Value → H) :
    ReturnsInHanded {} Try.checked os 8 .any (Rows.literalSetsSpec.pre6 enc Try.prog Try.f8 Rows.literalSetsRow.domain false) (Rows.literalSetsSpec.post enc Try.prog Try.f8 false true false false) := by
  refine returnsInHanded_of_change (C := Try.checked) own started (by kernel_rfl) Try.func8
    (ChangeSpec.witness6 (enc := enc) (C := Try.checked) false ⟨#[], #[.slice none 0 0, .agg #[.bool false, .string ⟨#[]⟩], .slice none 0 0], []⟩ 8 (by kernel_rfl) (by kernel_rfl) (by kernel_rfl) (by kernel_rfl)) ?_
  intro W base args ds gs before hval hW _ _
  exact contract H enc W base args ds gs before hval hW

theorem proved : Rows.LiteralSetsSaid :=
  OpenClaim.holds_of_wide 8 Try.f8 rfl rfl rfl rfl rfl rfl rfl ⟨rfl, rfl, rfl, rfl, rfl⟩ rfl rfl rfl rfl rfl (by kernel_rfl) Try.func8 (by kernel_rfl)
    (of_decide_eq_true (by kernel_rfl)) (by unfold Func.isWrapper; first | (rw [if_pos (by decide +kernel)]; kernel_rfl) | (rw [if_neg (by decide +kernel)]; exact ⟨rfl, rfl⟩))
    (fun os started H enc _ => lifted os started H enc)
end Go.Proofs.Ytfocdgbdeacgaaa.saidLiteralSets
namespace Go.Proofs.Ytfocdgbdeacgaaa
theorem x_LiteralSets : Rows.LiteralSetsSaid := saidLiteralSets.proved
end Go.Proofs.Ytfocdgbdeacgaaa
