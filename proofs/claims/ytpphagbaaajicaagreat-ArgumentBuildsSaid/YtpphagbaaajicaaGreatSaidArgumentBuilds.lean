/- The statement ArgumentBuilds: for every input the law returns true and leaves its arguments as they were. Conditions: none. -/
import Derived.Test.YtpphagbaaajicaaGreatRows
import Derived.Test.YtpphagbaaajicaaGreatWalk
import Derived.Test.YtpphagbaaajicaaGreatJoin
import Derived.Test.YtpphagbaaajicaaGreatPlU2
namespace Go.Proofs.YtpphagbaaajicaaGreat.saidArgumentBuilds
open Go Go.GD Go.RowKit Go.ChangeShapes Go.WideShapes Go.ChangeAt
set_option autoImplicit false
set_option maxRecDepth 100000

theorem own : ownKnob Tryz.prog.godebug = none := by kernel_rfl
theorem laidOut : laidOutB Tryz.prog = true := by kernel_rfl
theorem rd4 : Rd Tryz.prog 4 eBool wBool := Rd.bool Tryz.underlying4 (by kernel_rfl)
theorem rd9 : Rd Tryz.prog 9 eStr wStr := Rd.str Tryz.underlying9 (by kernel_rfl)
theorem rd42 : Rd Tryz.prog 42 e_Literal (wProd wBool wStr) := Rd.struct Tryz.underlying42 (RdFs.cons rd4 rfl (RdFs.last rd9 rfl)) (by kernel_rfl)
theorem rd3 : Rd Tryz.prog 3 (eInt .i64) (wInt .i64) := Rd.int Tryz.underlying3 (by kernel_rfl)
theorem rd44 : Rd Tryz.prog 44 e_Premise (wProd (wProd wBool wStr) (wProd (wInt .i64) (wProd (wInt .i64) wStr))) := Rd.struct Tryz.underlying44 (RdFs.cons rd42 rfl (RdFs.cons rd3 rfl (RdFs.cons rd3 rfl (RdFs.last rd9 rfl)))) (by kernel_rfl)
theorem rd22 : Rd Tryz.prog 22 (eSlice e_Premise) (wList (wProd (wProd wBool wStr) (wProd (wInt .i64) (wProd (wInt .i64) wStr)))) := Rd.slice Tryz.underlying22 (by kernel_rfl) rd44
theorem rd45 : Rd Tryz.prog 45 (eSlice e_Literal) (wList (wProd wBool wStr)) := Rd.slice Tryz.underlying45 (by kernel_rfl) rd42
theorem rd47 : Rd Tryz.prog 47 e_Rule (wProd wStr (wProd wBool (wProd (wInt .i64) (wProd (wList (wProd wBool wStr)) (wProd wBool wStr))))) := Rd.struct Tryz.underlying47 (RdFs.cons rd9 rfl (RdFs.cons rd4 rfl (RdFs.cons rd3 rfl (RdFs.cons rd45 rfl (RdFs.last rd42 rfl))))) (by kernel_rfl)
theorem rd23 : Rd Tryz.prog 23 (eSlice e_Rule) (wList (wProd wStr (wProd wBool (wProd (wInt .i64) (wProd (wList (wProd wBool wStr)) (wProd wBool wStr)))))) := Rd.slice Tryz.underlying23 (by kernel_rfl) rd47
theorem rd49 : Rd Tryz.prog 49 e_Promotion (wProd wStr (wProd (wInt .i64) (wProd wBool wStr))) := Rd.struct Tryz.underlying49 (RdFs.cons rd9 rfl (RdFs.cons rd3 rfl (RdFs.last rd42 rfl))) (by kernel_rfl)
theorem rd24 : Rd Tryz.prog 24 (eSlice e_Promotion) (wList (wProd wStr (wProd (wInt .i64) (wProd wBool wStr)))) := Rd.slice Tryz.underlying24 (by kernel_rfl) rd49
theorem rd26 : Rd Tryz.prog 26 e_Base (wProd (wList (wProd (wProd wBool wStr) (wProd (wInt .i64) (wProd (wInt .i64) wStr)))) (wProd (wList (wProd wStr (wProd wBool (wProd (wInt .i64) (wProd (wList (wProd wBool wStr)) (wProd wBool wStr)))))) (wList (wProd wStr (wProd (wInt .i64) (wProd wBool wStr)))))) := Rd.struct Tryz.underlying26 (RdFs.cons rd22 rfl (RdFs.cons rd23 rfl (RdFs.last rd24 rfl))) (by kernel_rfl)
theorem rd27 : Rd Tryz.prog 27 (eSlice (eInt .i64)) (wList (wInt .i64)) := Rd.slice Tryz.underlying27 (by kernel_rfl) rd3


theorem contract (H : Type) (enc : TypeId × Value → H) (W : World) (base : Nat) (args : Array Value) (ds gs : List (DataW H)) (before : List MemPlace)
    (hval : ∀ (j : Nat) t v, Tryz.f3.params[j]? = some t → args[j]? = some v → Value.okWide Tryz.prog W .any base t v)
    (hW : DataW.Whole enc Tryz.prog Tryz.f3.params.toList Rows.argumentBuildsSpec.vars false W args.toList ds gs before) :
    Calls Tryz.prog 3 args W fun e W' => ∃ v, e = .returned v ∧ Rows.argumentBuildsSpec.post enc Tryz.prog Tryz.f3 false true false false W args v W' := by
  have hW' := hW
  obtain ⟨p, q, hA0, hV, hp, _, _⟩ := hW
  have hA : DataW.TrodAll enc Tryz.prog W 0 (fun _ => true) true Tryz.f3.params.toList args.toList ds p := hA0
  rw [Tryz.params3] at hA hval
  obtain ⟨v0, vs0, d0, ds0, p0, q0, hargs, rfl, rfl, h0, r0⟩ := trodAll_cons hA
  obtain ⟨v1, vs1, d1, ds1, p1, q1, rfl, rfl, rfl, h1, r1⟩ := trodAll_cons r0
  obtain ⟨rfl, rfl, rfl⟩ := trodAll_nil r1
  obtain rfl : args = #[v0, v1] := by cases args; simp_all
  obtain ⟨rfl, rfl⟩ := trodVars_none hV
  rw [List.append_nil] at hp
  obtain ⟨cs1, y0, rfl, hc1, w0⟩ := v_agg Tryz.underlying26 rd26 (hval 0 26 v0 rfl rfl) h0
  replace hc1 : E.rd e_Base _ _ cs1 y0 := hc1
  obtain ⟨_, _, rfl, ⟨p1, c1, rfl, f1⟩, ⟨_, _, rfl, ⟨p2, c2, rfl, f2⟩, ⟨p3, c3, rfl, f3⟩⟩⟩ := hc1
  obtain ⟨_, _, y1, rfl, f4, w1⟩ := v_slice Tryz.underlying27 rd27 (hval 1 27 v1 rfl rfl) h1
  refine ((c_law07_ArgumentBuilds (qd := True) (y0 := y0) (y1 := y1)).go [] W _ (p_law07_ArgumentBuilds y0 y1 w0 w1) (Own.start (by simp)) ⟨R.of f1, R.of f2, R.of f3, R.of f4, trivial⟩).mono fun e W' he => ?_
  cases e with
  | panicked ch => exact he.elim
  | outgrown => exact he.elim
  | returned v =>
    obtain ⟨rfl, hb⟩ : v = vb true ∧ Bk _ _ _ _ _ _ _ := he _ fun h => h
    exact ⟨_, rfl, law_post hW' hA0 hp rfl rfl rfl rfl rfl Tryz.underlying4 laidOut (by kernel_rfl) hb.e⟩

set_option maxRecDepth 100000 in
theorem lifted (os : Os) (started : os.Started) (H : Type) (enc : TypeId × Value → H) :
    ReturnsInHanded {} Tryz.checked os 3 .any (Rows.argumentBuildsSpec.pre6 enc Tryz.prog Tryz.f3 Rows.argumentBuildsRow.domain false) (Rows.argumentBuildsSpec.post enc Tryz.prog Tryz.f3 false true false false) := by
  refine returnsInHanded_of_change (C := Tryz.checked) own started (by kernel_rfl) Tryz.func3
    (ChangeSpec.witness6 (enc := enc) (C := Tryz.checked) false ⟨#[], #[.agg #[.slice none 0 0, .slice none 0 0, .slice none 0 0], .slice none 0 0], []⟩ 8 (by kernel_rfl) (by kernel_rfl) (by kernel_rfl) (by kernel_rfl)) ?_
  intro W base args ds gs before hval hW _ _
  exact contract H enc W base args ds gs before hval hW

theorem proved : Rows.ArgumentBuildsSaid :=
  OpenClaim.holds_of_wide 3 Tryz.f3 rfl rfl rfl rfl rfl rfl rfl ⟨rfl, rfl, rfl, rfl, rfl⟩ rfl rfl rfl rfl rfl (by kernel_rfl) Tryz.func3 (by kernel_rfl)
    (of_decide_eq_true (by kernel_rfl)) (by unfold Func.isWrapper; first | (rw [if_pos (by decide +kernel)]; kernel_rfl) | (rw [if_neg (by decide +kernel)]; exact ⟨rfl, rfl⟩))
    (fun os started H enc _ => lifted os started H enc)
end Go.Proofs.YtpphagbaaajicaaGreat.saidArgumentBuilds
namespace Go.Proofs.YtpphagbaaajicaaGreat
theorem x_ArgumentBuilds : Rows.ArgumentBuildsSaid := saidArgumentBuilds.proved
end Go.Proofs.YtpphagbaaajicaaGreat
