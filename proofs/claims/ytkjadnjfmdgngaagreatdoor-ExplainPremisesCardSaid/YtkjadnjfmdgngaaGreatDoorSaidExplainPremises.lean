/- Part of the proof. Conditions: none. -/
import Derived.Test.YtkjadnjfmdgngaaGreatDoorRows
import Derived.Test.YtkjadnjfmdgngaaGreatDoorWalk
import Derived.Test.YtkjadnjfmdgngaaGreatDoorJoin
import Derived.Test.YtkjadnjfmdgngaaGreatDoorPlW2
import Derived.Test.YtkjadnjfmdgngaaGreatDoorJoinT
import Derived.Test.YtkjadnjfmdgngaaGreatDoorCards
import Derived.Test.YtkjadnjfmdgngaaGreatDoorTie
import Derived.SevenTiedAt
import Derived.Lay
import Derived.Test.YtkjadnjfmdgngaaGreatDoorJoinL
namespace Go.Proofs.YtkjadnjfmdgngaaGreatDoor.saidExplainPremises
open Go Go.GD Go.RowKit Go.ChangeShapes Go.WideShapes Go.ChangeAt
set_option autoImplicit false
set_option maxRecDepth 100000
theorem own : ownKnob Tryz.prog.godebug = none := by kernel_rfl
theorem zZR : laidOutB Tryz.prog = true := by kernel_rfl
theorem rd3 : Rd Tryz.prog 3 (zF .i64) (wInt .i64) := Rd.int Tryz.underlying3 (by kernel_rfl)
theorem rd31 : Rd Tryz.prog 31 (wO (zF .i64)) (zYN (wInt .i64)) := Rd.slice Tryz.underlying31 (by kernel_rfl) rd3
abbrev zVe : List (String × DataW Unit) := [("math/bits.deBruijn64tab", Rows.laid_math_bits_deBruijn64tab)]
theorem tab0 {W : World} (h0 : laidMetH Tryz.prog zVe W) : (Pt (yS 64 (zF .u8)) 0 0 yQ).h [] W := by
  have h := h0
  rw [MakeChecks.laidMetH_plain _ _ _ (by kernel_rfl)] at h
  have hr : Lib.VarReads Tryz.prog W "math/bits.deBruijn64tab" (Lib.tabData .u8 yQ) := (by kernel_rfl : (Rows.laid_math_bits_deBruijn64tab : DataW Unit) = Lib.tabData .u8 yQ) ▸ Lib.laidMet.reads h (List.mem_cons_self ..)
  have hT : Lib.TabIs Tryz.prog W "math/bits.deBruijn64tab" .u8 yQ := zVp (t := 175) (e := 5) (n := 64) (g := 0) (by kernel_rfl) (by kernel_rfl) (by kernel_rfl) (by kernel_rfl) (by kernel_rfl) (by kernel_rfl) hr
  exact pt_tab (fun i hi => hT.cell (g := 0) (by kernel_rfl) i hi) (by kernel_rfl) (by decide)
theorem zXy (H : Type) (enc : TypeId × Value → H) (W : World) (base : Nat) (args : Array Value) (ds gs : List (DataW H)) (before : List MemPlace)
    (hval : ∀ (j : Nat) t v, Tryz.f4.params[j]? = some t → args[j]? = some v → Value.okWide Tryz.prog W .any base t v)
    (hW : DataW.Whole enc Tryz.prog Tryz.f4.params.toList Rows.explainPremisesSpec.vars false W args.toList ds gs before)
    (hL : laidMetH Tryz.prog zVe W) :
    Calls Tryz.prog 4 args W fun e W' => ∃ v, e = .returned v ∧ Rows.explainPremisesSpec.post enc Tryz.prog Tryz.f4 false true false false W args v W' := by
  have hW' := hW
  obtain ⟨p, q, hA0, hV, hp, _, _⟩ := hW
  have hA : DataW.TrodAll enc Tryz.prog W 0 (fun _ => true) true Tryz.f4.params.toList args.toList ds p := hA0
  rw [Tryz.params4] at hA hval
  obtain ⟨v0, vs0, d0, ds0, p0, q0, hargs, rfl, rfl, h0, r0⟩ := trodAll_cons hA
  obtain ⟨rfl, rfl, rfl⟩ := trodAll_nil r0
  obtain rfl : args = #[v0] := by cases args; simp_all
  obtain ⟨rfl, rfl⟩ := trodVars_none hV
  rw [List.append_nil] at hp
  obtain ⟨_, _, y0, rfl, f1, w0⟩ := zZ6 Tryz.underlying31 rd31 (hval 0 31 v0 rfl rfl) h0
  refine ((zKk (qd := True) (y0 := y0)).go [] W _ (zKn y0 w0) (wA.start (by simp)) ⟨R.of f1, tab0 hL, trivial⟩).mono fun e W' he => ?_
  cases e with
  | panicked ch => exact he.elim
  | outgrown => exact he.elim
  | returned v =>
    obtain ⟨rfl, hb⟩ : v = vb true ∧ Bk _ _ _ _ _ _ _ := he _ fun h => h
    exact ⟨_, rfl, zYV hW' hA0 hp rfl rfl rfl rfl rfl Tryz.underlying4 zZR (by kernel_rfl) hb.e⟩
set_option maxRecDepth 100000 in
theorem zVx (os : Os) (started : os.Started) (H : Type) (enc : TypeId × Value → H) :
    ReturnsInHanded {} Tryz.checked os 4 .any (fun w args => (Rows.explainPremisesSpec.pre enc Tryz.prog Tryz.f4 [] false w args ∧ laidMetH Tryz.prog zVe w) ∧ sizedMet enc Tryz.prog Tryz.f4 (OpenSpec.ofChange Rows.explainPremisesSpec) false w args) (Rows.explainPremisesSpec.post enc Tryz.prog Tryz.f4 false true false false) := by
  refine returnsInHanded_of_change_and (C := Tryz.checked) (X := fun w _ => laidMetH Tryz.prog zVe w) (fun _ _ _ hh h => h.of_heap hh) own started (by kernel_rfl) Tryz.func4
    (ChangeSpec.witness_shaped (enc := enc) (C := Tryz.checked) (os := os) (X := fun w _ => laidMetH Tryz.prog zVe w) false (World.laidAll Tryz.prog os zVe) #[.slice none 0 0] 8 (World.laidAll_os _ _ _) (World.shaped_of_ZipB (by kernel_rfl) (by kernel_rfl)) (by kernel_rfl) (by kernel_rfl) (by kernel_rfl)
      (by rw [MakeChecks.laidMetH_plain _ _ _ (by kernel_rfl)]; exact laidMet_laidAll _ (by kernel_rfl) (by kernel_rfl))) ?_
  intro W base args ds gs before hval hW _ _ hL _
  exact zXy H enc W base args ds gs before hval hW hL
theorem q0 : Tryz.pinned.checked.prog.funcNamed "deliberation/deliberationlaw24.ExplainPremises" = some 4 := by kernel_rfl
theorem q2 : laidOutB Tryz.pinned.checked.prog = true := by kernel_rfl
theorem q3 : mapsRowed Tryz.pinned.checked.prog = true := by kernel_rfl
theorem q10 : (Rows.explainPremisesRow.inPlace == Tryz.pinned.checked.prog.inPlace 4) = true := by kernel_rfl
theorem q11 : (Rows.explainPremisesRow.unfollowed == Tryz.pinned.checked.prog.unfollowed 4) = true := by kernel_rfl
theorem q12 : (Rows.explainPremisesRow.recurses == Tryz.pinned.checked.prog.recurses 4) = true := by kernel_rfl
theorem q13 : (Rows.explainPremisesRow.named == Tryz.pinned.checked.prog.varsNamed 4) = true := by kernel_rfl
theorem q14 : (Rows.explainPremisesRow.plainKeys == Tryz.pinned.checked.prog.plainKeys) = true := by kernel_rfl
theorem q17 : (Rows.explainPremisesRow.lifted == Tryz.pinned.checked.prog.liftsFinal) = true := by kernel_rfl
theorem q15 : Tryz.pinned.checked.prog.stopsHeard = true := by kernel_rfl
theorem q16 : Tryz.pinned.checked.prog.mayEnter = true := by kernel_rfl
theorem q18 : (Tryz.pinned.checked.prog.make == some Rows.explainPremisesRow.make) = true := by kernel_rfl
theorem q30 : Tryz.pinned.checked.prog.mainIs = some ((true, "595f0374e79ff44be2091f962c656bd0b4023904e7aca1f540af5c35453484e2").1, (true, "595f0374e79ff44be2091f962c656bd0b4023904e7aca1f540af5c35453484e2").2.toList) := by kernel_rfl
theorem q31 : false = Tryz.pinned.checked.prog.looks [] := by kernel_rfl
theorem q32 : true = Rows.explainPremisesRow.goesBy Tryz.pinned.checked.prog := by kernel_rfl
theorem q20 : Tryz.f4.isInstance Tryz.pinned.checked.prog Rows.explainPremisesRow.origin Rows.explainPremisesRow.targs := of_decide_eq_true (by kernel_rfl)
theorem q21 : Tryz.f4.isWrapper Tryz.pinned.checked.prog Rows.explainPremisesRow.wrapper Rows.explainPremisesRow.mainSum := by unfold Func.isWrapper; first | (rw [if_pos (by decide +kernel)]; kernel_rfl) | (rw [if_neg (by decide +kernel)]; exact ⟨rfl, rfl⟩)
theorem closed : joinedFacts Tryz.pinned.checked.prog 4 Tryz.f4 Rows.explainPremisesSpec Rows.explainPremisesRow = true := zVr (by kernel_rfl) q2 q3 (by kernel_rfl) (by kernel_rfl) (by kernel_rfl) (by kernel_rfl) (by kernel_rfl) (by kernel_rfl) q10 q11 q12 q13 q14 q15 q16 q17 q18 (by kernel_rfl)
theorem proved : Rows.ExplainPremisesSaid :=
  OpenClaim.holds_of_wide_leaving 4 Tryz.f4 rfl rfl rfl rfl rfl rfl rfl ⟨rfl, rfl, rfl, rfl, rfl⟩ rfl rfl rfl rfl rfl q0 Tryz.func4 closed q20 q21
    (fun os started H enc _ => zNq (zVx os started H enc))
theorem card : Rows.ExplainPremisesCardSaid :=
  zPc .later [.data] true (true, "595f0374e79ff44be2091f962c656bd0b4023904e7aca1f540af5c35453484e2") false
    proved (by kernel_rfl) Go.Proofs.YtkjadnjfmdgngaaGreatDoor.explainPremises_row_tie rfl ⟨rfl, rfl⟩ q30 rfl
    (fun f fn hf hfn => by
      obtain rfl : f = 4 := Option.some.inj (q0.symm.trans hf) |>.symm
      obtain rfl : fn = Tryz.f4 := (Option.some.inj (Tryz.func4.symm.trans hfn)).symm
      exact ⟨q31, fun j t ht => by
        rw [Tryz.params4] at ht
        have hm : t ∈ [31] := by simpa using Array.mem_of_getElem? ht
        have hall : ([31].all fun u => !Tryz.prog.wantsStandIn u) = true := by kernel_rfl
        exact (show Tryz.prog.wantsStandIn t = false by simpa using List.all_eq_true.1 hall t hm)⟩)
    q32
end Go.Proofs.YtkjadnjfmdgngaaGreatDoor.saidExplainPremises
namespace Go.Proofs.YtkjadnjfmdgngaaGreatDoor
theorem x_ExplainPremises : Rows.ExplainPremisesCardSaid := saidExplainPremises.card
end Go.Proofs.YtkjadnjfmdgngaaGreatDoor
