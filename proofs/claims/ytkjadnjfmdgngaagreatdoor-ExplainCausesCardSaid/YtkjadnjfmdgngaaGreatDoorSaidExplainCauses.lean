/- The statement ExplainCauses: for every input the law returns true and leaves its arguments as they were. Conditions: none. -/
import Derived.Test.YtkjadnjfmdgngaaGreatDoorRows
import Derived.Test.YtkjadnjfmdgngaaGreatDoorWalk
import Derived.Test.YtkjadnjfmdgngaaGreatDoorJoin
import Derived.Test.YtkjadnjfmdgngaaGreatDoorPlV2
import Derived.Test.YtkjadnjfmdgngaaGreatDoorJoinT
import Derived.Test.YtkjadnjfmdgngaaGreatDoorCards
import Derived.Test.YtkjadnjfmdgngaaGreatDoorTie
import Derived.SevenTiedAt
import Derived.Lay
import Derived.Test.YtkjadnjfmdgngaaGreatDoorJoinL
namespace Go.Proofs.YtkjadnjfmdgngaaGreatDoor.saidExplainCauses
open Go Go.GD Go.RowKit Go.ChangeShapes Go.WideShapes Go.ChangeAt
set_option autoImplicit false
set_option maxRecDepth 100000

theorem own : ownKnob Tryz.prog.godebug = none := by kernel_rfl
theorem laidOut : laidOutB Tryz.prog = true := by kernel_rfl
theorem rd4 : Rd Tryz.prog 4 eBool wBool := Rd.bool Tryz.underlying4 (by kernel_rfl)
theorem rd9 : Rd Tryz.prog 9 eStr wStr := Rd.str Tryz.underlying9 (by kernel_rfl)
theorem rd30 : Rd Tryz.prog 30 e_Literal (wProd wBool wStr) := Rd.struct Tryz.underlying30 (RdFs.cons rd4 rfl (RdFs.last rd9 rfl)) (by kernel_rfl)
theorem rd3 : Rd Tryz.prog 3 (eInt .i64) (wInt .i64) := Rd.int Tryz.underlying3 (by kernel_rfl)
theorem rd67 : Rd Tryz.prog 67 e_Premise (wProd (wProd wBool wStr) (wProd (wInt .i64) (wProd (wInt .i64) wStr))) := Rd.struct Tryz.underlying67 (RdFs.cons rd30 rfl (RdFs.cons rd3 rfl (RdFs.cons rd3 rfl (RdFs.last rd9 rfl)))) (by kernel_rfl)
theorem rd22 : Rd Tryz.prog 22 (eSlice e_Premise) (wList (wProd (wProd wBool wStr) (wProd (wInt .i64) (wProd (wInt .i64) wStr)))) := Rd.slice Tryz.underlying22 (by kernel_rfl) rd67
theorem rd69 : Rd Tryz.prog 69 (eSlice e_Literal) (wList (wProd wBool wStr)) := Rd.slice Tryz.underlying69 (by kernel_rfl) rd30
theorem rd73 : Rd Tryz.prog 73 e_Rule (wProd wStr (wProd wBool (wProd (wInt .i64) (wProd (wList (wProd wBool wStr)) (wProd wBool wStr))))) := Rd.struct Tryz.underlying73 (RdFs.cons rd9 rfl (RdFs.cons rd4 rfl (RdFs.cons rd3 rfl (RdFs.cons rd69 rfl (RdFs.last rd30 rfl))))) (by kernel_rfl)
theorem rd23 : Rd Tryz.prog 23 (eSlice e_Rule) (wList (wProd wStr (wProd wBool (wProd (wInt .i64) (wProd (wList (wProd wBool wStr)) (wProd wBool wStr)))))) := Rd.slice Tryz.underlying23 (by kernel_rfl) rd73
theorem rd75 : Rd Tryz.prog 75 e_Promotion (wProd wStr (wProd (wInt .i64) (wProd wBool wStr))) := Rd.struct Tryz.underlying75 (RdFs.cons rd9 rfl (RdFs.cons rd3 rfl (RdFs.last rd30 rfl))) (by kernel_rfl)
theorem rd24 : Rd Tryz.prog 24 (eSlice e_Promotion) (wList (wProd wStr (wProd (wInt .i64) (wProd wBool wStr)))) := Rd.slice Tryz.underlying24 (by kernel_rfl) rd75
theorem rd26 : Rd Tryz.prog 26 e_Base (wProd (wList (wProd (wProd wBool wStr) (wProd (wInt .i64) (wProd (wInt .i64) wStr)))) (wProd (wList (wProd wStr (wProd wBool (wProd (wInt .i64) (wProd (wList (wProd wBool wStr)) (wProd wBool wStr)))))) (wList (wProd wStr (wProd (wInt .i64) (wProd wBool wStr)))))) := Rd.struct Tryz.underlying26 (RdFs.cons rd22 rfl (RdFs.cons rd23 rfl (RdFs.last rd24 rfl))) (by kernel_rfl)
theorem rd28 : Rd Tryz.prog 28 e_Ordering (wProd (wInt .i64) (wInt .i64)) := Rd.struct Tryz.underlying28 (RdFs.cons rd3 rfl (RdFs.last rd3 rfl)) (by kernel_rfl)
theorem rd31 : Rd Tryz.prog 31 (eSlice (eInt .i64)) (wList (wInt .i64)) := Rd.slice Tryz.underlying31 (by kernel_rfl) rd3
abbrev laidL : List (String × DataW Unit) := [("math/bits.deBruijn64tab", Rows.laid_math_bits_deBruijn64tab)]

theorem tab0 {W : World} (h0 : laidMetH Tryz.prog laidL W) : (Pt (eArr 64 (eInt .u8)) 0 0 tab_math_bits_deBruijn64tab).h [] W := by
  have h := h0
  rw [MakeChecks.laidMetH_plain _ _ _ (by kernel_rfl)] at h
  have hr : Lib.VarReads Tryz.prog W "math/bits.deBruijn64tab" (Lib.tabData .u8 tab_math_bits_deBruijn64tab) := (by kernel_rfl : (Rows.laid_math_bits_deBruijn64tab : DataW Unit) = Lib.tabData .u8 tab_math_bits_deBruijn64tab) ▸ Lib.laidMet.reads h (List.mem_cons_self ..)
  have hT : Lib.TabIs Tryz.prog W "math/bits.deBruijn64tab" .u8 tab_math_bits_deBruijn64tab := tab_reads (t := 175) (e := 5) (n := 64) (g := 0) (by kernel_rfl) (by kernel_rfl) (by kernel_rfl) (by kernel_rfl) (by kernel_rfl) (by kernel_rfl) hr
  exact pt_tab (fun i hi => hT.cell (g := 0) (by kernel_rfl) i hi) (by kernel_rfl) (by decide)

theorem contract (H : Type) (enc : TypeId × Value → H) (W : World) (base : Nat) (args : Array Value) (ds gs : List (DataW H)) (before : List MemPlace)
    (hval : ∀ (j : Nat) t v, Tryz.f3.params[j]? = some t → args[j]? = some v → Value.okWide Tryz.prog W .any base t v)
    (hW : DataW.Whole enc Tryz.prog Tryz.f3.params.toList Rows.explainCausesSpec.vars false W args.toList ds gs before)
    (hL : laidMetH Tryz.prog laidL W) :
    Calls Tryz.prog 3 args W fun e W' => ∃ v, e = .returned v ∧ Rows.explainCausesSpec.post enc Tryz.prog Tryz.f3 false true false false W args v W' := by
  have hW' := hW
  obtain ⟨p, q, hA0, hV, hp, _, _⟩ := hW
  have hA : DataW.TrodAll enc Tryz.prog W 0 (fun _ => true) true Tryz.f3.params.toList args.toList ds p := hA0
  rw [Tryz.params3] at hA hval
  obtain ⟨v0, vs0, d0, ds0, p0, q0, hargs, rfl, rfl, h0, r0⟩ := trodAll_cons hA
  obtain ⟨v1, vs1, d1, ds1, p1, q1, rfl, rfl, rfl, h1, r1⟩ := trodAll_cons r0
  obtain ⟨v2, vs2, d2, ds2, p2, q2, rfl, rfl, rfl, h2, r2⟩ := trodAll_cons r1
  obtain ⟨v3, vs3, d3, ds3, p3, q3, rfl, rfl, rfl, h3, r3⟩ := trodAll_cons r2
  obtain ⟨rfl, rfl, rfl⟩ := trodAll_nil r3
  obtain rfl : args = #[v0, v1, v2, v3] := by cases args; simp_all
  obtain ⟨rfl, rfl⟩ := trodVars_none hV
  rw [List.append_nil] at hp
  obtain ⟨cs1, y0, rfl, hc1, w0⟩ := v_agg Tryz.underlying26 rd26 (hval 0 26 v0 rfl rfl) h0
  replace hc1 : E.rd e_Base _ _ cs1 y0 := hc1
  obtain ⟨_, _, rfl, ⟨p1, c1, rfl, f1⟩, ⟨_, _, rfl, ⟨p2, c2, rfl, f2⟩, ⟨p3, c3, rfl, f3⟩⟩⟩ := hc1
  obtain ⟨cs2, y1, rfl, hc2, w1⟩ := v_agg Tryz.underlying28 rd28 (hval 1 28 v1 rfl rfl) h1
  replace hc2 : E.rd e_Ordering _ _ cs2 y1 := hc2
  obtain ⟨_, _, rfl, rfl, rfl⟩ := hc2
  obtain ⟨cs3, y2, rfl, hc3, w2⟩ := v_agg Tryz.underlying30 rd30 (hval 2 30 v2 rfl rfl) h2
  replace hc3 : E.rd e_Literal _ _ cs3 y2 := hc3
  obtain ⟨_, _, rfl, rfl, rfl⟩ := hc3
  obtain ⟨_, _, y3, rfl, f4, w3⟩ := v_slice Tryz.underlying31 rd31 (hval 3 31 v3 rfl rfl) h3
  refine ((c_law24_ExplainCauses (qd := True) (y0 := y0) (y1 := y1) (y2 := y2) (y3 := y3)).go [] W _ (p_law24_ExplainCauses y0 y1 y2 y3 w0 w1 w2 w3) (Own.start (by simp)) ⟨R.of f1, R.of f2, R.of f3, R.of f4, tab0 hL, trivial⟩).mono fun e W' he => ?_
  cases e with
  | panicked ch => exact he.elim
  | outgrown => exact he.elim
  | returned v =>
    obtain ⟨rfl, hb⟩ : v = vb true ∧ Bk _ _ _ _ _ _ _ := he _ fun h => h
    exact ⟨_, rfl, law_post hW' hA0 hp rfl rfl rfl rfl rfl Tryz.underlying4 laidOut (by kernel_rfl) hb.e⟩

set_option maxRecDepth 100000 in
theorem lifted (os : Os) (started : os.Started) (H : Type) (enc : TypeId × Value → H) :
    ReturnsInHanded {} Tryz.checked os 3 .any (fun w args => (Rows.explainCausesSpec.pre enc Tryz.prog Tryz.f3 [] false w args ∧ laidMetH Tryz.prog laidL w) ∧ sizedMet enc Tryz.prog Tryz.f3 (OpenSpec.ofChange Rows.explainCausesSpec) false w args) (Rows.explainCausesSpec.post enc Tryz.prog Tryz.f3 false true false false) := by
  refine returnsInHanded_of_change_and (C := Tryz.checked) (X := fun w _ => laidMetH Tryz.prog laidL w) (fun _ _ _ hh h => h.of_heap hh) own started (by kernel_rfl) Tryz.func3
    (ChangeSpec.witness_shaped (enc := enc) (C := Tryz.checked) (os := os) (X := fun w _ => laidMetH Tryz.prog laidL w) false (World.laidAll Tryz.prog os laidL) #[.agg #[.slice none 0 0, .slice none 0 0, .slice none 0 0], .agg #[.int .i64 0, .int .i64 0], .agg #[.bool false, .string ⟨#[]⟩], .slice none 0 0] 8 (World.laidAll_os _ _ _) (World.shaped_of_ZipB (by kernel_rfl) (by kernel_rfl)) (by kernel_rfl) (by kernel_rfl) (by kernel_rfl)
      (by rw [MakeChecks.laidMetH_plain _ _ _ (by kernel_rfl)]; exact laidMet_laidAll _ (by kernel_rfl) (by kernel_rfl))) ?_
  intro W base args ds gs before hval hW _ _ hL _
  exact contract H enc W base args ds gs before hval hW hL

theorem q0 : Tryz.pinned.checked.prog.funcNamed "deliberation/deliberationlaw24.ExplainCauses" = some 3 := by kernel_rfl
theorem q2 : laidOutB Tryz.pinned.checked.prog = true := by kernel_rfl
theorem q3 : mapsRowed Tryz.pinned.checked.prog = true := by kernel_rfl
theorem q10 : (Rows.explainCausesRow.inPlace == Tryz.pinned.checked.prog.inPlace 3) = true := by kernel_rfl
theorem q11 : (Rows.explainCausesRow.unfollowed == Tryz.pinned.checked.prog.unfollowed 3) = true := by kernel_rfl
theorem q12 : (Rows.explainCausesRow.recurses == Tryz.pinned.checked.prog.recurses 3) = true := by kernel_rfl
theorem q13 : (Rows.explainCausesRow.named == Tryz.pinned.checked.prog.varsNamed 3) = true := by kernel_rfl
theorem q14 : (Rows.explainCausesRow.plainKeys == Tryz.pinned.checked.prog.plainKeys) = true := by kernel_rfl
theorem q17 : (Rows.explainCausesRow.lifted == Tryz.pinned.checked.prog.liftsFinal) = true := by kernel_rfl
theorem q15 : Tryz.pinned.checked.prog.stopsHeard = true := by kernel_rfl
theorem q16 : Tryz.pinned.checked.prog.mayEnter = true := by kernel_rfl
theorem q18 : (Tryz.pinned.checked.prog.make == some Rows.explainCausesRow.make) = true := by kernel_rfl
theorem q30 : Tryz.pinned.checked.prog.mainIs = some ((true, "595f0374e79ff44be2091f962c656bd0b4023904e7aca1f540af5c35453484e2").1, (true, "595f0374e79ff44be2091f962c656bd0b4023904e7aca1f540af5c35453484e2").2.toList) := by kernel_rfl
theorem q31 : false = Tryz.pinned.checked.prog.looks [] := by kernel_rfl
theorem q32 : true = Rows.explainCausesRow.goesBy Tryz.pinned.checked.prog := by kernel_rfl
theorem q20 : Tryz.f3.isInstance Tryz.pinned.checked.prog Rows.explainCausesRow.origin Rows.explainCausesRow.targs := of_decide_eq_true (by kernel_rfl)
theorem q21 : Tryz.f3.isWrapper Tryz.pinned.checked.prog Rows.explainCausesRow.wrapper Rows.explainCausesRow.mainSum := by unfold Func.isWrapper; first | (rw [if_pos (by decide +kernel)]; kernel_rfl) | (rw [if_neg (by decide +kernel)]; exact ⟨rfl, rfl⟩)
theorem closed : joinedFacts Tryz.pinned.checked.prog 3 Tryz.f3 Rows.explainCausesSpec Rows.explainCausesRow = true := joined_of (by kernel_rfl) q2 q3 (by kernel_rfl) (by kernel_rfl) (by kernel_rfl) (by kernel_rfl) (by kernel_rfl) (by kernel_rfl) q10 q11 q12 q13 q14 q15 q16 q17 q18 (by kernel_rfl)

theorem proved : Rows.ExplainCausesSaid :=
  OpenClaim.holds_of_wide_leaving 3 Tryz.f3 rfl rfl rfl rfl rfl rfl rfl ⟨rfl, rfl, rfl, rfl, rfl⟩ rfl rfl rfl rfl rfl q0 Tryz.func3 closed q20 q21
    (fun os started H enc _ => leaving_of_handed (lifted os started H enc))

theorem card : Rows.ExplainCausesCardSaid :=
  holds_tied_goes .later [.data] true (true, "595f0374e79ff44be2091f962c656bd0b4023904e7aca1f540af5c35453484e2") false
    proved (by kernel_rfl) Go.Proofs.YtkjadnjfmdgngaaGreatDoor.explainCauses_row_tie rfl ⟨rfl, rfl⟩ q30 rfl
    (fun f fn hf hfn => by
      obtain rfl : f = 3 := Option.some.inj (q0.symm.trans hf) |>.symm
      obtain rfl : fn = Tryz.f3 := (Option.some.inj (Tryz.func3.symm.trans hfn)).symm
      exact ⟨q31, fun j t ht => by
        rw [Tryz.params3] at ht
        have hm : t ∈ [26, 28, 30, 31] := by simpa using Array.mem_of_getElem? ht
        have hall : ([26, 28, 30, 31].all fun u => !Tryz.prog.wantsStandIn u) = true := by kernel_rfl
        exact (show Tryz.prog.wantsStandIn t = false by simpa using List.all_eq_true.1 hall t hm)⟩)
    q32
end Go.Proofs.YtkjadnjfmdgngaaGreatDoor.saidExplainCauses
namespace Go.Proofs.YtkjadnjfmdgngaaGreatDoor
theorem x_ExplainCauses : Rows.ExplainCausesCardSaid := saidExplainCauses.card
end Go.Proofs.YtkjadnjfmdgngaaGreatDoor
