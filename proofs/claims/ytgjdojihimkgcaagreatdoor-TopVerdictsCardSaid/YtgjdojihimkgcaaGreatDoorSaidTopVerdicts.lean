/- A part. Conditions: none. -/
import Derived.Test.YtgjdojihimkgcaaGreatDoorRows
import Derived.Test.YtgjdojihimkgcaaGreatDoorWalk
import Derived.Test.YtgjdojihimkgcaaGreatDoorJoin
import Derived.Test.YtgjdojihimkgcaaGreatDoorPlS3
import Derived.Test.YtgjdojihimkgcaaGreatDoorJoinT
import Derived.Test.YtgjdojihimkgcaaGreatDoorCards
import Derived.Test.YtgjdojihimkgcaaGreatDoorTie
import Derived.SevenTiedAt
import Derived.Lay
import Derived.Test.YtgjdojihimkgcaaGreatDoorJoinL
namespace Go.Proofs.YtgjdojihimkgcaaGreatDoor.saidTopVerdicts
open Go Go.GD Go.RowKit Go.ChangeShapes Go.WideShapes Go.ChangeAt
set_option autoImplicit false
set_option maxRecDepth 100000
theorem own : ownKnob Tryz.prog.godebug = none := by kernel_rfl
theorem laidOut : laidOutB Tryz.prog = true := by kernel_rfl
theorem rd3 : Rd Tryz.prog 3 (zB .i64) (wInt .i64) := Rd.int Tryz.underlying3 (by kernel_rfl)
theorem rd22 : Rd Tryz.prog 22 (zT (zB .i64)) (wList (wInt .i64)) := Rd.slice Tryz.underlying22 (by kernel_rfl) rd3
abbrev z1Y : List (String × DataW Unit) := [("math/bits.deBruijn32tab", Rows.laid_math_bits_deBruijn32tab), ("math/bits.deBruijn64tab", Rows.laid_math_bits_deBruijn64tab), ("internal/strconv.uint64pow10", Rows.laid_internal_strconv_uint64pow10), ("unicode.White_Space", Rows.laid_unicode_White_Space), ("strings.asciiSpace", Rows.laid_strings_asciiSpace), ("deliberation/rulebase.kinds", Rows.laid_deliberation_rulebase_kinds)]
theorem tab0 {W : World} (h0 : laidMetH Tryz.prog z1Y W) : (Tb Tryz.prog "strings.asciiSpace" .u8 Lib.asciiSpaceTab).h [] W := by
  have h := h0
  rw [MakeChecks.laidMetH_plain _ _ _ (by kernel_rfl)] at h
  have hr : Lib.VarReads Tryz.prog W "strings.asciiSpace" (Lib.tabData .u8 Lib.asciiSpaceTab) := (by kernel_rfl : (Rows.laid_strings_asciiSpace : DataW Unit) = Lib.tabData .u8 Lib.asciiSpaceTab) ▸ Lib.laidMet.reads h (Qo _ (Qo _ (Qo _ (Qo _ (Qq ..)))))
  have hT : Lib.TabIs Tryz.prog W "strings.asciiSpace" .u8 Lib.asciiSpaceTab := z0s (t := 197) (e := 5) (n := 256) (g := 0) (by kernel_rfl) (by kernel_rfl) (by kernel_rfl) (by kernel_rfl) (by kernel_rfl) (by kernel_rfl) hr
  exact tb_of (g := 0) (by kernel_rfl) hT
theorem tab1 {W : World} (h0 : laidMetH Tryz.prog z1Y W) : (Pt (vC 4 wS) 1 0 zBE).h [] W := by
  have h := h0
  rw [MakeChecks.laidMetH_plain _ _ _ (by kernel_rfl)] at h
  have hr : Lib.VarReads Tryz.prog W "deliberation/rulebase.kinds" (.agg (zBE.map fun s => .lit (.string s))) := (by kernel_rfl : (Rows.laid_deliberation_rulebase_kinds : DataW Unit) = .agg (zBE.map fun s => .lit (.string s))) ▸ Lib.laidMet.reads h (Qo _ (Qo _ (Qo _ (Qo _ (Qo _ (Qq ..))))))
  exact pt_strs (t := 201) (e := 9) (by kernel_rfl) (by kernel_rfl) (by kernel_rfl) (by kernel_rfl) (by kernel_rfl) (by kernel_rfl) (by decide) hr
theorem tab2 {W : World} (h0 : laidMetH Tryz.prog z1Y W) : (Wt 2).h [] W := by
  have h := h0
  rw [MakeChecks.laidMetH_plain _ _ _ (by kernel_rfl)] at h
  have hr : Lib.VarReads Tryz.prog W "unicode.White_Space" Lib.whiteData := (by kernel_rfl : (Rows.laid_unicode_White_Space : DataW Unit) = Lib.whiteData) ▸ Lib.laidMet.reads h (Qo _ (Qo _ (Qo _ (Qq ..))))
  exact wt_of (whiteTab_of_reads (ρ := Go.Proofs.Tryz.lays157_ren) { Go.Proofs.Tryz.lays157 with } ⟨by kernel_rfl, by kernel_rfl, by kernel_rfl, by kernel_rfl, by kernel_rfl, by kernel_rfl, by kernel_rfl, by kernel_rfl⟩ hr)
theorem tab4 {W : World} (h0 : laidMetH Tryz.prog z1Y W) : (Pt (vC 64 (zB .u8)) 4 0 vV).h [] W := by
  have h := h0
  rw [MakeChecks.laidMetH_plain _ _ _ (by kernel_rfl)] at h
  have hr : Lib.VarReads Tryz.prog W "math/bits.deBruijn64tab" (Lib.tabData .u8 vV) := (by kernel_rfl : (Rows.laid_math_bits_deBruijn64tab : DataW Unit) = Lib.tabData .u8 vV) ▸ Lib.laidMet.reads h (Qo _ (Qq ..))
  have hT : Lib.TabIs Tryz.prog W "math/bits.deBruijn64tab" .u8 vV := z0s (t := 350) (e := 5) (n := 64) (g := 4) (by kernel_rfl) (by kernel_rfl) (by kernel_rfl) (by kernel_rfl) (by kernel_rfl) (by kernel_rfl) hr
  exact pt_tab (fun i hi => hT.cell (g := 4) (by kernel_rfl) i hi) (by kernel_rfl) (by decide)
theorem tab5 {W : World} (h0 : laidMetH Tryz.prog z1Y W) : (Tb Tryz.prog "internal/strconv.uint64pow10" .u64 Lib.pow10Tab).h [] W := by
  have h := h0
  rw [MakeChecks.laidMetH_plain _ _ _ (by kernel_rfl)] at h
  have hr : Lib.VarReads Tryz.prog W "internal/strconv.uint64pow10" (Lib.tabData .u64 Lib.pow10Tab) := (by kernel_rfl : (Rows.laid_internal_strconv_uint64pow10 : DataW Unit) = Lib.tabData .u64 Lib.pow10Tab) ▸ Lib.laidMet.reads h (Qo _ (Qo _ (Qq ..)))
  have hT : Lib.TabIs Tryz.prog W "internal/strconv.uint64pow10" .u64 Lib.pow10Tab := z0s (t := 410) (e := 235) (n := 20) (g := 5) (by kernel_rfl) (by kernel_rfl) (by kernel_rfl) (by kernel_rfl) (by kernel_rfl) (by kernel_rfl) hr
  exact tb_of (g := 5) (by kernel_rfl) hT
theorem contract (H : Type) (enc : TypeId × Value → H) (W : World) (base : Nat) (args : Array Value) (ds gs : List (DataW H)) (before : List MemPlace)
    (hval : ∀ (j : Nat) t v, Tryz.f3.params[j]? = some t → args[j]? = some v → Value.okWide Tryz.prog W .any base t v)
    (hW : DataW.Whole enc Tryz.prog Tryz.f3.params.toList Rows.topVerdictsSpec.vars false W args.toList ds gs before)
    (hL : laidMetH Tryz.prog z1Y W) :
    Calls Tryz.prog 3 args W fun e W' => ∃ v, e = .returned v ∧ Rows.topVerdictsSpec.post enc Tryz.prog Tryz.f3 false true false false W args v W' := by
  have hW' := hW
  obtain ⟨p, q, hA0, hV, hp, _, _⟩ := hW
  have hA : DataW.TrodAll enc Tryz.prog W 0 (fun _ => true) true Tryz.f3.params.toList args.toList ds p := hA0
  rw [Tryz.params3] at hA hval
  obtain ⟨v0, vs0, d0, ds0, p0, q0, hargs, rfl, rfl, h0, r0⟩ := trodAll_cons hA
  obtain ⟨rfl, rfl, rfl⟩ := trodAll_nil r0
  obtain rfl : args = #[v0] := by cases args; simp_all
  obtain ⟨rfl, rfl⟩ := trodVars_none hV
  rw [QF] at hp
  obtain ⟨_, _, y0, rfl, f1, w0⟩ := v_slice Tryz.underlying22 rd22 (hval 0 22 v0 rfl rfl) h0
  refine ((zPo (y0 := y0)).go [] W _ (zWC y0 w0) (zZ.start (by simp)) ⟨R.of f1, tab0 hL, tab1 hL, tab2 hL, tab4 hL, tab5 hL, trivial⟩).mono fun e W' he => ?_
  cases e with
  | panicked ch => exact he.elim
  | outgrown => exact he.elim
  | returned v =>
    obtain ⟨rfl, hb⟩ : v = vb true ∧ Bk _ _ _ _ _ _ _ := he _ fun h => h
    exact ⟨_, rfl, law_post hW' hA0 hp rfl rfl rfl rfl rfl Tryz.underlying4 laidOut (by kernel_rfl) hb.e⟩
set_option maxRecDepth 100000 in
theorem lifted (os : Os) (started : os.Started) (H : Type) (enc : TypeId × Value → H) :
    ReturnsInHanded {} Tryz.checked os 3 .any (fun w args => (Rows.topVerdictsSpec.pre enc Tryz.prog Tryz.f3 [] false w args ∧ laidMetH Tryz.prog z1Y w) ∧ sizedMet enc Tryz.prog Tryz.f3 (OpenSpec.ofChange Rows.topVerdictsSpec) false w args) (Rows.topVerdictsSpec.post enc Tryz.prog Tryz.f3 false true false false) := by
  refine returnsInHanded_of_change_and (C := Tryz.checked) (X := fun w _ => laidMetH Tryz.prog z1Y w) (fun _ _ _ hh h => h.of_heap hh) own started (by kernel_rfl) Tryz.func3
    (ChangeSpec.witness_shaped (enc := enc) (C := Tryz.checked) (os := os) (X := fun w _ => laidMetH Tryz.prog z1Y w) false (World.laidAll Tryz.prog os z1Y) #[.slice none 0 0] 8 (World.laidAll_os _ _ _) (World.shaped_of_ZipB (by kernel_rfl) (by kernel_rfl)) (by kernel_rfl) (by kernel_rfl) (by kernel_rfl)
      (by rw [MakeChecks.laidMetH_plain _ _ _ (by kernel_rfl)]; exact laidMet_laidAll _ (by kernel_rfl) (by kernel_rfl))) ?_
  intro W base args ds gs before hval hW _ _ hL _
  exact contract H enc W base args ds gs before hval hW hL
theorem q0 : Tryz.pinned.checked.prog.funcNamed "deliberation/deliberationtop.TopVerdicts" = some 3 := by kernel_rfl
theorem q2 : laidOutB Tryz.pinned.checked.prog = true := by kernel_rfl
theorem q3 : mapsRowed Tryz.pinned.checked.prog = true := by kernel_rfl
theorem q10 : (Rows.topVerdictsRow.inPlace == Tryz.pinned.checked.prog.inPlace 3) = true := by kernel_rfl
theorem q11 : (Rows.topVerdictsRow.unfollowed == Tryz.pinned.checked.prog.unfollowed 3) = true := by kernel_rfl
theorem q12 : (Rows.topVerdictsRow.recurses == Tryz.pinned.checked.prog.recurses 3) = true := by kernel_rfl
theorem q13 : (Rows.topVerdictsRow.named == Tryz.pinned.checked.prog.varsNamed 3) = true := by kernel_rfl
theorem q14 : (Rows.topVerdictsRow.plainKeys == Tryz.pinned.checked.prog.plainKeys) = true := by kernel_rfl
theorem q17 : (Rows.topVerdictsRow.lifted == Tryz.pinned.checked.prog.liftsFinal) = true := by kernel_rfl
theorem q15 : Tryz.pinned.checked.prog.stopsHeard = true := by kernel_rfl
theorem q16 : Tryz.pinned.checked.prog.mayEnter = true := by kernel_rfl
theorem q18 : (Tryz.pinned.checked.prog.make == some Rows.topVerdictsRow.make) = true := by kernel_rfl
theorem q30 : Tryz.pinned.checked.prog.mainIs = some ((true, "faed943dbd163e9dee96f18181e206044f536560fbaf1a73840a495007c0bb8f").1, (true, "faed943dbd163e9dee96f18181e206044f536560fbaf1a73840a495007c0bb8f").2.toList) := by kernel_rfl
theorem q31 : false = Tryz.pinned.checked.prog.looks [] := by kernel_rfl
theorem q32 : true = Rows.topVerdictsRow.goesBy Tryz.pinned.checked.prog := by kernel_rfl
theorem q20 : Tryz.f3.isInstance Tryz.pinned.checked.prog Rows.topVerdictsRow.origin Rows.topVerdictsRow.targs := of_decide_eq_true (by kernel_rfl)
theorem q21 : Tryz.f3.isWrapper Tryz.pinned.checked.prog Rows.topVerdictsRow.wrapper Rows.topVerdictsRow.mainSum := by unfold Func.isWrapper; first | (rw [Ql (by decide +kernel)]; kernel_rfl) | (rw [Qi (by decide +kernel)]; exact ⟨rfl, rfl⟩)
theorem closed : joinedFacts Tryz.pinned.checked.prog 3 Tryz.f3 Rows.topVerdictsSpec Rows.topVerdictsRow = true := joined_of (by kernel_rfl) q2 q3 (by kernel_rfl) (by kernel_rfl) (by kernel_rfl) (by kernel_rfl) (by kernel_rfl) (by kernel_rfl) q10 q11 q12 q13 q14 q15 q16 q17 q18 (by kernel_rfl)
theorem proved : Rows.TopVerdictsSaid :=
  OpenClaim.holds_of_wide_leaving 3 Tryz.f3 rfl rfl rfl rfl rfl rfl rfl ⟨rfl, rfl, rfl, rfl, rfl⟩ rfl rfl rfl rfl rfl q0 Tryz.func3 closed q20 q21
    (fun os started H enc _ => zWl (lifted os started H enc))
theorem card : Rows.TopVerdictsCardSaid :=
  z0p .later [.data, .data, .data, .listed, .data, .data] true (true, "faed943dbd163e9dee96f18181e206044f536560fbaf1a73840a495007c0bb8f") false
    proved (by kernel_rfl) Go.Proofs.YtgjdojihimkgcaaGreatDoor.topVerdicts_row_tie rfl ⟨rfl, rfl⟩ q30 rfl
    (fun f fn hf hfn => by
      obtain rfl : f = 3 := QE (q0.symm.trans hf) |>.symm
      obtain rfl : fn = Tryz.f3 := (QE (Tryz.func3.symm.trans hfn)).symm
      exact ⟨q31, fun j t ht => by
        rw [Tryz.params3] at ht
        have hm : t ∈ [22] := by simpa using Array.mem_of_getElem? ht
        have hall : ([22].all fun u => !Tryz.prog.wantsStandIn u) = true := by kernel_rfl
        exact (show Tryz.prog.wantsStandIn t = false by simpa using QW.1 hall t hm)⟩)
    q32
end Go.Proofs.YtgjdojihimkgcaaGreatDoor.saidTopVerdicts
namespace Go.Proofs.YtgjdojihimkgcaaGreatDoor
theorem x_TopVerdicts : Rows.TopVerdictsCardSaid := saidTopVerdicts.card
end Go.Proofs.YtgjdojihimkgcaaGreatDoor
