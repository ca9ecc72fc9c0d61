/- A part. Conditions: none. -/
import Derived.Test.YtjfjjkgaddknfaaGreatDoorRows
import Derived.Test.YtjfjjkgaddknfaaGreatDoorWalk
import Derived.Test.YtjfjjkgaddknfaaGreatDoorJoin
import Derived.Test.YtjfjjkgaddknfaaGreatDoorPlN3
import Derived.Test.YtjfjjkgaddknfaaGreatDoorJoinT
import Derived.Test.YtjfjjkgaddknfaaGreatDoorCards
import Derived.Test.YtjfjjkgaddknfaaGreatDoorTie
import Derived.SevenTiedAt
import Derived.Lay
import Derived.Test.YtjfjjkgaddknfaaGreatDoorJoinL
namespace Go.Proofs.YtjfjjkgaddknfaaGreatDoor.saidClaimsNested
open Go Go.GD Go.RowKit Go.ChangeShapes Go.WideShapes Go.ChangeAt
set_option autoImplicit false
set_option maxRecDepth 100000
theorem own : ownKnob Tryz.prog.godebug = none := by kernel_rfl
theorem z4w : laidOutB Tryz.prog = true := by kernel_rfl
theorem rd3 : Rd Tryz.prog 3 (zH .i64) (wInt .i64) := Rd.int Tryz.underlying3 (by kernel_rfl)
theorem rd22 : Rd Tryz.prog 22 (wB (zH .i64)) (z3R (wInt .i64)) := Rd.slice Tryz.underlying22 (by kernel_rfl) rd3
abbrev zUu : List (String × DataW Unit) := [("math/bits.deBruijn32tab", Rows.laid_math_bits_deBruijn32tab), ("math/bits.deBruijn64tab", Rows.laid_math_bits_deBruijn64tab), ("internal/strconv.uint64pow10", Rows.laid_internal_strconv_uint64pow10), ("unicode.White_Space", Rows.laid_unicode_White_Space), ("strings.asciiSpace", Rows.laid_strings_asciiSpace), ("deliberation/rulebase.kinds", Rows.laid_deliberation_rulebase_kinds)]
theorem tab0 {W : World} (h0 : laidMetH Tryz.prog zUu W) : (Tb Tryz.prog "strings.asciiSpace" .u8 Lib.asciiSpaceTab).h [] W := by
  have h := h0
  rw [MakeChecks.laidMetH_plain _ _ _ (by kernel_rfl)] at h
  have hr : Lib.VarReads Tryz.prog W "strings.asciiSpace" (Lib.tabData .u8 Lib.asciiSpaceTab) := (by kernel_rfl : (Rows.laid_strings_asciiSpace : DataW Unit) = Lib.tabData .u8 Lib.asciiSpaceTab) ▸ Lib.laidMet.reads h (List.mem_cons_of_mem _ (List.mem_cons_of_mem _ (List.mem_cons_of_mem _ (List.mem_cons_of_mem _ (List.mem_cons_self ..)))))
  have hT : Lib.TabIs Tryz.prog W "strings.asciiSpace" .u8 Lib.asciiSpaceTab := zTv (t := 190) (e := 5) (n := 256) (g := 0) (by kernel_rfl) (by kernel_rfl) (by kernel_rfl) (by kernel_rfl) (by kernel_rfl) (by kernel_rfl) hr
  exact tb_of (g := 0) (by kernel_rfl) hT
theorem tab1 {W : World} (h0 : laidMetH Tryz.prog zUu W) : (Pt (yK 4 vO) 1 0 zBD).h [] W := by
  have h := h0
  rw [MakeChecks.laidMetH_plain _ _ _ (by kernel_rfl)] at h
  have hr : Lib.VarReads Tryz.prog W "deliberation/rulebase.kinds" (.agg (zBD.map fun s => .lit (.string s))) := (by kernel_rfl : (Rows.laid_deliberation_rulebase_kinds : DataW Unit) = .agg (zBD.map fun s => .lit (.string s))) ▸ Lib.laidMet.reads h (List.mem_cons_of_mem _ (List.mem_cons_of_mem _ (List.mem_cons_of_mem _ (List.mem_cons_of_mem _ (List.mem_cons_of_mem _ (List.mem_cons_self ..))))))
  exact z4o (t := 194) (e := 9) (by kernel_rfl) (by kernel_rfl) (by kernel_rfl) (by kernel_rfl) (by kernel_rfl) (by kernel_rfl) (by decide) hr
theorem tab2 {W : World} (h0 : laidMetH Tryz.prog zUu W) : (Wt 2).h [] W := by
  have h := h0
  rw [MakeChecks.laidMetH_plain _ _ _ (by kernel_rfl)] at h
  have hr : Lib.VarReads Tryz.prog W "unicode.White_Space" Lib.whiteData := (by kernel_rfl : (Rows.laid_unicode_White_Space : DataW Unit) = Lib.whiteData) ▸ Lib.laidMet.reads h (List.mem_cons_of_mem _ (List.mem_cons_of_mem _ (List.mem_cons_of_mem _ (List.mem_cons_self ..))))
  exact wt_of (whiteTab_of_reads (ρ := Go.Proofs.Tryz.lays157_ren) { Go.Proofs.Tryz.lays157 with } ⟨by kernel_rfl, by kernel_rfl, by kernel_rfl, by kernel_rfl, by kernel_rfl, by kernel_rfl, by kernel_rfl, by kernel_rfl⟩ hr)
theorem tab4 {W : World} (h0 : laidMetH Tryz.prog zUu W) : (Pt (yK 64 (zH .u8)) 4 0 yY).h [] W := by
  have h := h0
  rw [MakeChecks.laidMetH_plain _ _ _ (by kernel_rfl)] at h
  have hr : Lib.VarReads Tryz.prog W "math/bits.deBruijn64tab" (Lib.tabData .u8 yY) := (by kernel_rfl : (Rows.laid_math_bits_deBruijn64tab : DataW Unit) = Lib.tabData .u8 yY) ▸ Lib.laidMet.reads h (List.mem_cons_of_mem _ (List.mem_cons_self ..))
  have hT : Lib.TabIs Tryz.prog W "math/bits.deBruijn64tab" .u8 yY := zTv (t := 329) (e := 5) (n := 64) (g := 4) (by kernel_rfl) (by kernel_rfl) (by kernel_rfl) (by kernel_rfl) (by kernel_rfl) (by kernel_rfl) hr
  exact pt_tab (fun i hi => hT.cell (g := 4) (by kernel_rfl) i hi) (by kernel_rfl) (by decide)
theorem tab5 {W : World} (h0 : laidMetH Tryz.prog zUu W) : (Tb Tryz.prog "internal/strconv.uint64pow10" .u64 Lib.pow10Tab).h [] W := by
  have h := h0
  rw [MakeChecks.laidMetH_plain _ _ _ (by kernel_rfl)] at h
  have hr : Lib.VarReads Tryz.prog W "internal/strconv.uint64pow10" (Lib.tabData .u64 Lib.pow10Tab) := (by kernel_rfl : (Rows.laid_internal_strconv_uint64pow10 : DataW Unit) = Lib.tabData .u64 Lib.pow10Tab) ▸ Lib.laidMet.reads h (List.mem_cons_of_mem _ (List.mem_cons_of_mem _ (List.mem_cons_self ..)))
  have hT : Lib.TabIs Tryz.prog W "internal/strconv.uint64pow10" .u64 Lib.pow10Tab := zTv (t := 382) (e := 217) (n := 20) (g := 5) (by kernel_rfl) (by kernel_rfl) (by kernel_rfl) (by kernel_rfl) (by kernel_rfl) (by kernel_rfl) hr
  exact tb_of (g := 5) (by kernel_rfl) hT
theorem z2v (H : Type) (enc : TypeId × Value → H) (W : World) (base : Nat) (args : Array Value) (ds gs : List (DataW H)) (before : List MemPlace)
    (hval : ∀ (j : Nat) t v, Tryz.f4.params[j]? = some t → args[j]? = some v → Value.okWide Tryz.prog W .any base t v)
    (hW : DataW.Whole enc Tryz.prog Tryz.f4.params.toList Rows.claimsNestedSpec.vars false W args.toList ds gs before)
    (hL : laidMetH Tryz.prog zUu W) :
    Calls Tryz.prog 4 args W fun e W' => ∃ v, e = .returned v ∧ Rows.claimsNestedSpec.post enc Tryz.prog Tryz.f4 false true false false W args v W' := by
  have hW' := hW
  obtain ⟨p, q, hA0, hV, hp, _, _⟩ := hW
  have hA : DataW.TrodAll enc Tryz.prog W 0 (fun _ => true) true Tryz.f4.params.toList args.toList ds p := hA0
  rw [Tryz.params4] at hA hval
  obtain ⟨v0, vs0, d0, ds0, p0, q0, hargs, rfl, rfl, h0, r0⟩ := trodAll_cons hA
  obtain ⟨rfl, rfl, rfl⟩ := trodAll_nil r0
  obtain rfl : args = #[v0] := by cases args; simp_all
  obtain ⟨rfl, rfl⟩ := trodVars_none hV
  rw [List.append_nil] at hp
  obtain ⟨_, _, y0, rfl, f1, w0⟩ := z5R Tryz.underlying22 rd22 (hval 0 22 v0 rfl rfl) h0
  refine ((zPp (y0 := y0)).go [] W _ (zPv y0 w0) (wG.start (by simp)) ⟨R.of f1, tab0 hL, tab1 hL, tab2 hL, tab4 hL, tab5 hL, trivial⟩).mono fun e W' he => ?_
  cases e with
  | panicked ch => exact he.elim
  | outgrown => exact he.elim
  | returned v =>
    obtain ⟨rfl, hb⟩ : v = vb true ∧ Bk _ _ _ _ _ _ _ := he _ fun h => h
    exact ⟨_, rfl, z3T hW' hA0 hp rfl rfl rfl rfl rfl Tryz.underlying4 z4w (by kernel_rfl) hb.e⟩
set_option maxRecDepth 100000 in
theorem z2Z (os : Os) (started : os.Started) (H : Type) (enc : TypeId × Value → H) :
    ReturnsInHanded {} Tryz.checked os 4 .any (fun w args => (Rows.claimsNestedSpec.pre enc Tryz.prog Tryz.f4 [] false w args ∧ laidMetH Tryz.prog zUu w) ∧ sizedMet enc Tryz.prog Tryz.f4 (OpenSpec.ofChange Rows.claimsNestedSpec) false w args) (Rows.claimsNestedSpec.post enc Tryz.prog Tryz.f4 false true false false) := by
  refine returnsInHanded_of_change_and (C := Tryz.checked) (X := fun w _ => laidMetH Tryz.prog zUu w) (fun _ _ _ hh h => h.of_heap hh) own started (by kernel_rfl) Tryz.func4
    (ChangeSpec.witness_shaped (enc := enc) (C := Tryz.checked) (os := os) (X := fun w _ => laidMetH Tryz.prog zUu w) false (World.laidAll Tryz.prog os zUu) #[.slice none 0 0] 8 (World.laidAll_os _ _ _) (World.shaped_of_ZipB (by kernel_rfl) (by kernel_rfl)) (by kernel_rfl) (by kernel_rfl) (by kernel_rfl)
      (by rw [MakeChecks.laidMetH_plain _ _ _ (by kernel_rfl)]; exact laidMet_laidAll _ (by kernel_rfl) (by kernel_rfl))) ?_
  intro W base args ds gs before hval hW _ _ hL _
  exact z2v H enc W base args ds gs before hval hW hL
theorem q0 : Tryz.pinned.checked.prog.funcNamed "deliberation/deliberationlaw20.ClaimsNested" = some 4 := by kernel_rfl
theorem q2 : laidOutB Tryz.pinned.checked.prog = true := by kernel_rfl
theorem q3 : mapsRowed Tryz.pinned.checked.prog = true := by kernel_rfl
theorem q10 : (Rows.claimsNestedRow.inPlace == Tryz.pinned.checked.prog.inPlace 4) = true := by kernel_rfl
theorem q11 : (Rows.claimsNestedRow.unfollowed == Tryz.pinned.checked.prog.unfollowed 4) = true := by kernel_rfl
theorem q12 : (Rows.claimsNestedRow.recurses == Tryz.pinned.checked.prog.recurses 4) = true := by kernel_rfl
theorem q13 : (Rows.claimsNestedRow.named == Tryz.pinned.checked.prog.varsNamed 4) = true := by kernel_rfl
theorem q14 : (Rows.claimsNestedRow.plainKeys == Tryz.pinned.checked.prog.plainKeys) = true := by kernel_rfl
theorem q17 : (Rows.claimsNestedRow.lifted == Tryz.pinned.checked.prog.liftsFinal) = true := by kernel_rfl
theorem q15 : Tryz.pinned.checked.prog.stopsHeard = true := by kernel_rfl
theorem q16 : Tryz.pinned.checked.prog.mayEnter = true := by kernel_rfl
theorem q18 : (Tryz.pinned.checked.prog.make == some Rows.claimsNestedRow.make) = true := by kernel_rfl
theorem q30 : Tryz.pinned.checked.prog.mainIs = some ((true, "c0215db1b0497bfea3a20865cf234a1b6313cfb14f4e2a9c5ed7a8729a6cc37f").1, (true, "c0215db1b0497bfea3a20865cf234a1b6313cfb14f4e2a9c5ed7a8729a6cc37f").2.toList) := by kernel_rfl
theorem q31 : false = Tryz.pinned.checked.prog.looks [] := by kernel_rfl
theorem q32 : true = Rows.claimsNestedRow.goesBy Tryz.pinned.checked.prog := by kernel_rfl
theorem q20 : Tryz.f4.isInstance Tryz.pinned.checked.prog Rows.claimsNestedRow.origin Rows.claimsNestedRow.targs := of_decide_eq_true (by kernel_rfl)
theorem q21 : Tryz.f4.isWrapper Tryz.pinned.checked.prog Rows.claimsNestedRow.wrapper Rows.claimsNestedRow.mainSum := by unfold Func.isWrapper; first | (rw [if_pos (by decide +kernel)]; kernel_rfl) | (rw [if_neg (by decide +kernel)]; exact ⟨rfl, rfl⟩)
theorem closed : joinedFacts Tryz.pinned.checked.prog 4 Tryz.f4 Rows.claimsNestedSpec Rows.claimsNestedRow = true := z1q (by kernel_rfl) q2 q3 (by kernel_rfl) (by kernel_rfl) (by kernel_rfl) (by kernel_rfl) (by kernel_rfl) (by kernel_rfl) q10 q11 q12 q13 q14 q15 q16 q17 q18 (by kernel_rfl)
theorem proved : Rows.ClaimsNestedSaid :=
  OpenClaim.holds_of_wide_leaving 4 Tryz.f4 rfl rfl rfl rfl rfl rfl rfl ⟨rfl, rfl, rfl, rfl, rfl⟩ rfl rfl rfl rfl rfl q0 Tryz.func4 closed q20 q21
    (fun os started H enc _ => zSY (z2Z os started H enc))
theorem card : Rows.ClaimsNestedCardSaid :=
  zUM .later [.data, .data, .data, .listed, .data, .data] true (true, "c0215db1b0497bfea3a20865cf234a1b6313cfb14f4e2a9c5ed7a8729a6cc37f") false
    proved (by kernel_rfl) Go.Proofs.YtjfjjkgaddknfaaGreatDoor.claimsNested_row_tie rfl ⟨rfl, rfl⟩ q30 rfl
    (fun f fn hf hfn => by
      obtain rfl : f = 4 := Option.some.inj (q0.symm.trans hf) |>.symm
      obtain rfl : fn = Tryz.f4 := (Option.some.inj (Tryz.func4.symm.trans hfn)).symm
      exact ⟨q31, fun j t ht => by
        rw [Tryz.params4] at ht
        have hm : t ∈ [22] := by simpa using Array.mem_of_getElem? ht
        have hall : ([22].all fun u => !Tryz.prog.wantsStandIn u) = true := by kernel_rfl
        exact (show Tryz.prog.wantsStandIn t = false by simpa using List.all_eq_true.1 hall t hm)⟩)
    q32
end Go.Proofs.YtjfjjkgaddknfaaGreatDoor.saidClaimsNested
namespace Go.Proofs.YtjfjjkgaddknfaaGreatDoor
theorem x_ClaimsNested : Rows.ClaimsNestedCardSaid := saidClaimsNested.card
end Go.Proofs.YtjfjjkgaddknfaaGreatDoor
