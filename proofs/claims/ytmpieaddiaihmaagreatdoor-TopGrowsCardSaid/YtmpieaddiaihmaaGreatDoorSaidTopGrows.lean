/- A part. Conditions: none. -/
import Derived.Test.YtmpieaddiaihmaaGreatDoorRows
import Derived.Test.YtmpieaddiaihmaaGreatDoorWalk
import Derived.Test.YtmpieaddiaihmaaGreatDoorJoin
import Derived.Test.YtmpieaddiaihmaaGreatDoorPlR3
import Derived.Test.YtmpieaddiaihmaaGreatDoorJoinT
import Derived.Test.YtmpieaddiaihmaaGreatDoorCards
import Derived.Test.YtmpieaddiaihmaaGreatDoorTie
import Derived.SevenTiedAt
import Derived.Lay
import Derived.Test.YtmpieaddiaihmaaGreatDoorJoinL
namespace Go.Proofs.YtmpieaddiaihmaaGreatDoor.saidTopGrows
open Go Go.GD Go.RowKit Go.ChangeShapes Go.WideShapes Go.ChangeAt
set_option autoImplicit false
set_option maxRecDepth 100000
theorem own : ownKnob Tryz.prog.godebug = none := by kernel_rfl
theorem laidOut : laidOutB Tryz.prog = true := by kernel_rfl
theorem rd3 : Rd Tryz.prog 3 (zC .i64) (wInt .i64) := Rd.int Tryz.underlying3 (by kernel_rfl)
theorem rd22 : Rd Tryz.prog 22 (qA (zC .i64)) (z9e (wInt .i64)) := Rd.slice Tryz.underlying22 (by kernel_rfl) rd3
abbrev zZZ : List (String × DataW Unit) := [("math/bits.deBruijn32tab", Rows.laid_math_bits_deBruijn32tab), ("math/bits.deBruijn64tab", Rows.laid_math_bits_deBruijn64tab), ("internal/strconv.uint64pow10", Rows.laid_internal_strconv_uint64pow10), ("unicode.White_Space", Rows.laid_unicode_White_Space), ("strings.asciiSpace", Rows.laid_strings_asciiSpace), ("deliberation/rulebase.kinds", Rows.laid_deliberation_rulebase_kinds)]
theorem tab0 {W : World} (h0 : laidMetH Tryz.prog zZZ W) : (Tb Tryz.prog "strings.asciiSpace" .u8 Lib.asciiSpaceTab).h [] W := by
  have h := h0
  rw [MakeChecks.laidMetH_plain _ _ _ (by kernel_rfl)] at h
  have hr : Lib.VarReads Tryz.prog W "strings.asciiSpace" (Lib.tabData .u8 Lib.asciiSpaceTab) := (by kernel_rfl : (Rows.laid_strings_asciiSpace : DataW Unit) = Lib.tabData .u8 Lib.asciiSpaceTab) ▸ Lib.laidMet.reads h (Ql _ (Ql _ (Ql _ (Ql _ (Qx ..)))))
  have hT : Lib.TabIs Tryz.prog W "strings.asciiSpace" .u8 Lib.asciiSpaceTab := zYk (t := 196) (e := 5) (n := 256) (g := 0) (by kernel_rfl) (by kernel_rfl) (by kernel_rfl) (by kernel_rfl) (by kernel_rfl) (by kernel_rfl) hr
  exact tb_of (g := 0) (by kernel_rfl) hT
theorem tab1 {W : World} (h0 : laidMetH Tryz.prog zZZ W) : (Pt (wN 4 wB) 1 0 zAl).h [] W := by
  have h := h0
  rw [MakeChecks.laidMetH_plain _ _ _ (by kernel_rfl)] at h
  have hr : Lib.VarReads Tryz.prog W "deliberation/rulebase.kinds" (.agg (zAl.map fun s => .lit (.string s))) := (by kernel_rfl : (Rows.laid_deliberation_rulebase_kinds : DataW Unit) = .agg (zAl.map fun s => .lit (.string s))) ▸ Lib.laidMet.reads h (Ql _ (Ql _ (Ql _ (Ql _ (Ql _ (Qx ..))))))
  exact pt_strs (t := 200) (e := 9) (by kernel_rfl) (by kernel_rfl) (by kernel_rfl) (by kernel_rfl) (by kernel_rfl) (by kernel_rfl) (by decide) hr
theorem tab2 {W : World} (h0 : laidMetH Tryz.prog zZZ W) : (Wt 2).h [] W := by
  have h := h0
  rw [MakeChecks.laidMetH_plain _ _ _ (by kernel_rfl)] at h
  have hr : Lib.VarReads Tryz.prog W "unicode.White_Space" Lib.whiteData := (by kernel_rfl : (Rows.laid_unicode_White_Space : DataW Unit) = Lib.whiteData) ▸ Lib.laidMet.reads h (Ql _ (Ql _ (Ql _ (Qx ..))))
  exact wt_of (whiteTab_of_reads (ρ := Go.Proofs.Tryz.lays157_ren) { Go.Proofs.Tryz.lays157 with } ⟨by kernel_rfl, by kernel_rfl, by kernel_rfl, by kernel_rfl, by kernel_rfl, by kernel_rfl, by kernel_rfl, by kernel_rfl⟩ hr)
theorem tab3 {W : World} (h0 : laidMetH Tryz.prog zZZ W) : (Pt (wN 64 (zC .u8)) 3 0 vA).h [] W := by
  have h := h0
  rw [MakeChecks.laidMetH_plain _ _ _ (by kernel_rfl)] at h
  have hr : Lib.VarReads Tryz.prog W "math/bits.deBruijn64tab" (Lib.tabData .u8 vA) := (by kernel_rfl : (Rows.laid_math_bits_deBruijn64tab : DataW Unit) = Lib.tabData .u8 vA) ▸ Lib.laidMet.reads h (Ql _ (Qx ..))
  have hT : Lib.TabIs Tryz.prog W "math/bits.deBruijn64tab" .u8 vA := zYk (t := 271) (e := 5) (n := 64) (g := 3) (by kernel_rfl) (by kernel_rfl) (by kernel_rfl) (by kernel_rfl) (by kernel_rfl) (by kernel_rfl) hr
  exact pt_tab (fun i hi => hT.cell (g := 3) (by kernel_rfl) i hi) (by kernel_rfl) (by decide)
theorem tab5 {W : World} (h0 : laidMetH Tryz.prog zZZ W) : (Tb Tryz.prog "internal/strconv.uint64pow10" .u64 Lib.pow10Tab).h [] W := by
  have h := h0
  rw [MakeChecks.laidMetH_plain _ _ _ (by kernel_rfl)] at h
  have hr : Lib.VarReads Tryz.prog W "internal/strconv.uint64pow10" (Lib.tabData .u64 Lib.pow10Tab) := (by kernel_rfl : (Rows.laid_internal_strconv_uint64pow10 : DataW Unit) = Lib.tabData .u64 Lib.pow10Tab) ▸ Lib.laidMet.reads h (Ql _ (Ql _ (Qx ..)))
  have hT : Lib.TabIs Tryz.prog W "internal/strconv.uint64pow10" .u64 Lib.pow10Tab := zYk (t := 386) (e := 180) (n := 20) (g := 5) (by kernel_rfl) (by kernel_rfl) (by kernel_rfl) (by kernel_rfl) (by kernel_rfl) (by kernel_rfl) hr
  exact tb_of (g := 5) (by kernel_rfl) hT
theorem z9G (H : Type) (enc : TypeId × Value → H) (W : World) (base : Nat) (args : Array Value) (ds gs : List (DataW H)) (before : List MemPlace)
    (hval : ∀ (j : Nat) t v, Tryz.f3.params[j]? = some t → args[j]? = some v → Value.okWide Tryz.prog W .any base t v)
    (hW : DataW.Whole enc Tryz.prog Tryz.f3.params.toList Rows.topGrowsSpec.vars false W args.toList ds gs before)
    (hL : laidMetH Tryz.prog zZZ W) :
    Calls Tryz.prog 3 args W fun e W' => ∃ v, e = .returned v ∧ Rows.topGrowsSpec.post enc Tryz.prog Tryz.f3 false true false false W args v W' := by
  have hW' := hW
  obtain ⟨p, q, hA0, hV, hp, _, _⟩ := hW
  have hA : DataW.TrodAll enc Tryz.prog W 0 (fun _ => true) true Tryz.f3.params.toList args.toList ds p := hA0
  rw [Tryz.params3] at hA hval
  obtain ⟨v0, vs0, d0, ds0, p0, q0, hargs, rfl, rfl, h0, r0⟩ := trodAll_cons hA
  obtain ⟨v1, vs1, d1, ds1, p1, q1, rfl, rfl, rfl, h1, r1⟩ := trodAll_cons r0
  obtain ⟨rfl, rfl, rfl⟩ := trodAll_nil r1
  obtain rfl : args = #[v0, v1] := by cases args; simp_all
  obtain ⟨rfl, rfl⟩ := trodVars_none hV
  rw [QA] at hp
  obtain ⟨_, _, y0, rfl, f1, w0⟩ := z8J Tryz.underlying22 rd22 (hval 0 22 v0 rfl rfl) h0
  obtain ⟨_, _, y1, rfl, f2, w1⟩ := z8J Tryz.underlying22 rd22 (hval 1 22 v1 rfl rfl) h1
  refine ((zSH (y0 := y0) (y1 := y1)).go [] W _ (zY7 y0 y1 w0 w1) (zZ.start (by simp)) ⟨R.of f1, R.of f2, tab0 hL, tab1 hL, tab2 hL, tab3 hL, tab5 hL, trivial⟩).mono fun e W' he => ?_
  cases e with
  | panicked ch => exact he.elim
  | outgrown => exact he.elim
  | returned v =>
    obtain ⟨rfl, hb⟩ : v = vb true ∧ Bk _ _ _ _ _ _ _ := he _ fun h => h
    exact ⟨_, rfl, z8q hW' hA0 hp rfl rfl rfl rfl rfl Tryz.underlying4 laidOut (by kernel_rfl) hb.e⟩
set_option maxRecDepth 100000 in
theorem z6f (os : Os) (started : os.Started) (H : Type) (enc : TypeId × Value → H) :
    ReturnsInHanded {} Tryz.checked os 3 .any (fun w args => (Rows.topGrowsSpec.pre enc Tryz.prog Tryz.f3 [] false w args ∧ laidMetH Tryz.prog zZZ w) ∧ sizedMet enc Tryz.prog Tryz.f3 (OpenSpec.ofChange Rows.topGrowsSpec) false w args) (Rows.topGrowsSpec.post enc Tryz.prog Tryz.f3 false true false false) := by
  refine returnsInHanded_of_change_and (C := Tryz.checked) (X := fun w _ => laidMetH Tryz.prog zZZ w) (fun _ _ _ hh h => h.of_heap hh) own started (by kernel_rfl) Tryz.func3
    (ChangeSpec.witness_shaped (enc := enc) (C := Tryz.checked) (os := os) (X := fun w _ => laidMetH Tryz.prog zZZ w) false (World.laidAll Tryz.prog os zZZ) #[.slice none 0 0, .slice none 0 0] 8 (World.laidAll_os _ _ _) (World.shaped_of_ZipB (by kernel_rfl) (by kernel_rfl)) (by kernel_rfl) (by kernel_rfl) (by kernel_rfl)
      (by rw [MakeChecks.laidMetH_plain _ _ _ (by kernel_rfl)]; exact laidMet_laidAll _ (by kernel_rfl) (by kernel_rfl))) ?_
  intro W base args ds gs before hval hW _ _ hL _
  exact z9G H enc W base args ds gs before hval hW hL
theorem q0 : Tryz.pinned.checked.prog.funcNamed "deliberation/deliberationtop.TopGrows" = some 3 := by kernel_rfl
theorem q2 : laidOutB Tryz.pinned.checked.prog = true := by kernel_rfl
theorem q3 : mapsRowed Tryz.pinned.checked.prog = true := by kernel_rfl
theorem q10 : (Rows.topGrowsRow.inPlace == Tryz.pinned.checked.prog.inPlace 3) = true := by kernel_rfl
theorem q11 : (Rows.topGrowsRow.unfollowed == Tryz.pinned.checked.prog.unfollowed 3) = true := by kernel_rfl
theorem q12 : (Rows.topGrowsRow.recurses == Tryz.pinned.checked.prog.recurses 3) = true := by kernel_rfl
theorem q13 : (Rows.topGrowsRow.named == Tryz.pinned.checked.prog.varsNamed 3) = true := by kernel_rfl
theorem q14 : (Rows.topGrowsRow.plainKeys == Tryz.pinned.checked.prog.plainKeys) = true := by kernel_rfl
theorem q17 : (Rows.topGrowsRow.lifted == Tryz.pinned.checked.prog.liftsFinal) = true := by kernel_rfl
theorem q15 : Tryz.pinned.checked.prog.stopsHeard = true := by kernel_rfl
theorem q16 : Tryz.pinned.checked.prog.mayEnter = true := by kernel_rfl
theorem q18 : (Tryz.pinned.checked.prog.make == some Rows.topGrowsRow.make) = true := by kernel_rfl
theorem q30 : Tryz.pinned.checked.prog.mainIs = some ((true, "88c941048a81c6cff91877a6835c1e5184e82641cd6dca3ba593ca4a2efc4a3e").1, (true, "88c941048a81c6cff91877a6835c1e5184e82641cd6dca3ba593ca4a2efc4a3e").2.toList) := by kernel_rfl
theorem q31 : false = Tryz.pinned.checked.prog.looks [] := by kernel_rfl
theorem q32 : true = Rows.topGrowsRow.goesBy Tryz.pinned.checked.prog := by kernel_rfl
theorem q20 : Tryz.f3.isInstance Tryz.pinned.checked.prog Rows.topGrowsRow.origin Rows.topGrowsRow.targs := of_decide_eq_true (by kernel_rfl)
theorem q21 : Tryz.f3.isWrapper Tryz.pinned.checked.prog Rows.topGrowsRow.wrapper Rows.topGrowsRow.mainSum := by unfold Func.isWrapper; first | (rw [Qp (by decide +kernel)]; kernel_rfl) | (rw [Qo (by decide +kernel)]; exact ⟨rfl, rfl⟩)
theorem closed : joinedFacts Tryz.pinned.checked.prog 3 Tryz.f3 Rows.topGrowsSpec Rows.topGrowsRow = true := z68 (by kernel_rfl) q2 q3 (by kernel_rfl) (by kernel_rfl) (by kernel_rfl) (by kernel_rfl) (by kernel_rfl) (by kernel_rfl) q10 q11 q12 q13 q14 q15 q16 q17 q18 (by kernel_rfl)
theorem proved : Rows.TopGrowsSaid :=
  OpenClaim.holds_of_wide_leaving 3 Tryz.f3 rfl rfl rfl rfl rfl rfl rfl ⟨rfl, rfl, rfl, rfl, rfl⟩ rfl rfl rfl rfl rfl q0 Tryz.func3 closed q20 q21
    (fun os started H enc _ => zV7 (z6f os started H enc))
theorem card : Rows.TopGrowsCardSaid :=
  zYH .later [.data, .data, .data, .listed, .data, .data] true (true, "88c941048a81c6cff91877a6835c1e5184e82641cd6dca3ba593ca4a2efc4a3e") false
    proved (by kernel_rfl) Go.Proofs.YtmpieaddiaihmaaGreatDoor.topGrows_row_tie rfl ⟨rfl, rfl⟩ q30 rfl
    (fun f fn hf hfn => by
      obtain rfl : f = 3 := QH (q0.symm.trans hf) |>.symm
      obtain rfl : fn = Tryz.f3 := (QH (Tryz.func3.symm.trans hfn)).symm
      exact ⟨q31, fun j t ht => by
        rw [Tryz.params3] at ht
        have hm : t ∈ [22, 22] := by simpa using Array.mem_of_getElem? ht
        have hall : ([22, 22].all fun u => !Tryz.prog.wantsStandIn u) = true := by kernel_rfl
        exact (show Tryz.prog.wantsStandIn t = false by simpa using Uf.1 hall t hm)⟩)
    q32
end Go.Proofs.YtmpieaddiaihmaaGreatDoor.saidTopGrows
namespace Go.Proofs.YtmpieaddiaihmaaGreatDoor
theorem x_TopGrows : Rows.TopGrowsCardSaid := saidTopGrows.card
end Go.Proofs.YtmpieaddiaihmaaGreatDoor
