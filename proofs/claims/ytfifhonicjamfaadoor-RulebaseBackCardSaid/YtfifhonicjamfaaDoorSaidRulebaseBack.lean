/- The statement RulebaseBack: for every input the law returns true and leaves its arguments as they were. Conditions: none. -/
import Derived.Test.YtfifhonicjamfaaDoorRows
import Derived.Test.YtfifhonicjamfaaDoorWalk
import Derived.Test.YtfifhonicjamfaaDoorJoin
import Derived.Test.YtfifhonicjamfaaDoorPlB1
import Derived.Test.YtfifhonicjamfaaDoorJoinT
import Derived.Test.YtfifhonicjamfaaDoorCards
import Derived.Test.YtfifhonicjamfaaDoorTie
import Derived.SevenTiedAt
namespace Go.Proofs.YtfifhonicjamfaaDoor.saidRulebaseBack
open Go Go.GD Go.RowKit Go.ChangeShapes Go.WideShapes Go.ChangeAt
set_option autoImplicit false
set_option maxRecDepth 100000

theorem own : ownKnob Tryd.prog.godebug = none := by kernel_rfl
theorem laidOut : laidOutB Tryd.prog = true := by kernel_rfl
theorem rd9 : Rd Tryd.prog 9 eStr wStr := Rd.str Tryd.underlying9 (by kernel_rfl)
theorem rd3 : Rd Tryd.prog 3 (eInt .i64) (wInt .i64) := Rd.int Tryd.underlying3 (by kernel_rfl)
theorem rd29 : Rd Tryd.prog 29 (eSlice (eInt .i64)) (wList (wInt .i64)) := Rd.slice Tryd.underlying29 (by kernel_rfl) rd3
abbrev laidL : List (String × DataW Unit) := [("math/bits.deBruijn32tab", Rows.laid_math_bits_deBruijn32tab), ("math/bits.deBruijn64tab", Rows.laid_math_bits_deBruijn64tab), ("internal/strconv.uint64pow10", Rows.laid_internal_strconv_uint64pow10), ("unicode.White_Space", Rows.laid_unicode_White_Space), ("strings.asciiSpace", Rows.laid_strings_asciiSpace), ("deliberation/rulebase.kinds", Rows.laid_deliberation_rulebase_kinds)]

theorem tab0 {W : World} (h0 : laidMetH Tryd.prog laidL W) : (Pt (eArr 4 eStr) 0 0 tab_rulebase_kinds).h [] W := by
  have h := h0
  rw [MakeChecks.laidMetH_plain _ _ _ (by kernel_rfl)] at h
  have hr : Lib.VarReads Tryd.prog W "deliberation/rulebase.kinds" (.agg (tab_rulebase_kinds.map fun s => .lit (.string s))) := (by kernel_rfl : (Rows.laid_deliberation_rulebase_kinds : DataW Unit) = .agg (tab_rulebase_kinds.map fun s => .lit (.string s))) ▸ Lib.laidMet.reads h (List.mem_cons_of_mem _ (List.mem_cons_of_mem _ (List.mem_cons_of_mem _ (List.mem_cons_of_mem _ (List.mem_cons_of_mem _ (List.mem_cons_self ..))))))
  exact pt_strs (t := 104) (e := 9) (by kernel_rfl) (by kernel_rfl) (by kernel_rfl) (by kernel_rfl) (by kernel_rfl) (by kernel_rfl) (by decide) hr

theorem tab1 {W : World} (h0 : laidMetH Tryd.prog laidL W) : (Tb Tryd.prog "strings.asciiSpace" .u8 Lib.asciiSpaceTab).h [] W := by
  have h := h0
  rw [MakeChecks.laidMetH_plain _ _ _ (by kernel_rfl)] at h
  have hr : Lib.VarReads Tryd.prog W "strings.asciiSpace" (Lib.tabData .u8 Lib.asciiSpaceTab) := (by kernel_rfl : (Rows.laid_strings_asciiSpace : DataW Unit) = Lib.tabData .u8 Lib.asciiSpaceTab) ▸ Lib.laidMet.reads h (List.mem_cons_of_mem _ (List.mem_cons_of_mem _ (List.mem_cons_of_mem _ (List.mem_cons_of_mem _ (List.mem_cons_self ..)))))
  have hT : Lib.TabIs Tryd.prog W "strings.asciiSpace" .u8 Lib.asciiSpaceTab := tab_reads (t := 108) (e := 5) (n := 256) (g := 1) (by kernel_rfl) (by kernel_rfl) (by kernel_rfl) (by kernel_rfl) (by kernel_rfl) (by kernel_rfl) hr
  exact tb_of (g := 1) (by kernel_rfl) hT

theorem tab3 {W : World} (h0 : laidMetH Tryd.prog laidL W) : (Wt 3).h [] W := by
  have h := h0
  rw [MakeChecks.laidMetH_plain _ _ _ (by kernel_rfl)] at h
  have hr : Lib.VarReads Tryd.prog W "unicode.White_Space" Lib.whiteData := (by kernel_rfl : (Rows.laid_unicode_White_Space : DataW Unit) = Lib.whiteData) ▸ Lib.laidMet.reads h (List.mem_cons_of_mem _ (List.mem_cons_of_mem _ (List.mem_cons_of_mem _ (List.mem_cons_self ..))))
  exact wt_of (whiteTab_of_reads (ρ := Go.Proofs.Tryd.lays157_ren) { Go.Proofs.Tryd.lays157 with } ⟨by kernel_rfl, by kernel_rfl, by kernel_rfl, by kernel_rfl, by kernel_rfl, by kernel_rfl, by kernel_rfl, by kernel_rfl⟩ hr)

theorem door_met (os : Os) (args : Array Value) : laidMetH Tryd.prog laidL ((World.doorLaid Tryd.prog 53 os).forCall (fun _ _ => 0) ⟨#[], args, []⟩).memory :=
  laidMetH_of_parts3 (fuel := 8) (laidMet_of_run' 8 (by kernel_rfl) (by kernel_rfl)) (by kernel_rfl) (by kernel_rfl)

theorem contract (H : Type) (enc : TypeId × Value → H) (W : World) (base : Nat) (args : Array Value) (ds gs : List (DataW H)) (before : List MemPlace)
    (hval : ∀ (j : Nat) t v, Tryd.f5.params[j]? = some t → args[j]? = some v → Value.okWide Tryd.prog W .any base t v)
    (hW : DataW.Whole enc Tryd.prog Tryd.f5.params.toList Rows.rulebaseBackSpec.vars false W args.toList ds gs before)
    (hL : laidMetH Tryd.prog laidL W) :
    Calls Tryd.prog 5 args W fun e W' => ∃ v, e = .returned v ∧ Rows.rulebaseBackSpec.post enc Tryd.prog Tryd.f5 false true false false W args v W' := by
  have hW' := hW
  obtain ⟨p, q, hA0, hV, hp, _, _⟩ := hW
  have hA : DataW.TrodAll enc Tryd.prog W 0 (fun _ => true) true Tryd.f5.params.toList args.toList ds p := hA0
  rw [Tryd.params5] at hA hval
  obtain ⟨v0, vs0, d0, ds0, p0, q0, hargs, rfl, rfl, h0, r0⟩ := trodAll_cons hA
  obtain ⟨v1, vs1, d1, ds1, p1, q1, rfl, rfl, rfl, h1, r1⟩ := trodAll_cons r0
  obtain ⟨rfl, rfl, rfl⟩ := trodAll_nil r1
  obtain rfl : args = #[v0, v1] := by cases args; simp_all
  obtain ⟨rfl, rfl⟩ := trodVars_none hV
  rw [List.append_nil] at hp
  obtain ⟨y0, rfl, w0⟩ := v_str Tryd.underlying9 (hval 0 9 v0 rfl rfl) h0
  obtain ⟨_, _, y1, rfl, f1, w1⟩ := v_slice Tryd.underlying29 rd29 (hval 1 29 v1 rfl rfl) h1
  refine ((c_law05_RulebaseBack (y0 := y0) (y1 := y1)).go [] W _ (p_law05_RulebaseBack y0 y1 w0 w1) (Own.start (by simp)) ⟨R.of f1, tab0 hL, tab1 hL, tab3 hL, trivial⟩).mono fun e W' he => ?_
  cases e with
  | panicked ch => exact he.elim
  | outgrown => exact he.elim
  | returned v =>
    obtain ⟨rfl, hb⟩ : v = vb true ∧ Bk _ _ _ _ _ _ _ := he _ fun h => h
    exact ⟨_, rfl, law_post hW' hA0 hp rfl rfl rfl rfl rfl Tryd.underlying4 laidOut (by kernel_rfl) hb.e⟩

set_option maxRecDepth 100000 in
theorem lifted (os : Os) (started : os.Started) (H : Type) (enc : TypeId × Value → H) :
    ReturnsInHanded {} Tryd.checked os 5 .any (fun w args => (Rows.rulebaseBackSpec.pre enc Tryd.prog Tryd.f5 [] false w args ∧ laidMetH Tryd.prog laidL w) ∧ sizedMet enc Tryd.prog Tryd.f5 (OpenSpec.ofChange Rows.rulebaseBackSpec) false w args) (Rows.rulebaseBackSpec.post enc Tryd.prog Tryd.f5 false true false false) := by
  refine returnsInHanded_of_change_and (C := Tryd.checked) (X := fun w _ => laidMetH Tryd.prog laidL w) (fun _ _ _ hh h => h.of_heap hh) own started (by kernel_rfl) Tryd.func5
    (ChangeSpec.witness_shaped (enc := enc) (C := Tryd.checked) (os := os) (X := fun w _ => laidMetH Tryd.prog laidL w) false (World.doorLaid Tryd.prog 53 os) #[.string ⟨#[]⟩, .slice none 0 0] 8 rfl (World.shaped_of_RefB (by kernel_rfl) (by kernel_rfl)) (by kernel_rfl) (by kernel_rfl) (by kernel_rfl) (door_met os _)) ?_
  intro W base args ds gs before hval hW _ _ hL _
  exact contract H enc W base args ds gs before hval hW hL

theorem proved : Rows.RulebaseBackSaid :=
  OpenClaim.holds_of_wide 5 Tryd.f5 rfl rfl rfl rfl rfl rfl rfl ⟨rfl, rfl, rfl, rfl, rfl⟩ rfl rfl rfl rfl rfl (by kernel_rfl) Tryd.func5 (by kernel_rfl)
    (of_decide_eq_true (by kernel_rfl)) (by unfold Func.isWrapper; first | (rw [if_pos (by decide +kernel)]; kernel_rfl) | (rw [if_neg (by decide +kernel)]; exact ⟨rfl, rfl⟩))
    (fun os started H enc _ => lifted os started H enc)

theorem card : Rows.RulebaseBackCardSaid :=
  Claim7.holds_tied_plain_at .later [] [.data, .data, .data, .listed, .data, .data] true (true, "a6d95b83bd6926f440974559b776db8ed48407f49714724e72738302c77f203f") false
    proved (fun _ h => by cases h) (by kernel_rfl) (fun _ h => by cases h) Go.Proofs.YtfifhonicjamfaaDoor.rulebaseBack_row_tie rfl ⟨rfl, rfl⟩ (by kernel_rfl) rfl
    (fun f fn hf hfn => by
      obtain rfl : f = 5 := Option.some.inj ((show Tryd.prog.funcNamed "deliberation/deliberationlaw05.RulebaseBack" = some 5 by kernel_rfl).symm.trans hf) |>.symm
      obtain rfl : fn = Tryd.f5 := (Option.some.inj (Tryd.func5.symm.trans hfn)).symm
      exact ⟨by kernel_rfl, fun j t ht => by
        rw [Tryd.params5] at ht
        have hm : t ∈ [9, 29] := by simpa using Array.mem_of_getElem? ht
        have hall : ([9, 29].all fun u => !Tryd.prog.wantsStandIn u) = true := by kernel_rfl
        exact (show Tryd.prog.wantsStandIn t = false by simpa using List.all_eq_true.1 hall t hm)⟩)
    (by kernel_rfl)
end Go.Proofs.YtfifhonicjamfaaDoor.saidRulebaseBack
namespace Go.Proofs.YtfifhonicjamfaaDoor
theorem x_RulebaseBack : Rows.RulebaseBackCardSaid := saidRulebaseBack.card
end Go.Proofs.YtfifhonicjamfaaDoor
