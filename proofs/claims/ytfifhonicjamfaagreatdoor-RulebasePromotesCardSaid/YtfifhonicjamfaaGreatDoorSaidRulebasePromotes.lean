/- The statement RulebasePromotes: for every input the law returns true and leaves its arguments as they were. Conditions: none. -/
import Derived.Test.YtfifhonicjamfaaGreatDoorRows
import Derived.Test.YtfifhonicjamfaaGreatDoorWalk
import Derived.Test.YtfifhonicjamfaaGreatDoorJoin
import Derived.Test.YtfifhonicjamfaaGreatDoorPlF1
import Derived.Test.YtfifhonicjamfaaGreatDoorJoinT
import Derived.Test.YtfifhonicjamfaaGreatDoorCards
import Derived.Test.YtfifhonicjamfaaGreatDoorTie
import Derived.SevenTiedAt
namespace Go.Proofs.YtfifhonicjamfaaGreatDoor.saidRulebasePromotes
open Go Go.GD Go.RowKit Go.ChangeShapes Go.WideShapes Go.ChangeAt
set_option autoImplicit false
set_option maxRecDepth 100000

theorem own : ownKnob Tryz.prog.godebug = none := by kernel_rfl
theorem laidOut : laidOutB Tryz.prog = true := by kernel_rfl
theorem rd4 : Rd Tryz.prog 4 eBool wBool := Rd.bool Tryz.underlying4 (by kernel_rfl)
theorem rd9 : Rd Tryz.prog 9 eStr wStr := Rd.str Tryz.underlying9 (by kernel_rfl)
theorem rd58 : Rd Tryz.prog 58 e_Literal (wProd wBool wStr) := Rd.struct Tryz.underlying58 (RdFs.cons rd4 rfl (RdFs.last rd9 rfl)) (by kernel_rfl)
theorem rd3 : Rd Tryz.prog 3 (eInt .i64) (wInt .i64) := Rd.int Tryz.underlying3 (by kernel_rfl)
theorem rd60 : Rd Tryz.prog 60 e_Premise (wProd (wProd wBool wStr) (wProd (wInt .i64) (wProd (wInt .i64) wStr))) := Rd.struct Tryz.underlying60 (RdFs.cons rd58 rfl (RdFs.cons rd3 rfl (RdFs.cons rd3 rfl (RdFs.last rd9 rfl)))) (by kernel_rfl)
theorem rd28 : Rd Tryz.prog 28 (eSlice e_Premise) (wList (wProd (wProd wBool wStr) (wProd (wInt .i64) (wProd (wInt .i64) wStr)))) := Rd.slice Tryz.underlying28 (by kernel_rfl) rd60
theorem rd48 : Rd Tryz.prog 48 (eSlice e_Literal) (wList (wProd wBool wStr)) := Rd.slice Tryz.underlying48 (by kernel_rfl) rd58
theorem rd63 : Rd Tryz.prog 63 e_Rule (wProd wStr (wProd wBool (wProd (wInt .i64) (wProd (wList (wProd wBool wStr)) (wProd wBool wStr))))) := Rd.struct Tryz.underlying63 (RdFs.cons rd9 rfl (RdFs.cons rd4 rfl (RdFs.cons rd3 rfl (RdFs.cons rd48 rfl (RdFs.last rd58 rfl))))) (by kernel_rfl)
theorem rd29 : Rd Tryz.prog 29 (eSlice e_Rule) (wList (wProd wStr (wProd wBool (wProd (wInt .i64) (wProd (wList (wProd wBool wStr)) (wProd wBool wStr)))))) := Rd.slice Tryz.underlying29 (by kernel_rfl) rd63
theorem rd66 : Rd Tryz.prog 66 e_Promotion (wProd wStr (wProd (wInt .i64) (wProd wBool wStr))) := Rd.struct Tryz.underlying66 (RdFs.cons rd9 rfl (RdFs.cons rd3 rfl (RdFs.last rd58 rfl))) (by kernel_rfl)
theorem rd30 : Rd Tryz.prog 30 (eSlice e_Promotion) (wList (wProd wStr (wProd (wInt .i64) (wProd wBool wStr)))) := Rd.slice Tryz.underlying30 (by kernel_rfl) rd66
theorem rd32 : Rd Tryz.prog 32 e_Base (wProd (wList (wProd (wProd wBool wStr) (wProd (wInt .i64) (wProd (wInt .i64) wStr)))) (wProd (wList (wProd wStr (wProd wBool (wProd (wInt .i64) (wProd (wList (wProd wBool wStr)) (wProd wBool wStr)))))) (wList (wProd wStr (wProd (wInt .i64) (wProd wBool wStr)))))) := Rd.struct Tryz.underlying32 (RdFs.cons rd28 rfl (RdFs.cons rd29 rfl (RdFs.last rd30 rfl))) (by kernel_rfl)
theorem rd22 : Rd Tryz.prog 22 (eSlice (eInt .i64)) (wList (wInt .i64)) := Rd.slice Tryz.underlying22 (by kernel_rfl) rd3
abbrev laidL : List (String × DataW Unit) := [("math/bits.deBruijn32tab", Rows.laid_math_bits_deBruijn32tab), ("math/bits.deBruijn64tab", Rows.laid_math_bits_deBruijn64tab), ("internal/strconv.uint64pow10", Rows.laid_internal_strconv_uint64pow10), ("unicode.White_Space", Rows.laid_unicode_White_Space), ("strings.asciiSpace", Rows.laid_strings_asciiSpace), ("deliberation/rulebase.kinds", Rows.laid_deliberation_rulebase_kinds)]

theorem tab0 {W : World} (h0 : laidMetH Tryz.prog laidL W) : (Tb Tryz.prog "strings.asciiSpace" .u8 Lib.asciiSpaceTab).h [] W := by
  have h := h0
  rw [MakeChecks.laidMetH_plain _ _ _ (by kernel_rfl)] at h
  have hr : Lib.VarReads Tryz.prog W "strings.asciiSpace" (Lib.tabData .u8 Lib.asciiSpaceTab) := (by kernel_rfl : (Rows.laid_strings_asciiSpace : DataW Unit) = Lib.tabData .u8 Lib.asciiSpaceTab) ▸ Lib.laidMet.reads h (List.mem_cons_of_mem _ (List.mem_cons_of_mem _ (List.mem_cons_of_mem _ (List.mem_cons_of_mem _ (List.mem_cons_self ..)))))
  have hT : Lib.TabIs Tryz.prog W "strings.asciiSpace" .u8 Lib.asciiSpaceTab := tab_reads (t := 111) (e := 5) (n := 256) (g := 0) (by kernel_rfl) (by kernel_rfl) (by kernel_rfl) (by kernel_rfl) (by kernel_rfl) (by kernel_rfl) hr
  exact tb_of (g := 0) (by kernel_rfl) hT

theorem tab1 {W : World} (h0 : laidMetH Tryz.prog laidL W) : (Pt (eArr 4 eStr) 1 0 tab_rulebase_kinds).h [] W := by
  have h := h0
  rw [MakeChecks.laidMetH_plain _ _ _ (by kernel_rfl)] at h
  have hr : Lib.VarReads Tryz.prog W "deliberation/rulebase.kinds" (.agg (tab_rulebase_kinds.map fun s => .lit (.string s))) := (by kernel_rfl : (Rows.laid_deliberation_rulebase_kinds : DataW Unit) = .agg (tab_rulebase_kinds.map fun s => .lit (.string s))) ▸ Lib.laidMet.reads h (List.mem_cons_of_mem _ (List.mem_cons_of_mem _ (List.mem_cons_of_mem _ (List.mem_cons_of_mem _ (List.mem_cons_of_mem _ (List.mem_cons_self ..))))))
  exact pt_strs (t := 114) (e := 9) (by kernel_rfl) (by kernel_rfl) (by kernel_rfl) (by kernel_rfl) (by kernel_rfl) (by kernel_rfl) (by decide) hr

theorem tab2 {W : World} (h0 : laidMetH Tryz.prog laidL W) : (Wt 2).h [] W := by
  have h := h0
  rw [MakeChecks.laidMetH_plain _ _ _ (by kernel_rfl)] at h
  have hr : Lib.VarReads Tryz.prog W "unicode.White_Space" Lib.whiteData := (by kernel_rfl : (Rows.laid_unicode_White_Space : DataW Unit) = Lib.whiteData) ▸ Lib.laidMet.reads h (List.mem_cons_of_mem _ (List.mem_cons_of_mem _ (List.mem_cons_of_mem _ (List.mem_cons_self ..))))
  exact wt_of (whiteTab_of_reads (ρ := Go.Proofs.Tryz.lays157_ren) { Go.Proofs.Tryz.lays157 with } ⟨by kernel_rfl, by kernel_rfl, by kernel_rfl, by kernel_rfl, by kernel_rfl, by kernel_rfl, by kernel_rfl, by kernel_rfl⟩ hr)

theorem door_met (os : Os) (args : Array Value) : laidMetH Tryz.prog laidL ((World.doorLaid Tryz.prog 53 os).forCall (fun _ _ => 0) ⟨#[], args, []⟩).memory :=
  laidMetH_of_parts3 (fuel := 8) (laidMet_of_run' 8 (by kernel_rfl) (by kernel_rfl)) (by kernel_rfl) (by kernel_rfl)

theorem contract (H : Type) (enc : TypeId × Value → H) (W : World) (base : Nat) (args : Array Value) (ds gs : List (DataW H)) (before : List MemPlace)
    (hval : ∀ (j : Nat) t v, Tryz.f5.params[j]? = some t → args[j]? = some v → Value.okWide Tryz.prog W .any base t v)
    (hW : DataW.Whole enc Tryz.prog Tryz.f5.params.toList Rows.rulebasePromotesSpec.vars false W args.toList ds gs before)
    (hL : laidMetH Tryz.prog laidL W) :
    Calls Tryz.prog 5 args W fun e W' => ∃ v, e = .returned v ∧ Rows.rulebasePromotesSpec.post enc Tryz.prog Tryz.f5 false true false false W args v W' := by
  have hW' := hW
  obtain ⟨p, q, hA0, hV, hp, _, _⟩ := hW
  have hA : DataW.TrodAll enc Tryz.prog W 0 (fun _ => true) true Tryz.f5.params.toList args.toList ds p := hA0
  rw [Tryz.params5] at hA hval
  obtain ⟨v0, vs0, d0, ds0, p0, q0, hargs, rfl, rfl, h0, r0⟩ := trodAll_cons hA
  obtain ⟨v1, vs1, d1, ds1, p1, q1, rfl, rfl, rfl, h1, r1⟩ := trodAll_cons r0
  obtain ⟨v2, vs2, d2, ds2, p2, q2, rfl, rfl, rfl, h2, r2⟩ := trodAll_cons r1
  obtain ⟨rfl, rfl, rfl⟩ := trodAll_nil r2
  obtain rfl : args = #[v0, v1, v2] := by cases args; simp_all
  obtain ⟨rfl, rfl⟩ := trodVars_none hV
  rw [List.append_nil] at hp
  obtain ⟨cs1, y0, rfl, hc1, w0⟩ := v_agg Tryz.underlying32 rd32 (hval 0 32 v0 rfl rfl) h0
  replace hc1 : E.rd e_Base _ _ cs1 y0 := hc1
  obtain ⟨_, _, rfl, ⟨p1, c1, rfl, f1⟩, ⟨_, _, rfl, ⟨p2, c2, rfl, f2⟩, ⟨p3, c3, rfl, f3⟩⟩⟩ := hc1
  obtain ⟨_, _, y1, rfl, f4, w1⟩ := v_slice Tryz.underlying48 rd48 (hval 1 48 v1 rfl rfl) h1
  obtain ⟨_, _, y2, rfl, f5, w2⟩ := v_slice Tryz.underlying22 rd22 (hval 2 22 v2 rfl rfl) h2
  refine ((c_law05_RulebasePromotes (y0 := y0) (y1 := y1) (y2 := y2)).go [] W _ (p_law05_RulebasePromotes y0 y1 y2 w0 w1 w2) (Own.start (by simp)) ⟨R.of f1, R.of f2, R.of f3, R.of f4, R.of f5, tab0 hL, tab1 hL, tab2 hL, trivial⟩).mono fun e W' he => ?_
  cases e with
  | panicked ch => exact he.elim
  | outgrown => exact he.elim
  | returned v =>
    obtain ⟨rfl, hb⟩ : v = vb true ∧ Bk _ _ _ _ _ _ _ := he _ fun h => h
    exact ⟨_, rfl, law_post hW' hA0 hp rfl rfl rfl rfl rfl Tryz.underlying4 laidOut (by kernel_rfl) hb.e⟩

set_option maxRecDepth 100000 in
theorem lifted (os : Os) (started : os.Started) (H : Type) (enc : TypeId × Value → H) :
    ReturnsInHanded {} Tryz.checked os 5 .any (fun w args => (Rows.rulebasePromotesSpec.pre enc Tryz.prog Tryz.f5 [] false w args ∧ laidMetH Tryz.prog laidL w) ∧ sizedMet enc Tryz.prog Tryz.f5 (OpenSpec.ofChange Rows.rulebasePromotesSpec) false w args) (Rows.rulebasePromotesSpec.post enc Tryz.prog Tryz.f5 false true false false) := by
  refine returnsInHanded_of_change_and (C := Tryz.checked) (X := fun w _ => laidMetH Tryz.prog laidL w) (fun _ _ _ hh h => h.of_heap hh) own started (by kernel_rfl) Tryz.func5
    (ChangeSpec.witness_shaped (enc := enc) (C := Tryz.checked) (os := os) (X := fun w _ => laidMetH Tryz.prog laidL w) false (World.doorLaid Tryz.prog 53 os) #[.agg #[.slice none 0 0, .slice none 0 0, .slice none 0 0], .slice none 0 0, .slice none 0 0] 8 rfl (World.shaped_of_RefB (by kernel_rfl) (by kernel_rfl)) (by kernel_rfl) (by kernel_rfl) (by kernel_rfl) (door_met os _)) ?_
  intro W base args ds gs before hval hW _ _ hL _
  exact contract H enc W base args ds gs before hval hW hL

theorem proved : Rows.RulebasePromotesSaid :=
  OpenClaim.holds_of_wide 5 Tryz.f5 rfl rfl rfl rfl rfl rfl rfl ⟨rfl, rfl, rfl, rfl, rfl⟩ rfl rfl rfl rfl rfl (by kernel_rfl) Tryz.func5 (by kernel_rfl)
    (of_decide_eq_true (by kernel_rfl)) (by unfold Func.isWrapper; first | (rw [if_pos (by decide +kernel)]; kernel_rfl) | (rw [if_neg (by decide +kernel)]; exact ⟨rfl, rfl⟩))
    (fun os started H enc _ => lifted os started H enc)

theorem card : Rows.RulebasePromotesCardSaid :=
  Claim7.holds_tied_plain_at .later [] [.data, .data, .data, .listed, .data, .data] true (true, "71bcf7f64a92c70fb50b1ea21d3ae7f4067d06e62f6ff230c58d30f930305b35") false
    proved (fun _ h => by cases h) (by kernel_rfl) (fun _ h => by cases h) Go.Proofs.YtfifhonicjamfaaGreatDoor.rulebasePromotes_row_tie rfl ⟨rfl, rfl⟩ (by kernel_rfl) rfl
    (fun f fn hf hfn => by
      obtain rfl : f = 5 := Option.some.inj ((show Tryz.prog.funcNamed "deliberation/deliberationlaw05.RulebasePromotes" = some 5 by kernel_rfl).symm.trans hf) |>.symm
      obtain rfl : fn = Tryz.f5 := (Option.some.inj (Tryz.func5.symm.trans hfn)).symm
      exact ⟨by kernel_rfl, fun j t ht => by
        rw [Tryz.params5] at ht
        have hm : t ∈ [32, 48, 22] := by simpa using Array.mem_of_getElem? ht
        have hall : ([32, 48, 22].all fun u => !Tryz.prog.wantsStandIn u) = true := by kernel_rfl
        exact (show Tryz.prog.wantsStandIn t = false by simpa using List.all_eq_true.1 hall t hm)⟩)
    (by kernel_rfl)
end Go.Proofs.YtfifhonicjamfaaGreatDoor.saidRulebasePromotes
namespace Go.Proofs.YtfifhonicjamfaaGreatDoor
theorem x_RulebasePromotes : Rows.RulebasePromotesCardSaid := saidRulebasePromotes.card
end Go.Proofs.YtfifhonicjamfaaGreatDoor
