/- The statement RulebaseValidates: for every input the law returns true and leaves its arguments as they were. Conditions: none. -/
import Derived.Test.YtfifhonicjamfaaDoorRows
import Derived.Test.YtfifhonicjamfaaDoorWalk
import Derived.Test.YtfifhonicjamfaaDoorJoin
import Derived.Test.YtfifhonicjamfaaDoorPlV1
import Derived.Test.YtfifhonicjamfaaDoorJoinT
import Derived.Test.YtfifhonicjamfaaDoorCards
import Derived.Test.YtfifhonicjamfaaDoorTie
import Derived.SevenTiedAt
namespace Go.Proofs.YtfifhonicjamfaaDoor.saidRulebaseValidates
open Go Go.GD Go.RowKit Go.ChangeShapes Go.WideShapes Go.ChangeAt
set_option autoImplicit false
set_option maxRecDepth 100000

theorem own : ownKnob Tryd.prog.godebug = none := by kernel_rfl
theorem laidOut : laidOutB Tryd.prog = true := by kernel_rfl
theorem rd4 : Rd Tryd.prog 4 eBool wBool := Rd.bool Tryd.underlying4 (by kernel_rfl)
theorem rd9 : Rd Tryd.prog 9 eStr wStr := Rd.str Tryd.underlying9 (by kernel_rfl)
theorem rd28 : Rd Tryd.prog 28 e_Literal (wProd wBool wStr) := Rd.struct Tryd.underlying28 (RdFs.cons rd4 rfl (RdFs.last rd9 rfl)) (by kernel_rfl)
theorem rd3 : Rd Tryd.prog 3 (eInt .i64) (wInt .i64) := Rd.int Tryd.underlying3 (by kernel_rfl)
theorem rd46 : Rd Tryd.prog 46 e_Premise (wProd (wProd wBool wStr) (wProd (wInt .i64) (wProd (wInt .i64) wStr))) := Rd.struct Tryd.underlying46 (RdFs.cons rd28 rfl (RdFs.cons rd3 rfl (RdFs.cons rd3 rfl (RdFs.last rd9 rfl)))) (by kernel_rfl)
theorem rd22 : Rd Tryd.prog 22 (eSlice e_Premise) (wList (wProd (wProd wBool wStr) (wProd (wInt .i64) (wProd (wInt .i64) wStr)))) := Rd.slice Tryd.underlying22 (by kernel_rfl) rd46
theorem rd48 : Rd Tryd.prog 48 (eSlice e_Literal) (wList (wProd wBool wStr)) := Rd.slice Tryd.underlying48 (by kernel_rfl) rd28
theorem rd50 : Rd Tryd.prog 50 e_Rule (wProd wStr (wProd wBool (wProd (wInt .i64) (wProd (wList (wProd wBool wStr)) (wProd wBool wStr))))) := Rd.struct Tryd.underlying50 (RdFs.cons rd9 rfl (RdFs.cons rd4 rfl (RdFs.cons rd3 rfl (RdFs.cons rd48 rfl (RdFs.last rd28 rfl))))) (by kernel_rfl)
theorem rd23 : Rd Tryd.prog 23 (eSlice e_Rule) (wList (wProd wStr (wProd wBool (wProd (wInt .i64) (wProd (wList (wProd wBool wStr)) (wProd wBool wStr)))))) := Rd.slice Tryd.underlying23 (by kernel_rfl) rd50
theorem rd52 : Rd Tryd.prog 52 e_Promotion (wProd wStr (wProd (wInt .i64) (wProd wBool wStr))) := Rd.struct Tryd.underlying52 (RdFs.cons rd9 rfl (RdFs.cons rd3 rfl (RdFs.last rd28 rfl))) (by kernel_rfl)
theorem rd24 : Rd Tryd.prog 24 (eSlice e_Promotion) (wList (wProd wStr (wProd (wInt .i64) (wProd wBool wStr)))) := Rd.slice Tryd.underlying24 (by kernel_rfl) rd52
theorem rd26 : Rd Tryd.prog 26 e_Base (wProd (wList (wProd (wProd wBool wStr) (wProd (wInt .i64) (wProd (wInt .i64) wStr)))) (wProd (wList (wProd wStr (wProd wBool (wProd (wInt .i64) (wProd (wList (wProd wBool wStr)) (wProd wBool wStr)))))) (wList (wProd wStr (wProd (wInt .i64) (wProd wBool wStr)))))) := Rd.struct Tryd.underlying26 (RdFs.cons rd22 rfl (RdFs.cons rd23 rfl (RdFs.last rd24 rfl))) (by kernel_rfl)
theorem rd29 : Rd Tryd.prog 29 (eSlice (eInt .i64)) (wList (wInt .i64)) := Rd.slice Tryd.underlying29 (by kernel_rfl) rd3
abbrev laidL : List (String × DataW Unit) := [("math/bits.deBruijn32tab", Rows.laid_math_bits_deBruijn32tab), ("math/bits.deBruijn64tab", Rows.laid_math_bits_deBruijn64tab), ("internal/strconv.uint64pow10", Rows.laid_internal_strconv_uint64pow10), ("unicode.White_Space", Rows.laid_unicode_White_Space), ("strings.asciiSpace", Rows.laid_strings_asciiSpace), ("deliberation/rulebase.kinds", Rows.laid_deliberation_rulebase_kinds)]

theorem tab0 {W : World} (h0 : laidMetH Tryd.prog laidL W) : (Pt (eArr 4 eStr) 0 0 tab_rulebase_kinds).h [] W := by
  have h := h0
  rw [MakeChecks.laidMetH_plain _ _ _ (by kernel_rfl)] at h
  have hr : Lib.VarReads Tryd.prog W "deliberation/rulebase.kinds" (.agg (tab_rulebase_kinds.map fun s => .lit (.string s))) := (by kernel_rfl : (Rows.laid_deliberation_rulebase_kinds : DataW Unit) = .agg (tab_rulebase_kinds.map fun s => .lit (.string s))) ▸ Lib.laidMet.reads h (List.mem_cons_of_mem _ (List.mem_cons_of_mem _ (List.mem_cons_of_mem _ (List.mem_cons_of_mem _ (List.mem_cons_of_mem _ (List.mem_cons_self ..))))))
  exact pt_strs (t := 104) (e := 9) (by kernel_rfl) (by kernel_rfl) (by kernel_rfl) (by kernel_rfl) (by kernel_rfl) (by kernel_rfl) (by decide) hr

theorem tab1 {W : World} (h0 : laidMetH Tryd.prog laidL W) : (Tb Tryd.prog "strings.asciiSpace" .u8 Lib.asciiSpaceTab).h [] W := by
  have h := h0
  rw [MakeChecks.laidMetH_plain _ _ _ (by kernel_rfl)] at h
  have hr : Lib.VarReads Tryd.prog W "strings.asciiSpace" (Lib.tabData .u8 Lib.asciiSpaceTab) := (by kernel_rfl : (Rows.laid_strings_asciiSpace : DataW Unit) = Lib.tabData .u8 Lib.asciiSpaceTab) ▸ Lib.laidMet.reads h (List.mem_cons_of_mem _ (List.mem_cons_of_mem _ (List.mem_cons_of_mem _ (List.mem_cons_of_mem _ (List.mem_cons_self ..)))))
  have hT : Lib.TabIs Tryd.prog W "strings.asciiSpace" .u8 Lib.asciiSpaceTab := tab_reads (t := 108) (e := 5) (n := 256) (g := 1) (by kernel_rfl) (by kernel_rfl) (by kernel_rfl) (by kernel_rfl) (by kernel_rfl) (by kernel_rfl) hr
  exact tb_of (g := 1) (by kernel_rfl) hT

theorem tab3 {W : World} (h0 : laidMetH Tryd.prog laidL W) : (Wt 3).h [] W := by
  have h := h0
  rw [MakeChecks.laidMetH_plain _ _ _ (by kernel_rfl)] at h
  have hr : Lib.VarReads Tryd.prog W "unicode.White_Space" Lib.whiteData := (by kernel_rfl : (Rows.laid_unicode_White_Space : DataW Unit) = Lib.whiteData) ▸ Lib.laidMet.reads h (List.mem_cons_of_mem _ (List.mem_cons_of_mem _ (List.mem_cons_of_mem _ (List.mem_cons_self ..))))
  exact wt_of (whiteTab_of_reads (ρ := Go.Proofs.Tryd.lays157_ren) { Go.Proofs.Tryd.lays157 with } ⟨by kernel_rfl, by kernel_rfl, by kernel_rfl, by kernel_rfl, by kernel_rfl, by kernel_rfl, by kernel_rfl, by kernel_rfl⟩ hr)

theorem door_met (os : Os) (args : Array Value) : laidMetH Tryd.prog laidL ((World.doorLaid Tryd.prog 53 os).forCall (fun _ _ => 0) ⟨#[], args, []⟩).memory :=
  laidMetH_of_parts3 (fuel := 8) (laidMet_of_run' 8 (by kernel_rfl) (by kernel_rfl)) (by kernel_rfl) (by kernel_rfl)

theorem contract (H : Type) (enc : TypeId × Value → H) (W : World) (base : Nat) (args : Array Value) (ds gs : List (DataW H)) (before : List MemPlace)
    (hval : ∀ (j : Nat) t v, Tryd.f3.params[j]? = some t → args[j]? = some v → Value.okWide Tryd.prog W .any base t v)
    (hW : DataW.Whole enc Tryd.prog Tryd.f3.params.toList Rows.rulebaseValidatesSpec.vars false W args.toList ds gs before)
    (hL : laidMetH Tryd.prog laidL W) :
    Calls Tryd.prog 3 args W fun e W' => ∃ v, e = .returned v ∧ Rows.rulebaseValidatesSpec.post enc Tryd.prog Tryd.f3 false true false false W args v W' := by
  have hW' := hW
  obtain ⟨p, q, hA0, hV, hp, _, _⟩ := hW
  have hA : DataW.TrodAll enc Tryd.prog W 0 (fun _ => true) true Tryd.f3.params.toList args.toList ds p := hA0
  rw [Tryd.params3] at hA hval
  obtain ⟨v0, vs0, d0, ds0, p0, q0, hargs, rfl, rfl, h0, r0⟩ := trodAll_cons hA
  obtain ⟨v1, vs1, d1, ds1, p1, q1, rfl, rfl, rfl, h1, r1⟩ := trodAll_cons r0
  obtain ⟨v2, vs2, d2, ds2, p2, q2, rfl, rfl, rfl, h2, r2⟩ := trodAll_cons r1
  obtain ⟨v3, vs3, d3, ds3, p3, q3, rfl, rfl, rfl, h3, r3⟩ := trodAll_cons r2
  obtain ⟨rfl, rfl, rfl⟩ := trodAll_nil r3
  obtain rfl : args = #[v0, v1, v2, v3] := by cases args; simp_all
  obtain ⟨rfl, rfl⟩ := trodVars_none hV
  rw [List.append_nil] at hp
  obtain ⟨cs1, y0, rfl, hc1, w0⟩ := v_agg Tryd.underlying26 rd26 (hval 0 26 v0 rfl rfl) h0
  replace hc1 : E.rd e_Base _ _ cs1 y0 := hc1
  obtain ⟨_, _, rfl, ⟨p1, c1, rfl, f1⟩, ⟨_, _, rfl, ⟨p2, c2, rfl, f2⟩, ⟨p3, c3, rfl, f3⟩⟩⟩ := hc1
  obtain ⟨y1, rfl, w1⟩ := v_str Tryd.underlying9 (hval 1 9 v1 rfl rfl) h1
  obtain ⟨cs2, y2, rfl, hc2, w2⟩ := v_agg Tryd.underlying28 rd28 (hval 2 28 v2 rfl rfl) h2
  replace hc2 : E.rd e_Literal _ _ cs2 y2 := hc2
  obtain ⟨_, _, rfl, rfl, rfl⟩ := hc2
  obtain ⟨_, _, y3, rfl, f4, w3⟩ := v_slice Tryd.underlying29 rd29 (hval 3 29 v3 rfl rfl) h3
  refine ((c_law05_RulebaseValidates (y0 := y0) (y1 := y1) (y2 := y2) (y3 := y3)).go [] W _ (p_law05_RulebaseValidates y0 y1 y2 y3 w0 w1 w2 w3) (Own.start (by simp)) ⟨R.of f1, R.of f2, R.of f3, R.of f4, tab0 hL, tab1 hL, tab3 hL, trivial⟩).mono fun e W' he => ?_
  cases e with
  | panicked ch => exact he.elim
  | outgrown => exact he.elim
  | returned v =>
    obtain ⟨rfl, hb⟩ : v = vb true ∧ Bk _ _ _ _ _ _ _ := he _ fun h => h
    exact ⟨_, rfl, law_post hW' hA0 hp rfl rfl rfl rfl rfl Tryd.underlying4 laidOut (by kernel_rfl) hb.e⟩

set_option maxRecDepth 100000 in
theorem lifted (os : Os) (started : os.Started) (H : Type) (enc : TypeId × Value → H) :
    ReturnsInHanded {} Tryd.checked os 3 .any (fun w args => (Rows.rulebaseValidatesSpec.pre enc Tryd.prog Tryd.f3 [] false w args ∧ laidMetH Tryd.prog laidL w) ∧ sizedMet enc Tryd.prog Tryd.f3 (OpenSpec.ofChange Rows.rulebaseValidatesSpec) false w args) (Rows.rulebaseValidatesSpec.post enc Tryd.prog Tryd.f3 false true false false) := by
  refine returnsInHanded_of_change_and (C := Tryd.checked) (X := fun w _ => laidMetH Tryd.prog laidL w) (fun _ _ _ hh h => h.of_heap hh) own started (by kernel_rfl) Tryd.func3
    (ChangeSpec.witness_shaped (enc := enc) (C := Tryd.checked) (os := os) (X := fun w _ => laidMetH Tryd.prog laidL w) false (World.doorLaid Tryd.prog 53 os) #[.agg #[.slice none 0 0, .slice none 0 0, .slice none 0 0], .string ⟨#[]⟩, .agg #[.bool false, .string ⟨#[]⟩], .slice none 0 0] 8 rfl (World.shaped_of_RefB (by kernel_rfl) (by kernel_rfl)) (by kernel_rfl) (by kernel_rfl) (by kernel_rfl) (door_met os _)) ?_
  intro W base args ds gs before hval hW _ _ hL _
  exact contract H enc W base args ds gs before hval hW hL

theorem proved : Rows.RulebaseValidatesSaid :=
  OpenClaim.holds_of_wide 3 Tryd.f3 rfl rfl rfl rfl rfl rfl rfl ⟨rfl, rfl, rfl, rfl, rfl⟩ rfl rfl rfl rfl rfl (by kernel_rfl) Tryd.func3 (by kernel_rfl)
    (of_decide_eq_true (by kernel_rfl)) (by unfold Func.isWrapper; first | (rw [if_pos (by decide +kernel)]; kernel_rfl) | (rw [if_neg (by decide +kernel)]; exact ⟨rfl, rfl⟩))
    (fun os started H enc _ => lifted os started H enc)

theorem card : Rows.RulebaseValidatesCardSaid :=
  Claim7.holds_tied_plain_at .later [] [.data, .data, .data, .listed, .data, .data] true (true, "a6d95b83bd6926f440974559b776db8ed48407f49714724e72738302c77f203f") false
    proved (fun _ h => by cases h) (by kernel_rfl) (fun _ h => by cases h) Go.Proofs.YtfifhonicjamfaaDoor.rulebaseValidates_row_tie rfl ⟨rfl, rfl⟩ (by kernel_rfl) rfl
    (fun f fn hf hfn => by
      obtain rfl : f = 3 := Option.some.inj ((show Tryd.prog.funcNamed "deliberation/deliberationlaw05.RulebaseValidates" = some 3 by kernel_rfl).symm.trans hf) |>.symm
      obtain rfl : fn = Tryd.f3 := (Option.some.inj (Tryd.func3.symm.trans hfn)).symm
      exact ⟨by kernel_rfl, fun j t ht => by
        rw [Tryd.params3] at ht
        have hm : t ∈ [26, 9, 28, 29] := by simpa using Array.mem_of_getElem? ht
        have hall : ([26, 9, 28, 29].all fun u => !Tryd.prog.wantsStandIn u) = true := by kernel_rfl
        exact (show Tryd.prog.wantsStandIn t = false by simpa using List.all_eq_true.1 hall t hm)⟩)
    (by kernel_rfl)
end Go.Proofs.YtfifhonicjamfaaDoor.saidRulebaseValidates
namespace Go.Proofs.YtfifhonicjamfaaDoor
theorem x_RulebaseValidates : Rows.RulebaseValidatesCardSaid := saidRulebaseValidates.card
end Go.Proofs.YtfifhonicjamfaaDoor
