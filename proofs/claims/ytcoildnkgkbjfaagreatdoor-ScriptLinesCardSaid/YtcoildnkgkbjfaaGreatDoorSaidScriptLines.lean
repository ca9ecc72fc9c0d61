/- A part. Conditions: none. -/
import Derived.Test.YtcoildnkgkbjfaaGreatDoorRows
import Derived.Test.YtcoildnkgkbjfaaGreatDoorWalk
import Derived.Test.YtcoildnkgkbjfaaGreatDoorJoin
import Derived.Test.YtcoildnkgkbjfaaGreatDoorPlL3
import Derived.Test.YtcoildnkgkbjfaaGreatDoorJoinE
import Derived.Test.YtcoildnkgkbjfaaGreatDoorJoinA
import Derived.Test.YtcoildnkgkbjfaaGreatDoorJoinR
import Derived.Test.YtcoildnkgkbjfaaGreatDoorCards
import Derived.Test.YtcoildnkgkbjfaaGreatDoorTie
import Derived.SevenTiedAt
namespace Go.Proofs.YtcoildnkgkbjfaaGreatDoor.saidScriptLines
open Go Go.GD Go.RowKit Go.ChangeShapes Go.WideShapes Go.ChangeAt
set_option autoImplicit false
set_option maxRecDepth 100000
theorem own : ownKnob Tryz.prog.godebug = none := by kernel_rfl
theorem z62 : laidOutB Tryz.prog = true := by kernel_rfl
theorem rd3 : Rd Tryz.prog 3 (zR .i64) (yU .i64) := Rd.int Tryz.underlying3 (by kernel_rfl)
theorem rd9 : Rd Tryz.prog 9 wD zXZ := Rd.str Tryz.underlying9 (by kernel_rfl)
theorem rd4 : Rd Tryz.prog 4 zH8 zQh := Rd.bool Tryz.underlying4 (by kernel_rfl)
theorem rd23 : Rd Tryz.prog 23 qU (vQ zQh zXZ) := Rd.struct Tryz.underlying23 (tN.cons rd4 rfl (tN.last rd9 rfl)) (by kernel_rfl)
theorem rd24 : Rd Tryz.prog 24 (wJ qU) (zTf (vQ zQh zXZ)) := Rd.slice Tryz.underlying24 (by kernel_rfl) rd23
theorem rd26 : Rd Tryz.prog 26 zRQ (vQ (yU .i64) (vQ (yU .i64) (vQ (yU .i64) (vQ (vQ zQh zXZ) (zTf (vQ zQh zXZ)))))) := Rd.struct Tryz.underlying26 (tN.cons rd3 rfl (tN.cons rd3 rfl (tN.cons rd3 rfl (tN.cons rd23 rfl (tN.last rd24 rfl))))) (by kernel_rfl)
theorem rd27 : Rd Tryz.prog 27 (qM (zR .i64) (zR .i64)) (vQ (yU .i64) (yU .i64)) := Rd.arr2 Tryz.underlying27 rd3 (by kernel_rfl)
theorem rd29 : Rd Tryz.prog 29 zJB (vQ (yU .i64) (vQ (yU .i64) (vQ (yU .i64) (yU .i64)))) := Rd.struct Tryz.underlying29 (tN.cons rd3 rfl (tN.cons rd3 rfl (tN.cons rd3 rfl (tN.last rd3 rfl)))) (by kernel_rfl)
theorem rd32 : Rd Tryz.prog 32 qD wAny := Rd.frm Tryz.underlying32 rfl rfl rfl rfl rfl rfl rfl rd3 rd9 Tryz.underlying30 (by kernel_rfl) (by kernel_rfl)
theorem rd34 : Rd Tryz.prog 34 zD4 (vQ (yU .i64) (vQ (yU .i64) (vQ (yU .i64) (vQ (yU .i64) (vQ zXZ (vQ (vQ (yU .i64) (vQ (yU .i64) (vQ (yU .i64) (vQ (vQ zQh zXZ) (zTf (vQ zQh zXZ)))))) (vQ (vQ zQh zXZ) (vQ (vQ (yU .i64) (yU .i64)) (vQ (vQ (yU .i64) (vQ (yU .i64) (vQ (yU .i64) (yU .i64)))) wAny))))))))) := Rd.struct Tryz.underlying34 (tN.cons rd3 rfl (tN.cons rd3 rfl (tN.cons rd3 rfl (tN.cons rd3 rfl (tN.cons rd9 rfl (tN.cons rd26 rfl (tN.cons rd23 rfl (tN.cons rd27 rfl (tN.cons rd29 rfl (tN.last rd32 rfl)))))))))) (by kernel_rfl)
theorem rd35 : Rd Tryz.prog 35 (wJ (zR .i64)) (zTf (yU .i64)) := Rd.slice Tryz.underlying35 (by kernel_rfl) rd3
theorem rd5 : Rd Tryz.prog 5 (zR .u8) (yU .u8) := Rd.int Tryz.underlying5 (by kernel_rfl)
abbrev zUc : List (String × DataW Unit) := [("math/bits.deBruijn32tab", Rows.laid_math_bits_deBruijn32tab), ("math/bits.deBruijn64tab", Rows.laid_math_bits_deBruijn64tab), ("internal/strconv.uint64pow10", Rows.laid_internal_strconv_uint64pow10), ("strconv.ErrRange", Rows.laid_strconv_ErrRange), ("strconv.ErrSyntax", Rows.laid_strconv_ErrSyntax), ("deliberation/formula.words", Rows.laid_deliberation_formula_words)]
theorem tab0 {W : World} (h0 : laidMetH Tryz.prog zUc W) : (Pt (z0U 9 wD) 0 0 zA0).h [] W := by
  have h := h0
  rw [MakeChecks.laidMetH_plain _ _ _ (by kernel_rfl)] at h
  have hr : Lib.VarReads Tryz.prog W "deliberation/formula.words" (.agg (zA0.map fun s => .lit (.string s))) := (by kernel_rfl : (Rows.laid_deliberation_formula_words : DataW Unit) = .agg (zA0.map fun s => .lit (.string s))) ▸ Lib.laidMet.reads h (Qq _ (Qq _ (Qq _ (Qq _ (Qq _ (Qz ..))))))
  exact z69 (t := 262) (e := 9) (by kernel_rfl) (by kernel_rfl) (by kernel_rfl) (by kernel_rfl) (by kernel_rfl) (by kernel_rfl) (by decide) hr
theorem tab2 {W : World} (h0 : laidMetH Tryz.prog zUc W) : (vW 2).h [] W := by
  have h := h0
  rw [MakeChecks.laidMetH_plain _ _ _ (by kernel_rfl)] at h
  exact z5e (t := 155) (by kernel_rfl) (by kernel_rfl) Tryz.underlying155 (Lib.laidMet.reads h (Qq _ (Qq _ (Qq _ (Qq _ (Qz ..))))))
theorem tab3 {W : World} (h0 : laidMetH Tryz.prog zUc W) : (vW 3).h [] W := by
  have h := h0
  rw [MakeChecks.laidMetH_plain _ _ _ (by kernel_rfl)] at h
  exact z5e (t := 155) (by kernel_rfl) (by kernel_rfl) Tryz.underlying155 (Lib.laidMet.reads h (Qq _ (Qq _ (Qq _ (Qz ..)))))
theorem tab4 {W : World} (h0 : laidMetH Tryz.prog zUc W) : (Tb Tryz.prog "internal/strconv.uint64pow10" .u64 Lib.pow10Tab).h [] W := by
  have h := h0
  rw [MakeChecks.laidMetH_plain _ _ _ (by kernel_rfl)] at h
  have hr : Lib.VarReads Tryz.prog W "internal/strconv.uint64pow10" (Lib.tabData .u64 Lib.pow10Tab) := (by kernel_rfl : (Rows.laid_internal_strconv_uint64pow10 : DataW Unit) = Lib.tabData .u64 Lib.pow10Tab) ▸ Lib.laidMet.reads h (Qq _ (Qq _ (Qz ..)))
  have hT : Lib.TabIs Tryz.prog W "internal/strconv.uint64pow10" .u64 Lib.pow10Tab := z2U (t := 295) (e := 140) (n := 20) (g := 4) (by kernel_rfl) (by kernel_rfl) (by kernel_rfl) (by kernel_rfl) (by kernel_rfl) (by kernel_rfl) hr
  exact tb_of (g := 4) (by kernel_rfl) hT
theorem z4n (os : Os) (args : Array Value) : laidMetH Tryz.prog zUc ((World.doorLaid Tryz.prog 67 os).forCall (fun _ _ => 0) ⟨#[], args, []⟩).memory :=
  laidMetH_of_parts3 (fuel := 8) (laidMet_of_run' 8 (by kernel_rfl) (by kernel_rfl)) (by kernel_rfl) (by kernel_rfl)
theorem z4z (H : Type) (enc : TypeId × Value → H) (W : World) (base : Nat) (args : Array Value) (ds gs : List (DataW H)) (before : List MemPlace)
    (hval : ∀ (j : Nat) t v, Tryz.f3.params[j]? = some t → args[j]? = some v → Value.okWide Tryz.prog W .any base t v)
    (hW : DataW.Whole enc Tryz.prog Tryz.f3.params.toList Rows.scriptLinesSpec.vars false W args.toList ds gs before)
    (hL : laidMetH Tryz.prog zUc W) :
    Calls Tryz.prog 3 args W fun e W' => ∃ v, e = .returned v ∧ Rows.scriptLinesSpec.post enc Tryz.prog Tryz.f3 false true false false W args v W' := by
  have hW' := hW
  obtain ⟨p, q, hA0, hV, hp, _, _⟩ := hW
  have hA : DataW.TrodAll enc Tryz.prog W 0 (fun _ => true) true Tryz.f3.params.toList args.toList ds p := hA0
  rw [Tryz.params3] at hA hval
  obtain ⟨v0, vs0, d0, ds0, p0, q0, hargs, rfl, rfl, h0, r0⟩ := trodAll_cons hA
  obtain ⟨v1, vs1, d1, ds1, p1, q1, rfl, rfl, rfl, h1, r1⟩ := trodAll_cons r0
  obtain ⟨v2, vs2, d2, ds2, p2, q2, rfl, rfl, rfl, h2, r2⟩ := trodAll_cons r1
  obtain ⟨v3, vs3, d3, ds3, p3, q3, rfl, rfl, rfl, h3, r3⟩ := trodAll_cons r2
  obtain ⟨v4, vs4, d4, ds4, p4, q4, rfl, rfl, rfl, h4, r4⟩ := trodAll_cons r3
  obtain ⟨rfl, rfl, rfl⟩ := trodAll_nil r4
  obtain rfl : args = #[v0, v1, v2, v3, v4] := by cases args; simp_all
  obtain ⟨rfl, rfl⟩ := trodVars_none hV
  rw [QJ] at hp
  obtain ⟨cs1, y0, rfl, hc1, w0⟩ := v_agg Tryz.underlying34 rd34 (hval 0 34 v0 rfl rfl) h0
  replace hc1 : E.rd zD4 _ _ cs1 y0 := hc1
  obtain ⟨_, _, rfl, rfl, ⟨_, _, rfl, rfl, ⟨_, _, rfl, rfl, ⟨_, _, rfl, rfl, ⟨_, _, rfl, rfl, ⟨_, _, rfl, ⟨_, _, rfl, rfl, ⟨_, _, rfl, rfl, ⟨_, _, rfl, rfl, ⟨_, _, rfl, ⟨_, _, rfl, rfl, rfl⟩, ⟨p1, c1, rfl, f1⟩⟩⟩⟩⟩, ⟨_, _, rfl, ⟨_, _, rfl, rfl, rfl⟩, ⟨_, _, rfl, ⟨_, _, rfl, rfl, rfl⟩, ⟨_, _, rfl, ⟨_, _, rfl, rfl, ⟨_, _, rfl, rfl, ⟨_, _, rfl, rfl, rfl⟩⟩⟩, q1⟩⟩⟩⟩⟩⟩⟩⟩⟩ := hc1
  obtain ⟨_, _, rfl, rfl, ⟨_, _, rfl, rfl, ⟨p2, c2, rfl, f2⟩⟩⟩ := zZj.1 q1
  obtain ⟨y1, rfl, w1⟩ := v_str Tryz.underlying9 (hval 1 9 v1 rfl rfl) h1
  obtain ⟨_, _, y2, rfl, f3, w2⟩ := z74 Tryz.underlying35 rd35 (hval 2 35 v2 rfl rfl) h2
  obtain ⟨y3, rfl, w3⟩ := v_int Tryz.underlying3 (hval 3 3 v3 rfl rfl) h3
  obtain ⟨y4, rfl, w4⟩ := v_int Tryz.underlying5 (hval 4 5 v4 rfl rfl) h4
  refine ((zIa (y0 := y0) (y1 := y1) (y2 := y2) (y3 := y3) (y4 := y4)).go [] W _ (zNL y0 y1 y2 y3 y4 w0 w1 w2 w3 w4) (qF.start (by simp)) ⟨R.of f1, R.of f2, R.of f3, tab0 hL, tab2 hL, tab3 hL, tab4 hL, trivial⟩).mono fun e W' he => ?_
  cases e with
  | panicked ch => exact he.elim
  | outgrown => exact he.elim
  | returned v =>
    obtain ⟨rfl, hb⟩ : v = vb true ∧ Bk _ _ _ _ _ _ _ := he _ fun h => h
    exact ⟨_, rfl, z4O hW' hA0 hp rfl rfl rfl rfl rfl Tryz.underlying4 z62 (by kernel_rfl) hb.e⟩
set_option maxRecDepth 100000 in
theorem lifted (os : Os) (started : os.Started) (H : Type) (enc : TypeId × Value → H) :
    ReturnsInHanded {} Tryz.checked os 3 .any (fun w args => (Rows.scriptLinesSpec.pre enc Tryz.prog Tryz.f3 [] false w args ∧ laidMetH Tryz.prog zUc w) ∧ sizedMet enc Tryz.prog Tryz.f3 (OpenSpec.ofChange Rows.scriptLinesSpec) false w args) (Rows.scriptLinesSpec.post enc Tryz.prog Tryz.f3 false true false false) := by
  refine returnsInHanded_of_change_and (C := Tryz.checked) (X := fun w _ => laidMetH Tryz.prog zUc w) (fun _ _ _ hh h => h.of_heap hh) own started (by kernel_rfl) Tryz.func3
    (ChangeSpec.witness_shaped (enc := enc) (C := Tryz.checked) (os := os) (X := fun w _ => laidMetH Tryz.prog zUc w) false (World.doorLaid Tryz.prog 67 os) #[.agg #[.int .i64 0, .int .i64 0, .int .i64 0, .int .i64 0, .string ⟨#[]⟩, .int .i64 0, .int .i64 0, .int .i64 0, .bool false, .string ⟨#[]⟩, .slice none 0 0, .bool false, .string ⟨#[]⟩, .int .i64 0, .int .i64 0, .int .i64 0, .int .i64 0, .int .i64 0, .int .i64 0, .int .i64 0, .string ⟨#[]⟩, .slice none 0 0], .string ⟨#[]⟩, .slice none 0 0, .int .i64 0, .int .u8 0] 8 rfl (World.shaped_of_RefB (by kernel_rfl) (by kernel_rfl)) (by kernel_rfl) (by kernel_rfl) (by kernel_rfl) (z4n os _)) ?_
  intro W base args ds gs before hval hW _ _ hL _
  exact z4z H enc W base args ds gs before hval hW hL
set_option maxHeartbeats 4000000
theorem pf0 : Tryz.pinned.checked.prog.funcNamed Rows.scriptLinesRow.func = some 3 := by kernel_rfl
theorem pf1 : joinedFacts Tryz.pinned.checked.prog 3 Tryz.f3 Rows.scriptLinesSpec Rows.scriptLinesRow = true := by kernel_rfl
theorem pf2 : decide (Tryz.f3.isInstance Tryz.pinned.checked.prog Rows.scriptLinesRow.origin Rows.scriptLinesRow.targs) = true := by kernel_rfl
theorem pf3 : Tryz.f3.isWrapper Tryz.pinned.checked.prog Rows.scriptLinesRow.wrapper Rows.scriptLinesRow.mainSum := by unfold Func.isWrapper; first | (rw [if_pos (by decide +kernel)]; kernel_rfl) | (rw [if_neg (by decide +kernel)]; exact ⟨rfl, rfl⟩)
theorem proved : Rows.ScriptLinesSaid :=
  OpenClaim.holds_of_wide 3 Tryz.f3 rfl rfl rfl rfl rfl rfl rfl ⟨rfl, rfl, rfl, rfl, rfl⟩ rfl rfl rfl rfl rfl pf0 Tryz.func3 pf1 (of_decide_eq_true pf2) pf3 (fun os started H enc _ => lifted os started H enc)
theorem card : Rows.ScriptLinesCardSaid :=
  Claim7.holds_tied_plain_at .later [] [.data, .data, .data, .sentinel, .sentinel, .data] true (true, "dbeae4a2977bedb736978df46ea4b6d9469d6d8ce821ba0e4516b7b8104b1a34") true
    proved (fun _ h => by cases h) (by kernel_rfl) (fun _ h => by cases h) Go.Proofs.YtcoildnkgkbjfaaGreatDoor.scriptLines_row_tie rfl ⟨rfl, rfl⟩ (by kernel_rfl) rfl
    (fun f fn hf hfn => by
      obtain rfl : f = 3 := QE ((show Tryz.prog.funcNamed "deliberation/deliberationlaw41.ScriptLines" = some 3 by kernel_rfl).symm.trans hf) |>.symm
      obtain rfl : fn = Tryz.f3 := (QE (Tryz.func3.symm.trans hfn)).symm
      exact ⟨by kernel_rfl, fun j t ht => by
        rw [Tryz.params3] at ht
        have hm : t ∈ [34, 9, 35, 3, 5] := by simpa using Array.mem_of_getElem? ht
        have hall : ([34, 9, 35, 3, 5].all fun u => !Tryz.prog.wantsStandIn u) = true := by kernel_rfl
        exact (show Tryz.prog.wantsStandIn t = false by simpa using QK.1 hall t hm)⟩)
    (by kernel_rfl)
end Go.Proofs.YtcoildnkgkbjfaaGreatDoor.saidScriptLines
namespace Go.Proofs.YtcoildnkgkbjfaaGreatDoor
theorem x_ScriptLines : Rows.ScriptLinesCardSaid := saidScriptLines.card
end Go.Proofs.YtcoildnkgkbjfaaGreatDoor
