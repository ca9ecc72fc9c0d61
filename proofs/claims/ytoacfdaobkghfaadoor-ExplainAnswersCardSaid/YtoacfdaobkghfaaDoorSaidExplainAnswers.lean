/- The statement ExplainAnswers: for every input the law returns true and leaves its arguments as they were. Conditions: none. -/
import Derived.Test.YtoacfdaobkghfaaDoorRows
import Derived.Test.YtoacfdaobkghfaaDoorWalk
import Derived.Test.YtoacfdaobkghfaaDoorJoin
import Derived.Test.YtoacfdaobkghfaaDoorPl2
import Derived.Test.YtoacfdaobkghfaaDoorJoinT
import Derived.Test.YtoacfdaobkghfaaDoorCards
import Derived.Test.YtoacfdaobkghfaaDoorTie
import Derived.SevenTiedAt
namespace Go.Proofs.YtoacfdaobkghfaaDoor.saidExplainAnswers
open Go Go.GD Go.RowKit Go.ChangeShapes Go.WideShapes Go.ChangeAt
set_option autoImplicit false
set_option maxRecDepth 100000

theorem own : ownKnob Tryd.prog.godebug = none := by kernel_rfl
theorem laidOut : laidOutB Tryd.prog = true := by kernel_rfl
theorem rd3 : Rd Tryd.prog 3 (eInt .i64) (wInt .i64) := Rd.int Tryd.underlying3 (by kernel_rfl)
theorem rd50 : Rd Tryd.prog 50 e_Pair (wProd (wInt .i64) (wInt .i64)) := Rd.struct Tryd.underlying50 (RdFs.cons rd3 rfl (RdFs.last rd3 rfl)) (by kernel_rfl)
theorem rd22 : Rd Tryd.prog 22 (eSlice e_Pair) (wList (wProd (wInt .i64) (wInt .i64))) := Rd.slice Tryd.underlying22 (by kernel_rfl) rd50
theorem rd24 : Rd Tryd.prog 24 e_Graph (wProd (wInt .i64) (wList (wProd (wInt .i64) (wInt .i64)))) := Rd.struct Tryd.underlying24 (RdFs.cons rd3 rfl (RdFs.last rd22 rfl)) (by kernel_rfl)
theorem rd25 : Rd Tryd.prog 25 (eSlice (eInt .i64)) (wList (wInt .i64)) := Rd.slice Tryd.underlying25 (by kernel_rfl) rd3
abbrev laidL : List (String × DataW Unit) := [("math/bits.deBruijn64tab", Rows.laid_math_bits_deBruijn64tab)]

theorem tab0 {W : World} (h0 : laidMetH Tryd.prog laidL W) : (Pt (eArr 64 (eInt .u8)) 0 0 tab_math_bits_deBruijn64tab).h [] W := by
  have h := h0
  rw [MakeChecks.laidMetH_plain _ _ _ (by kernel_rfl)] at h
  have hT : Lib.TabIs Tryd.prog W "math/bits.deBruijn64tab" .u8 tab_math_bits_deBruijn64tab := Lib.tabIs_of_head (t := 92) (e := 5) (n := 64) (g := 0) (by kernel_rfl) (by kernel_rfl) (by kernel_rfl) (by kernel_rfl) (by kernel_rfl) (by kernel_rfl) h
  exact pt_tab (fun i hi => hT.cell (g := 0) (by kernel_rfl) i hi) (by kernel_rfl) (by decide)

theorem door_met (os : Os) (args : Array Value) : laidMetH Tryd.prog laidL ((World.doorLaid Tryd.prog 14 os).forCall (fun _ _ => 0) ⟨#[], args, []⟩).memory :=
  laidMetH_of_parts3 (fuel := 8) (laidMet_of_run' 8 (by kernel_rfl) (by kernel_rfl)) (by kernel_rfl) (by kernel_rfl)

theorem contract (H : Type) (enc : TypeId × Value → H) (W : World) (base : Nat) (args : Array Value) (ds gs : List (DataW H)) (before : List MemPlace)
    (hval : ∀ (j : Nat) t v, Tryd.f3.params[j]? = some t → args[j]? = some v → Value.okWide Tryd.prog W .any base t v)
    (hW : DataW.Whole enc Tryd.prog Tryd.f3.params.toList Rows.explainAnswersSpec.vars false W args.toList ds gs before)
    (hL : laidMetH Tryd.prog laidL W) :
    Calls Tryd.prog 3 args W fun e W' => ∃ v, e = .returned v ∧ Rows.explainAnswersSpec.post enc Tryd.prog Tryd.f3 false true false false W args v W' := by
  have hW' := hW
  obtain ⟨p, q, hA0, hV, hp, _, _⟩ := hW
  have hA : DataW.TrodAll enc Tryd.prog W 0 (fun _ => true) true Tryd.f3.params.toList args.toList ds p := hA0
  rw [Tryd.params3] at hA hval
  obtain ⟨v0, vs0, d0, ds0, p0, q0, hargs, rfl, rfl, h0, r0⟩ := trodAll_cons hA
  obtain ⟨v1, vs1, d1, ds1, p1, q1, rfl, rfl, rfl, h1, r1⟩ := trodAll_cons r0
  obtain ⟨v2, vs2, d2, ds2, p2, q2, rfl, rfl, rfl, h2, r2⟩ := trodAll_cons r1
  obtain ⟨v3, vs3, d3, ds3, p3, q3, rfl, rfl, rfl, h3, r3⟩ := trodAll_cons r2
  obtain ⟨rfl, rfl, rfl⟩ := trodAll_nil r3
  obtain rfl : args = #[v0, v1, v2, v3] := by cases args; simp_all
  obtain ⟨rfl, rfl⟩ := trodVars_none hV
  rw [List.append_nil] at hp
  obtain ⟨cs1, y0, rfl, hc1, w0⟩ := v_agg Tryd.underlying24 rd24 (hval 0 24 v0 rfl rfl) h0
  replace hc1 : E.rd e_Graph _ _ cs1 y0 := hc1
  obtain ⟨_, _, rfl, rfl, ⟨p1, c1, rfl, f1⟩⟩ := hc1
  obtain ⟨_, _, y1, rfl, f2, w1⟩ := v_slice Tryd.underlying25 rd25 (hval 1 25 v1 rfl rfl) h1
  obtain ⟨y2, rfl, w2⟩ := v_int Tryd.underlying3 (hval 2 3 v2 rfl rfl) h2
  obtain ⟨y3, rfl, w3⟩ := v_int Tryd.underlying3 (hval 3 3 v3 rfl rfl) h3
  refine ((c_law24_ExplainAnswers (y0 := y0) (y1 := y1) (y2 := y2) (y3 := y3)).go [] W _ (p_law24_ExplainAnswers y0 y1 y2 y3 w0 w1 w2 w3) (Own.start (by simp)) ⟨R.of f1, R.of f2, tab0 hL, trivial⟩).mono fun e W' he => ?_
  cases e with
  | panicked ch => exact he.elim
  | outgrown => exact he.elim
  | returned v =>
    obtain ⟨rfl, hb⟩ : v = vb true ∧ Bk _ _ _ _ _ _ := he _ fun h => h
    exact ⟨_, rfl, law_post hW' hA0 hp rfl rfl rfl rfl rfl Tryd.underlying4 laidOut (by kernel_rfl) hb.e⟩

set_option maxRecDepth 100000 in
theorem lifted (os : Os) (started : os.Started) (H : Type) (enc : TypeId × Value → H) :
    ReturnsInHanded {} Tryd.checked os 3 .any (fun w args => (Rows.explainAnswersSpec.pre enc Tryd.prog Tryd.f3 [] false w args ∧ laidMetH Tryd.prog laidL w) ∧ sizedMet enc Tryd.prog Tryd.f3 (OpenSpec.ofChange Rows.explainAnswersSpec) false w args) (Rows.explainAnswersSpec.post enc Tryd.prog Tryd.f3 false true false false) := by
  refine returnsInHanded_of_change_and (C := Tryd.checked) (X := fun w _ => laidMetH Tryd.prog laidL w) (fun _ _ _ hh h => h.of_heap hh) own started (by kernel_rfl) Tryd.func3
    (ChangeSpec.witness_shaped (enc := enc) (C := Tryd.checked) (os := os) (X := fun w _ => laidMetH Tryd.prog laidL w) false (World.doorLaid Tryd.prog 14 os) #[.agg #[.int .i64 0, .slice none 0 0], .slice none 0 0, .int .i64 0, .int .i64 0] 8 rfl (World.shaped_of_RefB (by kernel_rfl) (by kernel_rfl)) (by kernel_rfl) (by kernel_rfl) (by kernel_rfl) (door_met os _)) ?_
  intro W base args ds gs before hval hW _ _ hL _
  exact contract H enc W base args ds gs before hval hW hL

theorem proved : Rows.ExplainAnswersSaid :=
  OpenClaim.holds_of_wide 3 Tryd.f3 rfl rfl rfl rfl rfl rfl rfl ⟨rfl, rfl, rfl, rfl, rfl⟩ rfl rfl rfl rfl rfl (by kernel_rfl) Tryd.func3 (by kernel_rfl)
    (of_decide_eq_true (by kernel_rfl)) (by unfold Func.isWrapper; first | (rw [if_pos (by decide +kernel)]; kernel_rfl) | (rw [if_neg (by decide +kernel)]; exact ⟨rfl, rfl⟩))
    (fun os started H enc _ => lifted os started H enc)

theorem card : Rows.ExplainAnswersCardSaid :=
  Claim7.holds_tied_plain_at .later [] [.data] true (true, "860ca93501e29792db591e5641ef20577f4e602c000af803bec05950ec1bb83d") false
    proved (fun _ h => by cases h) (by kernel_rfl) (fun _ h => by cases h) Go.Proofs.YtoacfdaobkghfaaDoor.explainAnswers_row_tie rfl ⟨rfl, rfl⟩ (by kernel_rfl) rfl
    (fun f fn hf hfn => by
      obtain rfl : f = 3 := Option.some.inj ((show Tryd.prog.funcNamed "deliberation/deliberationlaw24.ExplainAnswers" = some 3 by kernel_rfl).symm.trans hf) |>.symm
      obtain rfl : fn = Tryd.f3 := (Option.some.inj (Tryd.func3.symm.trans hfn)).symm
      exact ⟨by kernel_rfl, fun j t ht => by
        rw [Tryd.params3] at ht
        have hm : t ∈ [24, 25, 3, 3] := by simpa using Array.mem_of_getElem? ht
        have hall : ([24, 25, 3, 3].all fun u => !Tryd.prog.wantsStandIn u) = true := by kernel_rfl
        exact (show Tryd.prog.wantsStandIn t = false by simpa using List.all_eq_true.1 hall t hm)⟩)
    (by kernel_rfl)
end Go.Proofs.YtoacfdaobkghfaaDoor.saidExplainAnswers
namespace Go.Proofs.YtoacfdaobkghfaaDoor
theorem x_ExplainAnswers : Rows.ExplainAnswersCardSaid := saidExplainAnswers.card
end Go.Proofs.YtoacfdaobkghfaaDoor
