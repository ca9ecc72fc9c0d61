/- The statement RefereeTexts: for every input the law returns true and leaves its arguments as they were. Conditions: none. -/
import Derived.Test.YtegdfdnjenffnaaGreatDoorRows
import Derived.Test.YtegdfdnjenffnaaGreatDoorWalk
import Derived.Test.YtegdfdnjenffnaaGreatDoorJoin
import Derived.Test.YtegdfdnjenffnaaGreatDoorPlR2
import Derived.Test.YtegdfdnjenffnaaGreatDoorJoinE
import Derived.Test.YtegdfdnjenffnaaGreatDoorJoinA
import Derived.Test.YtegdfdnjenffnaaGreatDoorCards
import Derived.Test.YtegdfdnjenffnaaGreatDoorTie
import Derived.SevenTiedAt
import Derived.Lay
namespace Go.Proofs.YtegdfdnjenffnaaGreatDoor.saidRefereeTexts
open Go Go.GD Go.RowKit Go.ChangeShapes Go.WideShapes Go.ChangeAt
set_option autoImplicit false
set_option maxRecDepth 100000

theorem own : ownKnob Tryz.prog.godebug = none := by kernel_rfl
theorem laidOut : laidOutB Tryz.prog = true := by kernel_rfl
theorem rd3 : Rd Tryz.prog 3 (eInt .i64) (wInt .i64) := Rd.int Tryz.underlying3 (by kernel_rfl)
theorem rd65 : Rd Tryz.prog 65 e_Pair (wProd (wInt .i64) (wInt .i64)) := Rd.struct Tryz.underlying65 (RdFs.cons rd3 rfl (RdFs.last rd3 rfl)) (by kernel_rfl)
theorem rd22 : Rd Tryz.prog 22 (eSlice e_Pair) (wList (wProd (wInt .i64) (wInt .i64))) := Rd.slice Tryz.underlying22 (by kernel_rfl) rd65
theorem rd24 : Rd Tryz.prog 24 e_Graph (wProd (wInt .i64) (wList (wProd (wInt .i64) (wInt .i64)))) := Rd.struct Tryz.underlying24 (RdFs.cons rd3 rfl (RdFs.last rd22 rfl)) (by kernel_rfl)
theorem rd25 : Rd Tryz.prog 25 (eProd (eInt .i64) (eInt .i64)) (wProd (wInt .i64) (wInt .i64)) := Rd.arr2 Tryz.underlying25 rd3 (by kernel_rfl)
theorem rd54 : Rd Tryz.prog 54 e_Move (wProd (wInt .i64) (wProd (wInt .i64) (wProd (wInt .i64) (wInt .i64)))) := Rd.struct Tryz.underlying54 (RdFs.cons rd3 rfl (RdFs.cons rd3 rfl (RdFs.cons rd3 rfl (RdFs.last rd3 rfl)))) (by kernel_rfl)
theorem rd26 : Rd Tryz.prog 26 (eSlice e_Move) (wList (wProd (wInt .i64) (wProd (wInt .i64) (wProd (wInt .i64) (wInt .i64))))) := Rd.slice Tryz.underlying26 (by kernel_rfl) rd54
theorem rd28 : Rd Tryz.prog 28 e_Transcript (wProd (wProd (wInt .i64) (wList (wProd (wInt .i64) (wInt .i64)))) (wProd (wInt .i64) (wProd (wProd (wInt .i64) (wInt .i64)) (wList (wProd (wInt .i64) (wProd (wInt .i64) (wProd (wInt .i64) (wInt .i64)))))))) := Rd.struct Tryz.underlying28 (RdFs.cons rd24 rfl (RdFs.cons rd3 rfl (RdFs.cons rd25 rfl (RdFs.last rd26 rfl)))) (by kernel_rfl)
theorem rd29 : Rd Tryz.prog 29 (eSlice (eInt .i64)) (wList (wInt .i64)) := Rd.slice Tryz.underlying29 (by kernel_rfl) rd3
theorem rd5 : Rd Tryz.prog 5 (eInt .u8) (wInt .u8) := Rd.int Tryz.underlying5 (by kernel_rfl)
theorem rd9 : Rd Tryz.prog 9 eStr wStr := Rd.str Tryz.underlying9 (by kernel_rfl)
abbrev laidL : List (String × DataW Unit) := [("math/bits.deBruijn32tab", Rows.laid_math_bits_deBruijn32tab), ("math/bits.deBruijn64tab", Rows.laid_math_bits_deBruijn64tab), ("internal/strconv.uint64pow10", Rows.laid_internal_strconv_uint64pow10), ("unicode/utf8.acceptRanges", Rows.laid_unicode_utf8_acceptRanges), ("strconv.ErrRange", Rows.laid_strconv_ErrRange), ("strconv.ErrSyntax", Rows.laid_strconv_ErrSyntax), ("deliberation/referee.players", Rows.laid_deliberation_referee_players), ("unicode/utf8.first", Rows.laid_unicode_utf8_first)]

theorem tab0 {W : World} (h0 : laidMetH Tryz.prog laidL W) : (Pt (eArr 3 eStr) 0 0 tab_referee_players).h [] W := by
  have h := h0
  rw [MakeChecks.laidMetH_plain _ _ _ (by kernel_rfl)] at h
  have hr : Lib.VarReads Tryz.prog W "deliberation/referee.players" (.agg (tab_referee_players.map fun s => .lit (.string s))) := (by kernel_rfl : (Rows.laid_deliberation_referee_players : DataW Unit) = .agg (tab_referee_players.map fun s => .lit (.string s))) ▸ Lib.laidMet.reads h (List.mem_cons_of_mem _ (List.mem_cons_of_mem _ (List.mem_cons_of_mem _ (List.mem_cons_of_mem _ (List.mem_cons_of_mem _ (List.mem_cons_of_mem _ (List.mem_cons_self ..)))))))
  exact pt_strs (t := 80) (e := 9) (by kernel_rfl) (by kernel_rfl) (by kernel_rfl) (by kernel_rfl) (by kernel_rfl) (by kernel_rfl) (by decide) hr

theorem tab2 {W : World} (h0 : laidMetH Tryz.prog laidL W) : (Tb Tryz.prog "internal/strconv.uint64pow10" .u64 Lib.pow10Tab).h [] W := by
  have h := h0
  rw [MakeChecks.laidMetH_plain _ _ _ (by kernel_rfl)] at h
  have hr : Lib.VarReads Tryz.prog W "internal/strconv.uint64pow10" (Lib.tabData .u64 Lib.pow10Tab) := (by kernel_rfl : (Rows.laid_internal_strconv_uint64pow10 : DataW Unit) = Lib.tabData .u64 Lib.pow10Tab) ▸ Lib.laidMet.reads h (List.mem_cons_of_mem _ (List.mem_cons_of_mem _ (List.mem_cons_self ..)))
  have hT : Lib.TabIs Tryz.prog W "internal/strconv.uint64pow10" .u64 Lib.pow10Tab := tab_reads (t := 162) (e := 146) (n := 20) (g := 2) (by kernel_rfl) (by kernel_rfl) (by kernel_rfl) (by kernel_rfl) (by kernel_rfl) (by kernel_rfl) hr
  exact tb_of (g := 2) (by kernel_rfl) hT

theorem tab3 {W : World} (h0 : laidMetH Tryz.prog laidL W) : (Gve 3).h [] W := by
  have h := h0
  rw [MakeChecks.laidMetH_plain _ _ _ (by kernel_rfl)] at h
  exact gve_of (t := 108) (by kernel_rfl) (by kernel_rfl) Tryz.underlying108 (Lib.laidMet.reads h (List.mem_cons_of_mem _ (List.mem_cons_of_mem _ (List.mem_cons_of_mem _ (List.mem_cons_of_mem _ (List.mem_cons_of_mem _ (List.mem_cons_self ..)))))))

theorem tab4 {W : World} (h0 : laidMetH Tryz.prog laidL W) : (Gve 4).h [] W := by
  have h := h0
  rw [MakeChecks.laidMetH_plain _ _ _ (by kernel_rfl)] at h
  exact gve_of (t := 108) (by kernel_rfl) (by kernel_rfl) Tryz.underlying108 (Lib.laidMet.reads h (List.mem_cons_of_mem _ (List.mem_cons_of_mem _ (List.mem_cons_of_mem _ (List.mem_cons_of_mem _ (List.mem_cons_self ..))))))

theorem contract (H : Type) (enc : TypeId × Value → H) (W : World) (base : Nat) (args : Array Value) (ds gs : List (DataW H)) (before : List MemPlace)
    (hval : ∀ (j : Nat) t v, Tryz.f3.params[j]? = some t → args[j]? = some v → Value.okWide Tryz.prog W .any base t v)
    (hW : DataW.Whole enc Tryz.prog Tryz.f3.params.toList Rows.refereeTextsSpec.vars false W args.toList ds gs before)
    (hL : laidMetH Tryz.prog laidL W) :
    Calls Tryz.prog 3 args W fun e W' => ∃ v, e = .returned v ∧ Rows.refereeTextsSpec.post enc Tryz.prog Tryz.f3 false true false false W args v W' := by
  have hW' := hW
  obtain ⟨p, q, hA0, hV, hp, _, _⟩ := hW
  have hA : DataW.TrodAll enc Tryz.prog W 0 (fun _ => true) true Tryz.f3.params.toList args.toList ds p := hA0
  rw [Tryz.params3] at hA hval
  obtain ⟨v0, vs0, d0, ds0, p0, q0, hargs, rfl, rfl, h0, r0⟩ := trodAll_cons hA
  obtain ⟨v1, vs1, d1, ds1, p1, q1, rfl, rfl, rfl, h1, r1⟩ := trodAll_cons r0
  obtain ⟨v2, vs2, d2, ds2, p2, q2, rfl, rfl, rfl, h2, r2⟩ := trodAll_cons r1
  obtain ⟨v3, vs3, d3, ds3, p3, q3, rfl, rfl, rfl, h3, r3⟩ := trodAll_cons r2
  obtain ⟨v4, vs4, d4, ds4, p4, q4, rfl, rfl, rfl, h4, r4⟩ := trodAll_cons r3
  obtain ⟨v5, vs5, d5, ds5, p5, q5, rfl, rfl, rfl, h5, r5⟩ := trodAll_cons r4
  obtain ⟨v6, vs6, d6, ds6, p6, q6, rfl, rfl, rfl, h6, r6⟩ := trodAll_cons r5
  obtain ⟨rfl, rfl, rfl⟩ := trodAll_nil r6
  obtain rfl : args = #[v0, v1, v2, v3, v4, v5, v6] := by cases args; simp_all
  obtain ⟨rfl, rfl⟩ := trodVars_none hV
  rw [List.append_nil] at hp
  obtain ⟨cs1, y0, rfl, hc1, w0⟩ := v_agg Tryz.underlying28 rd28 (hval 0 28 v0 rfl rfl) h0
  replace hc1 : E.rd e_Transcript _ _ cs1 y0 := hc1
  obtain ⟨_, _, rfl, ⟨_, _, rfl, rfl, ⟨p1, c1, rfl, f1⟩⟩, ⟨_, _, rfl, rfl, ⟨_, _, rfl, ⟨_, _, rfl, rfl, rfl⟩, ⟨p2, c2, rfl, f2⟩⟩⟩⟩ := hc1
  obtain ⟨_, _, y1, rfl, f3, w1⟩ := v_slice Tryz.underlying29 rd29 (hval 1 29 v1 rfl rfl) h1
  obtain ⟨y2, rfl, w2⟩ := v_int Tryz.underlying3 (hval 2 3 v2 rfl rfl) h2
  obtain ⟨y3, rfl, w3⟩ := v_int Tryz.underlying3 (hval 3 3 v3 rfl rfl) h3
  obtain ⟨y4, rfl, w4⟩ := v_int Tryz.underlying5 (hval 4 5 v4 rfl rfl) h4
  obtain ⟨y5, rfl, w5⟩ := v_str Tryz.underlying9 (hval 5 9 v5 rfl rfl) h5
  obtain ⟨y6, rfl, w6⟩ := v_str Tryz.underlying9 (hval 6 9 v6 rfl rfl) h6
  refine ((c_law30_RefereeTexts (y0 := y0) (y1 := y1) (y2 := y2) (y3 := y3) (y4 := y4) (y5 := y5) (y6 := y6)).go [] W _ (p_law30_RefereeTexts y0 y1 y2 y3 y4 y5 y6 w0 w1 w2 w3 w4 w5 w6) (Own.start (by simp)) ⟨R.of f1, R.of f2, R.of f3, tab0 hL, tab2 hL, tab3 hL, tab4 hL, trivial⟩).mono fun e W' he => ?_
  cases e with
  | panicked ch => exact he.elim
  | outgrown => exact he.elim
  | returned v =>
    obtain ⟨rfl, hb⟩ : v = vb true ∧ Bk _ _ _ _ _ _ _ := he _ fun h => h
    exact ⟨_, rfl, law_post hW' hA0 hp rfl rfl rfl rfl rfl Tryz.underlying4 laidOut (by kernel_rfl) hb.e⟩

set_option maxRecDepth 100000 in
theorem lifted (os : Os) (started : os.Started) (H : Type) (enc : TypeId × Value → H) :
    ReturnsInHanded {} Tryz.checked os 3 .any (fun w args => (Rows.refereeTextsSpec.pre enc Tryz.prog Tryz.f3 [] false w args ∧ laidMetH Tryz.prog laidL w) ∧ sizedMet enc Tryz.prog Tryz.f3 (OpenSpec.ofChange Rows.refereeTextsSpec) false w args) (Rows.refereeTextsSpec.post enc Tryz.prog Tryz.f3 false true false false) := by
  refine returnsInHanded_of_change_and (C := Tryz.checked) (X := fun w _ => laidMetH Tryz.prog laidL w) (fun _ _ _ hh h => h.of_heap hh) own started (by kernel_rfl) Tryz.func3
    (ChangeSpec.witness_shaped (enc := enc) (C := Tryz.checked) (os := os) (X := fun w _ => laidMetH Tryz.prog laidL w) false (World.laidAll Tryz.prog os laidL) #[.agg #[.int .i64 0, .slice none 0 0, .int .i64 0, .int .i64 0, .int .i64 0, .slice none 0 0], .slice none 0 0, .int .i64 0, .int .i64 0, .int .u8 0, .string ⟨#[]⟩, .string ⟨#[]⟩] 8 (World.laidAll_os _ _ _) (World.shaped_of_ZipB (by kernel_rfl) (by kernel_rfl)) (by kernel_rfl) (by kernel_rfl) (by kernel_rfl)
      (by rw [MakeChecks.laidMetH_plain _ _ _ (by kernel_rfl)]; exact laidMet_laidAll _ (by kernel_rfl) (by kernel_rfl))) ?_
  intro W base args ds gs before hval hW _ _ hL _
  exact contract H enc W base args ds gs before hval hW hL

theorem proved : Rows.RefereeTextsSaid :=
  OpenClaim.holds_of_wide 3 Tryz.f3 rfl rfl rfl rfl rfl rfl rfl ⟨rfl, rfl, rfl, rfl, rfl⟩ rfl rfl rfl rfl rfl (by kernel_rfl) Tryz.func3 (by kernel_rfl)
    (of_decide_eq_true (by kernel_rfl)) (by unfold Func.isWrapper; first | (rw [if_pos (by decide +kernel)]; kernel_rfl) | (rw [if_neg (by decide +kernel)]; exact ⟨rfl, rfl⟩))
    (fun os started H enc _ => lifted os started H enc)

theorem card : Rows.RefereeTextsCardSaid :=
  Claim7.holds_tied_plain_at .later [] [.data, .data, .data, .data, .sentinel, .sentinel, .data, .pinned] true (true, "bca1a046fd4d7f55b6ef61b12b3e93e0619d482f2fed0f27c4fa393770257446") true
    proved (fun _ h => by cases h) (by kernel_rfl) (fun _ h => by cases h) Go.Proofs.YtegdfdnjenffnaaGreatDoor.refereeTexts_row_tie rfl ⟨rfl, rfl⟩ (by kernel_rfl) rfl
    (fun f fn hf hfn => by
      obtain rfl : f = 3 := Option.some.inj ((show Tryz.prog.funcNamed "deliberation/deliberationlaw30.RefereeTexts" = some 3 by kernel_rfl).symm.trans hf) |>.symm
      obtain rfl : fn = Tryz.f3 := (Option.some.inj (Tryz.func3.symm.trans hfn)).symm
      exact ⟨by kernel_rfl, fun j t ht => by
        rw [Tryz.params3] at ht
        have hm : t ∈ [28, 29, 3, 3, 5, 9, 9] := by simpa using Array.mem_of_getElem? ht
        have hall : ([28, 29, 3, 3, 5, 9, 9].all fun u => !Tryz.prog.wantsStandIn u) = true := by kernel_rfl
        exact (show Tryz.prog.wantsStandIn t = false by simpa using List.all_eq_true.1 hall t hm)⟩)
    (by kernel_rfl)
end Go.Proofs.YtegdfdnjenffnaaGreatDoor.saidRefereeTexts
namespace Go.Proofs.YtegdfdnjenffnaaGreatDoor
theorem x_RefereeTexts : Rows.RefereeTextsCardSaid := saidRefereeTexts.card
end Go.Proofs.YtegdfdnjenffnaaGreatDoor
