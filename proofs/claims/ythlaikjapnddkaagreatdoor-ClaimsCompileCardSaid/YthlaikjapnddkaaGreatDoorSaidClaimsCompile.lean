/- Part of the proof. Conditions: none. -/
import Derived.Test.YthlaikjapnddkaaGreatDoorRows
import Derived.Test.YthlaikjapnddkaaGreatDoorWalk
import Derived.Test.YthlaikjapnddkaaGreatDoorJoin
import Derived.Test.YthlaikjapnddkaaGreatDoorPlK2
import Derived.Test.YthlaikjapnddkaaGreatDoorJoinT
import Derived.Test.YthlaikjapnddkaaGreatDoorCards
import Derived.Test.YthlaikjapnddkaaGreatDoorTie
import Derived.SevenTiedAt
import Derived.Lay
import Derived.Test.YthlaikjapnddkaaGreatDoorJoinL
namespace Go.Proofs.YthlaikjapnddkaaGreatDoor.saidClaimsCompile
open Go Go.GD Go.RowKit Go.ChangeShapes Go.WideShapes Go.ChangeAt
set_option autoImplicit false
set_option maxRecDepth 100000
theorem own : ownKnob Tryz.prog.godebug = none := by kernel_rfl
theorem z0M : laidOutB Tryz.prog = true := by kernel_rfl
theorem rd4 : Rd Tryz.prog 4 zQu zLA := Rd.bool Tryz.underlying4 (by kernel_rfl)
theorem rd9 : Rd Tryz.prog 9 vM xR := Rd.str Tryz.underlying9 (by kernel_rfl)
theorem rd52 : Rd Tryz.prog 52 wN (yQ zLA xR) := Rd.struct Tryz.underlying52 (xW.cons rd4 rfl (xW.last rd9 rfl)) (by kernel_rfl)
theorem rd3 : Rd Tryz.prog 3 (zU .i64) (zT1 .i64) := Rd.int Tryz.underlying3 (by kernel_rfl)
theorem rd54 : Rd Tryz.prog 54 wO (yQ (yQ zLA xR) (yQ (zT1 .i64) (yQ (zT1 .i64) xR))) := Rd.struct Tryz.underlying54 (xW.cons rd52 rfl (xW.cons rd3 rfl (xW.cons rd3 rfl (xW.last rd9 rfl)))) (by kernel_rfl)
theorem rd22 : Rd Tryz.prog 22 (vJ wO) (zOC (yQ (yQ zLA xR) (yQ (zT1 .i64) (yQ (zT1 .i64) xR)))) := Rd.slice Tryz.underlying22 (by kernel_rfl) rd54
theorem rd55 : Rd Tryz.prog 55 (vJ wN) (zOC (yQ zLA xR)) := Rd.slice Tryz.underlying55 (by kernel_rfl) rd52
theorem rd57 : Rd Tryz.prog 57 qP (yQ xR (yQ zLA (yQ (zT1 .i64) (yQ (zOC (yQ zLA xR)) (yQ zLA xR))))) := Rd.struct Tryz.underlying57 (xW.cons rd9 rfl (xW.cons rd4 rfl (xW.cons rd3 rfl (xW.cons rd55 rfl (xW.last rd52 rfl))))) (by kernel_rfl)
theorem rd23 : Rd Tryz.prog 23 (vJ qP) (zOC (yQ xR (yQ zLA (yQ (zT1 .i64) (yQ (zOC (yQ zLA xR)) (yQ zLA xR)))))) := Rd.slice Tryz.underlying23 (by kernel_rfl) rd57
theorem rd59 : Rd Tryz.prog 59 wJ (yQ xR (yQ (zT1 .i64) (yQ zLA xR))) := Rd.struct Tryz.underlying59 (xW.cons rd9 rfl (xW.cons rd3 rfl (xW.last rd52 rfl))) (by kernel_rfl)
theorem rd24 : Rd Tryz.prog 24 (vJ wJ) (zOC (yQ xR (yQ (zT1 .i64) (yQ zLA xR)))) := Rd.slice Tryz.underlying24 (by kernel_rfl) rd59
theorem rd26 : Rd Tryz.prog 26 zRS (yQ (zOC (yQ (yQ zLA xR) (yQ (zT1 .i64) (yQ (zT1 .i64) xR)))) (yQ (zOC (yQ xR (yQ zLA (yQ (zT1 .i64) (yQ (zOC (yQ zLA xR)) (yQ zLA xR)))))) (zOC (yQ xR (yQ (zT1 .i64) (yQ zLA xR)))))) := Rd.struct Tryz.underlying26 (xW.cons rd22 rfl (xW.cons rd23 rfl (xW.last rd24 rfl))) (by kernel_rfl)
theorem rd28 : Rd Tryz.prog 28 zGk (yQ (zT1 .i64) (zT1 .i64)) := Rd.struct Tryz.underlying28 (xW.cons rd3 rfl (xW.last rd3 rfl)) (by kernel_rfl)
theorem rd29 : Rd Tryz.prog 29 (vJ (zU .i64)) (zOC (zT1 .i64)) := Rd.slice Tryz.underlying29 (by kernel_rfl) rd3
abbrev zRP : List (String × DataW Unit) := [("math/bits.deBruijn32tab", Rows.laid_math_bits_deBruijn32tab), ("math/bits.deBruijn64tab", Rows.laid_math_bits_deBruijn64tab), ("internal/strconv.uint64pow10", Rows.laid_internal_strconv_uint64pow10), ("unicode.White_Space", Rows.laid_unicode_White_Space), ("strings.asciiSpace", Rows.laid_strings_asciiSpace), ("deliberation/rulebase.kinds", Rows.laid_deliberation_rulebase_kinds)]
theorem tab0 {W : World} (h0 : laidMetH Tryz.prog zRP W) : (Tb Tryz.prog "strings.asciiSpace" .u8 Lib.asciiSpaceTab).h [] W := by
  have h := h0
  rw [MakeChecks.laidMetH_plain _ _ _ (by kernel_rfl)] at h
  have hr : Lib.VarReads Tryz.prog W "strings.asciiSpace" (Lib.tabData .u8 Lib.asciiSpaceTab) := (by kernel_rfl : (Rows.laid_strings_asciiSpace : DataW Unit) = Lib.tabData .u8 Lib.asciiSpaceTab) ▸ Lib.laidMet.reads h (List.mem_cons_of_mem _ (List.mem_cons_of_mem _ (List.mem_cons_of_mem _ (List.mem_cons_of_mem _ (List.mem_cons_self ..)))))
  have hT : Lib.TabIs Tryz.prog W "strings.asciiSpace" .u8 Lib.asciiSpaceTab := zQY (t := 210) (e := 5) (n := 256) (g := 0) (by kernel_rfl) (by kernel_rfl) (by kernel_rfl) (by kernel_rfl) (by kernel_rfl) (by kernel_rfl) hr
  exact tb_of (g := 0) (by kernel_rfl) hT
theorem tab1 {W : World} (h0 : laidMetH Tryz.prog zRP W) : (Pt (uT 4 vM) 1 0 zAY).h [] W := by
  have h := h0
  rw [MakeChecks.laidMetH_plain _ _ _ (by kernel_rfl)] at h
  have hr : Lib.VarReads Tryz.prog W "deliberation/rulebase.kinds" (.agg (zAY.map fun s => .lit (.string s))) := (by kernel_rfl : (Rows.laid_deliberation_rulebase_kinds : DataW Unit) = .agg (zAY.map fun s => .lit (.string s))) ▸ Lib.laidMet.reads h (List.mem_cons_of_mem _ (List.mem_cons_of_mem _ (List.mem_cons_of_mem _ (List.mem_cons_of_mem _ (List.mem_cons_of_mem _ (List.mem_cons_self ..))))))
  exact zZb (t := 214) (e := 9) (by kernel_rfl) (by kernel_rfl) (by kernel_rfl) (by kernel_rfl) (by kernel_rfl) (by kernel_rfl) (by decide) hr
theorem tab2 {W : World} (h0 : laidMetH Tryz.prog zRP W) : (Wt 2).h [] W := by
  have h := h0
  rw [MakeChecks.laidMetH_plain _ _ _ (by kernel_rfl)] at h
  have hr : Lib.VarReads Tryz.prog W "unicode.White_Space" Lib.whiteData := (by kernel_rfl : (Rows.laid_unicode_White_Space : DataW Unit) = Lib.whiteData) ▸ Lib.laidMet.reads h (List.mem_cons_of_mem _ (List.mem_cons_of_mem _ (List.mem_cons_of_mem _ (List.mem_cons_self ..))))
  exact wt_of (whiteTab_of_reads (ρ := Go.Proofs.Tryz.lays157_ren) { Go.Proofs.Tryz.lays157 with } ⟨by kernel_rfl, by kernel_rfl, by kernel_rfl, by kernel_rfl, by kernel_rfl, by kernel_rfl, by kernel_rfl, by kernel_rfl⟩ hr)
theorem tab3 {W : World} (h0 : laidMetH Tryz.prog zRP W) : (Pt (uT 64 (zU .u8)) 3 0 tJ).h [] W := by
  have h := h0
  rw [MakeChecks.laidMetH_plain _ _ _ (by kernel_rfl)] at h
  have hr : Lib.VarReads Tryz.prog W "math/bits.deBruijn64tab" (Lib.tabData .u8 tJ) := (by kernel_rfl : (Rows.laid_math_bits_deBruijn64tab : DataW Unit) = Lib.tabData .u8 tJ) ▸ Lib.laidMet.reads h (List.mem_cons_of_mem _ (List.mem_cons_self ..))
  have hT : Lib.TabIs Tryz.prog W "math/bits.deBruijn64tab" .u8 tJ := zQY (t := 269) (e := 5) (n := 64) (g := 3) (by kernel_rfl) (by kernel_rfl) (by kernel_rfl) (by kernel_rfl) (by kernel_rfl) (by kernel_rfl) hr
  exact pt_tab (fun i hi => hT.cell (g := 3) (by kernel_rfl) i hi) (by kernel_rfl) (by decide)
theorem tab5 {W : World} (h0 : laidMetH Tryz.prog zRP W) : (Tb Tryz.prog "internal/strconv.uint64pow10" .u64 Lib.pow10Tab).h [] W := by
  have h := h0
  rw [MakeChecks.laidMetH_plain _ _ _ (by kernel_rfl)] at h
  have hr : Lib.VarReads Tryz.prog W "internal/strconv.uint64pow10" (Lib.tabData .u64 Lib.pow10Tab) := (by kernel_rfl : (Rows.laid_internal_strconv_uint64pow10 : DataW Unit) = Lib.tabData .u64 Lib.pow10Tab) ▸ Lib.laidMet.reads h (List.mem_cons_of_mem _ (List.mem_cons_of_mem _ (List.mem_cons_self ..)))
  have hT : Lib.TabIs Tryz.prog W "internal/strconv.uint64pow10" .u64 Lib.pow10Tab := zQY (t := 361) (e := 187) (n := 20) (g := 5) (by kernel_rfl) (by kernel_rfl) (by kernel_rfl) (by kernel_rfl) (by kernel_rfl) (by kernel_rfl) hr
  exact tb_of (g := 5) (by kernel_rfl) hT
theorem zZC (H : Type) (enc : TypeId × Value → H) (W : World) (base : Nat) (args : Array Value) (ds gs : List (DataW H)) (before : List MemPlace)
    (hval : ∀ (j : Nat) t v, Tryz.f3.params[j]? = some t → args[j]? = some v → Value.okWide Tryz.prog W .any base t v)
    (hW : DataW.Whole enc Tryz.prog Tryz.f3.params.toList Rows.claimsCompileSpec.vars false W args.toList ds gs before)
    (hL : laidMetH Tryz.prog zRP W) :
    Calls Tryz.prog 3 args W fun e W' => ∃ v, e = .returned v ∧ Rows.claimsCompileSpec.post enc Tryz.prog Tryz.f3 false true false false W args v W' := by
  have hW' := hW
  obtain ⟨p, q, hA0, hV, hp, _, _⟩ := hW
  have hA : DataW.TrodAll enc Tryz.prog W 0 (fun _ => true) true Tryz.f3.params.toList args.toList ds p := hA0
  rw [Tryz.params3] at hA hval
  obtain ⟨v0, vs0, d0, ds0, p0, q0, hargs, rfl, rfl, h0, r0⟩ := trodAll_cons hA
  obtain ⟨v1, vs1, d1, ds1, p1, q1, rfl, rfl, rfl, h1, r1⟩ := trodAll_cons r0
  obtain ⟨v2, vs2, d2, ds2, p2, q2, rfl, rfl, rfl, h2, r2⟩ := trodAll_cons r1
  obtain ⟨rfl, rfl, rfl⟩ := trodAll_nil r2
  obtain rfl : args = #[v0, v1, v2] := by cases args; simp_all
  obtain ⟨rfl, rfl⟩ := trodVars_none hV
  rw [List.append_nil] at hp
  obtain ⟨cs1, y0, rfl, hc1, w0⟩ := v_agg Tryz.underlying26 rd26 (hval 0 26 v0 rfl rfl) h0
  replace hc1 : E.rd zRS _ _ cs1 y0 := hc1
  obtain ⟨_, _, rfl, ⟨p1, c1, rfl, f1⟩, ⟨_, _, rfl, ⟨p2, c2, rfl, f2⟩, ⟨p3, c3, rfl, f3⟩⟩⟩ := hc1
  obtain ⟨cs2, y1, rfl, hc2, w1⟩ := v_agg Tryz.underlying28 rd28 (hval 1 28 v1 rfl rfl) h1
  replace hc2 : E.rd zGk _ _ cs2 y1 := hc2
  obtain ⟨_, _, rfl, rfl, rfl⟩ := hc2
  obtain ⟨_, _, y2, rfl, f4, w2⟩ := zZy Tryz.underlying29 rd29 (hval 2 29 v2 rfl rfl) h2
  refine ((zMQ (y0 := y0) (y1 := y1) (y2 := y2)).go [] W _ (zLw y0 y1 y2 w0 w1 w2) (wG.start (by simp)) ⟨R.of f1, R.of f2, R.of f3, R.of f4, tab0 hL, tab1 hL, tab2 hL, tab3 hL, tab5 hL, trivial⟩).mono fun e W' he => ?_
  cases e with
  | panicked ch => exact he.elim
  | outgrown => exact he.elim
  | returned v =>
    obtain ⟨rfl, hb⟩ : v = vb true ∧ Bk _ _ _ _ _ _ _ := he _ fun h => h
    exact ⟨_, rfl, zYn hW' hA0 hp rfl rfl rfl rfl rfl Tryz.underlying4 z0M (by kernel_rfl) hb.e⟩
set_option maxRecDepth 100000 in
theorem zYJ (os : Os) (started : os.Started) (H : Type) (enc : TypeId × Value → H) :
    ReturnsInHanded {} Tryz.checked os 3 .any (fun w args => (Rows.claimsCompileSpec.pre enc Tryz.prog Tryz.f3 [] false w args ∧ laidMetH Tryz.prog zRP w) ∧ sizedMet enc Tryz.prog Tryz.f3 (OpenSpec.ofChange Rows.claimsCompileSpec) false w args) (Rows.claimsCompileSpec.post enc Tryz.prog Tryz.f3 false true false false) := by
  refine returnsInHanded_of_change_and (C := Tryz.checked) (X := fun w _ => laidMetH Tryz.prog zRP w) (fun _ _ _ hh h => h.of_heap hh) own started (by kernel_rfl) Tryz.func3
    (ChangeSpec.witness_shaped (enc := enc) (C := Tryz.checked) (os := os) (X := fun w _ => laidMetH Tryz.prog zRP w) false (World.laidAll Tryz.prog os zRP) #[.agg #[.slice none 0 0, .slice none 0 0, .slice none 0 0], .agg #[.int .i64 0, .int .i64 0], .slice none 0 0] 8 (World.laidAll_os _ _ _) (World.shaped_of_ZipB (by kernel_rfl) (by kernel_rfl)) (by kernel_rfl) (by kernel_rfl) (by kernel_rfl)
      (by rw [MakeChecks.laidMetH_plain _ _ _ (by kernel_rfl)]; exact laidMet_laidAll _ (by kernel_rfl) (by kernel_rfl))) ?_
  intro W base args ds gs before hval hW _ _ hL _
  exact zZC H enc W base args ds gs before hval hW hL
theorem q0 : Tryz.pinned.checked.prog.funcNamed "deliberation/deliberationlaw20.ClaimsCompile" = some 3 := by kernel_rfl
theorem q2 : laidOutB Tryz.pinned.checked.prog = true := by kernel_rfl
theorem q3 : mapsRowed Tryz.pinned.checked.prog = true := by kernel_rfl
theorem q10 : (Rows.claimsCompileRow.inPlace == Tryz.pinned.checked.prog.inPlace 3) = true := by kernel_rfl
theorem q11 : (Rows.claimsCompileRow.unfollowed == Tryz.pinned.checked.prog.unfollowed 3) = true := by kernel_rfl
theorem q12 : (Rows.claimsCompileRow.recurses == Tryz.pinned.checked.prog.recurses 3) = true := by kernel_rfl
theorem q13 : (Rows.claimsCompileRow.named == Tryz.pinned.checked.prog.varsNamed 3) = true := by kernel_rfl
theorem q14 : (Rows.claimsCompileRow.plainKeys == Tryz.pinned.checked.prog.plainKeys) = true := by kernel_rfl
theorem q17 : (Rows.claimsCompileRow.lifted == Tryz.pinned.checked.prog.liftsFinal) = true := by kernel_rfl
theorem q15 : Tryz.pinned.checked.prog.stopsHeard = true := by kernel_rfl
theorem q16 : Tryz.pinned.checked.prog.mayEnter = true := by kernel_rfl
theorem q18 : (Tryz.pinned.checked.prog.make == some Rows.claimsCompileRow.make) = true := by kernel_rfl
theorem q30 : Tryz.pinned.checked.prog.mainIs = some ((true, "a9d7173b27937da205075da6d7fcd8874c6483feed0e5973ea27bc2822d9f1aa").1, (true, "a9d7173b27937da205075da6d7fcd8874c6483feed0e5973ea27bc2822d9f1aa").2.toList) := by kernel_rfl
theorem q31 : false = Tryz.pinned.checked.prog.looks [] := by kernel_rfl
theorem q32 : true = Rows.claimsCompileRow.goesBy Tryz.pinned.checked.prog := by kernel_rfl
theorem q20 : Tryz.f3.isInstance Tryz.pinned.checked.prog Rows.claimsCompileRow.origin Rows.claimsCompileRow.targs := of_decide_eq_true (by kernel_rfl)
theorem q21 : Tryz.f3.isWrapper Tryz.pinned.checked.prog Rows.claimsCompileRow.wrapper Rows.claimsCompileRow.mainSum := by unfold Func.isWrapper; first | (rw [if_pos (by decide +kernel)]; kernel_rfl) | (rw [if_neg (by decide +kernel)]; exact ⟨rfl, rfl⟩)
theorem closed : joinedFacts Tryz.pinned.checked.prog 3 Tryz.f3 Rows.claimsCompileSpec Rows.claimsCompileRow = true := zXy (by kernel_rfl) q2 q3 (by kernel_rfl) (by kernel_rfl) (by kernel_rfl) (by kernel_rfl) (by kernel_rfl) (by kernel_rfl) q10 q11 q12 q13 q14 q15 q16 q17 q18 (by kernel_rfl)
theorem proved : Rows.ClaimsCompileSaid :=
  OpenClaim.holds_of_wide_leaving 3 Tryz.f3 rfl rfl rfl rfl rfl rfl rfl ⟨rfl, rfl, rfl, rfl, rfl⟩ rfl rfl rfl rfl rfl q0 Tryz.func3 closed q20 q21
    (fun os started H enc _ => zOa (zYJ os started H enc))
theorem card : Rows.ClaimsCompileCardSaid :=
  zQW .later [.data, .data, .data, .listed, .data, .data] true (true, "a9d7173b27937da205075da6d7fcd8874c6483feed0e5973ea27bc2822d9f1aa") false
    proved (by kernel_rfl) Go.Proofs.YthlaikjapnddkaaGreatDoor.claimsCompile_row_tie rfl ⟨rfl, rfl⟩ q30 rfl
    (fun f fn hf hfn => by
      obtain rfl : f = 3 := Option.some.inj (q0.symm.trans hf) |>.symm
      obtain rfl : fn = Tryz.f3 := (Option.some.inj (Tryz.func3.symm.trans hfn)).symm
      exact ⟨q31, fun j t ht => by
        rw [Tryz.params3] at ht
        have hm : t ∈ [26, 28, 29] := by simpa using Array.mem_of_getElem? ht
        have hall : ([26, 28, 29].all fun u => !Tryz.prog.wantsStandIn u) = true := by kernel_rfl
        exact (show Tryz.prog.wantsStandIn t = false by simpa using List.all_eq_true.1 hall t hm)⟩)
    q32
end Go.Proofs.YthlaikjapnddkaaGreatDoor.saidClaimsCompile
namespace Go.Proofs.YthlaikjapnddkaaGreatDoor
theorem x_ClaimsCompile : Rows.ClaimsCompileCardSaid := saidClaimsCompile.card
end Go.Proofs.YthlaikjapnddkaaGreatDoor
