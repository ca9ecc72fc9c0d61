/- The statement RefereeChannel: for every input the law returns true and leaves its arguments as they were. Conditions: none. -/
import Derived.Test.YtofmfdlkalakaaaGreatDoorRows
import Derived.Test.YtofmfdlkalakaaaGreatDoorWalk
import Derived.Test.YtofmfdlkalakaaaGreatDoorJoin
import Derived.Test.YtofmfdlkalakaaaGreatDoorPlH2
import Derived.Test.YtofmfdlkalakaaaGreatDoorJoinE
import Derived.Test.YtofmfdlkalakaaaGreatDoorCards
import Derived.Test.YtofmfdlkalakaaaGreatDoorTie
import Derived.SevenTiedAt
import Derived.Lay
namespace Go.Proofs.YtofmfdlkalakaaaGreatDoor.saidRefereeChannel
open Go Go.GD Go.RowKit Go.ChangeShapes Go.WideShapes Go.ChangeAt
set_option autoImplicit false
set_option maxRecDepth 100000

theorem own : ownKnob Tryz.prog.godebug = none := by kernel_rfl
theorem laidOut : laidOutB Tryz.prog = true := by kernel_rfl
theorem rd3 : Rd Tryz.prog 3 (eInt .i64) (wInt .i64) := Rd.int Tryz.underlying3 (by kernel_rfl)
theorem rd22 : Rd Tryz.prog 22 (eSlice (eInt .i64)) (wList (wInt .i64)) := Rd.slice Tryz.underlying22 (by kernel_rfl) rd3
abbrev laidL : List (String × DataW Unit) := [("math/bits.deBruijn32tab", Rows.laid_math_bits_deBruijn32tab), ("math/bits.deBruijn64tab", Rows.laid_math_bits_deBruijn64tab), ("internal/strconv.uint64pow10", Rows.laid_internal_strconv_uint64pow10), ("unicode/utf8.acceptRanges", Rows.laid_unicode_utf8_acceptRanges), ("strconv.ErrRange", Rows.laid_strconv_ErrRange), ("strconv.ErrSyntax", Rows.laid_strconv_ErrSyntax), ("deliberation/referee.players", Rows.laid_deliberation_referee_players), ("unicode/utf8.first", Rows.laid_unicode_utf8_first)]

theorem tab0 {W : World} (h0 : laidMetH Tryz.prog laidL W) : (Pt (eArr 3 eStr) 0 0 tab_referee_players).h [] W := by
  have h := h0
  rw [MakeChecks.laidMetH_plain _ _ _ (by kernel_rfl)] at h
  have hr : Lib.VarReads Tryz.prog W "deliberation/referee.players" (.agg (tab_referee_players.map fun s => .lit (.string s))) := (by kernel_rfl : (Rows.laid_deliberation_referee_players : DataW Unit) = .agg (tab_referee_players.map fun s => .lit (.string s))) ▸ Lib.laidMet.reads h (List.mem_cons_of_mem _ (List.mem_cons_of_mem _ (List.mem_cons_of_mem _ (List.mem_cons_of_mem _ (List.mem_cons_of_mem _ (List.mem_cons_of_mem _ (List.mem_cons_self ..)))))))
  exact pt_strs (t := 121) (e := 9) (by kernel_rfl) (by kernel_rfl) (by kernel_rfl) (by kernel_rfl) (by kernel_rfl) (by kernel_rfl) (by decide) hr

theorem tab2 {W : World} (h0 : laidMetH Tryz.prog laidL W) : (Tb Tryz.prog "internal/strconv.uint64pow10" .u64 Lib.pow10Tab).h [] W := by
  have h := h0
  rw [MakeChecks.laidMetH_plain _ _ _ (by kernel_rfl)] at h
  have hr : Lib.VarReads Tryz.prog W "internal/strconv.uint64pow10" (Lib.tabData .u64 Lib.pow10Tab) := (by kernel_rfl : (Rows.laid_internal_strconv_uint64pow10 : DataW Unit) = Lib.tabData .u64 Lib.pow10Tab) ▸ Lib.laidMet.reads h (List.mem_cons_of_mem _ (List.mem_cons_of_mem _ (List.mem_cons_self ..)))
  have hT : Lib.TabIs Tryz.prog W "internal/strconv.uint64pow10" .u64 Lib.pow10Tab := tab_reads (t := 188) (e := 172) (n := 20) (g := 2) (by kernel_rfl) (by kernel_rfl) (by kernel_rfl) (by kernel_rfl) (by kernel_rfl) (by kernel_rfl) hr
  exact tb_of (g := 2) (by kernel_rfl) hT

theorem tab3 {W : World} (h0 : laidMetH Tryz.prog laidL W) : (Gve 3).h [] W := by
  have h := h0
  rw [MakeChecks.laidMetH_plain _ _ _ (by kernel_rfl)] at h
  exact gve_of (t := 142) (by kernel_rfl) (by kernel_rfl) Tryz.underlying142 (Lib.laidMet.reads h (List.mem_cons_of_mem _ (List.mem_cons_of_mem _ (List.mem_cons_of_mem _ (List.mem_cons_of_mem _ (List.mem_cons_of_mem _ (List.mem_cons_self ..)))))))

theorem tab4 {W : World} (h0 : laidMetH Tryz.prog laidL W) : (Gve 4).h [] W := by
  have h := h0
  rw [MakeChecks.laidMetH_plain _ _ _ (by kernel_rfl)] at h
  exact gve_of (t := 142) (by kernel_rfl) (by kernel_rfl) Tryz.underlying142 (Lib.laidMet.reads h (List.mem_cons_of_mem _ (List.mem_cons_of_mem _ (List.mem_cons_of_mem _ (List.mem_cons_of_mem _ (List.mem_cons_self ..))))))

theorem contract (H : Type) (enc : TypeId × Value → H) (W : World) (base : Nat) (args : Array Value) (ds gs : List (DataW H)) (before : List MemPlace)
    (hval : ∀ (j : Nat) t v, Tryz.f3.params[j]? = some t → args[j]? = some v → Value.okWide Tryz.prog W .any base t v)
    (hW : DataW.Whole enc Tryz.prog Tryz.f3.params.toList Rows.refereeChannelSpec.vars false W args.toList ds gs before)
    (hL : laidMetH Tryz.prog laidL W) :
    Calls Tryz.prog 3 args W fun e W' => ∃ v, e = .returned v ∧ Rows.refereeChannelSpec.post enc Tryz.prog Tryz.f3 false true false false W args v W' := by
  have hW' := hW
  obtain ⟨p, q, hA0, hV, hp, _, _⟩ := hW
  have hA : DataW.TrodAll enc Tryz.prog W 0 (fun _ => true) true Tryz.f3.params.toList args.toList ds p := hA0
  rw [Tryz.params3] at hA hval
  obtain ⟨v0, vs0, d0, ds0, p0, q0, hargs, rfl, rfl, h0, r0⟩ := trodAll_cons hA
  obtain ⟨rfl, rfl, rfl⟩ := trodAll_nil r0
  obtain rfl : args = #[v0] := by cases args; simp_all
  obtain ⟨rfl, rfl⟩ := trodVars_none hV
  rw [List.append_nil] at hp
  obtain ⟨_, _, y0, rfl, f1, w0⟩ := v_slice Tryz.underlying22 rd22 (hval 0 22 v0 rfl rfl) h0
  refine ((c_law30_RefereeChannel (y0 := y0)).go [] W _ (p_law30_RefereeChannel y0 w0) (Own.start (by simp)) ⟨R.of f1, tab0 hL, tab2 hL, tab3 hL, tab4 hL, trivial⟩).mono fun e W' he => ?_
  cases e with
  | panicked ch => exact he.elim
  | outgrown => exact he.elim
  | returned v =>
    obtain ⟨rfl, hb⟩ : v = vb true ∧ Bk _ _ _ _ _ _ _ := he _ fun h => h
    exact ⟨_, rfl, law_post hW' hA0 hp rfl rfl rfl rfl rfl Tryz.underlying4 laidOut (by kernel_rfl) hb.e⟩

set_option maxRecDepth 100000 in
theorem lifted (os : Os) (started : os.Started) (H : Type) (enc : TypeId × Value → H) :
    ReturnsInHanded {} Tryz.checked os 3 .any (fun w args => (Rows.refereeChannelSpec.pre enc Tryz.prog Tryz.f3 [] false w args ∧ laidMetH Tryz.prog laidL w) ∧ sizedMet enc Tryz.prog Tryz.f3 (OpenSpec.ofChange Rows.refereeChannelSpec) false w args) (Rows.refereeChannelSpec.post enc Tryz.prog Tryz.f3 false true false false) := by
  refine returnsInHanded_of_change_and (C := Tryz.checked) (X := fun w _ => laidMetH Tryz.prog laidL w) (fun _ _ _ hh h => h.of_heap hh) own started (by kernel_rfl) Tryz.func3
    (ChangeSpec.witness_shaped (enc := enc) (C := Tryz.checked) (os := os) (X := fun w _ => laidMetH Tryz.prog laidL w) false (World.laidAll Tryz.prog os laidL) #[.slice none 0 0] 8 (World.laidAll_os _ _ _) (World.shaped_of_ZipB (by kernel_rfl) (by kernel_rfl)) (by kernel_rfl) (by kernel_rfl) (by kernel_rfl)
      (by rw [MakeChecks.laidMetH_plain _ _ _ (by kernel_rfl)]; exact laidMet_laidAll _ (by kernel_rfl) (by kernel_rfl))) ?_
  intro W base args ds gs before hval hW _ _ hL _
  exact contract H enc W base args ds gs before hval hW hL

theorem proved : Rows.RefereeChannelSaid :=
  OpenClaim.holds_of_wide 3 Tryz.f3 rfl rfl rfl rfl rfl rfl rfl ⟨rfl, rfl, rfl, rfl, rfl⟩ rfl rfl rfl rfl rfl (by kernel_rfl) Tryz.func3 (by kernel_rfl)
    (of_decide_eq_true (by kernel_rfl)) (by unfold Func.isWrapper; first | (rw [if_pos (by decide +kernel)]; kernel_rfl) | (rw [if_neg (by decide +kernel)]; exact ⟨rfl, rfl⟩))
    (fun os started H enc _ => lifted os started H enc)

theorem card : Rows.RefereeChannelCardSaid :=
  Claim7.holds_tied_plain_at .later [] [.data, .data, .data, .data, .sentinel, .sentinel, .data, .pinned] true (true, "052ebabc1efaa3279ed2d57e0d86613769e9464fc2ba9d3669e896e3d677f1fb") true
    proved (fun _ h => by cases h) (by kernel_rfl) (fun _ h => by cases h) Go.Proofs.YtofmfdlkalakaaaGreatDoor.refereeChannel_row_tie rfl ⟨rfl, rfl⟩ (by kernel_rfl) rfl
    (fun f fn hf hfn => by
      obtain rfl : f = 3 := Option.some.inj ((show Tryz.prog.funcNamed "deliberation/deliberationlaw30.RefereeChannel" = some 3 by kernel_rfl).symm.trans hf) |>.symm
      obtain rfl : fn = Tryz.f3 := (Option.some.inj (Tryz.func3.symm.trans hfn)).symm
      exact ⟨by kernel_rfl, fun j t ht => by
        rw [Tryz.params3] at ht
        have hm : t ∈ [22] := by simpa using Array.mem_of_getElem? ht
        have hall : ([22].all fun u => !Tryz.prog.wantsStandIn u) = true := by kernel_rfl
        exact (show Tryz.prog.wantsStandIn t = false by simpa using List.all_eq_true.1 hall t hm)⟩)
    (by kernel_rfl)
end Go.Proofs.YtofmfdlkalakaaaGreatDoor.saidRefereeChannel
namespace Go.Proofs.YtofmfdlkalakaaaGreatDoor
theorem x_RefereeChannel : Rows.RefereeChannelCardSaid := saidRefereeChannel.card
end Go.Proofs.YtofmfdlkalakaaaGreatDoor
