/- The Go functions compute their models: printed by program (gd2). Conditions: none. -/
import Derived.Test.YtfocdgbdeacgaaaProg
import Derived.Test.YtfocdgbdeacgaaaMap
import Derived.Test.YtfocdgbdeacgaaaModels
import Derived.Test.YtfocdgbdeacgaaaSort
import Derived.Test.YtfocdgbdeacgaaaSort2
import Derived.Test.YtfocdgbdeacgaaaShelfP
namespace Go.Proofs.Ytfocdgbdeacgaaa
open Go Go.GD
set_option autoImplicit false
set_option maxRecDepth 100000

abbrev e_Literal : E T_Literal := eProd eBool eStr
abbrev e_keep_Src : E T_keep_Src := eProd (eSlice (eInt .i64)) (eInt .i64)

theorem Try.key62 : KeyOk Try.prog 62 23 63 (fun x : T_Literal => .agg #[vb x.1, vs x.2]) :=
  ⟨Try.underlying62, fun _ _ _ => by kernel_rfl, fun x y w => (run_eqG 50).1 23 _ _ (x == y) (by kernel_rfl) 10000 (by decide), ⟨_, Try.underlying23, fun _ _ => .inl rfl⟩, fun x => by simp [Instr.sameBits, ba_beq]⟩

theorem c_keep_New {A : List Nat} {w0 : World} {y0 : List Int} {p1 : Option Addr} {c1 : Nat} {r : T_keep_Src} (hO : Own A w0 []) (hF : All [R (eInt .i64) p1 c1 (List.length y0) y0] (bl [] ++ A) w0) (hm : m_keep_New y0 = some r) :
    Calls Try.prog 9 [.slice p1 (List.length y0) c1].toArray w0 (Ret fun v w => ∃ (b1 : Nat) (p2 : Option Addr) (c2 : Nat), v = .pointer (some ⟨b1, 0, none⟩) ∧ Bk A [] w0 [bx b1 56 [.slice p2 (List.length r.1) c2, vi r.2]] [R (eInt .i64) p2 c2 (List.length r.1) r.1] w) := by
  unfold m_keep_New at hm
  refine ent Try.func9 rfl hO hF fun a h => ?_
  refine sp [] h fun a h => ?_
  refine sr ?_
  refine pr 4 [(6, vi (if 2000 < (len y0) then 2000 else len y0)), (3, .slice p1 (List.length y0) c1)] h fun a h => ?_
  obtain ⟨x1, h1, hm⟩ := bnd hm
  refine sl (b_slice_rd h (h.g 0) rfl rfl rfl (.inl ⟨rfl, rfl⟩) (.inr ⟨_, rfl⟩) h1 fun p2 c2 a h => ?_)
  refine pr 1 [(8, .agg #[.slice p2 (List.length x1) c2, vi 0])] h fun a h => ?_
  refine sl (b_box h rfl fun b1 a w h e => ?_)
  refine pr 1 [(2, .pointer (some ⟨b1, 0, none⟩))] h fun a h => ?_
  refine oe ?_
  refine wp_ret ?_
  obtain rfl := Option.some.inj hm
  exact rt1 h rfl rfl ⟨b1, p2, c2, rfl, bk_sel h [0] ⟨(h.g 0), trivial⟩⟩

theorem c_keep_Mod {A : List Nat} {w0 : World} {y0 : Int} {y1 : Int} {r : Int} (hO : Own A w0 []) (hF : All [] (bl [] ++ A) w0) (hm : m_keep_Mod y0 y1 = some r) :
    Calls Try.prog 26 [vi y0, vi y1].toArray w0 (Ret fun v w => v = vi r ∧ Bk A [] w0 [] [] w) := by
  unfold m_keep_Mod at hm
  refine ent Try.func26 rfl hO hF fun a h => ?_
  refine sp [] h fun a h => ?_
  refine wp_seq ?_
  refine sp [(6, vb (decide (y1 < 1)))] h fun a h => ?_
  refine cb h rfl (fun hb1 => ?_) (fun hb1 => ?_)
  · replace hm := ifT hb1 hm
    refine sp [(4, vi 0)] h fun a h => ?_
    refine wp_ret ?_
    refine then_r ?_
    obtain rfl := Option.some.inj hm
    exact rt1 h rfl rfl ⟨rfl, bk_sel h [] trivial⟩
  replace hm := ifF hb1 hm
  refine wp_skip ?_
  refine then_n ?_
  refine sr ?_
  refine pr 2 [(8, vi y1), (7, vi y0)] h fun a h => ?_
  obtain ⟨x1, h1, hm⟩ := bnd hm
  refine sl (b_val h (r_remK h.s rfl rfl h1) fun a h => ?_)
  refine pr 1 [(0, vi x1)] h fun a h => ?_
  refine oe ?_
  refine wp_seq ?_
  refine sp [(11, vb (decide (x1 < 0)))] h fun a h => ?_
  refine cb h rfl (fun hb2 => ?_) (fun hb2 => ?_)
  · replace hm := ifT hb2 hm
    refine reg ?_
    refine pr 4 [(0, vi (w64 (x1 + y1)))] h fun a h => ?_
    refine ops_end ?_
    refine then_n ?_
    refine sp [(4, vi (w64 (x1 + y1)))] h fun a h => ?_
    refine wp_ret ?_
    obtain rfl := Option.some.inj hm
    exact rt1 h rfl rfl ⟨rfl, bk_sel h [] trivial⟩
  replace hm := ifF hb2 hm
  refine wp_skip ?_
  refine then_n ?_
  refine sp [(4, vi x1)] h fun a h => ?_
  refine wp_ret ?_
  obtain rfl := Option.some.inj hm
  exact rt1 h rfl rfl ⟨rfl, bk_sel h [] trivial⟩

theorem c_keep_Src_Raw {A : List Nat} {w0 : World} {y0 : T_keep_Src} {b1 : Nat} {p1 : Option Addr} {c1 : Nat} {r : Int × Int} (hO : Own A w0 [bx b1 56 [.slice p1 (List.length y0.1) c1, vi y0.2]]) (hF : All [R (eInt .i64) p1 c1 (List.length y0.1) y0.1] (bl [bx b1 56 [.slice p1 (List.length y0.1) c1, vi y0.2]] ++ A) w0) (hm : m_keep_Src_Raw y0 = some r) :
    Calls Try.prog 39 [.pointer (some ⟨b1, 0, none⟩)].toArray w0 (Ret fun v w => v = vi r.1 ∧ Bk A [bx b1 56 [.slice p1 (List.length y0.1) c1, vi y0.2]] w0 [bx b1 56 [.slice p1 (List.length y0.1) c1, vi r.2]] [] w) := by
  unfold m_keep_Src_Raw at hm
  refine ent Try.func39 rfl hO hF fun a h => ?_
  refine sp [] h fun a h => ?_
  refine wp_seq ?_
  refine ds [] [0] h fun w h => ?_
  refine dp 0 (.pointer (some ⟨b1, 0, none⟩)) h rfl fun a h => ?_
  refine dp 1 (.pointer (some ⟨b1, 0, none⟩)) h rfl fun a h => ?_
  refine dp 2 (.pointer (some ⟨b1, 1, none⟩)) h rfl fun a h => ?_
  refine dlo 3 0 (vi y0.2) h rfl rfl rfl fun a h => ?_
  refine dp 4 (.pointer (some ⟨b1, 0, none⟩)) h rfl fun a h => ?_
  refine dp 5 (.pointer (some ⟨b1, 0, none⟩)) h rfl fun a h => ?_
  refine dp 6 (.pointer (some ⟨b1, 0, none⟩)) h rfl fun a h => ?_
  refine dlo 7 0 (.slice p1 (List.length y0.1) c1) h rfl rfl rfl fun a h => ?_
  refine dp 8 (vi (len y0.1)) h rfl fun a h => ?_
  refine dp 9 (vb (decide ((len y0.1) ≤ y0.2))) h rfl fun a h => ?_
  refine de (then_n ?_)
  refine cb h rfl (fun hb1 => ?_) (fun hb1 => ?_)
  · replace hm := ifT hb1 hm
    refine sp [(2, vi 0)] h fun a h => ?_
    refine wp_ret ?_
    refine then_r ?_
    obtain rfl := Option.some.inj hm
    exact rt1 h rfl rfl ⟨rfl, bk_sel h [0] trivial⟩
  replace hm := ifF hb1 hm
  refine wp_skip ?_
  refine then_n ?_
  refine sr ?_
  refine pr 3 [(15, .pointer (some ⟨b1, 1, none⟩)), (13, .pointer (some ⟨b1, 0, none⟩))] h fun a h => ?_
  refine sl (b_load_own 0 (vi y0.2) h rfl rfl fun a h => ?_)
  refine pr 3 [(19, .pointer (some ⟨b1, 1, none⟩)), (17, vi (w64 (y0.2 + 1)))] h fun a h => ?_
  refine sl (b_store_own 0 h rfl rfl rfl fun a w h e => ?_)
  refine oe ?_
  refine ds [] [0] h fun w h => ?_
  refine dp 0 (.pointer (some ⟨b1, 0, none⟩)) h rfl fun a h => ?_
  refine dp 1 (.pointer (some ⟨b1, 0, none⟩)) h rfl fun a h => ?_
  refine dp 2 (.pointer (some ⟨b1, 0, none⟩)) h rfl fun a h => ?_
  refine dlo 3 0 (.slice p1 (List.length y0.1) c1) h rfl rfl rfl fun a h => ?_
  refine dp 4 (.pointer (some ⟨b1, 0, none⟩)) h rfl fun a h => ?_
  refine dp 5 (.pointer (some ⟨b1, 0, none⟩)) h rfl fun a h => ?_
  refine dp 6 (.pointer (some ⟨b1, 1, none⟩)) h rfl fun a h => ?_
  refine dlo 7 0 (vi (w64 (y0.2 + 1))) h rfl rfl rfl fun a h => ?_
  refine dp 8 (vi (w64 ((w64 (y0.2 + 1)) - 1))) h rfl fun a h => ?_
  obtain ⟨x1, h1, hm⟩ := bnd hm
  refine dir 9 h rfl (h.g 0) rfl rfl h1 fun b2 o1 a h => ?_
  refine dlp 10 false h rfl (h.g 0) rfl fun ci1 hc1 v1 hv1 a h => ?_
  replace hc1 : E.rd (eInt .i64) _ _ ci1 x1 := hc1
  obtain rfl := hc1
  obtain rfl := Option.some.inj hv1
  refine dp 11 (vi x1) h rfl fun a h => ?_
  refine de (then_n ?_)
  refine wp_ret ?_
  obtain rfl := Option.some.inj hm
  exact rt1 h rfl rfl ⟨rfl, bk_sel h [0] trivial⟩

theorem c_keep_Src_N {A : List Nat} {w0 : World} {y0 : T_keep_Src} {b1 : Nat} {p1 : Option Addr} {c1 : Nat} {y1 : Int} {r : Int × Int} (hO : Own A w0 [bx b1 56 [.slice p1 (List.length y0.1) c1, vi y0.2]]) (hF : All [R (eInt .i64) p1 c1 (List.length y0.1) y0.1] (bl [bx b1 56 [.slice p1 (List.length y0.1) c1, vi y0.2]] ++ A) w0) (hm : m_keep_Src_N y0 y1 = some r) :
    Calls Try.prog 27 [.pointer (some ⟨b1, 0, none⟩), vi y1].toArray w0 (Ret fun v w => v = vi r.1 ∧ Bk A [bx b1 56 [.slice p1 (List.length y0.1) c1, vi y0.2]] w0 [bx b1 56 [.slice p1 (List.length y0.1) c1, vi r.2]] [] w) := by
  unfold m_keep_Src_N at hm
  refine ent Try.func27 rfl hO hF fun a h => ?_
  refine sp [] h fun a h => ?_
  refine sr ?_
  refine pr 1 [(5, .pointer (some ⟨b1, 0, none⟩))] h fun a h => ?_
  obtain ⟨r1, h1, hm⟩ := bnd hm
  refine sl (b_call [0] [] h Try.call39 rfl rfl (c_keep_Src_Raw (y0 := y0) (h.po [0] []) ⟨(h.pf [0] [] 0), trivial⟩ h1) fun v a w hp hc => ?_)
  obtain ⟨rfl, q⟩ := hp
  have h := hc.on q [bx b1 56 [.slice p1 (List.length y0.1) c1, vi r1.2]]
  refine pr 1 [(7, vi y1)] h fun a h => ?_
  obtain ⟨r2, h2, hm⟩ := bnd hm
  refine sl (b_call [] [] h Try.call26 rfl rfl (c_keep_Mod (y0 := r1.1) (y1 := y1) (h.po [] []) trivial h2) fun v a w hp hc => ?_)
  obtain ⟨rfl, q⟩ := hp
  have h := hc.on q [bx b1 56 [.slice p1 (List.length y0.1) c1, vi r1.2]]
  refine pr 1 [(4, vi r2)] h fun a h => ?_
  refine oe ?_
  refine wp_ret ?_
  obtain rfl := Option.some.inj hm
  exact rt1 h rfl rfl ⟨rfl, bk_sel h [0] trivial⟩

theorem c_keep_Src_Literal {A : List Nat} {w0 : World} {y0 : T_keep_Src} {b1 : Nat} {p1 : Option Addr} {c1 : Nat} {y1 : Int} {r : T_Literal × Int} (hO : Own A w0 [bx b1 56 [.slice p1 (List.length y0.1) c1, vi y0.2]]) (hF : All [R (eInt .i64) p1 c1 (List.length y0.1) y0.1] (bl [bx b1 56 [.slice p1 (List.length y0.1) c1, vi y0.2]] ++ A) w0) (hm : m_keep_Src_Literal y0 y1 = some r) :
    Calls Try.prog 11 [.pointer (some ⟨b1, 0, none⟩), vi y1].toArray w0 (Ret fun v w => v = .agg #[vb r.1.1, vs r.1.2] ∧ Bk A [bx b1 56 [.slice p1 (List.length y0.1) c1, vi y0.2]] w0 [bx b1 56 [.slice p1 (List.length y0.1) c1, vi r.2]] [] w) := by
  unfold m_keep_Src_Literal at hm
  refine ent Try.func11 rfl hO hF fun a h => ?_
  refine sr ?_
  refine sl (b_alloc h rfl fun b2 a w h e => ?_)
  refine oe ?_
  refine sr ?_
  refine pr 3 [(8, vi (w64 (2 * y1))), (6, .pointer (some ⟨b1, 0, none⟩))] h fun a h => ?_
  obtain ⟨r1, h1, hm⟩ := bnd hm
  refine sl (b_call [0] [] h Try.call27 rfl rfl (c_keep_Src_N (y0 := y0) (y1 := w64 (2 * y1)) (h.po [0] []) ⟨(h.pf [0] [] 0), trivial⟩ h1) fun v a w hp hc => ?_)
  obtain ⟨rfl, q⟩ := hp
  have h := hc.on q [bx b1 56 [.slice p1 (List.length y0.1) c1, vi r1.2], bx b2 23 [vb false, vs []]]
  refine pr 1 [(5, vi r1.1)] h fun a h => ?_
  refine oe ?_
  refine sr ?_
  refine pr 4 [(13, vi r1.1), (12, vb ((band .i64 r1.1 1) == 1))] h fun a h => ?_
  obtain ⟨x1, h2, hm⟩ := bnd hm
  refine sl (b_val h (r_quoK h.s rfl rfl h2) fun a h => ?_)
  refine pr 2 [(16, .int .u8 (IntKind.u8.wrap (w64 (97 + x1))))] h fun a h => ?_
  refine sl (b_bs_rd (te := 5) (e := eInt .u8) [.int .u8 (IntKind.u8.wrap (w64 (97 + x1)))] ([IntKind.u8.wrap (w64 (97 + x1))] : List Int) h ⟨_, _, rfl, eInt.mk, rfl⟩ fun p2 c2 a w h e => ?_)
  refine sl (b_strOf h (h.g 0) rfl Try.underlying58 Try.underlying5 Try.underlying9 fun a h => ?_)
  refine pr 1 [(19, .agg #[vb ((band .i64 r1.1 1) == 1), vs (strOf ([IntKind.u8.wrap (w64 (97 + x1))] : List Int))])] h fun a h => ?_
  refine sl (b_store_own 1 h rfl rfl rfl fun a w h e => ?_)
  refine oe ?_
  refine wp_ret ?_
  obtain rfl := Option.some.inj hm
  exact rtg h rfl (vs := [.agg #[vb ((band .i64 r1.1 1) == 1), vs (strOf ([IntKind.u8.wrap (w64 (97 + x1))] : List Int))]]) (rtc 1 h rfl rfl resN) ⟨rfl, bk_sel h [0] trivial⟩

theorem c_keep_Src_Text {A : List Nat} {w0 : World} {y0 : T_keep_Src} {b1 : Nat} {p1 : Option Addr} {c1 : Nat} {y1 : List Str} {p2 : Option Addr} {c2 : Nat} {r : Str × Int} (hO : Own A w0 [bx b1 56 [.slice p1 (List.length y0.1) c1, vi y0.2]]) (hF : All [R (eInt .i64) p1 c1 (List.length y0.1) y0.1, R eStr p2 c2 (List.length y1) y1] (bl [bx b1 56 [.slice p1 (List.length y0.1) c1, vi y0.2]] ++ A) w0) (hm : m_keep_Src_Text y0 y1 = some r) :
    Calls Try.prog 37 [.pointer (some ⟨b1, 0, none⟩), .slice p2 (List.length y1) c2].toArray w0 (Ret fun v w => v = vs r.1 ∧ Bk A [bx b1 56 [.slice p1 (List.length y0.1) c1, vi y0.2]] w0 [bx b1 56 [.slice p1 (List.length y0.1) c1, vi r.2]] [] w) := by
  unfold m_keep_Src_Text at hm
  refine ent Try.func37 rfl hO hF fun a h => ?_
  refine sp [] h fun a h => ?_
  refine sr ?_
  refine pr 4 [(8, vi (len y1)), (6, .pointer (some ⟨b1, 0, none⟩)), (5, .slice p2 (List.length y1) c2)] h fun a h => ?_
  obtain ⟨r1, h1, hm⟩ := bnd hm
  refine sl (b_call [0] [] h Try.call27 rfl rfl (c_keep_Src_N (y0 := y0) (y1 := len y1) (h.po [0] []) ⟨(h.pf [0] [] 0), trivial⟩ h1) fun v a w hp hc => ?_)
  obtain ⟨rfl, q⟩ := hp
  have h := hc.on q [bx b1 56 [.slice p1 (List.length y0.1) c1, vi r1.2]]
  obtain ⟨x1, h2, hm⟩ := bnd hm
  refine sl (b_index_rd h (h.g 1) rfl rfl h2 fun b2 o1 a h => ?_)
  refine sl (b_load_pt false h (h.g 0) rfl fun ci1 hc1 v1 hv1 a h => ?_)
  replace hc1 : E.rd eStr _ _ ci1 x1 := hc1
  obtain rfl := hc1
  obtain rfl := Option.some.inj hv1
  refine pr 1 [(4, vs x1)] h fun a h => ?_
  refine oe ?_
  refine wp_ret ?_
  obtain rfl := Option.some.inj hm
  exact rt1 h rfl rfl ⟨rfl, bk_sel h [0] trivial⟩

theorem c_keep_Src_Odd {A : List Nat} {w0 : World} {y0 : T_keep_Src} {b1 : Nat} {p1 : Option Addr} {c1 : Nat} {r : T_Literal × Int} (hO : Own A w0 [bx b1 56 [.slice p1 (List.length y0.1) c1, vi y0.2]]) (hF : All [R (eInt .i64) p1 c1 (List.length y0.1) y0.1] (bl [bx b1 56 [.slice p1 (List.length y0.1) c1, vi y0.2]] ++ A) w0) (hm : m_keep_Src_Odd y0 = some r) :
    Calls Try.prog 10 [.pointer (some ⟨b1, 0, none⟩)].toArray w0 (Ret fun v w => v = .agg #[vb r.1.1, vs r.1.2] ∧ Bk A [bx b1 56 [.slice p1 (List.length y0.1) c1, vi y0.2]] w0 [bx b1 56 [.slice p1 (List.length y0.1) c1, vi r.2]] [] w) := by
  unfold m_keep_Src_Odd at hm
  refine ent Try.func10 rfl hO hF fun a h => ?_
  refine sr ?_
  refine sl (b_alloc h rfl fun b2 a w h e => ?_)
  refine oe ?_
  refine sr ?_
  refine pr 1 [(3, .pointer (some ⟨b1, 0, none⟩))] h fun a h => ?_
  obtain ⟨r1, h1, hm⟩ := bnd hm
  refine sl (b_call [0] [] h Try.call27 rfl rfl (c_keep_Src_N (y0 := y0) (y1 := 2) (h.po [0] []) ⟨(h.pf [0] [] 0), trivial⟩ h1) fun v a w hp hc => ?_)
  obtain ⟨rfl, q⟩ := hp
  have h := hc.on q [bx b1 56 [.slice p1 (List.length y0.1) c1, vi r1.2], bx b2 23 [vb false, vs []]]
  refine pr 2 [(6, .pointer (some ⟨b1, 0, none⟩)), (5, vb (r1.1 == 1))] h fun a h => ?_
  refine sl (b_bs_rd (te := 9) (e := eStr) [vs [], vs [97], vs [65], vs [97, 49, 95], vs [49, 97], vs [95, 97], vs [97, 98, 99, 100, 101, 102, 103, 104, 105, 106, 107, 108], vs [97, 98, 99, 100, 101, 102, 103, 104, 105, 106, 107, 108, 109], vs [97, 126], vs [126, 97], vs [97, 32, 98]] ([[], [97], [65], [97, 49, 95], [49, 97], [95, 97], [97, 98, 99, 100, 101, 102, 103, 104, 105, 106, 107, 108], [97, 98, 99, 100, 101, 102, 103, 104, 105, 106, 107, 108, 109], [97, 126], [126, 97], [97, 32, 98]] : List Str) h ⟨_, _, rfl, eStr.mk, ⟨_, _, rfl, eStr.mk, ⟨_, _, rfl, eStr.mk, ⟨_, _, rfl, eStr.mk, ⟨_, _, rfl, eStr.mk, ⟨_, _, rfl, eStr.mk, ⟨_, _, rfl, eStr.mk, ⟨_, _, rfl, eStr.mk, ⟨_, _, rfl, eStr.mk, ⟨_, _, rfl, eStr.mk, ⟨_, _, rfl, eStr.mk, rfl⟩⟩⟩⟩⟩⟩⟩⟩⟩⟩⟩ fun p2 c2 a w h e => ?_)
  obtain ⟨r2, h2, hm⟩ := bnd hm
  refine sl (b_call [0] [] h Try.call37 rfl rfl (c_keep_Src_Text (y0 := (y0.1, r1.2)) (y1 := ([[], [97], [65], [97, 49, 95], [49, 97], [95, 97], [97, 98, 99, 100, 101, 102, 103, 104, 105, 106, 107, 108], [97, 98, 99, 100, 101, 102, 103, 104, 105, 106, 107, 108, 109], [97, 126], [126, 97], [97, 32, 98]] : List Str)) (h.po [0] []) ⟨(h.pf [0] [] 1), (h.pf [0] [] 0), trivial⟩ h2) fun v a w hp hc => ?_)
  obtain ⟨rfl, q⟩ := hp
  have h := hc.on q [bx b1 56 [.slice p1 (List.length y0.1) c1, vi r2.2], bx b2 23 [vb false, vs []]]
  refine pr 1 [(9, .agg #[vb (r1.1 == 1), vs r2.1])] h fun a h => ?_
  refine sl (b_store_own 1 h rfl rfl rfl fun a w h e => ?_)
  refine oe ?_
  refine wp_ret ?_
  obtain rfl := Option.some.inj hm
  exact rtg h rfl (vs := [.agg #[vb (r1.1 == 1), vs r2.1]]) (rtc 1 h rfl rfl resN) ⟨rfl, bk_sel h [0] trivial⟩

theorem c_cmp_isNaN_string {A : List Nat} {w0 : World} {y0 : Str} {r : Bool} (hO : Own A w0 []) (hF : All [] (bl [] ++ A) w0) (hm : m_cmp_isNaN_string y0 = some r) :
    Calls Try.prog 47 [vs y0].toArray w0 (Ret fun v w => v = vb r ∧ Bk A [] w0 [] [] w) := by
  unfold m_cmp_isNaN_string at hm
  refine ent Try.func47 rfl hO hF fun a h => ?_
  refine sp [] h fun a h => ?_
  refine sp [(2, vb (!(y0 == y0)))] h fun a h => ?_
  refine wp_ret ?_
  obtain rfl := Option.some.inj hm
  exact rt1 h rfl rfl ⟨rfl, bk_sel h [] trivial⟩

theorem c_cmp_Compare_string {A : List Nat} {w0 : World} {y0 : Str} {y1 : Str} {r : Int} (hO : Own A w0 []) (hF : All [] (bl [] ++ A) w0) (hm : m_cmp_Compare_string y0 y1 = some r) :
    Calls Try.prog 38 [vs y0, vs y1].toArray w0 (Ret fun v w => v = vi r ∧ Bk A [] w0 [] [] w) := by
  unfold m_cmp_Compare_string at hm
  refine ent Try.func38 rfl hO hF fun a h => ?_
  refine sp [] h fun a h => ?_
  refine sr ?_
  refine pr 1 [(7, vs y0)] h fun a h => ?_
  obtain ⟨r1, h1, hm⟩ := bnd hm
  refine sl (b_call [] [] h Try.call47 rfl rfl (c_cmp_isNaN_string (y0 := y0) (h.po [] []) trivial h1) fun v a w hp hc => ?_)
  obtain ⟨rfl, q⟩ := hp
  have h := hc.on q []
  refine pr 1 [(5, vb r1)] h fun a h => ?_
  refine oe ?_
  refine sr ?_
  refine pr 1 [(9, vs y1)] h fun a h => ?_
  obtain ⟨r2, h2, hm⟩ := bnd hm
  refine sl (b_call [] [] h Try.call47 rfl rfl (c_cmp_isNaN_string (y0 := y1) (h.po [] []) trivial h2) fun v a w hp hc => ?_)
  obtain ⟨rfl, q⟩ := hp
  have h := hc.on q []
  refine pr 1 [(6, vb r2)] h fun a h => ?_
  refine oe ?_
  refine wp_seq ?_
  refine sp [(11, vb r1)] h fun a h => ?_
  refine cb h rfl (fun hb1 => ?_) (fun hb1 => ?_)
  · replace hm := ifT hb1 hm
    refine wp_seq ?_
    refine sp [(12, vb r2)] h fun a h => ?_
    refine cb h rfl (fun hb2 => ?_) (fun hb2 => ?_)
    · replace hm := ifT hb2 hm
      refine sp [(4, vi 0)] h fun a h => ?_
      refine wp_ret ?_
      refine then_r (then_r ?_)
      obtain rfl := Option.some.inj hm
      exact rt1 h rfl rfl ⟨rfl, bk_sel h [] trivial⟩
    replace hm := ifF hb2 hm
    refine wp_skip ?_
    refine then_n ?_
    refine sp [(4, vi (-1))] h fun a h => ?_
    refine wp_ret ?_
    refine then_r ?_
    obtain rfl := Option.some.inj hm
    exact rt1 h rfl rfl ⟨rfl, bk_sel h [] trivial⟩
  replace hm := ifF hb1 hm
  refine wp_skip ?_
  refine then_n ?_
  refine wp_seq ?_
  refine sp [(13, vb r2)] h fun a h => ?_
  refine cb h rfl (fun hb3 => ?_) (fun hb3 => ?_)
  · replace hm := ifT hb3 hm
    refine sp [(4, vi 1)] h fun a h => ?_
    refine wp_ret ?_
    refine then_r ?_
    obtain rfl := Option.some.inj hm
    exact rt1 h rfl rfl ⟨rfl, bk_sel h [] trivial⟩
  replace hm := ifF hb3 hm
  refine wp_skip ?_
  refine then_n ?_
  refine wp_seq ?_
  refine sp [(16, vb (sless y0 y1))] h fun a h => ?_
  refine cb h rfl (fun hb4 => ?_) (fun hb4 => ?_)
  · replace hm := ifT hb4 hm
    refine sp [(4, vi (-1))] h fun a h => ?_
    refine wp_ret ?_
    refine then_r ?_
    obtain rfl := Option.some.inj hm
    exact rt1 h rfl rfl ⟨rfl, bk_sel h [] trivial⟩
  replace hm := ifF hb4 hm
  refine wp_skip ?_
  refine then_n ?_
  refine wp_seq ?_
  refine sp [(19, vb (!(sless y0 y1 || y0 == y1)))] h fun a h => ?_
  refine cb h rfl (fun hb5 => ?_) (fun hb5 => ?_)
  · replace hm := ifT hb5 hm
    refine sp [(4, vi 1)] h fun a h => ?_
    refine wp_ret ?_
    refine then_r ?_
    obtain rfl := Option.some.inj hm
    exact rt1 h rfl rfl ⟨rfl, bk_sel h [] trivial⟩
  replace hm := ifF hb5 hm
  refine wp_skip ?_
  refine then_n ?_
  refine sp [(4, vi 0)] h fun a h => ?_
  refine wp_ret ?_
  obtain rfl := Option.some.inj hm
  exact rt1 h rfl rfl ⟨rfl, bk_sel h [] trivial⟩

theorem c_literal_Compare {A : List Nat} {w0 : World} {y0 : T_Literal} {y1 : T_Literal} {r : Int} (hO : Own A w0 []) (hF : All [] (bl [] ++ A) w0) (hm : m_literal_Compare y0 y1 = some r) :
    Calls Try.prog 23 [.agg #[vb y0.1, vs y0.2], .agg #[vb y1.1, vs y1.2]].toArray w0 (Ret fun v w => v = vi r ∧ Bk A [] w0 [] [] w) := by
  unfold m_literal_Compare at hm
  refine ent Try.func23 rfl hO hF fun a h => ?_
  refine sr ?_
  refine sl (b_box h rfl fun b1 a w h e => ?_)
  refine sl (b_box h rfl fun b2 a w h e => ?_)
  refine pr 1 [] h fun a h => ?_
  refine oe ?_
  refine wp_seq ?_
  refine sr ?_
  refine pr 1 [(6, .pointer (some ⟨b1, 1, none⟩))] h fun a h => ?_
  refine sl (b_load_own 0 (vs y0.2) h rfl rfl fun a h => ?_)
  refine pr 1 [(8, .pointer (some ⟨b2, 1, none⟩))] h fun a h => ?_
  refine sl (b_load_own 1 (vs y1.2) h rfl rfl fun a h => ?_)
  obtain ⟨r1, h1, hm⟩ := bnd hm
  refine sl (b_call [] [] h Try.call38 rfl rfl (c_cmp_Compare_string (y0 := y0.2) (y1 := y1.2) (h.po [] []) trivial h1) fun v a w hp hc => ?_)
  obtain ⟨rfl, q⟩ := hp
  have h := hc.on q [bx b1 23 [vb y0.1, vs y0.2], bx b2 23 [vb y1.1, vs y1.2]]
  refine pr 1 [(5, vi r1)] h fun a h => ?_
  refine oe ?_
  refine seq_j (fun a w => SS A [] w0 23 [(3, .pointer (some ⟨b2, 0, none⟩)), (5, vi r1), (19, vb ((r1 != 0) || (y0.1 == y1.1)))] [[], bx b2 23 [vb y1.1, vs y1.2]] [] a w) ?_ ?_
  · refine reg ?_
    refine pr 3 [(13, vb (r1 != 0))] h fun a h => ?_
    rcases Bool.eq_false_or_eq_true (r1 != 0) with hb1 | hb1
    · have h := h.upd (t := 13) (vb true) rfl (congrArg Value.bool hb1)
      refine pr 6 [(19, vb true)] h fun a h => ?_
      refine ops_end ?_
      have h := h.upd (t := 19) (vb ((r1 != 0) || (y0.1 == y1.1))) rfl (by rw [hb1]; rfl)
      exact then_n (h.tos [900, 1] trivial)
    · have h := h.upd (t := 13) (vb false) rfl (congrArg Value.bool hb1)
      refine pr 1 [(14, .pointer (some ⟨b1, 0, none⟩))] h fun a h => ?_
      refine sl (b_load_own 0 (vb y0.1) h rfl rfl fun a h => ?_)
      refine pr 1 [(16, .pointer (some ⟨b2, 0, none⟩))] h fun a h => ?_
      refine sl (b_load_own 1 (vb y1.1) h rfl rfl fun a h => ?_)
      refine pr 2 [(19, vb (y0.1 == y1.1))] h fun a h => ?_
      refine ops_end ?_
      have h := h.upd (t := 19) (vb ((r1 != 0) || (y0.1 == y1.1))) rfl (by rw [hb1]; rfl)
      exact then_n (h.tos [900, 1] trivial)
  intro a w hJ
  have h := hJ
  refine cb h rfl (fun hb2 => ?_) (fun hb2 => ?_)
  · replace hm := ifT hb2 hm
    refine sp [(4, vi r1)] h fun a h => ?_
    refine wp_ret ?_
    refine then_r ?_
    obtain rfl := Option.some.inj hm
    exact rt1 h rfl rfl ⟨rfl, bk_sel h [] trivial⟩
  replace hm := ifF hb2 hm
  refine wp_skip ?_
  refine then_n ?_
  refine wp_seq ?_
  refine sr ?_
  refine pr 1 [(21, .pointer (some ⟨b2, 0, none⟩))] h fun a h => ?_
  refine sl (b_load_own 1 (vb y1.1) h rfl rfl fun a h => ?_)
  refine oe ?_
  refine cb h rfl (fun hb3 => ?_) (fun hb3 => ?_)
  · replace hm := ifT hb3 hm
    refine sp [(4, vi (-1))] h fun a h => ?_
    refine wp_ret ?_
    refine then_r ?_
    obtain rfl := Option.some.inj hm
    exact rt1 h rfl rfl ⟨rfl, bk_sel h [] trivial⟩
  replace hm := ifF hb3 hm
  refine wp_skip ?_
  refine then_n ?_
  refine sp [(4, vi 1)] h fun a h => ?_
  refine wp_ret ?_
  obtain rfl := Option.some.inj hm
  exact rt1 h rfl rfl ⟨rfl, bk_sel h [] trivial⟩

theorem c_literal_Complement {A : List Nat} {w0 : World} {y0 : T_Literal} {r : T_Literal} (hO : Own A w0 []) (hF : All [] (bl [] ++ A) w0) (hm : m_literal_Complement y0 = some r) :
    Calls Try.prog 21 [.agg #[vb y0.1, vs y0.2]].toArray w0 (Ret fun v w => v = .agg #[vb r.1, vs r.2] ∧ Bk A [] w0 [] [] w) := by
  unfold m_literal_Complement at hm
  refine ent Try.func21 rfl hO hF fun a h => ?_
  refine sr ?_
  refine sl (b_box h rfl fun b1 a w h e => ?_)
  refine sl (b_alloc h rfl fun b2 a w h e => ?_)
  refine oe ?_
  refine sr ?_
  refine pr 1 [(3, .pointer (some ⟨b1, 0, none⟩))] h fun a h => ?_
  refine sl (b_load_own 0 (vb y0.1) h rfl rfl fun a h => ?_)
  refine pr 2 [(6, .pointer (some ⟨b1, 0, none⟩)), (5, vb (!y0.1))] h fun a h => ?_
  refine sl (b_store_own 0 h rfl rfl rfl fun a w h e => ?_)
  refine oe ?_
  refine sr ?_
  refine sl (b_load_own 0 (.agg #[vb (!y0.1), vs y0.2]) h rfl rfl fun a h => ?_)
  refine sl (b_store_own 1 h rfl rfl rfl fun a w h e => ?_)
  refine oe ?_
  refine wp_ret ?_
  obtain rfl := Option.some.inj hm
  exact rtg h rfl (vs := [.agg #[vb (!y0.1), vs y0.2]]) (rtc 1 h rfl rfl resN) ⟨rfl, bk_sel h [] trivial⟩

theorem c_literal_Consistent {A : List Nat} {w0 : World} {y0 : List T_Literal} {p1 : Option Addr} {c1 : Nat} {r : Bool} (hO : Own A w0 []) (hF : All [R e_Literal p1 c1 (List.length y0) y0] (bl [] ++ A) w0) (hm : m_literal_Consistent y0 = some r) :
    Calls Try.prog 31 [.slice p1 (List.length y0) c1].toArray w0 (Ret fun v w => v = vb r ∧ Bk A [] w0 [] [] w) := by
  unfold m_literal_Consistent at hm
  refine ent Try.func31 rfl hO hF fun a h => ?_
  refine sp [] h fun a h => ?_
  refine sr ?_
  refine pr 2 [(9, vi (len y0))] h fun a h => ?_
  refine sl (b_makeMap (fun x : T_Literal => .agg #[vb x.1, vs x.2]) (fun x : Unit => .agg #[]) h Try.key62 rfl (.inr ⟨_, _, rfl⟩) fun b1 r_1 a w h e => ?_)
  refine pr 1 [(3, .map (some b1))] h fun a h => ?_
  refine oe ?_
  refine wp_seq ?_
  refine sp [(13, vi 0), (12, vi (len y0)), (11, .slice p1 (List.length y0) c1)] h fun a h => ?_
  refine wp_block ?_
  refine loop_m (B := (m_literal_Consistent_L1 y0)) (fun (s1 : (List (T_Literal × Unit)) × Int) a w => ∃ (r_2 : Res), SS A [] w0 29 [(3, .map (some b1)), (11, .slice p1 (List.length y0) c1), (12, vi (len y0)), (13, vi s1.2)] [r_2] [Ma (fun x : T_Literal => .agg #[vb x.1, vs x.2]) (fun x : Unit => .agg #[]) r_2 b1 s1.1, R e_Literal p1 c1 (List.length y0) y0] a w) hm ⟨r_1, h.to 1 ⟨(h.g 0), (h.g 1), trivial⟩⟩ ?_
  intro s1 a w o1 hJ hm hr1
  obtain ⟨r_2, h⟩ := hJ
  unfold m_literal_Consistent_L1 at hm
  refine sp [(14, vb (decide (s1.2 < (len y0))))] h fun a h => ?_
  refine wp_seq ?_
  refine cb h rfl (fun hb1 => ?_) (fun hb1 => ?_)
  · replace hm := ifT hb1 hm
    refine wp_skip ?_
    refine then_n ?_
    refine wp_seq ?_
    refine wp_block ?_
    refine sr ?_
    obtain ⟨x1, h1, hm⟩ := bnd hm
    refine sl (b_index_rd h (h.g 1) rfl rfl h1 fun b2 o2 a h => ?_)
    refine sl (b_load_pt true h (h.g 0) rfl fun ci1 hc1 v1 hv1 a h => ?_)
    replace hc1 : E.rd e_Literal _ _ ci1 x1 := hc1
    obtain ⟨_, _, rfl, rfl, rfl⟩ := hc1
    obtain rfl := Option.some.inj hv1
    have h := h.upd (t := 16) (.agg #[vb x1.1, vs x1.2]) rfl rfl
    refine sl (b_alloc h rfl fun b3 a w h e => ?_)
    refine sl (b_store_own 1 h rfl rfl rfl fun a w h e => ?_)
    refine oe ?_
    refine sr ?_
    refine pr 1 [(17, .map (some b1))] h fun a h => ?_
    refine sl (b_load_own 1 (.agg #[vb x1.1, vs x1.2]) h rfl rfl fun a h => ?_)
    refine pr 1 [(19, .agg #[])] h fun a h => ?_
    refine sl (b_mapUpdate 0 (k := x1) (v := ()) h Try.key62 (h.g 1) rfl rfl rfl rfl fun r_3 a w h e => ?_)
    refine oe ?_
    refine sr ?_
    refine pr 1 [(21, .map (some b1))] h fun a h => ?_
    refine sl (b_load_own 1 (.agg #[vb x1.1, vs x1.2]) h rfl rfl fun a h => ?_)
    obtain ⟨r1, h2, hm⟩ := bnd hm
    refine sl (b_call [] [] h Try.call21 rfl rfl (c_literal_Complement (y0 := x1) (h.po [] []) trivial h2) fun v a w hp hc => ?_)
    obtain ⟨rfl, q⟩ := hp
    have h := hc.on q [r_3, bx b3 23 [vb x1.1, vs x1.2]]
    refine sl (b_lookup (i := 0) true (k := r1) (zv := ()) h Try.key62 (h.g 0) rfl rfl rfl rfl fun a h => ?_)
    have h := h.upd (t := 24) (.tuple #[.agg #[], vb (Option.isSome (mget (mput s1.1 x1 ()) r1))]) rfl rfl
    refine pr 3 [(26, vb (Option.isSome (mget (mput s1.1 x1 ()) r1))), (25, .agg #[])] h fun a h => ?_
    refine sl (b_alloc h rfl fun b4 a w h e => ?_)
    refine sl (b_store_own 2 h rfl rfl rfl fun a w h e => ?_)
    refine pr 1 [(7, vb (Option.isSome (mget (mput s1.1 x1 ()) r1)))] h fun a h => ?_
    refine oe ?_
    refine sp [(27, vb (Option.isSome (mget (mput s1.1 x1 ()) r1)))] h fun a h => ?_
    refine cb h rfl (fun hb2 => ?_) (fun hb2 => ?_)
    · replace hm := ifT hb2 hm
      refine sp [(2, vb false)] h fun a h => ?_
      refine wp_ret ?_
      refine inb_r (then_r (lp_r (inb_r (then_r ?_))))
      replace hm := loopR hr1 hm
      obtain rfl := Option.some.inj hm
      exact rt1 h rfl rfl ⟨rfl, bk_sel h [] trivial⟩
    replace hm := ifF hb2 hm
    refine wp_skip ?_
    refine inb_n ?_
    refine then_n ?_
    refine reg ?_
    refine pr 2 [(13, vi (w64 (s1.2 + 1)))] h fun a h => ?_
    refine ops_end ?_
    obtain rfl := Option.some.inj hm
    exact lp_n rfl ⟨r_3, h.to 1 ⟨(h.g 0), (h.g 3), trivial⟩⟩
  replace hm := ifF hb1 hm
  refine wp_exit ?_
  refine then_e (lp_e (inb_hit ?_))
  replace hm := loopR hr1 hm
  refine then_n ?_
  refine sp [(2, vb true)] h fun a h => ?_
  refine wp_ret ?_
  obtain rfl := Option.some.inj hm
  exact rt1 h rfl rfl ⟨rfl, bk_sel h [] trivial⟩

theorem c_literal_ValidName {A : List Nat} {w0 : World} {y0 : Str} {r : Bool} (hO : Own A w0 []) (hF : All [] (bl [] ++ A) w0) (hm : m_literal_ValidName y0 = some r) :
    Calls Try.prog 12 [vs y0].toArray w0 (Ret fun v w => v = vb r ∧ Bk A [] w0 [] [] w) := by
  unfold m_literal_ValidName at hm
  refine ent Try.func12 rfl hO hF fun a h => ?_
  refine sp [] h fun a h => ?_
  refine wp_seq ?_
  refine seq_j (fun a w => SS A [] w0 44 [(0, vs y0), (12, vb (((len y0) == 0) || (decide (12 < (len y0)))))] [] [] a w) ?_ ?_
  · refine reg ?_
    refine pr 4 [(8, vb ((len y0) == 0))] h fun a h => ?_
    rcases Bool.eq_false_or_eq_true ((len y0) == 0) with hb1 | hb1
    · have h := h.upd (t := 8) (vb true) rfl (congrArg Value.bool hb1)
      refine pr 4 [(12, vb true)] h fun a h => ?_
      refine ops_end ?_
      have h := h.upd (t := 12) (vb (((len y0) == 0) || (decide (12 < (len y0))))) rfl (by rw [hb1]; rfl)
      exact then_n (h.to 0 trivial)
    · have h := h.upd (t := 8) (vb false) rfl (congrArg Value.bool hb1)
      refine pr 4 [(12, vb (decide (12 < (len y0))))] h fun a h => ?_
      refine ops_end ?_
      have h := h.upd (t := 12) (vb (((len y0) == 0) || (decide (12 < (len y0))))) rfl (by rw [hb1]; rfl)
      exact then_n (h.to 0 trivial)
  intro a w hJ
  have h := hJ
  refine cb h rfl (fun hb2 => ?_) (fun hb2 => ?_)
  · replace hm := ifT hb2 hm
    refine sp [(2, vb false)] h fun a h => ?_
    refine wp_ret ?_
    refine then_r ?_
    obtain rfl := Option.some.inj hm
    exact rt1 h rfl rfl ⟨rfl, bk_sel h [] trivial⟩
  replace hm := ifF hb2 hm
  refine wp_skip ?_
  refine then_n ?_
  refine wp_seq ?_
  refine sp [(15, vi 0), (14, vi (len y0))] h fun a h => ?_
  refine wp_block ?_
  refine loop_m (B := (m_literal_ValidName_L1 y0)) (fun (s1 : Int) a w => SS A [] w0 44 [(0, vs y0), (14, vi (len y0)), (15, vi s1)] [] [] a w) hm (h.to 0 trivial) ?_
  intro s1 a w o1 hJ hm hr1
  have h := hJ
  unfold m_literal_ValidName_L1 at hm
  refine sp [(16, vb (decide (s1 < (len y0))))] h fun a h => ?_
  refine wp_seq ?_
  refine cb h rfl (fun hb3 => ?_) (fun hb3 => ?_)
  · replace hm := ifT hb3 hm
    refine wp_skip ?_
    refine then_n ?_
    refine wp_seq ?_
    refine wp_block ?_
    refine sp [(3, vi s1)] h fun a h => ?_
    refine sr ?_
    refine pr 2 [(19, vi s1), (18, vs y0)] h fun a h => ?_
    obtain ⟨x1, h1, hm⟩ := bnd hm
    refine sl (b_val h (r_sidx h.s rfl rfl Try.underlying9 h1) fun a h => ?_)
    refine pr 1 [(4, .int .u8 x1)] h fun a h => ?_
    refine oe ?_
    refine wp_block ?_
    refine seq_j (fun a w => SS A [] w0 44 [(0, vs y0), (3, vi s1), (4, .int .u8 x1), (14, vi (len y0)), (15, vi s1), (21, vb ((decide (97 ≤ x1)) && (decide (x1 ≤ 122))))] [] [] a w) ?_ ?_
    · refine reg ?_
      refine pr 3 [(24, vb (decide (97 ≤ x1)))] h fun a h => ?_
      rcases Bool.eq_false_or_eq_true (decide (97 ≤ x1)) with hb4 | hb4
      · have h := h.upd (t := 24) (vb true) rfl (congrArg Value.bool hb4)
        refine pr 4 [(21, vb (decide (x1 ≤ 122)))] h fun a h => ?_
        refine ops_end ?_
        have h := h.upd (t := 21) (vb ((decide (97 ≤ x1)) && (decide (x1 ≤ 122)))) rfl (by rw [hb4]; rfl)
        exact then_n (h.to 0 trivial)
      · have h := h.upd (t := 24) (vb false) rfl (congrArg Value.bool hb4)
        refine pr 4 [(21, vb false)] h fun a h => ?_
        refine ops_end ?_
        have h := h.upd (t := 21) (vb ((decide (97 ≤ x1)) && (decide (x1 ≤ 122)))) rfl (by rw [hb4]; rfl)
        exact then_n (h.to 0 trivial)
    intro a w hJ
    have h := hJ
    refine cb h rfl (fun hb5 => ?_) (fun hb5 => ?_)
    · replace hm := ifT hb5 hm
      refine wp_skip ?_
      refine inb_n ?_
      refine inb_n ?_
      refine then_n ?_
      refine reg ?_
      refine pr 2 [(15, vi (w64 (s1 + 1)))] h fun a h => ?_
      refine ops_end ?_
      obtain rfl := Option.some.inj hm
      exact lp_n rfl (h.to 0 trivial)
    replace hm := ifF hb5 hm
    refine seq_j (fun a w => SS A [] w0 44 [(0, vs y0), (14, vi (len y0)), (15, vi s1), (28, vb ((decide (0 < s1)) && (if decide (48 ≤ x1) then (decide (x1 ≤ 57)) || (x1 == 95) else x1 == 95)))] [] [] a w) ?_ ?_
    · refine reg ?_
      refine pr 3 [(31, vb (decide (0 < s1)))] h fun a h => ?_
      rcases Bool.eq_false_or_eq_true (decide (0 < s1)) with hb6 | hb6
      · have h := h.upd (t := 31) (vb true) rfl (congrArg Value.bool hb6)
        refine pr 3 [(34, vb (decide (48 ≤ x1)))] h fun a h => ?_
        rcases Bool.eq_false_or_eq_true (decide (48 ≤ x1)) with hb7 | hb7
        · have h := h.upd (t := 34) (vb true) rfl (congrArg Value.bool hb7)
          refine pr 4 [(38, vb (decide (x1 ≤ 57)))] h fun a h => ?_
          rcases Bool.eq_false_or_eq_true (decide (x1 ≤ 57)) with hb8 | hb8
          · have h := h.upd (t := 38) (vb true) rfl (congrArg Value.bool hb8)
            refine pr 5 [(28, vb true)] h fun a h => ?_
            refine ops_end ?_
            have h := h.upd (t := 28) (vb ((decide (0 < s1)) && (if decide (48 ≤ x1) then (decide (x1 ≤ 57)) || (x1 == 95) else x1 == 95))) rfl (by rw [hb6, hb7, hb8]; rfl)
            exact then_n (h.to 0 trivial)
          · have h := h.upd (t := 38) (vb false) rfl (congrArg Value.bool hb8)
            refine pr 5 [(28, vb (x1 == 95))] h fun a h => ?_
            refine ops_end ?_
            have h := h.upd (t := 28) (vb ((decide (0 < s1)) && (if decide (48 ≤ x1) then (decide (x1 ≤ 57)) || (x1 == 95) else x1 == 95))) rfl (by rw [hb6, hb7, hb8]; rfl)
            exact then_n (h.to 0 trivial)
        · have h := h.upd (t := 34) (vb false) rfl (congrArg Value.bool hb7)
          refine pr 9 [(28, vb (x1 == 95))] h fun a h => ?_
          refine ops_end ?_
          have h := h.upd (t := 28) (vb ((decide (0 < s1)) && (if decide (48 ≤ x1) then (decide (x1 ≤ 57)) || (x1 == 95) else x1 == 95))) rfl (by rw [hb6, hb7]; rfl)
          exact then_n (h.to 0 trivial)
      · have h := h.upd (t := 31) (vb false) rfl (congrArg Value.bool hb6)
        refine pr 12 [(28, vb false)] h fun a h => ?_
        refine ops_end ?_
        have h := h.upd (t := 28) (vb ((decide (0 < s1)) && (if decide (48 ≤ x1) then (decide (x1 ≤ 57)) || (x1 == 95) else x1 == 95))) rfl (by rw [hb6]; rfl)
        exact then_n (h.to 0 trivial)
    intro a w hJ
    have h := hJ
    refine cb h rfl (fun hb9 => ?_) (fun hb9 => ?_)
    · replace hm := ifT hb9 hm
      refine wp_skip ?_
      refine inb_n ?_
      refine inb_n ?_
      refine then_n ?_
      refine reg ?_
      refine pr 2 [(15, vi (w64 (s1 + 1)))] h fun a h => ?_
      refine ops_end ?_
      obtain rfl := Option.some.inj hm
      exact lp_n rfl (h.to 0 trivial)
    replace hm := ifF hb9 hm
    refine sp [(2, vb false)] h fun a h => ?_
    refine wp_ret ?_
    refine inb_r (inb_r (then_r (lp_r (inb_r (then_r ?_)))))
    replace hm := loopR hr1 hm
    obtain rfl := Option.some.inj hm
    exact rt1 h rfl rfl ⟨rfl, bk_sel h [] trivial⟩
  replace hm := ifF hb3 hm
  refine wp_exit ?_
  refine then_e (lp_e (inb_hit ?_))
  replace hm := loopR hr1 hm
  refine then_n ?_
  refine sp [(2, vb true)] h fun a h => ?_
  refine wp_ret ?_
  obtain rfl := Option.some.inj hm
  exact rt1 h rfl rfl ⟨rfl, bk_sel h [] trivial⟩

theorem c_literal_Valid {A : List Nat} {w0 : World} {y0 : T_Literal} {r : Bool} (hO : Own A w0 []) (hF : All [] (bl [] ++ A) w0) (hm : m_literal_Valid y0 = some r) :
    Calls Try.prog 14 [.agg #[vb y0.1, vs y0.2]].toArray w0 (Ret fun v w => v = vb r ∧ Bk A [] w0 [] [] w) := by
  unfold m_literal_Valid at hm
  refine ent Try.func14 rfl hO hF fun a h => ?_
  refine sr ?_
  refine sl (b_box h rfl fun b1 a w h e => ?_)
  refine pr 1 [] h fun a h => ?_
  refine oe ?_
  refine sr ?_
  refine pr 1 [(3, .pointer (some ⟨b1, 1, none⟩))] h fun a h => ?_
  refine sl (b_load_own 0 (vs y0.2) h rfl rfl fun a h => ?_)
  obtain ⟨r1, h1, hm⟩ := bnd hm
  refine sl (b_call [] [] h Try.call12 rfl rfl (c_literal_ValidName (y0 := y0.2) (h.po [] []) trivial h1) fun v a w hp hc => ?_)
  obtain ⟨rfl, q⟩ := hp
  have h := hc.on q [bx b1 23 [vb y0.1, vs y0.2]]
  refine pr 1 [(2, vb r1)] h fun a h => ?_
  refine oe ?_
  refine wp_ret ?_
  obtain rfl := Option.some.inj hm
  exact rt1 h rfl rfl ⟨rfl, bk_sel h [] trivial⟩

theorem c_literal_Format {A : List Nat} {w0 : World} {y0 : T_Literal} {r : Str} (hO : Own A w0 []) (hF : All [] (bl [] ++ A) w0) (hm : m_literal_Format y0 = some r) :
    Calls Try.prog 16 [.agg #[vb y0.1, vs y0.2]].toArray w0 (Ret fun v w => v = vs r ∧ Bk A [] w0 [] [] w) := by
  unfold m_literal_Format at hm
  refine ent Try.func16 rfl hO hF fun a h => ?_
  refine sr ?_
  refine sl (b_box h rfl fun b1 a w h e => ?_)
  refine pr 1 [] h fun a h => ?_
  refine oe ?_
  refine wp_seq ?_
  refine wp_block ?_
  refine sr ?_
  refine sl (b_load_own 0 (.agg #[vb y0.1, vs y0.2]) h rfl rfl fun a h => ?_)
  obtain ⟨r1, h1, hm⟩ := bnd hm
  refine sl (b_call [] [] h Try.call14 rfl rfl (c_literal_Valid (y0 := y0) (h.po [] []) trivial h1) fun v a w hp hc => ?_)
  obtain ⟨rfl, q⟩ := hp
  have h := hc.on q [bx b1 23 [vb y0.1, vs y0.2]]
  refine pr 2 [(3, vb (!r1))] h fun a h => ?_
  refine oe ?_
  refine cb h rfl (fun hb1 => ?_) (fun hb1 => ?_)
  · replace hm := ifT hb1 hm
    refine sp [(2, vs [])] h fun a h => ?_
    refine wp_ret ?_
    refine inb_r (then_r ?_)
    obtain rfl := Option.some.inj hm
    exact rt1 h rfl rfl ⟨rfl, bk_sel h [] trivial⟩
  replace hm := ifF hb1 hm
  refine sr ?_
  refine pr 1 [(8, .pointer (some ⟨b1, 0, none⟩))] h fun a h => ?_
  refine sl (b_load_own 0 (vb y0.1) h rfl rfl fun a h => ?_)
  refine pr 1 [(7, vb y0.1)] h fun a h => ?_
  refine oe ?_
  refine cb h rfl (fun hb2 => ?_) (fun hb2 => ?_)
  · replace hm := ifT hb2 hm
    refine sr ?_
    refine pr 1 [(10, .pointer (some ⟨b1, 1, none⟩))] h fun a h => ?_
    refine sl (b_load_own 0 (vs y0.2) h rfl rfl fun a h => ?_)
    obtain ⟨x1, h2, hm⟩ := bnd hm
    refine sl (b_val h (r_cat h.s rfl rfl h2) fun a h => ?_)
    refine pr 1 [(2, vs x1)] h fun a h => ?_
    refine oe ?_
    refine wp_ret ?_
    refine inb_r (then_r ?_)
    obtain rfl := Option.some.inj hm
    exact rt1 h rfl rfl ⟨rfl, bk_sel h [] trivial⟩
  replace hm := ifF hb2 hm
  refine wp_skip ?_
  refine inb_n ?_
  refine then_n ?_
  refine sr ?_
  refine pr 1 [(13, .pointer (some ⟨b1, 1, none⟩))] h fun a h => ?_
  refine sl (b_load_own 0 (vs y0.2) h rfl rfl fun a h => ?_)
  refine pr 1 [(2, vs y0.2)] h fun a h => ?_
  refine oe ?_
  refine wp_ret ?_
  obtain rfl := Option.some.inj hm
  exact rt1 h rfl rfl ⟨rfl, bk_sel h [] trivial⟩

theorem c_slices_Clone_Literal {A : List Nat} {w0 : World} {y0 : List T_Literal} {p1 : Option Addr} {c1 : Nat} {r : (List T_Literal)} (hO : Own A w0 []) (hF : All [R e_Literal p1 c1 (List.length y0) y0] (bl [] ++ A) w0) (hm : m_slices_Clone_Literal y0 = some r) :
    Calls Try.prog 40 [.slice p1 (List.length y0) c1].toArray w0 (Ret fun v w => ∃ (p2 : Option Addr) (c2 : Nat) (r_1 : Res), v = .slice p2 (List.length r) c2 ∧ Bk A [] w0 [r_1] [Ar e_Literal 23 r_1 p2 c2 (List.length r) r] w) := by
  unfold m_slices_Clone_Literal at hm
  refine ent Try.func40 rfl hO hF fun a h => ?_
  refine sp [] h fun a h => ?_
  refine wp_seq ?_
  refine sr ?_
  refine pr 1 [(3, .slice p1 (List.length y0) c1)] h fun a h => ?_
  refine sl (b_val h (r_nil h.s rfl Try.underlying29) fun a h => ?_)
  refine oe ?_
  refine cb h rfl (fun hb1 => ?_) (fun hb1 => ?_)
  · have hl1 : y0 = [] := R.isNil (h.g 0) hb1
    replace hm := nilW (m' := some ([] : List T_Literal)) hm (by simp [hl1, app])
    refine sp [(2, .slice none 0 0)] h fun a h => ?_
    refine wp_ret ?_
    refine then_r ?_
    obtain rfl := Option.some.inj hm
    have h := h.room e_Literal 23
    have h := h.upd (t := 2) (.slice none (List.length ([] : List T_Literal)) 0) rfl (by rw [Ar.ln (h.g 0)])
    have h := h.add (Ar.re (h.g 0))
    exact rt1 h rfl rfl ⟨none, 0, [], rfl, bk_sel h [0] ⟨(h.g 0), trivial⟩⟩
  refine wp_skip ?_
  refine then_n ?_
  refine sr ?_
  refine sl (b_bs_own (te := 23) (e := e_Literal) [] ([] : List T_Literal) h rfl fun r_1 p2 c2 a w h e => ?_)
  refine pr 1 [(6, .slice p1 (List.length y0) c1)] h fun a h => ?_
  obtain ⟨x1, h1, hm⟩ := bnd hm
  refine sl (b_append_r (te := 23) 0 h (h.g 0) (h.g 1) rfl rfl h1 fun r_2 p3 c3 a w h e => ?_)
  refine pr 1 [(2, .slice p3 (List.length x1) c3)] h fun a h => ?_
  refine oe ?_
  refine wp_ret ?_
  obtain rfl := Option.some.inj hm
  exact rt1 h rfl rfl ⟨p3, c3, r_2, rfl, bk_sel h [0] ⟨(h.g 0), trivial⟩⟩

theorem c_slices_Compact_Literal {A : List Nat} {w0 : World} {y0 : List T_Literal} {p1 : Option Addr} {c1 : Nat} {r_1 : Res} {r : (List T_Literal)} (hO : Own A w0 [r_1]) (hF : All [Ar e_Literal 23 r_1 p1 c1 (List.length y0) y0] (bl [r_1] ++ A) w0) (hm : m_slices_Compact_Literal y0 = some r) :
    Calls Try.prog 42 [.slice p1 (List.length y0) c1].toArray w0 (Ret fun v w => ∃ (p2 : Option Addr) (c2 : Nat), v = .slice p2 (List.length r) c2 ∧ Bk A [r_1] w0 [[]] [R e_Literal p2 c2 (List.length r) r] w) := by
  unfold m_slices_Compact_Literal at hm
  refine ent Try.func42 rfl hO hF fun a h => ?_
  refine sp [] h fun a h => ?_
  refine wp_seq ?_
  refine sp [(8, vb (decide ((len y0) < 2)))] h fun a h => ?_
  refine cb h rfl (fun hb1 => ?_) (fun hb1 => ?_)
  · replace hm := ifT hb1 hm
    refine sp [(2, .slice p1 (List.length y0) c1)] h fun a h => ?_
    refine wp_ret ?_
    refine then_r ?_
    obtain rfl := Option.some.inj hm
    have h := h.share 0 (h.g 0)
    exact rt1 h rfl rfl ⟨p1, c1, rfl, bk_sel h [900] ⟨(h.g 0), trivial⟩⟩
  replace hm := ifF hb1 hm
  refine wp_skip ?_
  refine then_n ?_
  refine wp_seq ?_
  refine sp [(3, vi 1)] h fun a h => ?_
  refine wp_block ?_
  refine loop_m (B := (m_slices_Compact_Literal_L1 y0)) (fun (s1 : Int) a w => SS A [r_1] w0 61 [(0, .slice p1 (List.length y0) c1), (3, vi s1)] [r_1] [Ar e_Literal 23 r_1 p1 c1 (List.length y0) y0] a w) hm (h.to 1 ⟨(h.g 0), trivial⟩) ?_
  intro s1 a w o1 hJ hm hr1
  have h := hJ
  unfold m_slices_Compact_Literal_L1 at hm
  refine wp_seq ?_
  refine sp [(13, vb (decide (s1 < (len y0))))] h fun a h => ?_
  refine cb h rfl (fun hb2 => ?_) (fun hb2 => ?_)
  · replace hm := ifT hb2 hm
    refine wp_skip ?_
    refine then_n ?_
    refine wp_seq ?_
    refine wp_block ?_
    refine ds [] [0] h fun w h => ?_
    refine dp 0 (.slice p1 (List.length y0) c1) h rfl fun a h => ?_
    refine dp 1 (vi s1) h rfl fun a h => ?_
    obtain ⟨x1, h1, hm⟩ := bnd hm
    refine dia 2 h rfl (h.g 0) rfl rfl h1 fun b1 hp1 a h => ?_
    refine dla 3 0 ((Sub.id e_Literal)) true h rfl (h.g 0) hp1 h1 rfl fun ci1 hc1 v1 hv1 a h => ?_
    replace hc1 : E.rd e_Literal _ _ ci1 x1 := hc1
    obtain ⟨_, _, rfl, rfl, rfl⟩ := hc1
    obtain rfl := Option.some.inj hv1
    have h := h.upd (t := 19) (.agg #[vb x1.1, vs x1.2]) rfl rfl
    refine dp 4 (.slice p1 (List.length y0) c1) h rfl fun a h => ?_
    refine dp 5 (vi s1) h rfl fun a h => ?_
    refine dp 6 (vi (w64 (s1 - 1))) h rfl fun a h => ?_
    obtain ⟨x2, h2, hm⟩ := bnd hm
    refine dia 7 h rfl (h.g 0) rfl rfl h2 fun b2 hp2 a h => ?_
    refine dla 8 0 ((Sub.id e_Literal)) true h rfl (h.g 0) hp2 h2 rfl fun ci2 hc2 v2 hv2 a h => ?_
    replace hc2 : E.rd e_Literal _ _ ci2 x2 := hc2
    obtain ⟨_, _, rfl, rfl, rfl⟩ := hc2
    obtain rfl := Option.some.inj hv2
    have h := h.upd (t := 24) (.agg #[vb x2.1, vs x2.2]) rfl rfl
    refine dp 9 (vb (x1 == x2)) h rfl fun a h => ?_
    refine de (then_n ?_)
    refine cb h rfl (fun hb3 => ?_) (fun hb3 => ?_)
    · replace hm := ifT hb3 hm
      refine sr ?_
      refine pr 2 [(27, vi s1), (26, .slice p1 (List.length y0) c1)] h fun a h => ?_
      obtain ⟨u1, h3, hm⟩ := bnd hm
      refine sl (b_slice_view h (h.g 0) rfl rfl h3 fun p2 c2 f1 a h => ?_)
      refine pr 1 [(4, .slice p2 (Int.toNat (((List.length y0 : Nat) : Int) - s1)) c2)] h fun a h => ?_
      refine oe ?_
      obtain ⟨s2, hx, hm⟩ := bnd hm
      refine seq_j (fun a w => ∃ (p3 : Option Addr) (c3 : Nat) (r_2 : Res), SS A [r_1] w0 61 [(0, .slice p3 (List.length s2.1) c3), (3, vi s2.2)] [r_2] [Ar e_Literal 23 r_2 p3 c3 (List.length s2.1) s2.1] a w) ?_ ?_
      · have hm2 := hm
        replace hm := hx
        refine sp [(5, vi 1)] h fun a h => ?_
        refine wp_block ?_
        refine loop_m (B := (m_slices_Compact_Literal_L2 y0 s1)) (fun (s3 : (List T_Literal) × Int × Int) a w => ∃ (r_3 : Res), SS A [r_1] w0 61 [(0, .slice p1 (List.length y0) c1), (3, vi s3.2.1), (4, .slice p2 (Int.toNat (((List.length y0 : Nat) : Int) - s1)) c2), (5, vi s3.2.2)] [r_3] [Ar e_Literal 23 r_3 p1 c1 (List.length y0) s3.1] a w) hm ⟨r_1, h.to 1 ⟨(h.g 0), trivial⟩⟩ ?_
        intro s3 a w o2 hJ hm hr2
        obtain ⟨r_3, h⟩ := hJ
        unfold m_slices_Compact_Literal_L2 at hm
        refine wp_seq ?_
        refine sp [(32, vb (decide (s3.2.2 < ((Int.toNat (((List.length y0 : Nat) : Int) - s1) : Nat) : Int))))] h fun a h => ?_
        refine cb h rfl (fun hb4 => ?_) (fun hb4 => ?_)
        · replace hm := ifT hb4 hm
          refine wp_skip ?_
          refine then_n ?_
          refine wp_seq ?_
          refine wp_block ?_
          refine ds [] [0] h fun w h => ?_
          refine dp 0 (.slice p2 (Int.toNat (((List.length y0 : Nat) : Int) - s1)) c2) h rfl fun a h => ?_
          refine dp 1 (vi s3.2.2) h rfl fun a h => ?_
          obtain ⟨x3, h4, hm⟩ := bnd hm
          refine dindex_view 2 h rfl (h.g 0) f1 rfl rfl h4 fun b3 hp3 h5 a h => ?_
          refine dla 3 0 ((Sub.id e_Literal)) true h rfl (h.g 0) hp3 h5 rfl fun ci3 hc3 v3 hv3 a h => ?_
          replace hc3 : E.rd e_Literal _ _ ci3 x3 := hc3
          obtain ⟨_, _, rfl, rfl, rfl⟩ := hc3
          obtain rfl := Option.some.inj hv3
          have h := h.upd (t := 38) (.agg #[vb x3.1, vs x3.2]) rfl rfl
          refine dp 4 (.slice p2 (Int.toNat (((List.length y0 : Nat) : Int) - s1)) c2) h rfl fun a h => ?_
          refine dp 5 (vi s3.2.2) h rfl fun a h => ?_
          refine dp 6 (vi (w64 (s3.2.2 - 1))) h rfl fun a h => ?_
          obtain ⟨x4, h6, hm⟩ := bnd hm
          refine dindex_view 7 h rfl (h.g 0) f1 rfl rfl h6 fun b4 hp4 h7 a h => ?_
          refine dla 8 0 ((Sub.id e_Literal)) true h rfl (h.g 0) hp4 h7 rfl fun ci4 hc4 v4 hv4 a h => ?_
          replace hc4 : E.rd e_Literal _ _ ci4 x4 := hc4
          obtain ⟨_, _, rfl, rfl, rfl⟩ := hc4
          obtain rfl := Option.some.inj hv4
          have h := h.upd (t := 43) (.agg #[vb x4.1, vs x4.2]) rfl rfl
          refine dp 9 (vb (!(x3 == x4))) h rfl fun a h => ?_
          refine de (then_n ?_)
          refine cb h rfl (fun hb5 => ?_) (fun hb5 => ?_)
          · replace hm := ifT hb5 hm
            refine sr ?_
            refine pr 4 [(48, vi s3.2.2), (47, .slice p2 (Int.toNat (((List.length y0 : Nat) : Int) - s1)) c2), (46, vi s3.2.1), (45, .slice p1 (List.length y0) c1)] h fun a h => ?_
            obtain ⟨x5, h8, hm⟩ := bnd hm
            refine sl (b_index_view h (h.g 0) f1 rfl rfl h8 fun b5 hp5 h9 a h => ?_)
            refine sl (b_load_arr 0 ((Sub.id e_Literal)) true h (h.g 0) hp5 h9 rfl fun ci5 hc5 v5 hv5 a h => ?_)
            replace hc5 : E.rd e_Literal _ _ ci5 x5 := hc5
            obtain ⟨_, _, rfl, rfl, rfl⟩ := hc5
            obtain rfl := Option.some.inj hv5
            have h := h.upd (t := 50) (.agg #[vb x5.1, vs x5.2]) rfl rfl
            obtain ⟨x6, h10, hm⟩ := bnd hm
            refine sl (b_index_arr h (h.g 0) rfl rfl h10 fun b6 hp6 a h => ?_)
            refine sl (b_store_arr 0 ((Sub.id e_Literal)) (v := .agg #[vb x5.1, vs x5.2]) x5 true h (h.g 0) hp6 h10 rfl rfl (eProd.mk eBool.mk eStr.mk) fun r_4 a w h e => ?_)
            refine oe ?_
            refine reg ?_
            refine pr 3 [(3, vi (w64 (s3.2.1 + 1)))] h fun a h => ?_
            refine ops_end ?_
            refine inb_n ?_
            refine then_n ?_
            refine reg ?_
            refine pr 3 [(5, vi (w64 (s3.2.2 + 1)))] h fun a h => ?_
            refine ops_end ?_
            obtain rfl := Option.some.inj hm
            exact lp_n rfl ⟨r_4, h.to 1 ⟨(h.g 0), trivial⟩⟩
          replace hm := ifF hb5 hm
          refine wp_skip ?_
          refine inb_n ?_
          refine then_n ?_
          refine reg ?_
          refine pr 3 [(5, vi (w64 (s3.2.2 + 1)))] h fun a h => ?_
          refine ops_end ?_
          obtain rfl := Option.some.inj hm
          exact lp_n rfl ⟨r_3, h.to 1 ⟨(h.g 0), trivial⟩⟩
        replace hm := ifF hb4 hm
        refine wp_exit ?_
        refine then_e (lp_e (inb_hit ?_))
        replace hm := loopR hr2 hm
        obtain rfl := Option.some.inj hm
        have h := h.upd (t := 0) (.slice p1 (List.length s3.1) c1) rfl (by rw [Ar.ln (h.g 0)])
        have h := h.add (Ar.re (h.g 0))
        exact then_n ⟨p1, c1, r_3, h.to 1 ⟨(h.g 0), trivial⟩⟩
      intro a w hJ
      obtain ⟨p3, c3, r_2, h⟩ := hJ
      refine sr ?_
      refine pr 2 [(55, vi s2.2), (54, .slice p3 (List.length s2.1) c3)] h fun a h => ?_
      obtain ⟨u2, h11, hm⟩ := bnd hm
      refine sl (b_slice_view h (h.g 0) rfl rfl h11 fun p4 c4 f2 a h => ?_)
      refine sl (b_clear_view 0 (zd := (false, [])) (zv := .agg #[vb false, vs []]) h (h.g 0) f2 rfl rfl (eProd.mk eBool.mk eStr.mk) fun r_5 a w h e => ?_)
      refine oe ?_
      refine sr ?_
      refine pr 2 [(58, vi s2.2), (57, .slice p3 (List.length s2.1) c3)] h fun a h => ?_
      obtain ⟨x7, h12, hm⟩ := bnd hm
      refine sl (b_slice_pre h (h.g 0) rfl rfl h12 fun a h => ?_)
      refine pr 1 [(2, .slice p3 (List.length x7) c3)] h fun a h => ?_
      refine oe ?_
      refine wp_ret ?_
      refine inb_r (then_r (lp_r (inb_r (then_r ?_))))
      replace hm := loopR hr1 hm
      obtain rfl := Option.some.inj hm
      have h := h.share 0 (h.g 0)
      exact rt1 h rfl rfl ⟨p3, c3, rfl, bk_sel h [900] ⟨(h.g 0), trivial⟩⟩
    replace hm := ifF hb3 hm
    refine wp_skip ?_
    refine inb_n ?_
    refine then_n ?_
    refine reg ?_
    refine pr 3 [(3, vi (w64 (s1 + 1)))] h fun a h => ?_
    refine ops_end ?_
    obtain rfl := Option.some.inj hm
    exact lp_n rfl (h.to 1 ⟨(h.g 0), trivial⟩)
  replace hm := ifF hb2 hm
  refine wp_exit ?_
  refine then_e (lp_e (inb_hit ?_))
  replace hm := loopR hr1 hm
  refine then_n ?_
  refine sp [(2, .slice p1 (List.length y0) c1)] h fun a h => ?_
  refine wp_ret ?_
  obtain rfl := Option.some.inj hm
  have h := h.share 0 (h.g 0)
  exact rt1 h rfl rfl ⟨p1, c1, rfl, bk_sel h [900] ⟨(h.g 0), trivial⟩⟩

theorem c_slices_SortFunc_Literal__literal_Compare {A : List Nat} {w0 : World} {y0 : List T_Literal} {p1 : Option Addr} {c1 : Nat} {r_1 : Res} {r : List T_Literal} (hO : Own A w0 [r_1]) (hF : All [Ar e_Literal 23 r_1 p1 c1 (List.length y0) y0] (bl [r_1] ++ A) w0) (hm : m_slices_SortFunc_Literal__literal_Compare y0 = some r) :
    Calls Try.prog 41 [.slice p1 (List.length y0) c1, .func (.func 23) #[] #[]].toArray w0 (Ret fun v w => ∃ (r_2 : Res), v = .tuple #[] ∧ Bk A [r_1] w0 [r_2] [Ar e_Literal 23 r_2 p1 c1 (List.length y0) r] w) := by
  have h := sort_flat Go.Proofs.Try.sort41 (Flat.prod Flat.bool Flat.str) (te := 23) Try.isAgg23 Try.sizeOf23 m_literal_Compare 23 (enters_of Try.func23 (by kernel_rfl) rfl) (fun w x y n hn => ?_) hO hF.1.1 hm
  · change Calls Try.prog 41 _ _ _ at h
    refine h.mono fun e w' h => ?_
    cases e with
    | returned v => obtain ⟨r', rfl, h1, h2, h3, h4⟩ := h; exact ⟨r', rfl, h1, h2, ⟨h3, h4.symm⟩, trivial⟩
    | panicked ch => exact h
    | outgrown => exact h
  · refine (c_literal_Compare (A := []) (y0 := x) (y1 := y) (Own.start (by simp)) trivial hn).mono fun e w' h => ?_
    cases e with
    | returned v => obtain ⟨rfl, h⟩ := h; exact ⟨rfl, h.e⟩
    | panicked ch => exact h
    | outgrown => exact h

theorem c_literal_Normal {A : List Nat} {w0 : World} {y0 : List T_Literal} {p1 : Option Addr} {c1 : Nat} {r : (List T_Literal)} (hO : Own A w0 []) (hF : All [R e_Literal p1 c1 (List.length y0) y0] (bl [] ++ A) w0) (hm : m_literal_Normal y0 = some r) :
    Calls Try.prog 28 [.slice p1 (List.length y0) c1].toArray w0 (Ret fun v w => ∃ (p2 : Option Addr) (c2 : Nat), v = .slice p2 (List.length r) c2 ∧ Bk A [] w0 [] [R e_Literal p2 c2 (List.length r) r] w) := by
  unfold m_literal_Normal at hm
  refine ent Try.func28 rfl hO hF fun a h => ?_
  refine sp [] h fun a h => ?_
  refine sr ?_
  refine pr 1 [(4, .slice p1 (List.length y0) c1)] h fun a h => ?_
  obtain ⟨r1, h1, hm⟩ := bnd hm
  refine sl (b_call [] [] h Try.call40 rfl rfl (c_slices_Clone_Literal (y0 := y0) (h.po [] []) ⟨(h.pf [] [] 0), trivial⟩ h1) fun v a w hp hc => ?_)
  obtain ⟨p2, c2, r_1, rfl, q⟩ := hp
  have h := hc.on q [r_1]
  refine pr 1 [(3, .slice p2 (List.length r1) c2)] h fun a h => ?_
  refine oe ?_
  refine sr ?_
  refine pr 1 [(6, .slice p2 (List.length r1) c2)] h fun a h => ?_
  obtain ⟨r2, h2, hm⟩ := bnd hm
  refine sl (b_call [0] [] h Try.call41 rfl rfl (c_slices_SortFunc_Literal__literal_Compare (y0 := r1) (h.po [0] []) ⟨(h.pf [0] [] 0), trivial⟩ h2) fun v a w hp hc => ?_)
  obtain ⟨r_2, rfl, q⟩ := hp
  have h := hc.on q [r_2]
  refine oe ?_
  refine sr ?_
  refine pr 1 [(8, .slice p2 (List.length r1) c2)] h fun a h => ?_
  have h := h.upd (t := 8) (.slice p2 (List.length r2) c2) rfl (by rw [Ar.ln (h.g 0)])
  have h := h.add (Ar.re (h.g 0))
  obtain ⟨r3, h3, hm⟩ := bnd hm
  refine sl (b_call [0] [] h Try.call42 rfl rfl (c_slices_Compact_Literal (y0 := r2) (h.po [0] []) ⟨(h.pf [0] [] 0), trivial⟩ h3) fun v a w hp hc => ?_)
  obtain ⟨p3, c3, rfl, q⟩ := hp
  have h := hc.on q [[]]
  refine pr 1 [(2, .slice p3 (List.length r3) c3)] h fun a h => ?_
  refine oe ?_
  refine wp_ret ?_
  obtain rfl := Option.some.inj hm
  exact rt1 h rfl rfl ⟨p3, c3, rfl, bk_sel h [] ⟨(h.g 0), trivial⟩⟩

theorem c_literal_Parse {A : List Nat} {w0 : World} {y0 : Str} {r : T_Literal × Int} (hO : Own A w0 []) (hF : All [] (bl [] ++ A) w0) (hm : m_literal_Parse y0 = some r) :
    Calls Try.prog 18 [vs y0].toArray w0 (Ret fun v w => v = .tuple #[.agg #[vb r.1.1, vs r.1.2], vi r.2] ∧ Bk A [] w0 [] [] w) := by
  unfold m_literal_Parse at hm
  refine ent Try.func18 rfl hO hF fun a h => ?_
  refine sr ?_
  refine sl (b_alloc h rfl fun b1 a w h e => ?_)
  refine pr 1 [] h fun a h => ?_
  refine oe ?_
  refine sr ?_
  refine sl (b_alloc h rfl fun b2 a w h e => ?_)
  refine oe ?_
  obtain ⟨s1, hx, hm⟩ := bnd hm
  refine seq_j (fun a w => SS A [] w0 23 [(0, vs s1.1), (2, .pointer (some ⟨b1, 0, none⟩)), (4, .pointer (some ⟨b2, 0, none⟩))] [bx b1 23 [vb false, vs []], bx b2 23 [vb s1.2, vs []]] [] a w) ?_ ?_
  · have hm2 := hm
    replace hm := hx
    obtain ⟨s2, hx, hm⟩ := bnd hm
    refine seq_j (fun a w => SS A [] w0 23 [(0, vs y0), (2, .pointer (some ⟨b1, 0, none⟩)), (4, .pointer (some ⟨b2, 0, none⟩)), (12, vb s2)] [bx b1 23 [vb false, vs []], bx b2 23 [vb false, vs []]] [] a w) ?_ ?_
    · replace hm := hx
      refine reg ?_
      refine pr 4 [(8, vb (decide (0 < (len y0))))] h fun a h => ?_
      rcases Bool.eq_false_or_eq_true (decide (0 < (len y0))) with hb1 | hb1
      · have h := h.upd (t := 8) (vb true) rfl (congrArg Value.bool hb1)
        replace hm := ifT hb1 hm
        refine pr 1 [(9, vs y0)] h fun a h => ?_
        obtain ⟨x1, h1, hm⟩ := bnd hm
        refine sl (b_val h (r_sidx h.s rfl rfl Try.underlying9 h1) fun a h => ?_)
        refine pr 2 [(12, vb (x1 == 126))] h fun a h => ?_
        refine ops_end ?_
        obtain rfl := Option.some.inj hm
        exact then_n (h.to 2 trivial)
      · have h := h.upd (t := 8) (vb false) rfl (congrArg Value.bool hb1)
        replace hm := ifF hb1 hm
        refine pr 4 [(12, vb false)] h fun a h => ?_
        refine ops_end ?_
        obtain rfl := Option.some.inj hm
        exact then_n (h.to 2 trivial)
    intro a w hJ
    have h := hJ
    refine cb h rfl (fun hb2 => ?_) (fun hb2 => ?_)
    · replace hm := ifT hb2 hm
      refine sr ?_
      refine pr 1 [(13, .pointer (some ⟨b2, 0, none⟩))] h fun a h => ?_
      refine sl (b_store_own 1 h rfl rfl rfl fun a w h e => ?_)
      refine oe ?_
      refine reg ?_
      refine pr 1 [(14, vs y0)] h fun a h => ?_
      obtain ⟨x2, h2, hm⟩ := bnd hm
      refine sl (b_val h (r_ssub h.s rfl Try.underlying9 rfl rfl (.inr ⟨_, rfl⟩) (.inl ⟨rfl, rfl⟩) h2) fun a h => ?_)
      refine pr 1 [(0, vs x2)] h fun a h => ?_
      refine ops_end ?_
      obtain rfl := Option.some.inj hm
      exact then_n (h.to 2 trivial)
    replace hm := ifF hb2 hm
    refine wp_skip ?_
    obtain rfl := Option.some.inj hm
    exact then_n (h.to 2 trivial)
  intro a w hJ
  have h := hJ
  refine sr ?_
  refine pr 2 [(17, .pointer (some ⟨b2, 1, none⟩)), (16, vs s1.1)] h fun a h => ?_
  refine sl (b_store_own 1 h rfl rfl rfl fun a w h e => ?_)
  refine oe ?_
  refine wp_seq ?_
  refine sr ?_
  refine sl (b_load_own 1 (.agg #[vb s1.2, vs s1.1]) h rfl rfl fun a h => ?_)
  obtain ⟨r1, h3, hm⟩ := bnd hm
  refine sl (b_call [] [] h Try.call14 rfl rfl (c_literal_Valid (y0 := (s1.2, s1.1)) (h.po [] []) trivial h3) fun v a w hp hc => ?_)
  obtain ⟨rfl, q⟩ := hp
  have h := hc.on q [bx b1 23 [vb false, vs []], bx b2 23 [vb s1.2, vs s1.1]]
  refine pr 1 [(20, vb (!r1))] h fun a h => ?_
  refine oe ?_
  refine cb h rfl (fun hb3 => ?_) (fun hb3 => ?_)
  · replace hm := ifT hb3 hm
    refine sr ?_
    refine pr 1 [(21, .agg #[vb false, vs []])] h fun a h => ?_
    refine sl (b_store_own 0 h rfl rfl rfl fun a w h e => ?_)
    refine pr 1 [(3, vi 3)] h fun a h => ?_
    refine oe ?_
    refine wp_ret ?_
    refine then_r ?_
    obtain rfl := Option.some.inj hm
    exact rtg h rfl (vs := [.agg #[vb false, vs []], vi 3]) (rtc 0 h rfl rfl (resT rfl resN)) ⟨rfl, bk_sel h [] trivial⟩
  replace hm := ifF hb3 hm
  refine wp_skip ?_
  refine then_n ?_
  refine sr ?_
  refine sl (b_load_own 1 (.agg #[vb s1.2, vs s1.1]) h rfl rfl fun a h => ?_)
  refine sl (b_store_own 0 h rfl rfl rfl fun a w h e => ?_)
  refine pr 1 [(3, vi 0)] h fun a h => ?_
  refine oe ?_
  refine wp_ret ?_
  obtain rfl := Option.some.inj hm
  exact rtg h rfl (vs := [.agg #[vb s1.2, vs s1.1], vi 0]) (rtc 0 h rfl rfl (resT rfl resN)) ⟨rfl, bk_sel h [] trivial⟩

theorem c_law01_awake {A : List Nat} {w0 : World} {r : Bool} (hO : Own A w0 []) (hF : All [] (bl [] ++ A) w0) (hm : m_law01_awake = some r) :
    Calls Try.prog 20 [].toArray w0 (Ret fun v w => v = vb r ∧ Bk A [] w0 [] [] w) := by
  unfold m_law01_awake at hm
  refine ent Try.func20 rfl hO hF fun a h => ?_
  refine sp [] h fun a h => ?_
  refine sr ?_
  refine pr 3 [(9, .agg #[vb false, vs [113]]), (8, .agg #[vb true, vs [112]]), (7, .agg #[vb false, vs [112]])] h fun a h => ?_
  refine sl (b_alloc h rfl fun b1 a w h e => ?_)
  refine sl (b_alloc h rfl fun b2 a w h e => ?_)
  refine sl (b_alloc h rfl fun b3 a w h e => ?_)
  refine sl (b_store_own 0 h rfl rfl rfl fun a w h e => ?_)
  refine sl (b_store_own 1 h rfl rfl rfl fun a w h e => ?_)
  refine sl (b_store_own 2 h rfl rfl rfl fun a w h e => ?_)
  refine oe ?_
  refine sr ?_
  obtain ⟨r1, h1, hm⟩ := bnd hm
  refine sl (b_call [] [] h Try.call18 rfl rfl (c_literal_Parse (y0 := [126, 126, 112]) (h.po [] []) trivial h1) fun v a w hp hc => ?_)
  obtain ⟨rfl, q⟩ := hp
  have h := hc.on q [bx b1 23 [vb false, vs [112]], bx b2 23 [vb true, vs [112]], bx b3 23 [vb false, vs [113]]]
  refine pr 3 [(13, vi r1.2), (12, .agg #[vb r1.1.1, vs r1.1.2])] h fun a h => ?_
  refine sl (b_alloc h rfl fun b4 a w h e => ?_)
  refine sl (b_store_own 3 h rfl rfl rfl fun a w h e => ?_)
  refine pr 1 [(5, vi r1.2)] h fun a h => ?_
  refine oe ?_
  refine sr ?_
  refine sl (b_load_own 2 (.agg #[vb false, vs [113]]) h rfl rfl fun a h => ?_)
  refine sl (b_load_own 1 (.agg #[vb true, vs [112]]) h rfl rfl fun a h => ?_)
  refine sl (b_load_own 2 (.agg #[vb false, vs [113]]) h rfl rfl fun a h => ?_)
  refine sl (b_bs_rd (te := 23) (e := e_Literal) [vb false, vs [113], vb true, vs [112], vb false, vs [113]] ([(false, [113]), (true, [112]), (false, [113])] : List T_Literal) h ⟨_, _, rfl, eProd.mk eBool.mk eStr.mk, ⟨_, _, rfl, eProd.mk eBool.mk eStr.mk, ⟨_, _, rfl, eProd.mk eBool.mk eStr.mk, rfl⟩⟩⟩ fun p1 c1 a w h e => ?_)
  obtain ⟨r2, h2, hm⟩ := bnd hm
  refine sl (b_call [] [] h Try.call28 rfl rfl (c_literal_Normal (y0 := ([(false, [113]), (true, [112]), (false, [113])] : List T_Literal)) (h.po [] []) ⟨(h.pf [] [] 0), trivial⟩ h2) fun v a w hp hc => ?_)
  obtain ⟨p2, c2, rfl, q⟩ := hp
  have h := hc.on q [bx b1 23 [vb false, vs [112]], bx b2 23 [vb true, vs [112]], bx b3 23 [vb false, vs [113]], bx b4 23 [vb r1.1.1, vs r1.1.2]]
  refine pr 1 [(6, .slice p2 (List.length r2) c2)] h fun a h => ?_
  refine oe ?_
  obtain ⟨s1, hx, hm⟩ := bnd hm
  refine seq_j (fun a w => SS A [] w0 58 [(0, vb s1)] [[], [], [], []] [] a w) ?_ ?_
  · replace hm := hx
    refine ds' [] [0, 1, 2] h fun w h => ?_
    refine dlo 0 1 (.agg #[vb true, vs [112]]) h rfl rfl rfl fun a h => ?_
    refine d1 1 rfl ?_
    obtain ⟨r3, h3, hm⟩ := bnd hm
    refine b_call [] [] h Try.call16 rfl rfl (c_literal_Format (y0 := (true, [112])) (h.po [] []) trivial h3) fun v a w hp hc => ?_
    obtain ⟨rfl, q⟩ := hp
    have e := hc.st q [bx b1 23 [vb false, vs [112]], bx b2 23 [vb true, vs [112]], bx b3 23 [vb false, vs [113]], bx b4 23 [vb r1.1.1, vs r1.1.2]]
    have h := hc.on q [bx b1 23 [vb false, vs [112]], bx b2 23 [vb true, vs [112]], bx b3 23 [vb false, vs [113]], bx b4 23 [vb r1.1.1, vs r1.1.2]]
    refine dn h e ?_
    refine dp 2 (vb (r3 == [126, 112])) h rfl fun a h => ?_
    refine dp 3 (vb (r3 == [126, 112])) h rfl fun a h => ?_
    rcases Bool.eq_false_or_eq_true (r3 == [126, 112]) with hb1 | hb1
    · have h := h.upd (t := 22) (vb true) rfl (congrArg Value.bool hb1)
      replace hm := ifT hb1 hm
      refine dp 4 (vi r1.2) h rfl fun a h => ?_
      refine dp 5 (vb (r1.2 == 3)) h rfl fun a h => ?_
      refine dp 6 (vb (r1.2 == 3)) h rfl fun a h => ?_
      refine dp 7 (vb (r1.2 == 3)) h rfl fun a h => ?_
      rcases Bool.eq_false_or_eq_true (r1.2 == 3) with hb2 | hb2
      · have h := h.upd (t := 26) (vb true) rfl (congrArg Value.bool hb2)
        replace hm := ifT hb2 hm
        refine dlo 8 0 (.agg #[vb false, vs [112]]) h rfl rfl rfl fun a h => ?_
        refine dlo 9 1 (.agg #[vb true, vs [112]]) h rfl rfl rfl fun a h => ?_
        refine d1 10 rfl ?_
        obtain ⟨r4, h4, hm⟩ := bnd hm
        refine b_call [] [] h Try.call23 rfl rfl (c_literal_Compare (y0 := (false, [112])) (y1 := (true, [112])) (h.po [] []) trivial h4) fun v a w hp hc => ?_
        obtain ⟨rfl, q⟩ := hp
        have e := hc.st q [bx b1 23 [vb false, vs [112]], bx b2 23 [vb true, vs [112]], bx b3 23 [vb false, vs [113]], bx b4 23 [vb r1.1.1, vs r1.1.2]]
        have h := hc.on q [bx b1 23 [vb false, vs [112]], bx b2 23 [vb true, vs [112]], bx b3 23 [vb false, vs [113]], bx b4 23 [vb r1.1.1, vs r1.1.2]]
        refine dn h e ?_
        refine dp 11 (vb (r4 == (-1))) h rfl fun a h => ?_
        refine dp 12 (vb (r4 == (-1))) h rfl fun a h => ?_
        refine dp 13 (vb (r4 == (-1))) h rfl fun a h => ?_
        rcases Bool.eq_false_or_eq_true (r4 == (-1)) with hb3 | hb3
        · have h := h.upd (t := 32) (vb true) rfl (congrArg Value.bool hb3)
          replace hm := ifT hb3 hm
          refine dlo 14 1 (.agg #[vb true, vs [112]]) h rfl rfl rfl fun a h => ?_
          refine dlo 15 2 (.agg #[vb false, vs [113]]) h rfl rfl rfl fun a h => ?_
          refine d1 16 rfl ?_
          obtain ⟨r5, h5, hm⟩ := bnd hm
          refine b_call [] [] h Try.call23 rfl rfl (c_literal_Compare (y0 := (true, [112])) (y1 := (false, [113])) (h.po [] []) trivial h5) fun v a w hp hc => ?_
          obtain ⟨rfl, q⟩ := hp
          have e := hc.st q [bx b1 23 [vb false, vs [112]], bx b2 23 [vb true, vs [112]], bx b3 23 [vb false, vs [113]], bx b4 23 [vb r1.1.1, vs r1.1.2]]
          have h := hc.on q [bx b1 23 [vb false, vs [112]], bx b2 23 [vb true, vs [112]], bx b3 23 [vb false, vs [113]], bx b4 23 [vb r1.1.1, vs r1.1.2]]
          refine dn h e ?_
          refine dp 17 (vb (r5 == (-1))) h rfl fun a h => ?_
          refine dp 18 (vb (r5 == (-1))) h rfl fun a h => ?_
          refine dp 19 (vb (r5 == (-1))) h rfl fun a h => ?_
          rcases Bool.eq_false_or_eq_true (r5 == (-1)) with hb4 | hb4
          · have h := h.upd (t := 38) (vb true) rfl (congrArg Value.bool hb4)
            replace hm := ifT hb4 hm
            refine dp 20 (.slice p2 (List.length r2) c2) h rfl fun a h => ?_
            refine dp 21 (vi (len r2)) h rfl fun a h => ?_
            refine dp 22 (vb ((len r2) == 2)) h rfl fun a h => ?_
            refine dp 23 (vb ((len r2) == 2)) h rfl fun a h => ?_
            refine dp 24 (vb ((len r2) == 2)) h rfl fun a h => ?_
            rcases Bool.eq_false_or_eq_true ((len r2) == 2) with hb5 | hb5
            · have h := h.upd (t := 43) (vb true) rfl (congrArg Value.bool hb5)
              replace hm := ifT hb5 hm
              refine dp 25 (.slice p2 (List.length r2) c2) h rfl fun a h => ?_
              obtain ⟨x1, h6, hm⟩ := bnd hm
              refine dir 26 h rfl (h.g 0) rfl rfl h6 fun b5 o1 a h => ?_
              refine dlp 27 true h rfl (h.g 0) rfl fun ci1 hc1 v1 hv1 a h => ?_
              replace hc1 : E.rd e_Literal _ _ ci1 x1 := hc1
              obtain ⟨_, _, rfl, rfl, rfl⟩ := hc1
              obtain rfl := Option.some.inj hv1
              have h := h.upd (t := 46) (.agg #[vb x1.1, vs x1.2]) rfl rfl
              refine dlo 28 1 (.agg #[vb true, vs [112]]) h rfl rfl rfl fun a h => ?_
              refine dp 29 (vb (x1 == (true, [112]))) h rfl fun a h => ?_
              refine dp 30 (vb (x1 == (true, [112]))) h rfl fun a h => ?_
              refine dp 31 (vb (x1 == (true, [112]))) h rfl fun a h => ?_
              rcases Bool.eq_false_or_eq_true (x1 == (true, [112])) with hb6 | hb6
              · have h := h.upd (t := 50) (vb true) rfl (congrArg Value.bool hb6)
                replace hm := ifT hb6 hm
                refine dlo 32 0 (.agg #[vb false, vs [112]]) h rfl rfl rfl fun a h => ?_
                refine dlo 33 2 (.agg #[vb false, vs [113]]) h rfl rfl rfl fun a h => ?_
                refine dlo 34 1 (.agg #[vb true, vs [112]]) h rfl rfl rfl fun a h => ?_
                refine d1 35 rfl ?_
                refine b_bs_rd (te := 23) (e := e_Literal) [vb false, vs [112], vb false, vs [113], vb true, vs [112]] ([(false, [112]), (false, [113]), (true, [112])] : List T_Literal) h ⟨_, _, rfl, eProd.mk eBool.mk eStr.mk, ⟨_, _, rfl, eProd.mk eBool.mk eStr.mk, ⟨_, _, rfl, eProd.mk eBool.mk eStr.mk, rfl⟩⟩⟩ fun p3 c3 a w h e => ?_
                refine dn h e ?_
                refine d1 36 rfl ?_
                obtain ⟨r6, h7, hm⟩ := bnd hm
                refine b_call [] [] h Try.call31 rfl rfl (c_literal_Consistent (y0 := ([(false, [112]), (false, [113]), (true, [112])] : List T_Literal)) (h.po [] []) ⟨(h.pf [] [] 0), trivial⟩ h7) fun v a w hp hc => ?_
                obtain ⟨rfl, q⟩ := hp
                have e := hc.st q [bx b1 23 [vb false, vs [112]], bx b2 23 [vb true, vs [112]], bx b3 23 [vb false, vs [113]], bx b4 23 [vb r1.1.1, vs r1.1.2]]
                have h := hc.on q [bx b1 23 [vb false, vs [112]], bx b2 23 [vb true, vs [112]], bx b3 23 [vb false, vs [113]], bx b4 23 [vb r1.1.1, vs r1.1.2]]
                refine dn h e ?_
                refine dp 37 (vb (!r6)) h rfl fun a h => ?_
                refine dp 38 (vb (!r6)) h rfl fun a h => ?_
                refine dp 39 (vb (!r6)) h rfl fun a h => ?_
                refine de ?_
                obtain rfl := Option.some.inj hm
                exact then_n (h.tos [900, 901, 902, 903] trivial)
              · have h := h.upd (t := 50) (vb false) rfl (congrArg Value.bool hb6)
                replace hm := ifF hb6 hm
                refine dk 32 h rfl fun a h => ?_
                refine dk 33 h rfl fun a h => ?_
                refine dk 34 h rfl fun a h => ?_
                refine dk 35 h rfl fun a h => ?_
                refine dk 36 h rfl fun a h => ?_
                refine dk 37 h rfl fun a h => ?_
                refine dp 38 (vb false) h rfl fun a h => ?_
                refine dp 39 (vb false) h rfl fun a h => ?_
                refine de ?_
                obtain rfl := Option.some.inj hm
                exact then_n (h.tos [900, 901, 902, 903] trivial)
            · have h := h.upd (t := 43) (vb false) rfl (congrArg Value.bool hb5)
              replace hm := ifF hb5 hm
              refine dk 25 h rfl fun a h => ?_
              refine dk 26 h rfl fun a h => ?_
              refine dk 27 h rfl fun a h => ?_
              refine dk 28 h rfl fun a h => ?_
              refine dk 29 h rfl fun a h => ?_
              refine dp 30 (vb false) h rfl fun a h => ?_
              refine dp 31 (vb false) h rfl fun a h => ?_
              refine dk 32 h rfl fun a h => ?_
              refine dk 33 h rfl fun a h => ?_
              refine dk 34 h rfl fun a h => ?_
              refine dk 35 h rfl fun a h => ?_
              refine dk 36 h rfl fun a h => ?_
              refine dk 37 h rfl fun a h => ?_
              refine dp 38 (vb false) h rfl fun a h => ?_
              refine dp 39 (vb false) h rfl fun a h => ?_
              refine de ?_
              obtain rfl := Option.some.inj hm
              exact then_n (h.tos [900, 901, 902, 903] trivial)
          · have h := h.upd (t := 38) (vb false) rfl (congrArg Value.bool hb4)
            replace hm := ifF hb4 hm
            refine dk 20 h rfl fun a h => ?_
            refine dk 21 h rfl fun a h => ?_
            refine dk 22 h rfl fun a h => ?_
            refine dp 23 (vb false) h rfl fun a h => ?_
            refine dp 24 (vb false) h rfl fun a h => ?_
            refine dk 25 h rfl fun a h => ?_
            refine dk 26 h rfl fun a h => ?_
            refine dk 27 h rfl fun a h => ?_
            refine dk 28 h rfl fun a h => ?_
            refine dk 29 h rfl fun a h => ?_
            refine dp 30 (vb false) h rfl fun a h => ?_
            refine dp 31 (vb false) h rfl fun a h => ?_
            refine dk 32 h rfl fun a h => ?_
            refine dk 33 h rfl fun a h => ?_
            refine dk 34 h rfl fun a h => ?_
            refine dk 35 h rfl fun a h => ?_
            refine dk 36 h rfl fun a h => ?_
            refine dk 37 h rfl fun a h => ?_
            refine dp 38 (vb false) h rfl fun a h => ?_
            refine dp 39 (vb false) h rfl fun a h => ?_
            refine de ?_
            obtain rfl := Option.some.inj hm
            exact then_n (h.tos [900, 901, 902, 903] trivial)
        · have h := h.upd (t := 32) (vb false) rfl (congrArg Value.bool hb3)
          replace hm := ifF hb3 hm
          refine dk 14 h rfl fun a h => ?_
          refine dk 15 h rfl fun a h => ?_
          refine dk 16 h rfl fun a h => ?_
          refine dk 17 h rfl fun a h => ?_
          refine dp 18 (vb false) h rfl fun a h => ?_
          refine dp 19 (vb false) h rfl fun a h => ?_
          refine dk 20 h rfl fun a h => ?_
          refine dk 21 h rfl fun a h => ?_
          refine dk 22 h rfl fun a h => ?_
          refine dp 23 (vb false) h rfl fun a h => ?_
          refine dp 24 (vb false) h rfl fun a h => ?_
          refine dk 25 h rfl fun a h => ?_
          refine dk 26 h rfl fun a h => ?_
          refine dk 27 h rfl fun a h => ?_
          refine dk 28 h rfl fun a h => ?_
          refine dk 29 h rfl fun a h => ?_
          refine dp 30 (vb false) h rfl fun a h => ?_
          refine dp 31 (vb false) h rfl fun a h => ?_
          refine dk 32 h rfl fun a h => ?_
          refine dk 33 h rfl fun a h => ?_
          refine dk 34 h rfl fun a h => ?_
          refine dk 35 h rfl fun a h => ?_
          refine dk 36 h rfl fun a h => ?_
          refine dk 37 h rfl fun a h => ?_
          refine dp 38 (vb false) h rfl fun a h => ?_
          refine dp 39 (vb false) h rfl fun a h => ?_
          refine de ?_
          obtain rfl := Option.some.inj hm
          exact then_n (h.tos [900, 901, 902, 903] trivial)
      · have h := h.upd (t := 26) (vb false) rfl (congrArg Value.bool hb2)
        replace hm := ifF hb2 hm
        refine dk 8 h rfl fun a h => ?_
        refine dk 9 h rfl fun a h => ?_
        refine dk 10 h rfl fun a h => ?_
        refine dk 11 h rfl fun a h => ?_
        refine dp 12 (vb false) h rfl fun a h => ?_
        refine dp 13 (vb false) h rfl fun a h => ?_
        refine dk 14 h rfl fun a h => ?_
        refine dk 15 h rfl fun a h => ?_
        refine dk 16 h rfl fun a h => ?_
        refine dk 17 h rfl fun a h => ?_
        refine dp 18 (vb false) h rfl fun a h => ?_
        refine dp 19 (vb false) h rfl fun a h => ?_
        refine dk 20 h rfl fun a h => ?_
        refine dk 21 h rfl fun a h => ?_
        refine dk 22 h rfl fun a h => ?_
        refine dp 23 (vb false) h rfl fun a h => ?_
        refine dp 24 (vb false) h rfl fun a h => ?_
        refine dk 25 h rfl fun a h => ?_
        refine dk 26 h rfl fun a h => ?_
        refine dk 27 h rfl fun a h => ?_
        refine dk 28 h rfl fun a h => ?_
        refine dk 29 h rfl fun a h => ?_
        refine dp 30 (vb false) h rfl fun a h => ?_
        refine dp 31 (vb false) h rfl fun a h => ?_
        refine dk 32 h rfl fun a h => ?_
        refine dk 33 h rfl fun a h => ?_
        refine dk 34 h rfl fun a h => ?_
        refine dk 35 h rfl fun a h => ?_
        refine dk 36 h rfl fun a h => ?_
        refine dk 37 h rfl fun a h => ?_
        refine dp 38 (vb false) h rfl fun a h => ?_
        refine dp 39 (vb false) h rfl fun a h => ?_
        refine de ?_
        obtain rfl := Option.some.inj hm
        exact then_n (h.tos [900, 901, 902, 903] trivial)
    · have h := h.upd (t := 22) (vb false) rfl (congrArg Value.bool hb1)
      replace hm := ifF hb1 hm
      refine dk 4 h rfl fun a h => ?_
      refine dk 5 h rfl fun a h => ?_
      refine dp 6 (vb false) h rfl fun a h => ?_
      refine dp 7 (vb false) h rfl fun a h => ?_
      refine dk 8 h rfl fun a h => ?_
      refine dk 9 h rfl fun a h => ?_
      refine dk 10 h rfl fun a h => ?_
      refine dk 11 h rfl fun a h => ?_
      refine dp 12 (vb false) h rfl fun a h => ?_
      refine dp 13 (vb false) h rfl fun a h => ?_
      refine dk 14 h rfl fun a h => ?_
      refine dk 15 h rfl fun a h => ?_
      refine dk 16 h rfl fun a h => ?_
      refine dk 17 h rfl fun a h => ?_
      refine dp 18 (vb false) h rfl fun a h => ?_
      refine dp 19 (vb false) h rfl fun a h => ?_
      refine dk 20 h rfl fun a h => ?_
      refine dk 21 h rfl fun a h => ?_
      refine dk 22 h rfl fun a h => ?_
      refine dp 23 (vb false) h rfl fun a h => ?_
      refine dp 24 (vb false) h rfl fun a h => ?_
      refine dk 25 h rfl fun a h => ?_
      refine dk 26 h rfl fun a h => ?_
      refine dk 27 h rfl fun a h => ?_
      refine dk 28 h rfl fun a h => ?_
      refine dk 29 h rfl fun a h => ?_
      refine dp 30 (vb false) h rfl fun a h => ?_
      refine dp 31 (vb false) h rfl fun a h => ?_
      refine dk 32 h rfl fun a h => ?_
      refine dk 33 h rfl fun a h => ?_
      refine dk 34 h rfl fun a h => ?_
      refine dk 35 h rfl fun a h => ?_
      refine dk 36 h rfl fun a h => ?_
      refine dk 37 h rfl fun a h => ?_
      refine dp 38 (vb false) h rfl fun a h => ?_
      refine dp 39 (vb false) h rfl fun a h => ?_
      refine de ?_
      obtain rfl := Option.some.inj hm
      exact then_n (h.tos [900, 901, 902, 903] trivial)
  intro a w hJ
  have h := hJ
  refine wp_ret ?_
  obtain rfl := Option.some.inj hm
  exact rt1 h rfl rfl ⟨rfl, bk_sel h [] trivial⟩

theorem c_ref01_ValidName {A : List Nat} {w0 : World} {y0 : Str} {r : Bool} (hO : Own A w0 []) (hF : All [] (bl [] ++ A) w0) (hm : m_ref01_ValidName y0 = some r) :
    Calls Try.prog 13 [vs y0].toArray w0 (Ret fun v w => v = vb r ∧ Bk A [] w0 [] [] w) := by
  unfold m_ref01_ValidName at hm
  refine ent Try.func13 rfl hO hF fun a h => ?_
  refine sp [] h fun a h => ?_
  refine wp_seq ?_
  obtain ⟨s1, hx, hm⟩ := bnd hm
  refine seq_j (fun a w => SS A [] w0 56 [(0, vs y0), (21, vb s1)] [] [] a w) ?_ ?_
  · replace hm := hx
    refine reg ?_
    refine pr 4 [(7, vb (decide ((len y0) < 1)))] h fun a h => ?_
    rcases Bool.eq_false_or_eq_true (decide ((len y0) < 1)) with hb1 | hb1
    · have h := h.upd (t := 7) (vb true) rfl (congrArg Value.bool hb1)
      replace hm := ifT hb1 hm
      refine pr 14 [(21, vb true)] h fun a h => ?_
      refine ops_end ?_
      obtain rfl := Option.some.inj hm
      exact then_n (h.to 0 trivial)
    · have h := h.upd (t := 7) (vb false) rfl (congrArg Value.bool hb1)
      replace hm := ifF hb1 hm
      refine pr 5 [(12, vb (decide (12 < (len y0))))] h fun a h => ?_
      rcases Bool.eq_false_or_eq_true (decide (12 < (len y0))) with hb2 | hb2
      · have h := h.upd (t := 12) (vb true) rfl (congrArg Value.bool hb2)
        replace hm := ifT hb2 hm
        refine pr 9 [(21, vb true)] h fun a h => ?_
        refine ops_end ?_
        obtain rfl := Option.some.inj hm
        exact then_n (h.to 0 trivial)
      · have h := h.upd (t := 12) (vb false) rfl (congrArg Value.bool hb2)
        replace hm := ifF hb2 hm
        refine pr 1 [(13, vs y0)] h fun a h => ?_
        obtain ⟨x1, h1, hm⟩ := bnd hm
        refine sl (b_val h (r_sidx h.s rfl rfl Try.underlying9 h1) fun a h => ?_)
        refine pr 3 [(17, vb (decide (x1 < 97)))] h fun a h => ?_
        rcases Bool.eq_false_or_eq_true (decide (x1 < 97)) with hb3 | hb3
        · have h := h.upd (t := 17) (vb true) rfl (congrArg Value.bool hb3)
          replace hm := ifT hb3 hm
          refine pr 4 [(21, vb true)] h fun a h => ?_
          refine ops_end ?_
          obtain rfl := Option.some.inj hm
          exact then_n (h.to 0 trivial)
        · have h := h.upd (t := 17) (vb false) rfl (congrArg Value.bool hb3)
          replace hm := ifF hb3 hm
          refine pr 1 [(18, vs y0)] h fun a h => ?_
          obtain ⟨x2, h2, hm⟩ := bnd hm
          refine sl (b_val h (r_sidx h.s rfl rfl Try.underlying9 h2) fun a h => ?_)
          refine pr 2 [(21, vb (decide (122 < x2)))] h fun a h => ?_
          refine ops_end ?_
          obtain rfl := Option.some.inj hm
          exact then_n (h.to 0 trivial)
  intro a w hJ
  have h := hJ
  refine cb h rfl (fun hb4 => ?_) (fun hb4 => ?_)
  · replace hm := ifT hb4 hm
    refine sp [(2, vb false)] h fun a h => ?_
    refine wp_ret ?_
    refine then_r ?_
    obtain rfl := Option.some.inj hm
    exact rt1 h rfl rfl ⟨rfl, bk_sel h [] trivial⟩
  replace hm := ifF hb4 hm
  refine wp_skip ?_
  refine then_n ?_
  refine wp_seq ?_
  refine sp [(3, vi 0)] h fun a h => ?_
  refine wp_block ?_
  refine loop_m (B := (m_ref01_ValidName_L1 y0)) (fun (s2 : Int) a w => SS A [] w0 56 [(0, vs y0), (3, vi s2)] [] [] a w) hm (h.to 0 trivial) ?_
  intro s2 a w o1 hJ hm hr1
  have h := hJ
  unfold m_ref01_ValidName_L1 at hm
  refine wp_seq ?_
  refine sp [(25, vb (decide (s2 < (len y0))))] h fun a h => ?_
  refine cb h rfl (fun hb5 => ?_) (fun hb5 => ?_)
  · replace hm := ifT hb5 hm
    refine wp_skip ?_
    refine then_n ?_
    refine wp_seq ?_
    refine wp_block ?_
    obtain ⟨s3, hx, hm⟩ := bnd hm
    refine seq_j (fun a w => SS A [] w0 56 [(0, vs y0), (3, vi s2), (55, vb s3)] [] [] a w) ?_ ?_
    · replace hm := hx
      refine reg ?_
      refine pr 2 [(29, vi s2), (28, vs y0)] h fun a h => ?_
      obtain ⟨x3, h3, hm⟩ := bnd hm
      refine sl (b_val h (r_sidx h.s rfl rfl Try.underlying9 h3) fun a h => ?_)
      refine pr 2 [(32, vb (decide (x3 < 97)))] h fun a h => ?_
      rcases Bool.eq_false_or_eq_true (decide (x3 < 97)) with hb6 | hb6
      · have h := h.upd (t := 32) (vb true) rfl (congrArg Value.bool hb6)
        replace hm := ifT hb6 hm
        refine pr 8 [(40, vi s2), (39, vs y0), (38, vb true)] h fun a h => ?_
        obtain ⟨x4, h4, hm⟩ := bnd hm
        refine sl (b_val h (r_sidx h.s rfl rfl Try.underlying9 h4) fun a h => ?_)
        refine pr 2 [(43, vb (decide (x4 < 48)))] h fun a h => ?_
        rcases Bool.eq_false_or_eq_true (decide (x4 < 48)) with hb7 | hb7
        · have h := h.upd (t := 43) (vb true) rfl (congrArg Value.bool hb7)
          replace hm := ifT hb7 hm
          refine pr 9 [(52, vi s2), (51, vs y0), (50, vb true)] h fun a h => ?_
          obtain ⟨x5, h5, hm⟩ := bnd hm
          refine sl (b_val h (r_sidx h.s rfl rfl Try.underlying9 h5) fun a h => ?_)
          refine pr 2 [(55, vb (x5 != 95))] h fun a h => ?_
          refine ops_end ?_
          obtain rfl := Option.some.inj hm
          exact then_n (h.to 0 trivial)
        · have h := h.upd (t := 43) (vb false) rfl (congrArg Value.bool hb7)
          replace hm := ifF hb7 hm
          refine pr 2 [(45, vi s2), (44, vs y0)] h fun a h => ?_
          obtain ⟨x6, h6, hm⟩ := bnd hm
          refine sl (b_val h (r_sidx h.s rfl rfl Try.underlying9 h6) fun a h => ?_)
          refine pr 4 [(50, vb (decide (57 < x6)))] h fun a h => ?_
          rcases Bool.eq_false_or_eq_true (decide (57 < x6)) with hb8 | hb8
          · have h := h.upd (t := 50) (vb true) rfl (congrArg Value.bool hb8)
            replace hm := ifT hb8 hm
            refine pr 2 [(52, vi s2), (51, vs y0)] h fun a h => ?_
            obtain ⟨x7, h7, hm⟩ := bnd hm
            refine sl (b_val h (r_sidx h.s rfl rfl Try.underlying9 h7) fun a h => ?_)
            refine pr 2 [(55, vb (x7 != 95))] h fun a h => ?_
            refine ops_end ?_
            obtain rfl := Option.some.inj hm
            exact then_n (h.to 0 trivial)
          · have h := h.upd (t := 50) (vb false) rfl (congrArg Value.bool hb8)
            replace hm := ifF hb8 hm
            refine pr 5 [(55, vb false)] h fun a h => ?_
            refine ops_end ?_
            obtain rfl := Option.some.inj hm
            exact then_n (h.to 0 trivial)
      · have h := h.upd (t := 32) (vb false) rfl (congrArg Value.bool hb6)
        replace hm := ifF hb6 hm
        refine pr 2 [(34, vi s2), (33, vs y0)] h fun a h => ?_
        obtain ⟨x8, h8, hm⟩ := bnd hm
        refine sl (b_val h (r_sidx h.s rfl rfl Try.underlying9 h8) fun a h => ?_)
        refine pr 3 [(38, vb (decide (122 < x8)))] h fun a h => ?_
        rcases Bool.eq_false_or_eq_true (decide (122 < x8)) with hb9 | hb9
        · have h := h.upd (t := 38) (vb true) rfl (congrArg Value.bool hb9)
          replace hm := ifT hb9 hm
          refine pr 2 [(40, vi s2), (39, vs y0)] h fun a h => ?_
          obtain ⟨x9, h9, hm⟩ := bnd hm
          refine sl (b_val h (r_sidx h.s rfl rfl Try.underlying9 h9) fun a h => ?_)
          refine pr 2 [(43, vb (decide (x9 < 48)))] h fun a h => ?_
          rcases Bool.eq_false_or_eq_true (decide (x9 < 48)) with hb10 | hb10
          · have h := h.upd (t := 43) (vb true) rfl (congrArg Value.bool hb10)
            replace hm := ifT hb10 hm
            refine pr 9 [(52, vi s2), (51, vs y0), (50, vb true)] h fun a h => ?_
            obtain ⟨x10, h10, hm⟩ := bnd hm
            refine sl (b_val h (r_sidx h.s rfl rfl Try.underlying9 h10) fun a h => ?_)
            refine pr 2 [(55, vb (x10 != 95))] h fun a h => ?_
            refine ops_end ?_
            obtain rfl := Option.some.inj hm
            exact then_n (h.to 0 trivial)
          · have h := h.upd (t := 43) (vb false) rfl (congrArg Value.bool hb10)
            replace hm := ifF hb10 hm
            refine pr 2 [(45, vi s2), (44, vs y0)] h fun a h => ?_
            obtain ⟨x11, h11, hm⟩ := bnd hm
            refine sl (b_val h (r_sidx h.s rfl rfl Try.underlying9 h11) fun a h => ?_)
            refine pr 4 [(50, vb (decide (57 < x11)))] h fun a h => ?_
            rcases Bool.eq_false_or_eq_true (decide (57 < x11)) with hb11 | hb11
            · have h := h.upd (t := 50) (vb true) rfl (congrArg Value.bool hb11)
              replace hm := ifT hb11 hm
              refine pr 2 [(52, vi s2), (51, vs y0)] h fun a h => ?_
              obtain ⟨x12, h12, hm⟩ := bnd hm
              refine sl (b_val h (r_sidx h.s rfl rfl Try.underlying9 h12) fun a h => ?_)
              refine pr 2 [(55, vb (x12 != 95))] h fun a h => ?_
              refine ops_end ?_
              obtain rfl := Option.some.inj hm
              exact then_n (h.to 0 trivial)
            · have h := h.upd (t := 50) (vb false) rfl (congrArg Value.bool hb11)
              replace hm := ifF hb11 hm
              refine pr 5 [(55, vb false)] h fun a h => ?_
              refine ops_end ?_
              obtain rfl := Option.some.inj hm
              exact then_n (h.to 0 trivial)
        · have h := h.upd (t := 38) (vb false) rfl (congrArg Value.bool hb9)
          replace hm := ifF hb9 hm
          refine pr 17 [(55, vb false)] h fun a h => ?_
          refine ops_end ?_
          obtain rfl := Option.some.inj hm
          exact then_n (h.to 0 trivial)
    intro a w hJ
    have h := hJ
    refine cb h rfl (fun hb12 => ?_) (fun hb12 => ?_)
    · replace hm := ifT hb12 hm
      refine sp [(2, vb false)] h fun a h => ?_
      refine wp_ret ?_
      refine inb_r (then_r (lp_r (inb_r (then_r ?_))))
      replace hm := loopR hr1 hm
      obtain rfl := Option.some.inj hm
      exact rt1 h rfl rfl ⟨rfl, bk_sel h [] trivial⟩
    replace hm := ifF hb12 hm
    refine wp_skip ?_
    refine inb_n ?_
    refine then_n ?_
    refine reg ?_
    refine pr 3 [(3, vi (w64 (s2 + 1)))] h fun a h => ?_
    refine ops_end ?_
    obtain rfl := Option.some.inj hm
    exact lp_n rfl (h.to 0 trivial)
  replace hm := ifF hb5 hm
  refine wp_exit ?_
  refine then_e (lp_e (inb_hit ?_))
  replace hm := loopR hr1 hm
  refine then_n ?_
  refine sp [(2, vb true)] h fun a h => ?_
  refine wp_ret ?_
  obtain rfl := Option.some.inj hm
  exact rt1 h rfl rfl ⟨rfl, bk_sel h [] trivial⟩

theorem c_ref01_Valid {A : List Nat} {w0 : World} {y0 : T_Literal} {r : Bool} (hO : Own A w0 []) (hF : All [] (bl [] ++ A) w0) (hm : m_ref01_Valid y0 = some r) :
    Calls Try.prog 15 [.agg #[vb y0.1, vs y0.2]].toArray w0 (Ret fun v w => v = vb r ∧ Bk A [] w0 [] [] w) := by
  unfold m_ref01_Valid at hm
  refine ent Try.func15 rfl hO hF fun a h => ?_
  refine sr ?_
  refine sl (b_box h rfl fun b1 a w h e => ?_)
  refine pr 1 [] h fun a h => ?_
  refine oe ?_
  refine sr ?_
  refine pr 1 [(3, .pointer (some ⟨b1, 1, none⟩))] h fun a h => ?_
  refine sl (b_load_own 0 (vs y0.2) h rfl rfl fun a h => ?_)
  obtain ⟨r1, h1, hm⟩ := bnd hm
  refine sl (b_call [] [] h Try.call13 rfl rfl (c_ref01_ValidName (y0 := y0.2) (h.po [] []) trivial h1) fun v a w hp hc => ?_)
  obtain ⟨rfl, q⟩ := hp
  have h := hc.on q [bx b1 23 [vb y0.1, vs y0.2]]
  refine pr 1 [(2, vb r1)] h fun a h => ?_
  refine oe ?_
  refine wp_ret ?_
  obtain rfl := Option.some.inj hm
  exact rt1 h rfl rfl ⟨rfl, bk_sel h [] trivial⟩

theorem c_ref01_Format {A : List Nat} {w0 : World} {y0 : T_Literal} {r : Str} (hO : Own A w0 []) (hF : All [] (bl [] ++ A) w0) (hm : m_ref01_Format y0 = some r) :
    Calls Try.prog 17 [.agg #[vb y0.1, vs y0.2]].toArray w0 (Ret fun v w => v = vs r ∧ Bk A [] w0 [] [] w) := by
  unfold m_ref01_Format at hm
  refine ent Try.func17 rfl hO hF fun a h => ?_
  refine sr ?_
  refine sl (b_box h rfl fun b1 a w h e => ?_)
  refine pr 1 [] h fun a h => ?_
  refine oe ?_
  refine wp_seq ?_
  refine sr ?_
  refine sl (b_load_own 0 (.agg #[vb y0.1, vs y0.2]) h rfl rfl fun a h => ?_)
  obtain ⟨r1, h1, hm⟩ := bnd hm
  refine sl (b_call [] [] h Try.call15 rfl rfl (c_ref01_Valid (y0 := y0) (h.po [] []) trivial h1) fun v a w hp hc => ?_)
  obtain ⟨rfl, q⟩ := hp
  have h := hc.on q [bx b1 23 [vb y0.1, vs y0.2]]
  refine pr 1 [(5, vb (!r1))] h fun a h => ?_
  refine oe ?_
  refine cb h rfl (fun hb1 => ?_) (fun hb1 => ?_)
  · replace hm := ifT hb1 hm
    refine sp [(2, vs [])] h fun a h => ?_
    refine wp_ret ?_
    refine then_r ?_
    obtain rfl := Option.some.inj hm
    exact rt1 h rfl rfl ⟨rfl, bk_sel h [] trivial⟩
  replace hm := ifF hb1 hm
  refine wp_skip ?_
  refine then_n ?_
  refine wp_seq ?_
  refine sr ?_
  refine pr 1 [(6, .pointer (some ⟨b1, 0, none⟩))] h fun a h => ?_
  refine sl (b_load_own 0 (vb y0.1) h rfl rfl fun a h => ?_)
  refine oe ?_
  refine cb h rfl (fun hb2 => ?_) (fun hb2 => ?_)
  · replace hm := ifT hb2 hm
    refine sr ?_
    refine pr 1 [(8, .pointer (some ⟨b1, 1, none⟩))] h fun a h => ?_
    refine sl (b_load_own 0 (vs y0.2) h rfl rfl fun a h => ?_)
    obtain ⟨x1, h2, hm⟩ := bnd hm
    refine sl (b_val h (r_cat h.s rfl rfl h2) fun a h => ?_)
    refine pr 1 [(2, vs x1)] h fun a h => ?_
    refine oe ?_
    refine wp_ret ?_
    refine then_r ?_
    obtain rfl := Option.some.inj hm
    exact rt1 h rfl rfl ⟨rfl, bk_sel h [] trivial⟩
  replace hm := ifF hb2 hm
  refine wp_skip ?_
  refine then_n ?_
  refine sr ?_
  refine pr 1 [(11, .pointer (some ⟨b1, 1, none⟩))] h fun a h => ?_
  refine sl (b_load_own 0 (vs y0.2) h rfl rfl fun a h => ?_)
  refine pr 1 [(2, vs y0.2)] h fun a h => ?_
  refine oe ?_
  refine wp_ret ?_
  obtain rfl := Option.some.inj hm
  exact rt1 h rfl rfl ⟨rfl, bk_sel h [] trivial⟩

theorem c_ref01_Parse {A : List Nat} {w0 : World} {y0 : Str} {r : T_Literal × Int} (hO : Own A w0 []) (hF : All [] (bl [] ++ A) w0) (hm : m_ref01_Parse y0 = some r) :
    Calls Try.prog 19 [vs y0].toArray w0 (Ret fun v w => v = .tuple #[.agg #[vb r.1.1, vs r.1.2], vi r.2] ∧ Bk A [] w0 [] [] w) := by
  unfold m_ref01_Parse at hm
  refine ent Try.func19 rfl hO hF fun a h => ?_
  refine sr ?_
  refine sl (b_alloc h rfl fun b1 a w h e => ?_)
  refine pr 1 [] h fun a h => ?_
  refine oe ?_
  refine sr ?_
  refine pr 2 [(6, .agg #[vb false, vs y0])] h fun a h => ?_
  refine sl (b_alloc h rfl fun b2 a w h e => ?_)
  refine sl (b_store_own 1 h rfl rfl rfl fun a w h e => ?_)
  refine oe ?_
  obtain ⟨s1, hx, hm⟩ := bnd hm
  refine seq_j (fun a w => SS A [] w0 23 [(2, .pointer (some ⟨b1, 0, none⟩)), (4, .pointer (some ⟨b2, 0, none⟩))] [bx b1 23 [vb false, vs []], bx b2 23 [vb s1.1, vs s1.2]] [] a w) ?_ ?_
  · have hm2 := hm
    replace hm := hx
    obtain ⟨s2, hx, hm⟩ := bnd hm
    refine seq_j (fun a w => SS A [] w0 23 [(0, vs y0), (2, .pointer (some ⟨b1, 0, none⟩)), (4, .pointer (some ⟨b2, 0, none⟩)), (14, vb s2)] [bx b1 23 [vb false, vs []], bx b2 23 [vb false, vs y0]] [] a w) ?_ ?_
    · replace hm := hx
      refine reg ?_
      refine pr 4 [(10, vb (decide (0 < (len y0))))] h fun a h => ?_
      rcases Bool.eq_false_or_eq_true (decide (0 < (len y0))) with hb1 | hb1
      · have h := h.upd (t := 10) (vb true) rfl (congrArg Value.bool hb1)
        replace hm := ifT hb1 hm
        refine pr 1 [(11, vs y0)] h fun a h => ?_
        obtain ⟨x1, h1, hm⟩ := bnd hm
        refine sl (b_val h (r_sidx h.s rfl rfl Try.underlying9 h1) fun a h => ?_)
        refine pr 2 [(14, vb (x1 == 126))] h fun a h => ?_
        refine ops_end ?_
        obtain rfl := Option.some.inj hm
        exact then_n (h.to 2 trivial)
      · have h := h.upd (t := 10) (vb false) rfl (congrArg Value.bool hb1)
        replace hm := ifF hb1 hm
        refine pr 4 [(14, vb false)] h fun a h => ?_
        refine ops_end ?_
        obtain rfl := Option.some.inj hm
        exact then_n (h.to 2 trivial)
    intro a w hJ
    have h := hJ
    refine cb h rfl (fun hb2 => ?_) (fun hb2 => ?_)
    · replace hm := ifT hb2 hm
      refine reg ?_
      refine pr 1 [(15, vs y0)] h fun a h => ?_
      obtain ⟨x2, h2, hm⟩ := bnd hm
      refine sl (b_val h (r_ssub h.s rfl Try.underlying9 rfl rfl (.inr ⟨_, rfl⟩) (.inl ⟨rfl, rfl⟩) h2) fun a h => ?_)
      refine pr 1 [(17, .agg #[vb true, vs x2])] h fun a h => ?_
      refine sl (b_store_own 1 h rfl rfl rfl fun a w h e => ?_)
      refine ops_end ?_
      obtain rfl := Option.some.inj hm
      exact then_n (h.to 2 trivial)
    replace hm := ifF hb2 hm
    refine wp_skip ?_
    obtain rfl := Option.some.inj hm
    exact then_n (h.to 2 trivial)
  intro a w hJ
  have h := hJ
  refine wp_seq ?_
  refine sr ?_
  refine sl (b_load_own 1 (.agg #[vb s1.1, vs s1.2]) h rfl rfl fun a h => ?_)
  obtain ⟨r1, h3, hm⟩ := bnd hm
  refine sl (b_call [] [] h Try.call15 rfl rfl (c_ref01_Valid (y0 := (s1.1, s1.2)) (h.po [] []) trivial h3) fun v a w hp hc => ?_)
  obtain ⟨rfl, q⟩ := hp
  have h := hc.on q [bx b1 23 [vb false, vs []], bx b2 23 [vb s1.1, vs s1.2]]
  refine pr 1 [(20, vb (!r1))] h fun a h => ?_
  refine oe ?_
  refine cb h rfl (fun hb3 => ?_) (fun hb3 => ?_)
  · replace hm := ifT hb3 hm
    refine sr ?_
    refine pr 1 [(21, .agg #[vb false, vs []])] h fun a h => ?_
    refine sl (b_store_own 0 h rfl rfl rfl fun a w h e => ?_)
    refine pr 1 [(3, vi 3)] h fun a h => ?_
    refine oe ?_
    refine wp_ret ?_
    refine then_r ?_
    obtain rfl := Option.some.inj hm
    exact rtg h rfl (vs := [.agg #[vb false, vs []], vi 3]) (rtc 0 h rfl rfl (resT rfl resN)) ⟨rfl, bk_sel h [] trivial⟩
  replace hm := ifF hb3 hm
  refine wp_skip ?_
  refine then_n ?_
  refine sr ?_
  refine sl (b_load_own 1 (.agg #[vb s1.1, vs s1.2]) h rfl rfl fun a h => ?_)
  refine sl (b_store_own 0 h rfl rfl rfl fun a w h e => ?_)
  refine pr 1 [(3, vi 0)] h fun a h => ?_
  refine oe ?_
  refine wp_ret ?_
  obtain rfl := Option.some.inj hm
  exact rtg h rfl (vs := [.agg #[vb s1.1, vs s1.2], vi 0]) (rtc 0 h rfl rfl (resT rfl resN)) ⟨rfl, bk_sel h [] trivial⟩

theorem c_law01_LiteralTexts {A : List Nat} {w0 : World} {y0 : Str} {y1 : T_Literal} {y2 : List Int} {p1 : Option Addr} {c1 : Nat} {r : Bool} (hO : Own A w0 []) (hF : All [R (eInt .i64) p1 c1 (List.length y2) y2] (bl [] ++ A) w0) (hm : m_law01_LiteralTexts y0 y1 y2 = some r) :
    Calls Try.prog 3 [vs y0, .agg #[vb y1.1, vs y1.2], .slice p1 (List.length y2) c1].toArray w0 (Ret fun v w => v = vb r ∧ Bk A [] w0 [] [] w) := by
  unfold m_law01_LiteralTexts at hm
  refine ent Try.func3 rfl hO hF fun a h => ?_
  refine sr ?_
  refine sl (b_box h rfl fun b1 a w h e => ?_)
  refine pr 1 [] h fun a h => ?_
  refine oe ?_
  refine wp_seq ?_
  refine seq_j (fun a w => SS A [] w0 98 [(0, vs y0), (2, .slice p1 (List.length y2) c1), (4, .pointer (some ⟨b1, 0, none⟩)), (24, vb ((decide (200 < (len y0))) || (decide (200 < (len y1.2)))))] [bx b1 23 [vb y1.1, vs y1.2]] [R (eInt .i64) p1 c1 (List.length y2) y2] a w) ?_ ?_
  · refine reg ?_
    refine pr 4 [(19, vb (decide (200 < (len y0))))] h fun a h => ?_
    rcases Bool.eq_false_or_eq_true (decide (200 < (len y0))) with hb1 | hb1
    · have h := h.upd (t := 19) (vb true) rfl (congrArg Value.bool hb1)
      refine pr 5 [(24, vb true)] h fun a h => ?_
      refine ops_end ?_
      have h := h.upd (t := 24) (vb ((decide (200 < (len y0))) || (decide (200 < (len y1.2))))) rfl (by rw [hb1]; rfl)
      exact then_n (h.to 1 ⟨(h.g 0), trivial⟩)
    · have h := h.upd (t := 19) (vb false) rfl (congrArg Value.bool hb1)
      refine pr 1 [(20, .pointer (some ⟨b1, 1, none⟩))] h fun a h => ?_
      refine sl (b_load_own 0 (vs y1.2) h rfl rfl fun a h => ?_)
      refine pr 3 [(24, vb (decide (200 < (len y1.2))))] h fun a h => ?_
      refine ops_end ?_
      have h := h.upd (t := 24) (vb ((decide (200 < (len y0))) || (decide (200 < (len y1.2))))) rfl (by rw [hb1]; rfl)
      exact then_n (h.to 1 ⟨(h.g 0), trivial⟩)
  intro a w hJ
  have h := hJ
  refine cb h rfl (fun hb2 => ?_) (fun hb2 => ?_)
  · replace hm := ifT hb2 hm
    refine sp [(6, vb true)] h fun a h => ?_
    refine wp_ret ?_
    refine then_r ?_
    obtain rfl := Option.some.inj hm
    exact rt1 h rfl rfl ⟨rfl, bk_sel h [] trivial⟩
  replace hm := ifF hb2 hm
  refine wp_skip ?_
  refine then_n ?_
  refine sr ?_
  refine pr 1 [(25, .slice p1 (List.length y2) c1)] h fun a h => ?_
  obtain ⟨r1, h1, hm⟩ := bnd hm
  refine sl (b_call [] [] h Try.call9 rfl rfl (c_keep_New (y0 := y2) (h.po [] []) ⟨(h.pf [] [] 0), trivial⟩ h1) fun v a w hp hc => ?_)
  obtain ⟨b2, p2, c2, rfl, q⟩ := hp
  have h := hc.on q [bx b1 23 [vb y1.1, vs y1.2], bx b2 56 [.slice p2 (List.length r1.1) c2, vi r1.2]]
  refine pr 1 [(7, .pointer (some ⟨b2, 0, none⟩))] h fun a h => ?_
  refine oe ?_
  obtain ⟨os1, hx, hm⟩ := bnd hm
  refine seq_j (fun a w => ∃ s1 : Unit, os1 = .inl s1 ∧ (SS A [] w0 98 [] [[], []] [] a w)) ?_ ?_
  · have hm2 := hm
    replace hm := hx
    refine ds [] [0] h fun w h => ?_
    refine dlo 0 0 (.agg #[vb y1.1, vs y1.2]) h rfl rfl rfl fun a h => ?_
    refine dp 1 (.pointer (some ⟨b2, 0, none⟩)) h rfl fun a h => ?_
    refine dp 3 (.pointer (some ⟨b2, 0, none⟩)) h rfl fun a h => ?_
    refine dp 5 (vs y0) h rfl fun a h => ?_
    refine dp 6 (.agg #[vb false, vs y0]) h rfl fun a h => ?_
    refine dp 7 (vs y0) h rfl fun a h => ?_
    refine dp 8 (.agg #[vb true, vs y0]) h rfl fun a h => ?_
    refine dp 11 (vi 0) h rfl fun a h => ?_
    refine d1 2 rfl ?_
    obtain ⟨r2, h2, hm⟩ := bnd hm
    refine b_call [1] [] h Try.call10 rfl rfl (c_keep_Src_Odd (y0 := r1) (h.po [1] []) ⟨(h.pf [1] [] 0), trivial⟩ h2) fun v a w hp hc => ?_
    obtain ⟨rfl, q⟩ := hp
    have e := hc.st q [bx b1 23 [vb y1.1, vs y1.2], bx b2 56 [.slice p2 (List.length r1.1) c2, vi r2.2]]
    have h := hc.on q [bx b1 23 [vb y1.1, vs y1.2], bx b2 56 [.slice p2 (List.length r1.1) c2, vi r2.2]]
    refine dn h e ?_
    refine d1 4 rfl ?_
    obtain ⟨r3, h3, hm⟩ := bnd hm
    refine b_call [1] [] h Try.call11 rfl rfl (c_keep_Src_Literal (y0 := (r1.1, r2.2)) (y1 := 26) (h.po [1] []) ⟨(h.pf [1] [] 0), trivial⟩ h3) fun v a w hp hc => ?_
    obtain ⟨rfl, q⟩ := hp
    have e := hc.st q [bx b1 23 [vb y1.1, vs y1.2], bx b2 56 [.slice p2 (List.length r1.1) c2, vi r3.2]]
    have h := hc.on q [bx b1 23 [vb y1.1, vs y1.2], bx b2 56 [.slice p2 (List.length r1.1) c2, vi r3.2]]
    refine dn h e ?_
    refine d1 9 rfl ?_
    refine b_bs_rd (te := 23) (e := e_Literal) [vb y1.1, vs y1.2, vb r2.1.1, vs r2.1.2, vb r3.1.1, vs r3.1.2, vb false, vs y0, vb true, vs y0] ([y1, r2.1, r3.1, (false, y0), (true, y0)] : List T_Literal) h ⟨_, _, rfl, eProd.mk eBool.mk eStr.mk, ⟨_, _, rfl, eProd.mk eBool.mk eStr.mk, ⟨_, _, rfl, eProd.mk eBool.mk eStr.mk, ⟨_, _, rfl, eProd.mk eBool.mk eStr.mk, ⟨_, _, rfl, eProd.mk eBool.mk eStr.mk, rfl⟩⟩⟩⟩⟩ fun p3 c3 a w h e => ?_
    refine dn h e ?_
    refine dp 10 (vi (len ([y1, r2.1, r3.1, (false, y0), (true, y0)] : List T_Literal))) h rfl fun a h => ?_
    refine de (then_n ?_)
    refine wp_block ?_
    refine loop_m (B := (m_law01_LiteralTexts_L1 y1 r2 r3 y0)) (fun (s2 : Int) a w => SS A [] w0 98 [(0, vs y0), (36, .slice p3 (List.length ([y1, r2.1, r3.1, (false, y0), (true, y0)] : List T_Literal)) c3), (37, vi (len ([y1, r2.1, r3.1, (false, y0), (true, y0)] : List T_Literal))), (38, vi s2)] [[], []] [R e_Literal p3 c3 (List.length ([y1, r2.1, r3.1, (false, y0), (true, y0)] : List T_Literal)) ([y1, r2.1, r3.1, (false, y0), (true, y0)] : List T_Literal)] a w) hm (h.tos [900, 901] ⟨(h.g 0), trivial⟩) ?_
    intro s2 a w o1 hJ hm hr1
    have h := hJ
    unfold m_law01_LiteralTexts_L1 at hm
    refine sp [(39, vb (decide (s2 < (len ([y1, r2.1, r3.1, (false, y0), (true, y0)] : List T_Literal)))))] h fun a h => ?_
    refine wp_seq ?_
    refine cb h rfl (fun hb3 => ?_) (fun hb3 => ?_)
    · replace hm := ifT hb3 hm
      refine wp_skip ?_
      refine then_n ?_
      refine wp_seq ?_
      refine wp_block ?_
      refine sr ?_
      obtain ⟨x1, h4, hm⟩ := bnd hm
      refine sl (b_index_rd h (h.g 0) rfl rfl h4 fun b3 o2 a h => ?_)
      refine sl (b_load_pt true h (h.g 0) rfl fun ci1 hc1 v1 hv1 a h => ?_)
      replace hc1 : E.rd e_Literal _ _ ci1 x1 := hc1
      obtain ⟨_, _, rfl, rfl, rfl⟩ := hc1
      obtain rfl := Option.some.inj hv1
      have h := h.upd (t := 41) (.agg #[vb x1.1, vs x1.2]) rfl rfl
      refine sl (b_alloc h rfl fun b4 a w h e => ?_)
      refine sl (b_store_own 2 h rfl rfl rfl fun a w h e => ?_)
      refine oe ?_
      refine wp_seq ?_
      obtain ⟨s3, hx, hm⟩ := bnd hm
      refine seq_j (fun a w => SS A [] w0 98 [(0, vs y0), (9, .pointer (some ⟨b4, 0, none⟩)), (36, .slice p3 (List.length ([y1, r2.1, r3.1, (false, y0), (true, y0)] : List T_Literal)) c3), (37, vi (len ([y1, r2.1, r3.1, (false, y0), (true, y0)] : List T_Literal))), (38, vi s2), (62, vb s3)] [[], [], bx b4 23 [vb x1.1, vs x1.2]] [R e_Literal p3 c3 (List.length ([y1, r2.1, r3.1, (false, y0), (true, y0)] : List T_Literal)) ([y1, r2.1, r3.1, (false, y0), (true, y0)] : List T_Literal)] a w) ?_ ?_
      · replace hm := hx
        refine ds' [] [2] h fun w h => ?_
        refine dp 0 (.pointer (some ⟨b4, 1, none⟩)) h rfl fun a h => ?_
        refine dlo 1 2 (vs x1.2) h rfl rfl rfl fun a h => ?_
        refine dp 3 (.pointer (some ⟨b4, 1, none⟩)) h rfl fun a h => ?_
        refine dlo 4 2 (vs x1.2) h rfl rfl rfl fun a h => ?_
        refine d1 2 rfl ?_
        obtain ⟨r4, h5, hm⟩ := bnd hm
        refine b_call [] [] h Try.call12 rfl rfl (c_literal_ValidName (y0 := x1.2) (h.po [] []) trivial h5) fun v a w hp hc => ?_
        obtain ⟨rfl, q⟩ := hp
        have e := hc.st q [[], [], bx b4 23 [vb x1.1, vs x1.2]]
        have h := hc.on q [[], [], bx b4 23 [vb x1.1, vs x1.2]]
        refine dn h e ?_
        refine d1 5 rfl ?_
        obtain ⟨r5, h6, hm⟩ := bnd hm
        refine b_call [] [] h Try.call13 rfl rfl (c_ref01_ValidName (y0 := x1.2) (h.po [] []) trivial h6) fun v a w hp hc => ?_
        obtain ⟨rfl, q⟩ := hp
        have e := hc.st q [[], [], bx b4 23 [vb x1.1, vs x1.2]]
        have h := hc.on q [[], [], bx b4 23 [vb x1.1, vs x1.2]]
        refine dn h e ?_
        refine dp 6 (vb (!(r4 == r5))) h rfl fun a h => ?_
        refine dp 7 (vb (!(r4 == r5))) h rfl fun a h => ?_
        rcases Bool.eq_false_or_eq_true (!(r4 == r5)) with hb4 | hb4
        · have h := h.upd (t := 49) (vb true) rfl (congrArg Value.bool hb4)
          replace hm := ifT hb4 hm
          refine dk 8 h rfl fun a h => ?_
          refine dk 9 h rfl fun a h => ?_
          refine dk 10 h rfl fun a h => ?_
          refine dk 11 h rfl fun a h => ?_
          refine dk 12 h rfl fun a h => ?_
          refine dp 13 (vb true) h rfl fun a h => ?_
          refine dp 14 (vb true) h rfl fun a h => ?_
          refine dk 15 h rfl fun a h => ?_
          refine dk 16 h rfl fun a h => ?_
          refine dk 17 h rfl fun a h => ?_
          refine dk 18 h rfl fun a h => ?_
          refine dk 19 h rfl fun a h => ?_
          refine dp 20 (vb true) h rfl fun a h => ?_
          refine de ?_
          obtain rfl := Option.some.inj hm
          exact then_n (h.tos [900, 901, 2] ⟨(h.g 1), trivial⟩)
        · have h := h.upd (t := 49) (vb false) rfl (congrArg Value.bool hb4)
          replace hm := ifF hb4 hm
          refine dlo 8 2 (.agg #[vb x1.1, vs x1.2]) h rfl rfl rfl fun a h => ?_
          refine dlo 10 2 (.agg #[vb x1.1, vs x1.2]) h rfl rfl rfl fun a h => ?_
          refine d1 9 rfl ?_
          obtain ⟨r6, h7, hm⟩ := bnd hm
          refine b_call [] [] h Try.call14 rfl rfl (c_literal_Valid (y0 := x1) (h.po [] []) trivial h7) fun v a w hp hc => ?_
          obtain ⟨rfl, q⟩ := hp
          have e := hc.st q [[], [], bx b4 23 [vb x1.1, vs x1.2]]
          have h := hc.on q [[], [], bx b4 23 [vb x1.1, vs x1.2]]
          refine dn h e ?_
          refine d1 11 rfl ?_
          obtain ⟨r7, h8, hm⟩ := bnd hm
          refine b_call [] [] h Try.call15 rfl rfl (c_ref01_Valid (y0 := x1) (h.po [] []) trivial h8) fun v a w hp hc => ?_
          obtain ⟨rfl, q⟩ := hp
          have e := hc.st q [[], [], bx b4 23 [vb x1.1, vs x1.2]]
          have h := hc.on q [[], [], bx b4 23 [vb x1.1, vs x1.2]]
          refine dn h e ?_
          refine dp 12 (vb (!(r6 == r7))) h rfl fun a h => ?_
          refine dp 13 (vb (!(r6 == r7))) h rfl fun a h => ?_
          refine dp 14 (vb (!(r6 == r7))) h rfl fun a h => ?_
          rcases Bool.eq_false_or_eq_true (!(r6 == r7)) with hb5 | hb5
          · have h := h.upd (t := 56) (vb true) rfl (congrArg Value.bool hb5)
            replace hm := ifT hb5 hm
            refine dk 15 h rfl fun a h => ?_
            refine dk 16 h rfl fun a h => ?_
            refine dk 17 h rfl fun a h => ?_
            refine dk 18 h rfl fun a h => ?_
            refine dk 19 h rfl fun a h => ?_
            refine dp 20 (vb true) h rfl fun a h => ?_
            refine de ?_
            obtain rfl := Option.some.inj hm
            exact then_n (h.tos [900, 901, 2] ⟨(h.g 1), trivial⟩)
          · have h := h.upd (t := 56) (vb false) rfl (congrArg Value.bool hb5)
            replace hm := ifF hb5 hm
            refine dlo 15 2 (.agg #[vb x1.1, vs x1.2]) h rfl rfl rfl fun a h => ?_
            refine dlo 17 2 (.agg #[vb x1.1, vs x1.2]) h rfl rfl rfl fun a h => ?_
            refine d1 16 rfl ?_
            obtain ⟨r8, h9, hm⟩ := bnd hm
            refine b_call [] [] h Try.call16 rfl rfl (c_literal_Format (y0 := x1) (h.po [] []) trivial h9) fun v a w hp hc => ?_
            obtain ⟨rfl, q⟩ := hp
            have e := hc.st q [[], [], bx b4 23 [vb x1.1, vs x1.2]]
            have h := hc.on q [[], [], bx b4 23 [vb x1.1, vs x1.2]]
            refine dn h e ?_
            refine d1 18 rfl ?_
            obtain ⟨r9, h10, hm⟩ := bnd hm
            refine b_call [] [] h Try.call17 rfl rfl (c_ref01_Format (y0 := x1) (h.po [] []) trivial h10) fun v a w hp hc => ?_
            obtain ⟨rfl, q⟩ := hp
            have e := hc.st q [[], [], bx b4 23 [vb x1.1, vs x1.2]]
            have h := hc.on q [[], [], bx b4 23 [vb x1.1, vs x1.2]]
            refine dn h e ?_
            refine dp 19 (vb (!(r8 == r9))) h rfl fun a h => ?_
            refine dp 20 (vb (!(r8 == r9))) h rfl fun a h => ?_
            refine de ?_
            obtain rfl := Option.some.inj hm
            exact then_n (h.tos [900, 901, 2] ⟨(h.g 1), trivial⟩)
      intro a w hJ
      have h := hJ
      refine cb h rfl (fun hb6 => ?_) (fun hb6 => ?_)
      · replace hm := ifT hb6 hm
        refine sp [(6, vb false)] h fun a h => ?_
        refine wp_ret ?_
        refine then_r (inb_r (then_r (lp_r (inb_r (then_r ?_)))))
        replace hm := loopR hr1 hm
        obtain rfl := Option.some.inj hm
        replace hm := hm2
        obtain rfl := Option.some.inj hm
        exact rt1 h rfl rfl ⟨rfl, bk_sel h [] trivial⟩
      replace hm := ifF hb6 hm
      refine wp_skip ?_
      refine then_n ?_
      refine ds [] [2] h fun w h => ?_
      refine dp 0 (vs y0) h rfl fun a h => ?_
      refine dp 1 (.pointer (some ⟨b4, 1, none⟩)) h rfl fun a h => ?_
      refine dlo 2 2 (vs x1.2) h rfl rfl rfl fun a h => ?_
      refine dp 3 (.pointer (some ⟨b4, 1, none⟩)) h rfl fun a h => ?_
      refine dlo 4 2 (vs x1.2) h rfl rfl rfl fun a h => ?_
      obtain ⟨x2, h11, hm⟩ := bnd hm
      refine dv 5 h rfl (r_cat h.s rfl rfl h11) fun a h => ?_
      refine dlo 6 2 (.agg #[vb x1.1, vs x1.2]) h rfl rfl rfl fun a h => ?_
      refine dp 10 (vi 0) h rfl fun a h => ?_
      refine d1 7 rfl ?_
      obtain ⟨r10, h12, hm⟩ := bnd hm
      refine b_call [] [] h Try.call17 rfl rfl (c_ref01_Format (y0 := x1) (h.po [] []) trivial h12) fun v a w hp hc => ?_
      obtain ⟨rfl, q⟩ := hp
      have e := hc.st q [[], [], bx b4 23 [vb x1.1, vs x1.2]]
      have h := hc.on q [[], [], bx b4 23 [vb x1.1, vs x1.2]]
      refine dn h e ?_
      refine d1 8 rfl ?_
      refine b_bs_rd (te := 9) (e := eStr) [vs y0, vs x1.2, vs x2, vs r10] ([y0, x1.2, x2, r10] : List Str) h ⟨_, _, rfl, eStr.mk, ⟨_, _, rfl, eStr.mk, ⟨_, _, rfl, eStr.mk, ⟨_, _, rfl, eStr.mk, rfl⟩⟩⟩⟩ fun p4 c4 a w h e => ?_
      refine dn h e ?_
      refine dp 9 (vi (len ([y0, x1.2, x2, r10] : List Str))) h rfl fun a h => ?_
      refine de (then_n ?_)
      refine wp_block ?_
      refine loop_m (B := (m_law01_LiteralTexts_L2 y0 x1 x2 r10 s2)) (fun (s4 : Int) a w => SS A [] w0 98 [(0, vs y0), (36, .slice p3 (List.length ([y1, r2.1, r3.1, (false, y0), (true, y0)] : List T_Literal)) c3), (37, vi (len ([y1, r2.1, r3.1, (false, y0), (true, y0)] : List T_Literal))), (38, vi s2), (71, .slice p4 (List.length ([y0, x1.2, x2, r10] : List Str)) c4), (72, vi (len ([y0, x1.2, x2, r10] : List Str))), (73, vi s4)] [[], [], []] [R e_Literal p3 c3 (List.length ([y1, r2.1, r3.1, (false, y0), (true, y0)] : List T_Literal)) ([y1, r2.1, r3.1, (false, y0), (true, y0)] : List T_Literal), R eStr p4 c4 (List.length ([y0, x1.2, x2, r10] : List Str)) ([y0, x1.2, x2, r10] : List Str)] a w) hm (h.tos [900, 901, 902] ⟨(h.g 1), (h.g 0), trivial⟩) ?_
      intro s4 a w o3 hJ hm hr2
      have h := hJ
      unfold m_law01_LiteralTexts_L2 at hm
      refine sp [(74, vb (decide (s4 < (len ([y0, x1.2, x2, r10] : List Str)))))] h fun a h => ?_
      refine wp_seq ?_
      refine cb h rfl (fun hb7 => ?_) (fun hb7 => ?_)
      · replace hm := ifT hb7 hm
        refine wp_skip ?_
        refine then_n ?_
        refine wp_seq ?_
        refine wp_block ?_
        refine sr ?_
        obtain ⟨x3, h13, hm⟩ := bnd hm
        refine sl (b_index_rd h (h.g 1) rfl rfl h13 fun b5 o4 a h => ?_)
        refine sl (b_load_pt false h (h.g 0) rfl fun ci2 hc2 v2 hv2 a h => ?_)
        replace hc2 : E.rd eStr _ _ ci2 x3 := hc2
        obtain rfl := hc2
        obtain rfl := Option.some.inj hv2
        refine pr 1 [(11, vs x3)] h fun a h => ?_
        refine oe ?_
        refine sr ?_
        refine pr 1 [(78, vs x3)] h fun a h => ?_
        obtain ⟨r11, h14, hm⟩ := bnd hm
        refine sl (b_call [] [] h Try.call18 rfl rfl (c_literal_Parse (y0 := x3) (h.po [] []) trivial h14) fun v a w hp hc => ?_)
        obtain ⟨rfl, q⟩ := hp
        have h := hc.on q [[], [], []]
        refine pr 3 [(81, vi r11.2), (80, .agg #[vb r11.1.1, vs r11.1.2])] h fun a h => ?_
        refine sl (b_alloc h rfl fun b6 a w h e => ?_)
        refine sl (b_store_own 3 h rfl rfl rfl fun a w h e => ?_)
        refine pr 1 [(13, vi r11.2)] h fun a h => ?_
        refine oe ?_
        refine sr ?_
        refine pr 1 [(83, vs x3)] h fun a h => ?_
        obtain ⟨r12, h15, hm⟩ := bnd hm
        refine sl (b_call [] [] h Try.call19 rfl rfl (c_ref01_Parse (y0 := x3) (h.po [] []) trivial h15) fun v a w hp hc => ?_)
        obtain ⟨rfl, q⟩ := hp
        have h := hc.on q [[], [], [], bx b6 23 [vb r11.1.1, vs r11.1.2]]
        refine pr 3 [(86, vi r12.2), (85, .agg #[vb r12.1.1, vs r12.1.2])] h fun a h => ?_
        refine sl (b_alloc h rfl fun b7 a w h e => ?_)
        refine sl (b_store_own 4 h rfl rfl rfl fun a w h e => ?_)
        refine pr 1 [(15, vi r12.2)] h fun a h => ?_
        refine oe ?_
        refine seq_j (fun a w => SS A [] w0 98 [(0, vs y0), (36, .slice p3 (List.length ([y1, r2.1, r3.1, (false, y0), (true, y0)] : List T_Literal)) c3), (37, vi (len ([y1, r2.1, r3.1, (false, y0), (true, y0)] : List T_Literal))), (38, vi s2), (71, .slice p4 (List.length ([y0, x1.2, x2, r10] : List Str)) c4), (72, vi (len ([y0, x1.2, x2, r10] : List Str))), (73, vi s4), (94, vb ((!(r11.1 == r12.1)) || (r11.2 != r12.2)))] [[], [], [], [], []] [R e_Literal p3 c3 (List.length ([y1, r2.1, r3.1, (false, y0), (true, y0)] : List T_Literal)) ([y1, r2.1, r3.1, (false, y0), (true, y0)] : List T_Literal), R eStr p4 c4 (List.length ([y0, x1.2, x2, r10] : List Str)) ([y0, x1.2, x2, r10] : List Str)] a w) ?_ ?_
        · refine reg ?_
          refine sl (b_load_own 3 (.agg #[vb r11.1.1, vs r11.1.2]) h rfl rfl fun a h => ?_)
          refine sl (b_load_own 4 (.agg #[vb r12.1.1, vs r12.1.2]) h rfl rfl fun a h => ?_)
          refine pr 2 [(90, vb (!(r11.1 == r12.1)))] h fun a h => ?_
          rcases Bool.eq_false_or_eq_true (!(r11.1 == r12.1)) with hb8 | hb8
          · have h := h.upd (t := 90) (vb true) rfl (congrArg Value.bool hb8)
            refine pr 4 [(94, vb true)] h fun a h => ?_
            refine ops_end ?_
            have h := h.upd (t := 94) (vb ((!(r11.1 == r12.1)) || (r11.2 != r12.2))) rfl (by rw [hb8]; rfl)
            exact then_n (h.tos [900, 901, 902, 903, 904] ⟨(h.g 1), (h.g 2), trivial⟩)
          · have h := h.upd (t := 90) (vb false) rfl (congrArg Value.bool hb8)
            refine pr 4 [(94, vb (r11.2 != r12.2))] h fun a h => ?_
            refine ops_end ?_
            have h := h.upd (t := 94) (vb ((!(r11.1 == r12.1)) || (r11.2 != r12.2))) rfl (by rw [hb8]; rfl)
            exact then_n (h.tos [900, 901, 902, 903, 904] ⟨(h.g 1), (h.g 2), trivial⟩)
        intro a w hJ
        have h := hJ
        refine cb h rfl (fun hb9 => ?_) (fun hb9 => ?_)
        · replace hm := ifT hb9 hm
          refine sp [(6, vb false)] h fun a h => ?_
          refine wp_ret ?_
          refine inb_r (then_r (lp_r (inb_r (inb_r (then_r (lp_r (inb_r (then_r ?_))))))))
          replace hm := loopR hr2 hm
          replace hm := loopR hr1 hm
          obtain rfl := Option.some.inj hm
          replace hm := hm2
          obtain rfl := Option.some.inj hm
          exact rt1 h rfl rfl ⟨rfl, bk_sel h [] trivial⟩
        replace hm := ifF hb9 hm
        refine wp_skip ?_
        refine inb_n ?_
        refine then_n ?_
        refine reg ?_
        refine pr 2 [(73, vi (w64 (s4 + 1)))] h fun a h => ?_
        refine ops_end ?_
        obtain rfl := Option.some.inj hm
        exact lp_n rfl (h.tos [900, 901, 902] ⟨(h.g 0), (h.g 1), trivial⟩)
      replace hm := ifF hb7 hm
      refine wp_exit ?_
      refine then_e (lp_e (inb_hit ?_))
      replace hm := loopR hr2 hm
      refine inb_n ?_
      refine then_n ?_
      refine reg ?_
      refine pr 2 [(38, vi (w64 (s2 + 1)))] h fun a h => ?_
      refine ops_end ?_
      obtain rfl := Option.some.inj hm
      exact lp_n rfl (h.tos [900, 901] ⟨(h.g 0), trivial⟩)
    replace hm := ifF hb3 hm
    refine wp_exit ?_
    refine then_e (lp_e (inb_hit ?_))
    replace hm := loopR hr1 hm
    obtain rfl := Option.some.inj hm
    exact then_n ⟨_, rfl, h.tos [900, 901] trivial⟩
  intro a w hJ
  obtain ⟨s1, rfl, h⟩ := hJ
  refine sr ?_
  obtain ⟨r13, h16, hm⟩ := bnd hm
  refine sl (b_call [] [] h Try.call20 rfl rfl (c_law01_awake (h.po [] []) trivial h16) fun v a w hp hc => ?_)
  obtain ⟨rfl, q⟩ := hp
  have h := hc.on q [[], []]
  refine pr 1 [(6, vb r13)] h fun a h => ?_
  refine oe ?_
  refine wp_ret ?_
  obtain rfl := Option.some.inj hm
  exact rt1 h rfl rfl ⟨rfl, bk_sel h [] trivial⟩

theorem c_ref01_Compare {A : List Nat} {w0 : World} {y0 : T_Literal} {y1 : T_Literal} {r : Int} (hO : Own A w0 []) (hF : All [] (bl [] ++ A) w0) (hm : m_ref01_Compare y0 y1 = some r) :
    Calls Try.prog 24 [.agg #[vb y0.1, vs y0.2], .agg #[vb y1.1, vs y1.2]].toArray w0 (Ret fun v w => v = vi r ∧ Bk A [] w0 [] [] w) := by
  unfold m_ref01_Compare at hm
  refine ent Try.func24 rfl hO hF fun a h => ?_
  refine sr ?_
  refine sl (b_box h rfl fun b1 a w h e => ?_)
  refine sl (b_box h rfl fun b2 a w h e => ?_)
  refine pr 1 [] h fun a h => ?_
  refine oe ?_
  refine wp_seq ?_
  refine wp_block ?_
  refine sr ?_
  refine sl (b_load_own 0 (.agg #[vb y0.1, vs y0.2]) h rfl rfl fun a h => ?_)
  refine sl (b_load_own 1 (.agg #[vb y1.1, vs y1.2]) h rfl rfl fun a h => ?_)
  refine pr 2 [(5, vb (y0 == y1))] h fun a h => ?_
  refine oe ?_
  refine cb h rfl (fun hb1 => ?_) (fun hb1 => ?_)
  · replace hm := ifT hb1 hm
    refine sp [(4, vi 0)] h fun a h => ?_
    refine wp_ret ?_
    refine inb_r (then_r ?_)
    obtain rfl := Option.some.inj hm
    exact rt1 h rfl rfl ⟨rfl, bk_sel h [] trivial⟩
  replace hm := ifF hb1 hm
  refine seq_j (fun a w => SS A [] w0 26 [(9, vb ((sless y0.2 y1.2) || ((y0.2 == y1.2) && y1.1)))] [[], []] [] a w) ?_ ?_
  · refine reg ?_
    refine pr 1 [(10, .pointer (some ⟨b1, 1, none⟩))] h fun a h => ?_
    refine sl (b_load_own 0 (vs y0.2) h rfl rfl fun a h => ?_)
    refine pr 1 [(12, .pointer (some ⟨b2, 1, none⟩))] h fun a h => ?_
    refine sl (b_load_own 1 (vs y1.2) h rfl rfl fun a h => ?_)
    refine pr 2 [(15, vb (sless y0.2 y1.2))] h fun a h => ?_
    rcases Bool.eq_false_or_eq_true (sless y0.2 y1.2) with hb2 | hb2
    · have h := h.upd (t := 15) (vb true) rfl (congrArg Value.bool hb2)
      refine pr 11 [(9, vb true)] h fun a h => ?_
      refine ops_end ?_
      have h := h.upd (t := 9) (vb ((sless y0.2 y1.2) || ((y0.2 == y1.2) && y1.1))) rfl (by rw [hb2]; rfl)
      exact then_n (h.tos [900, 901] trivial)
    · have h := h.upd (t := 15) (vb false) rfl (congrArg Value.bool hb2)
      refine pr 1 [(16, .pointer (some ⟨b1, 1, none⟩))] h fun a h => ?_
      refine sl (b_load_own 0 (vs y0.2) h rfl rfl fun a h => ?_)
      refine pr 1 [(18, .pointer (some ⟨b2, 1, none⟩))] h fun a h => ?_
      refine sl (b_load_own 1 (vs y1.2) h rfl rfl fun a h => ?_)
      refine pr 2 [(21, vb (y0.2 == y1.2))] h fun a h => ?_
      rcases Bool.eq_false_or_eq_true (y0.2 == y1.2) with hb3 | hb3
      · have h := h.upd (t := 21) (vb true) rfl (congrArg Value.bool hb3)
        refine pr 1 [(22, .pointer (some ⟨b2, 0, none⟩))] h fun a h => ?_
        refine sl (b_load_own 1 (vb y1.1) h rfl rfl fun a h => ?_)
        refine pr 3 [(9, vb y1.1)] h fun a h => ?_
        refine ops_end ?_
        have h := h.upd (t := 9) (vb ((sless y0.2 y1.2) || ((y0.2 == y1.2) && y1.1))) rfl (by rw [hb2, hb3]; rfl)
        exact then_n (h.tos [900, 901] trivial)
      · have h := h.upd (t := 21) (vb false) rfl (congrArg Value.bool hb3)
        refine pr 5 [(9, vb false)] h fun a h => ?_
        refine ops_end ?_
        have h := h.upd (t := 9) (vb ((sless y0.2 y1.2) || ((y0.2 == y1.2) && y1.1))) rfl (by rw [hb2, hb3]; rfl)
        exact then_n (h.tos [900, 901] trivial)
  intro a w hJ
  have h := hJ
  refine cb h rfl (fun hb4 => ?_) (fun hb4 => ?_)
  · replace hm := ifT hb4 hm
    refine sp [(4, vi (-1))] h fun a h => ?_
    refine wp_ret ?_
    refine inb_r (then_r ?_)
    obtain rfl := Option.some.inj hm
    exact rt1 h rfl rfl ⟨rfl, bk_sel h [] trivial⟩
  replace hm := ifF hb4 hm
  refine wp_skip ?_
  refine inb_n ?_
  refine then_n ?_
  refine sp [(4, vi 1)] h fun a h => ?_
  refine wp_ret ?_
  obtain rfl := Option.some.inj hm
  exact rt1 h rfl rfl ⟨rfl, bk_sel h [] trivial⟩

theorem c_ref01_Complement {A : List Nat} {w0 : World} {y0 : T_Literal} {r : T_Literal} (hO : Own A w0 []) (hF : All [] (bl [] ++ A) w0) (hm : m_ref01_Complement y0 = some r) :
    Calls Try.prog 22 [.agg #[vb y0.1, vs y0.2]].toArray w0 (Ret fun v w => v = .agg #[vb r.1, vs r.2] ∧ Bk A [] w0 [] [] w) := by
  unfold m_ref01_Complement at hm
  refine ent Try.func22 rfl hO hF fun a h => ?_
  refine sr ?_
  refine sl (b_box h rfl fun b1 a w h e => ?_)
  refine sl (b_alloc h rfl fun b2 a w h e => ?_)
  refine oe ?_
  refine sr ?_
  refine pr 1 [(3, .pointer (some ⟨b1, 0, none⟩))] h fun a h => ?_
  refine sl (b_load_own 0 (vb y0.1) h rfl rfl fun a h => ?_)
  refine pr 2 [(6, .pointer (some ⟨b1, 1, none⟩)), (5, vb (!y0.1))] h fun a h => ?_
  refine sl (b_load_own 0 (vs y0.2) h rfl rfl fun a h => ?_)
  refine pr 1 [(8, .agg #[vb (!y0.1), vs y0.2])] h fun a h => ?_
  refine sl (b_store_own 1 h rfl rfl rfl fun a w h e => ?_)
  refine oe ?_
  refine wp_ret ?_
  obtain rfl := Option.some.inj hm
  exact rtg h rfl (vs := [.agg #[vb (!y0.1), vs y0.2]]) (rtc 1 h rfl rfl resN) ⟨rfl, bk_sel h [] trivial⟩

theorem c_law01_LiteralOrder {A : List Nat} {w0 : World} {y0 : T_Literal} {y1 : T_Literal} {y2 : T_Literal} {y3 : List Int} {p1 : Option Addr} {c1 : Nat} {r : Bool} (hO : Own A w0 []) (hF : All [R (eInt .i64) p1 c1 (List.length y3) y3] (bl [] ++ A) w0) (hm : m_law01_LiteralOrder y0 y1 y2 y3 = some r) :
    Calls Try.prog 4 [.agg #[vb y0.1, vs y0.2], .agg #[vb y1.1, vs y1.2], .agg #[vb y2.1, vs y2.2], .slice p1 (List.length y3) c1].toArray w0 (Ret fun v w => v = vb r ∧ Bk A [] w0 [] [] w) := by
  unfold m_law01_LiteralOrder at hm
  refine ent Try.func4 rfl hO hF fun a h => ?_
  refine sr ?_
  refine sl (b_box h rfl fun b1 a w h e => ?_)
  refine sl (b_box h rfl fun b2 a w h e => ?_)
  refine sl (b_box h rfl fun b3 a w h e => ?_)
  refine pr 1 [] h fun a h => ?_
  refine oe ?_
  refine sr ?_
  refine pr 1 [(18, .slice p1 (List.length y3) c1)] h fun a h => ?_
  obtain ⟨r1, h1, hm⟩ := bnd hm
  refine sl (b_call [] [] h Try.call9 rfl rfl (c_keep_New (y0 := y3) (h.po [] []) ⟨(h.pf [] [] 0), trivial⟩ h1) fun v a w hp hc => ?_)
  obtain ⟨b4, p2, c2, rfl, q⟩ := hp
  have h := hc.on q [bx b1 23 [vb y0.1, vs y0.2], bx b2 23 [vb y1.1, vs y1.2], bx b3 23 [vb y2.1, vs y2.2], bx b4 56 [.slice p2 (List.length r1.1) c2, vi r1.2]]
  refine pr 1 [(9, .pointer (some ⟨b4, 0, none⟩))] h fun a h => ?_
  refine oe ?_
  refine ds [] [0, 1, 2] h fun w h => ?_
  refine dlo 0 0 (.agg #[vb y0.1, vs y0.2]) h rfl rfl rfl fun a h => ?_
  refine dlo 1 1 (.agg #[vb y1.1, vs y1.2]) h rfl rfl rfl fun a h => ?_
  refine dlo 2 2 (.agg #[vb y2.1, vs y2.2]) h rfl rfl rfl fun a h => ?_
  refine dp 3 (.pointer (some ⟨b4, 0, none⟩)) h rfl fun a h => ?_
  refine dp 5 (.pointer (some ⟨b4, 0, none⟩)) h rfl fun a h => ?_
  refine dp 7 (.pointer (some ⟨b4, 0, none⟩)) h rfl fun a h => ?_
  refine dp 9 (.pointer (some ⟨b1, 0, none⟩)) h rfl fun a h => ?_
  refine dlo 10 0 (vb y0.1) h rfl rfl rfl fun a h => ?_
  refine dp 11 (vb (!y0.1)) h rfl fun a h => ?_
  refine dp 12 (.pointer (some ⟨b1, 1, none⟩)) h rfl fun a h => ?_
  refine dlo 13 0 (vs y0.2) h rfl rfl rfl fun a h => ?_
  refine dp 14 (.agg #[vb (!y0.1), vs y0.2]) h rfl fun a h => ?_
  refine d1 4 rfl ?_
  obtain ⟨r2, h2, hm⟩ := bnd hm
  refine b_call [3] [] h Try.call11 rfl rfl (c_keep_Src_Literal (y0 := r1) (y1 := 3) (h.po [3] []) ⟨(h.pf [3] [] 0), trivial⟩ h2) fun v a w hp hc => ?_
  obtain ⟨rfl, q⟩ := hp
  have e := hc.st q [bx b1 23 [vb y0.1, vs y0.2], bx b2 23 [vb y1.1, vs y1.2], bx b3 23 [vb y2.1, vs y2.2], bx b4 56 [.slice p2 (List.length r1.1) c2, vi r2.2]]
  have h := hc.on q [bx b1 23 [vb y0.1, vs y0.2], bx b2 23 [vb y1.1, vs y1.2], bx b3 23 [vb y2.1, vs y2.2], bx b4 56 [.slice p2 (List.length r1.1) c2, vi r2.2]]
  refine dn h e ?_
  refine d1 6 rfl ?_
  obtain ⟨r3, h3, hm⟩ := bnd hm
  refine b_call [3] [] h Try.call11 rfl rfl (c_keep_Src_Literal (y0 := (r1.1, r2.2)) (y1 := 3) (h.po [3] []) ⟨(h.pf [3] [] 0), trivial⟩ h3) fun v a w hp hc => ?_
  obtain ⟨rfl, q⟩ := hp
  have e := hc.st q [bx b1 23 [vb y0.1, vs y0.2], bx b2 23 [vb y1.1, vs y1.2], bx b3 23 [vb y2.1, vs y2.2], bx b4 56 [.slice p2 (List.length r1.1) c2, vi r3.2]]
  have h := hc.on q [bx b1 23 [vb y0.1, vs y0.2], bx b2 23 [vb y1.1, vs y1.2], bx b3 23 [vb y2.1, vs y2.2], bx b4 56 [.slice p2 (List.length r1.1) c2, vi r3.2]]
  refine dn h e ?_
  refine d1 8 rfl ?_
  obtain ⟨r4, h4, hm⟩ := bnd hm
  refine b_call [3] [] h Try.call10 rfl rfl (c_keep_Src_Odd (y0 := (r1.1, r3.2)) (h.po [3] []) ⟨(h.pf [3] [] 0), trivial⟩ h4) fun v a w hp hc => ?_
  obtain ⟨rfl, q⟩ := hp
  have e := hc.st q [bx b1 23 [vb y0.1, vs y0.2], bx b2 23 [vb y1.1, vs y1.2], bx b3 23 [vb y2.1, vs y2.2], bx b4 56 [.slice p2 (List.length r1.1) c2, vi r4.2]]
  have h := hc.on q [bx b1 23 [vb y0.1, vs y0.2], bx b2 23 [vb y1.1, vs y1.2], bx b3 23 [vb y2.1, vs y2.2], bx b4 56 [.slice p2 (List.length r1.1) c2, vi r4.2]]
  refine dn h e ?_
  refine d1 15 rfl ?_
  refine b_bs_rd (te := 23) (e := e_Literal) [vb y0.1, vs y0.2, vb y1.1, vs y1.2, vb y2.1, vs y2.2, vb r2.1.1, vs r2.1.2, vb r3.1.1, vs r3.1.2, vb r4.1.1, vs r4.1.2, vb (!y0.1), vs y0.2] ([y0, y1, y2, r2.1, r3.1, r4.1, (!y0.1, y0.2)] : List T_Literal) h ⟨_, _, rfl, eProd.mk eBool.mk eStr.mk, ⟨_, _, rfl, eProd.mk eBool.mk eStr.mk, ⟨_, _, rfl, eProd.mk eBool.mk eStr.mk, ⟨_, _, rfl, eProd.mk eBool.mk eStr.mk, ⟨_, _, rfl, eProd.mk eBool.mk eStr.mk, ⟨_, _, rfl, eProd.mk eBool.mk eStr.mk, ⟨_, _, rfl, eProd.mk eBool.mk eStr.mk, rfl⟩⟩⟩⟩⟩⟩⟩ fun p3 c3 a w h e => ?_
  refine dn h e ?_
  refine dp 16 (.slice p3 (List.length ([y0, y1, y2, r2.1, r3.1, r4.1, (!y0.1, y0.2)] : List T_Literal)) c3) h rfl fun a h => ?_
  refine de (then_n ?_)
  obtain ⟨os1, hx, hm⟩ := bnd hm
  refine seq_j (fun a w => ∃ s1 : Unit, os1 = .inl s1 ∧ (SS A [] w0 121 [] [[], [], [], []] [] a w)) ?_ ?_
  · have hm2 := hm
    replace hm := hx
    refine sp [(38, vi 0), (37, vi (len ([y0, y1, y2, r2.1, r3.1, r4.1, (!y0.1, y0.2)] : List T_Literal))), (36, .slice p3 (List.length ([y0, y1, y2, r2.1, r3.1, r4.1, (!y0.1, y0.2)] : List T_Literal)) c3)] h fun a h => ?_
    refine wp_block ?_
    refine loop_m (B := (m_law01_LiteralOrder_L1 y0 y1 y2 r2 r3 r4)) (fun (s2 : Int) a w => SS A [] w0 121 [(10, .slice p3 (List.length ([y0, y1, y2, r2.1, r3.1, r4.1, (!y0.1, y0.2)] : List T_Literal)) c3), (36, .slice p3 (List.length ([y0, y1, y2, r2.1, r3.1, r4.1, (!y0.1, y0.2)] : List T_Literal)) c3), (37, vi (len ([y0, y1, y2, r2.1, r3.1, r4.1, (!y0.1, y0.2)] : List T_Literal))), (38, vi s2)] [[], [], [], []] [R e_Literal p3 c3 (List.length ([y0, y1, y2, r2.1, r3.1, r4.1, (!y0.1, y0.2)] : List T_Literal)) ([y0, y1, y2, r2.1, r3.1, r4.1, (!y0.1, y0.2)] : List T_Literal)] a w) hm (h.tos [900, 901, 902, 903] ⟨(h.g 0), trivial⟩) ?_
    intro s2 a w o1 hJ hm hr1
    have h := hJ
    unfold m_law01_LiteralOrder_L1 at hm
    refine sp [(39, vb (decide (s2 < (len ([y0, y1, y2, r2.1, r3.1, r4.1, (!y0.1, y0.2)] : List T_Literal)))))] h fun a h => ?_
    refine wp_seq ?_
    refine cb h rfl (fun hb1 => ?_) (fun hb1 => ?_)
    · replace hm := ifT hb1 hm
      refine wp_skip ?_
      refine then_n ?_
      refine wp_seq ?_
      refine wp_block ?_
      refine sr ?_
      obtain ⟨x1, h5, hm⟩ := bnd hm
      refine sl (b_index_rd h (h.g 0) rfl rfl h5 fun b5 o2 a h => ?_)
      refine sl (b_load_pt true h (h.g 0) rfl fun ci1 hc1 v1 hv1 a h => ?_)
      replace hc1 : E.rd e_Literal _ _ ci1 x1 := hc1
      obtain ⟨_, _, rfl, rfl, rfl⟩ := hc1
      obtain rfl := Option.some.inj hv1
      have h := h.upd (t := 41) (.agg #[vb x1.1, vs x1.2]) rfl rfl
      refine sl (b_alloc h rfl fun b6 a w h e => ?_)
      refine sl (b_store_own 4 h rfl rfl rfl fun a w h e => ?_)
      refine oe ?_
      refine wp_seq ?_
      obtain ⟨s3, hx, hm⟩ := bnd hm
      refine seq_j (fun a w => SS A [] w0 121 [(10, .slice p3 (List.length ([y0, y1, y2, r2.1, r3.1, r4.1, (!y0.1, y0.2)] : List T_Literal)) c3), (12, .pointer (some ⟨b6, 0, none⟩)), (36, .slice p3 (List.length ([y0, y1, y2, r2.1, r3.1, r4.1, (!y0.1, y0.2)] : List T_Literal)) c3), (37, vi (len ([y0, y1, y2, r2.1, r3.1, r4.1, (!y0.1, y0.2)] : List T_Literal))), (38, vi s2), (53, vb s3)] [[], [], [], [], bx b6 23 [vb x1.1, vs x1.2]] [R e_Literal p3 c3 (List.length ([y0, y1, y2, r2.1, r3.1, r4.1, (!y0.1, y0.2)] : List T_Literal)) ([y0, y1, y2, r2.1, r3.1, r4.1, (!y0.1, y0.2)] : List T_Literal)] a w) ?_ ?_
      · replace hm := hx
        refine ds' [] [4] h fun w h => ?_
        refine dlo 0 4 (.agg #[vb x1.1, vs x1.2]) h rfl rfl rfl fun a h => ?_
        refine dlo 2 4 (.agg #[vb x1.1, vs x1.2]) h rfl rfl rfl fun a h => ?_
        refine d1 1 rfl ?_
        obtain ⟨r5, h6, hm⟩ := bnd hm
        refine b_call [] [] h Try.call21 rfl rfl (c_literal_Complement (y0 := x1) (h.po [] []) trivial h6) fun v a w hp hc => ?_
        obtain ⟨rfl, q⟩ := hp
        have e := hc.st q [[], [], [], [], bx b6 23 [vb x1.1, vs x1.2]]
        have h := hc.on q [[], [], [], [], bx b6 23 [vb x1.1, vs x1.2]]
        refine dn h e ?_
        refine d1 3 rfl ?_
        obtain ⟨r6, h7, hm⟩ := bnd hm
        refine b_call [] [] h Try.call22 rfl rfl (c_ref01_Complement (y0 := x1) (h.po [] []) trivial h7) fun v a w hp hc => ?_
        obtain ⟨rfl, q⟩ := hp
        have e := hc.st q [[], [], [], [], bx b6 23 [vb x1.1, vs x1.2]]
        have h := hc.on q [[], [], [], [], bx b6 23 [vb x1.1, vs x1.2]]
        refine dn h e ?_
        refine dp 4 (vb (!(r5 == r6))) h rfl fun a h => ?_
        refine dp 5 (vb (!(r5 == r6))) h rfl fun a h => ?_
        rcases Bool.eq_false_or_eq_true (!(r5 == r6)) with hb2 | hb2
        · have h := h.upd (t := 47) (vb true) rfl (congrArg Value.bool hb2)
          replace hm := ifT hb2 hm
          refine dk 6 h rfl fun a h => ?_
          refine dk 7 h rfl fun a h => ?_
          refine dk 8 h rfl fun a h => ?_
          refine dk 9 h rfl fun a h => ?_
          refine dk 10 h rfl fun a h => ?_
          refine dp 11 (vb true) h rfl fun a h => ?_
          refine de ?_
          obtain rfl := Option.some.inj hm
          exact then_n (h.tos [900, 901, 902, 903, 4] ⟨(h.g 1), trivial⟩)
        · have h := h.upd (t := 47) (vb false) rfl (congrArg Value.bool hb2)
          replace hm := ifF hb2 hm
          refine dlo 6 4 (.agg #[vb x1.1, vs x1.2]) h rfl rfl rfl fun a h => ?_
          refine dlo 9 4 (.agg #[vb x1.1, vs x1.2]) h rfl rfl rfl fun a h => ?_
          refine d1 7 rfl ?_
          obtain ⟨r7, h8, hm⟩ := bnd hm
          refine b_call [] [] h Try.call21 rfl rfl (c_literal_Complement (y0 := x1) (h.po [] []) trivial h8) fun v a w hp hc => ?_
          obtain ⟨rfl, q⟩ := hp
          have e := hc.st q [[], [], [], [], bx b6 23 [vb x1.1, vs x1.2]]
          have h := hc.on q [[], [], [], [], bx b6 23 [vb x1.1, vs x1.2]]
          refine dn h e ?_
          refine d1 8 rfl ?_
          obtain ⟨r8, h9, hm⟩ := bnd hm
          refine b_call [] [] h Try.call21 rfl rfl (c_literal_Complement (y0 := r7) (h.po [] []) trivial h9) fun v a w hp hc => ?_
          obtain ⟨rfl, q⟩ := hp
          have e := hc.st q [[], [], [], [], bx b6 23 [vb x1.1, vs x1.2]]
          have h := hc.on q [[], [], [], [], bx b6 23 [vb x1.1, vs x1.2]]
          refine dn h e ?_
          refine dp 10 (vb (!(r8 == x1))) h rfl fun a h => ?_
          refine dp 11 (vb (!(r8 == x1))) h rfl fun a h => ?_
          refine de ?_
          obtain rfl := Option.some.inj hm
          exact then_n (h.tos [900, 901, 902, 903, 4] ⟨(h.g 1), trivial⟩)
      intro a w hJ
      have h := hJ
      refine cb h rfl (fun hb3 => ?_) (fun hb3 => ?_)
      · replace hm := ifT hb3 hm
        refine sp [(8, vb false)] h fun a h => ?_
        refine wp_ret ?_
        refine then_r (inb_r (then_r (lp_r (inb_r (then_r ?_)))))
        replace hm := loopR hr1 hm
        obtain rfl := Option.some.inj hm
        replace hm := hm2
        obtain rfl := Option.some.inj hm
        exact rt1 h rfl rfl ⟨rfl, bk_sel h [] trivial⟩
      replace hm := ifF hb3 hm
      refine wp_skip ?_
      refine then_n ?_
      refine sp [(56, vi 0), (55, vi (len ([y0, y1, y2, r2.1, r3.1, r4.1, (!y0.1, y0.2)] : List T_Literal))), (54, .slice p3 (List.length ([y0, y1, y2, r2.1, r3.1, r4.1, (!y0.1, y0.2)] : List T_Literal)) c3)] h fun a h => ?_
      refine wp_block ?_
      refine loop_m (B := (m_law01_LiteralOrder_L2 y0 y1 y2 r2 r3 r4 x1 s2)) (fun (s4 : Int) a w => SS A [] w0 121 [(10, .slice p3 (List.length ([y0, y1, y2, r2.1, r3.1, r4.1, (!y0.1, y0.2)] : List T_Literal)) c3), (12, .pointer (some ⟨b6, 0, none⟩)), (36, .slice p3 (List.length ([y0, y1, y2, r2.1, r3.1, r4.1, (!y0.1, y0.2)] : List T_Literal)) c3), (37, vi (len ([y0, y1, y2, r2.1, r3.1, r4.1, (!y0.1, y0.2)] : List T_Literal))), (38, vi s2), (54, .slice p3 (List.length ([y0, y1, y2, r2.1, r3.1, r4.1, (!y0.1, y0.2)] : List T_Literal)) c3), (55, vi (len ([y0, y1, y2, r2.1, r3.1, r4.1, (!y0.1, y0.2)] : List T_Literal))), (56, vi s4)] [[], [], [], [], bx b6 23 [vb x1.1, vs x1.2]] [R e_Literal p3 c3 (List.length ([y0, y1, y2, r2.1, r3.1, r4.1, (!y0.1, y0.2)] : List T_Literal)) ([y0, y1, y2, r2.1, r3.1, r4.1, (!y0.1, y0.2)] : List T_Literal)] a w) hm (h.tos [900, 901, 902, 903, 4] ⟨(h.g 0), trivial⟩) ?_
      intro s4 a w o3 hJ hm hr2
      have h := hJ
      unfold m_law01_LiteralOrder_L2 at hm
      refine sp [(57, vb (decide (s4 < (len ([y0, y1, y2, r2.1, r3.1, r4.1, (!y0.1, y0.2)] : List T_Literal)))))] h fun a h => ?_
      refine wp_seq ?_
      refine cb h rfl (fun hb4 => ?_) (fun hb4 => ?_)
      · replace hm := ifT hb4 hm
        refine wp_skip ?_
        refine then_n ?_
        refine wp_seq ?_
        refine wp_block ?_
        refine sr ?_
        obtain ⟨x2, h10, hm⟩ := bnd hm
        refine sl (b_index_rd h (h.g 0) rfl rfl h10 fun b7 o4 a h => ?_)
        refine sl (b_load_pt true h (h.g 0) rfl fun ci2 hc2 v2 hv2 a h => ?_)
        replace hc2 : E.rd e_Literal _ _ ci2 x2 := hc2
        obtain ⟨_, _, rfl, rfl, rfl⟩ := hc2
        obtain rfl := Option.some.inj hv2
        have h := h.upd (t := 59) (.agg #[vb x2.1, vs x2.2]) rfl rfl
        refine sl (b_alloc h rfl fun b8 a w h e => ?_)
        refine sl (b_store_own 5 h rfl rfl rfl fun a w h e => ?_)
        refine oe ?_
        refine sr ?_
        refine sl (b_load_own 4 (.agg #[vb x1.1, vs x1.2]) h rfl rfl fun a h => ?_)
        refine sl (b_load_own 5 (.agg #[vb x2.1, vs x2.2]) h rfl rfl fun a h => ?_)
        obtain ⟨r9, h11, hm⟩ := bnd hm
        refine sl (b_call [] [] h Try.call23 rfl rfl (c_literal_Compare (y0 := x1) (y1 := x2) (h.po [] []) trivial h11) fun v a w hp hc => ?_)
        obtain ⟨rfl, q⟩ := hp
        have h := hc.on q [[], [], [], [], bx b6 23 [vb x1.1, vs x1.2], bx b8 23 [vb x2.1, vs x2.2]]
        refine pr 1 [(15, vi r9)] h fun a h => ?_
        refine oe ?_
        refine wp_seq ?_
        obtain ⟨s5, hx, hm⟩ := bnd hm
        refine seq_j (fun a w => SS A [] w0 121 [(10, .slice p3 (List.length ([y0, y1, y2, r2.1, r3.1, r4.1, (!y0.1, y0.2)] : List T_Literal)) c3), (12, .pointer (some ⟨b6, 0, none⟩)), (14, .pointer (some ⟨b8, 0, none⟩)), (15, vi r9), (36, .slice p3 (List.length ([y0, y1, y2, r2.1, r3.1, r4.1, (!y0.1, y0.2)] : List T_Literal)) c3), (37, vi (len ([y0, y1, y2, r2.1, r3.1, r4.1, (!y0.1, y0.2)] : List T_Literal))), (38, vi s2), (54, .slice p3 (List.length ([y0, y1, y2, r2.1, r3.1, r4.1, (!y0.1, y0.2)] : List T_Literal)) c3), (55, vi (len ([y0, y1, y2, r2.1, r3.1, r4.1, (!y0.1, y0.2)] : List T_Literal))), (56, vi s4), (83, vb s5)] [[], [], [], [], bx b6 23 [vb x1.1, vs x1.2], bx b8 23 [vb x2.1, vs x2.2]] [R e_Literal p3 c3 (List.length ([y0, y1, y2, r2.1, r3.1, r4.1, (!y0.1, y0.2)] : List T_Literal)) ([y0, y1, y2, r2.1, r3.1, r4.1, (!y0.1, y0.2)] : List T_Literal)] a w) ?_ ?_
        · replace hm := hx
          refine reg ?_
          refine pr 1 [(63, vi r9)] h fun a h => ?_
          refine sl (b_load_own 4 (.agg #[vb x1.1, vs x1.2]) h rfl rfl fun a h => ?_)
          refine sl (b_load_own 5 (.agg #[vb x2.1, vs x2.2]) h rfl rfl fun a h => ?_)
          obtain ⟨r10, h12, hm⟩ := bnd hm
          refine sl (b_call [] [] h Try.call24 rfl rfl (c_ref01_Compare (y0 := x1) (y1 := x2) (h.po [] []) trivial h12) fun v a w hp hc => ?_)
          obtain ⟨rfl, q⟩ := hp
          have h := hc.on q [[], [], [], [], bx b6 23 [vb x1.1, vs x1.2], bx b8 23 [vb x2.1, vs x2.2]]
          refine pr 2 [(68, vb (r9 != r10))] h fun a h => ?_
          rcases Bool.eq_false_or_eq_true (r9 != r10) with hb5 | hb5
          · have h := h.upd (t := 68) (vb true) rfl (congrArg Value.bool hb5)
            replace hm := ifT hb5 hm
            refine pr 15 [(83, vb true)] h fun a h => ?_
            refine ops_end ?_
            obtain rfl := Option.some.inj hm
            exact then_n (h.tos [900, 901, 902, 903, 4, 5] ⟨(h.g 1), trivial⟩)
          · have h := h.upd (t := 68) (vb false) rfl (congrArg Value.bool hb5)
            replace hm := ifF hb5 hm
            refine pr 1 [(69, vi r9)] h fun a h => ?_
            refine sl (b_load_own 5 (.agg #[vb x2.1, vs x2.2]) h rfl rfl fun a h => ?_)
            refine sl (b_load_own 4 (.agg #[vb x1.1, vs x1.2]) h rfl rfl fun a h => ?_)
            obtain ⟨r11, h13, hm⟩ := bnd hm
            refine sl (b_call [] [] h Try.call23 rfl rfl (c_literal_Compare (y0 := x2) (y1 := x1) (h.po [] []) trivial h13) fun v a w hp hc => ?_)
            obtain ⟨rfl, q⟩ := hp
            have h := hc.on q [[], [], [], [], bx b6 23 [vb x1.1, vs x1.2], bx b8 23 [vb x2.1, vs x2.2]]
            refine pr 4 [(76, vb (r9 != (w64 (0 - r11))))] h fun a h => ?_
            rcases Bool.eq_false_or_eq_true (r9 != (w64 (0 - r11))) with hb6 | hb6
            · have h := h.upd (t := 76) (vb true) rfl (congrArg Value.bool hb6)
              replace hm := ifT hb6 hm
              refine pr 7 [(83, vb true)] h fun a h => ?_
              refine ops_end ?_
              obtain rfl := Option.some.inj hm
              exact then_n (h.tos [900, 901, 902, 903, 4, 5] ⟨(h.g 1), trivial⟩)
            · have h := h.upd (t := 76) (vb false) rfl (congrArg Value.bool hb6)
              replace hm := ifF hb6 hm
              refine pr 2 [(78, vb (r9 == 0))] h fun a h => ?_
              refine sl (b_load_own 4 (.agg #[vb x1.1, vs x1.2]) h rfl rfl fun a h => ?_)
              refine sl (b_load_own 5 (.agg #[vb x2.1, vs x2.2]) h rfl rfl fun a h => ?_)
              refine pr 3 [(83, vb (!((r9 == 0) == (x1 == x2))))] h fun a h => ?_
              refine ops_end ?_
              obtain rfl := Option.some.inj hm
              exact then_n (h.tos [900, 901, 902, 903, 4, 5] ⟨(h.g 1), trivial⟩)
        intro a w hJ
        have h := hJ
        refine cb h rfl (fun hb7 => ?_) (fun hb7 => ?_)
        · replace hm := ifT hb7 hm
          refine sp [(8, vb false)] h fun a h => ?_
          refine wp_ret ?_
          refine then_r (inb_r (then_r (lp_r (inb_r (inb_r (then_r (lp_r (inb_r (then_r ?_)))))))))
          replace hm := loopR hr2 hm
          replace hm := loopR hr1 hm
          obtain rfl := Option.some.inj hm
          replace hm := hm2
          obtain rfl := Option.some.inj hm
          exact rt1 h rfl rfl ⟨rfl, bk_sel h [] trivial⟩
        replace hm := ifF hb7 hm
        refine wp_skip ?_
        refine then_n ?_
        refine wp_seq ?_
        obtain ⟨s6, hx, hm⟩ := bnd hm
        refine seq_j (fun a w => SS A [] w0 121 [(10, .slice p3 (List.length ([y0, y1, y2, r2.1, r3.1, r4.1, (!y0.1, y0.2)] : List T_Literal)) c3), (12, .pointer (some ⟨b6, 0, none⟩)), (14, .pointer (some ⟨b8, 0, none⟩)), (15, vi r9), (36, .slice p3 (List.length ([y0, y1, y2, r2.1, r3.1, r4.1, (!y0.1, y0.2)] : List T_Literal)) c3), (37, vi (len ([y0, y1, y2, r2.1, r3.1, r4.1, (!y0.1, y0.2)] : List T_Literal))), (38, vi s2), (54, .slice p3 (List.length ([y0, y1, y2, r2.1, r3.1, r4.1, (!y0.1, y0.2)] : List T_Literal)) c3), (55, vi (len ([y0, y1, y2, r2.1, r3.1, r4.1, (!y0.1, y0.2)] : List T_Literal))), (56, vi s4), (96, vb s6)] [[], [], [], [], bx b6 23 [vb x1.1, vs x1.2], bx b8 23 [vb x2.1, vs x2.2]] [R e_Literal p3 c3 (List.length ([y0, y1, y2, r2.1, r3.1, r4.1, (!y0.1, y0.2)] : List T_Literal)) ([y0, y1, y2, r2.1, r3.1, r4.1, (!y0.1, y0.2)] : List T_Literal)] a w) ?_ ?_
        · replace hm := hx
          refine ds' [] [4, 5] h fun w h => ?_
          refine dp 0 (.pointer (some ⟨b6, 1, none⟩)) h rfl fun a h => ?_
          refine dlo 1 4 (vs x1.2) h rfl rfl rfl fun a h => ?_
          refine dp 2 (.pointer (some ⟨b8, 1, none⟩)) h rfl fun a h => ?_
          refine dlo 3 5 (vs x2.2) h rfl rfl rfl fun a h => ?_
          refine dp 4 (vb (!(x1.2 == x2.2))) h rfl fun a h => ?_
          refine dp 5 (vb (!(x1.2 == x2.2))) h rfl fun a h => ?_
          rcases Bool.eq_false_or_eq_true (!(x1.2 == x2.2)) with hb8 | hb8
          · have h := h.upd (t := 89) (vb true) rfl (congrArg Value.bool hb8)
            replace hm := ifT hb8 hm
            refine dlo 6 4 (.agg #[vb x1.1, vs x1.2]) h rfl rfl rfl fun a h => ?_
            refine dlo 8 5 (.agg #[vb x2.1, vs x2.2]) h rfl rfl rfl fun a h => ?_
            refine dp 10 (vi r9) h rfl fun a h => ?_
            refine d1 7 rfl ?_
            obtain ⟨r12, h14, hm⟩ := bnd hm
            refine b_call [] [] h Try.call21 rfl rfl (c_literal_Complement (y0 := x1) (h.po [] []) trivial h14) fun v a w hp hc => ?_
            obtain ⟨rfl, q⟩ := hp
            have e := hc.st q [[], [], [], [], bx b6 23 [vb x1.1, vs x1.2], bx b8 23 [vb x2.1, vs x2.2]]
            have h := hc.on q [[], [], [], [], bx b6 23 [vb x1.1, vs x1.2], bx b8 23 [vb x2.1, vs x2.2]]
            refine dn h e ?_
            refine d1 9 rfl ?_
            obtain ⟨r13, h15, hm⟩ := bnd hm
            refine b_call [] [] h Try.call23 rfl rfl (c_literal_Compare (y0 := r12) (y1 := x2) (h.po [] []) trivial h15) fun v a w hp hc => ?_
            obtain ⟨rfl, q⟩ := hp
            have e := hc.st q [[], [], [], [], bx b6 23 [vb x1.1, vs x1.2], bx b8 23 [vb x2.1, vs x2.2]]
            have h := hc.on q [[], [], [], [], bx b6 23 [vb x1.1, vs x1.2], bx b8 23 [vb x2.1, vs x2.2]]
            refine dn h e ?_
            refine dp 11 (vb (r13 != r9)) h rfl fun a h => ?_
            refine dp 12 (vb (r13 != r9)) h rfl fun a h => ?_
            refine de ?_
            obtain rfl := Option.some.inj hm
            exact then_n (h.tos [900, 901, 902, 903, 4, 5] ⟨(h.g 0), trivial⟩)
          · have h := h.upd (t := 89) (vb false) rfl (congrArg Value.bool hb8)
            replace hm := ifF hb8 hm
            refine dk 6 h rfl fun a h => ?_
            refine dk 7 h rfl fun a h => ?_
            refine dk 8 h rfl fun a h => ?_
            refine dk 9 h rfl fun a h => ?_
            refine dk 10 h rfl fun a h => ?_
            refine dk 11 h rfl fun a h => ?_
            refine dp 12 (vb false) h rfl fun a h => ?_
            refine de ?_
            obtain rfl := Option.some.inj hm
            exact then_n (h.tos [900, 901, 902, 903, 4, 5] ⟨(h.g 0), trivial⟩)
        intro a w hJ
        have h := hJ
        refine cb h rfl (fun hb9 => ?_) (fun hb9 => ?_)
        · replace hm := ifT hb9 hm
          refine sp [(8, vb false)] h fun a h => ?_
          refine wp_ret ?_
          refine then_r (inb_r (then_r (lp_r (inb_r (inb_r (then_r (lp_r (inb_r (then_r ?_)))))))))
          replace hm := loopR hr2 hm
          replace hm := loopR hr1 hm
          obtain rfl := Option.some.inj hm
          replace hm := hm2
          obtain rfl := Option.some.inj hm
          exact rt1 h rfl rfl ⟨rfl, bk_sel h [] trivial⟩
        replace hm := ifF hb9 hm
        refine wp_skip ?_
        refine then_n ?_
        refine sp [(99, vi 0), (98, vi (len ([y0, y1, y2, r2.1, r3.1, r4.1, (!y0.1, y0.2)] : List T_Literal))), (97, .slice p3 (List.length ([y0, y1, y2, r2.1, r3.1, r4.1, (!y0.1, y0.2)] : List T_Literal)) c3)] h fun a h => ?_
        refine wp_block ?_
        refine loop_m (B := (m_law01_LiteralOrder_L3 y0 y1 y2 r2 r3 r4 r9 x2 x1 s4)) (fun (s7 : Int) a w => SS A [] w0 121 [(10, .slice p3 (List.length ([y0, y1, y2, r2.1, r3.1, r4.1, (!y0.1, y0.2)] : List T_Literal)) c3), (12, .pointer (some ⟨b6, 0, none⟩)), (14, .pointer (some ⟨b8, 0, none⟩)), (15, vi r9), (36, .slice p3 (List.length ([y0, y1, y2, r2.1, r3.1, r4.1, (!y0.1, y0.2)] : List T_Literal)) c3), (37, vi (len ([y0, y1, y2, r2.1, r3.1, r4.1, (!y0.1, y0.2)] : List T_Literal))), (38, vi s2), (54, .slice p3 (List.length ([y0, y1, y2, r2.1, r3.1, r4.1, (!y0.1, y0.2)] : List T_Literal)) c3), (55, vi (len ([y0, y1, y2, r2.1, r3.1, r4.1, (!y0.1, y0.2)] : List T_Literal))), (56, vi s4), (97, .slice p3 (List.length ([y0, y1, y2, r2.1, r3.1, r4.1, (!y0.1, y0.2)] : List T_Literal)) c3), (98, vi (len ([y0, y1, y2, r2.1, r3.1, r4.1, (!y0.1, y0.2)] : List T_Literal))), (99, vi s7)] [[], [], [], [], bx b6 23 [vb x1.1, vs x1.2], bx b8 23 [vb x2.1, vs x2.2]] [R e_Literal p3 c3 (List.length ([y0, y1, y2, r2.1, r3.1, r4.1, (!y0.1, y0.2)] : List T_Literal)) ([y0, y1, y2, r2.1, r3.1, r4.1, (!y0.1, y0.2)] : List T_Literal)] a w) hm (h.tos [900, 901, 902, 903, 4, 5] ⟨(h.g 0), trivial⟩) ?_
        intro s7 a w o5 hJ hm hr3
        have h := hJ
        unfold m_law01_LiteralOrder_L3 at hm
        refine sp [(100, vb (decide (s7 < (len ([y0, y1, y2, r2.1, r3.1, r4.1, (!y0.1, y0.2)] : List T_Literal)))))] h fun a h => ?_
        refine wp_seq ?_
        refine cb h rfl (fun hb10 => ?_) (fun hb10 => ?_)
        · replace hm := ifT hb10 hm
          refine wp_skip ?_
          refine then_n ?_
          refine wp_seq ?_
          refine wp_block ?_
          refine sr ?_
          obtain ⟨x3, h16, hm⟩ := bnd hm
          refine sl (b_index_rd h (h.g 0) rfl rfl h16 fun b9 o6 a h => ?_)
          refine sl (b_load_pt true h (h.g 0) rfl fun ci3 hc3 v3 hv3 a h => ?_)
          replace hc3 : E.rd e_Literal _ _ ci3 x3 := hc3
          obtain ⟨_, _, rfl, rfl, rfl⟩ := hc3
          obtain rfl := Option.some.inj hv3
          have h := h.upd (t := 102) (.agg #[vb x3.1, vs x3.2]) rfl rfl
          refine sl (b_alloc h rfl fun b10 a w h e => ?_)
          refine sl (b_store_own 6 h rfl rfl rfl fun a w h e => ?_)
          refine oe ?_
          obtain ⟨s8, hx, hm⟩ := bnd hm
          refine seq_j (fun a w => SS A [] w0 121 [(10, .slice p3 (List.length ([y0, y1, y2, r2.1, r3.1, r4.1, (!y0.1, y0.2)] : List T_Literal)) c3), (12, .pointer (some ⟨b6, 0, none⟩)), (14, .pointer (some ⟨b8, 0, none⟩)), (15, vi r9), (36, .slice p3 (List.length ([y0, y1, y2, r2.1, r3.1, r4.1, (!y0.1, y0.2)] : List T_Literal)) c3), (37, vi (len ([y0, y1, y2, r2.1, r3.1, r4.1, (!y0.1, y0.2)] : List T_Literal))), (38, vi s2), (54, .slice p3 (List.length ([y0, y1, y2, r2.1, r3.1, r4.1, (!y0.1, y0.2)] : List T_Literal)) c3), (55, vi (len ([y0, y1, y2, r2.1, r3.1, r4.1, (!y0.1, y0.2)] : List T_Literal))), (56, vi s4), (97, .slice p3 (List.length ([y0, y1, y2, r2.1, r3.1, r4.1, (!y0.1, y0.2)] : List T_Literal)) c3), (98, vi (len ([y0, y1, y2, r2.1, r3.1, r4.1, (!y0.1, y0.2)] : List T_Literal))), (99, vi s7), (116, vb s8)] [[], [], [], [], bx b6 23 [vb x1.1, vs x1.2], bx b8 23 [vb x2.1, vs x2.2], []] [R e_Literal p3 c3 (List.length ([y0, y1, y2, r2.1, r3.1, r4.1, (!y0.1, y0.2)] : List T_Literal)) ([y0, y1, y2, r2.1, r3.1, r4.1, (!y0.1, y0.2)] : List T_Literal)] a w) ?_ ?_
          · replace hm := hx
            refine reg ?_
            refine pr 3 [(105, vb (decide (r9 ≤ 0)))] h fun a h => ?_
            rcases Bool.eq_false_or_eq_true (decide (r9 ≤ 0)) with hb11 | hb11
            · have h := h.upd (t := 105) (vb true) rfl (congrArg Value.bool hb11)
              replace hm := ifT hb11 hm
              refine sl (b_load_own 5 (.agg #[vb x2.1, vs x2.2]) h rfl rfl fun a h => ?_)
              refine sl (b_load_own 6 (.agg #[vb x3.1, vs x3.2]) h rfl rfl fun a h => ?_)
              obtain ⟨r14, h17, hm⟩ := bnd hm
              refine sl (b_call [] [] h Try.call23 rfl rfl (c_literal_Compare (y0 := x2) (y1 := x3) (h.po [] []) trivial h17) fun v a w hp hc => ?_)
              obtain ⟨rfl, q⟩ := hp
              have h := hc.on q [[], [], [], [], bx b6 23 [vb x1.1, vs x1.2], bx b8 23 [vb x2.1, vs x2.2], bx b10 23 [vb x3.1, vs x3.2]]
              refine pr 3 [(111, vb (decide (r14 ≤ 0)))] h fun a h => ?_
              rcases Bool.eq_false_or_eq_true (decide (r14 ≤ 0)) with hb12 | hb12
              · have h := h.upd (t := 111) (vb true) rfl (congrArg Value.bool hb12)
                replace hm := ifT hb12 hm
                refine sl (b_load_own 4 (.agg #[vb x1.1, vs x1.2]) h rfl rfl fun a h => ?_)
                refine sl (b_load_own 6 (.agg #[vb x3.1, vs x3.2]) h rfl rfl fun a h => ?_)
                obtain ⟨r15, h18, hm⟩ := bnd hm
                refine sl (b_call [] [] h Try.call23 rfl rfl (c_literal_Compare (y0 := x1) (y1 := x3) (h.po [] []) trivial h18) fun v a w hp hc => ?_)
                obtain ⟨rfl, q⟩ := hp
                have h := hc.on q [[], [], [], [], bx b6 23 [vb x1.1, vs x1.2], bx b8 23 [vb x2.1, vs x2.2], bx b10 23 [vb x3.1, vs x3.2]]
                refine pr 2 [(116, vb (decide (0 < r15)))] h fun a h => ?_
                refine ops_end ?_
                obtain rfl := Option.some.inj hm
                exact then_n (h.tos [900, 901, 902, 903, 4, 5, 906] ⟨(h.g 1), trivial⟩)
              · have h := h.upd (t := 111) (vb false) rfl (congrArg Value.bool hb12)
                replace hm := ifF hb12 hm
                refine pr 5 [(116, vb false)] h fun a h => ?_
                refine ops_end ?_
                obtain rfl := Option.some.inj hm
                exact then_n (h.tos [900, 901, 902, 903, 4, 5, 906] ⟨(h.g 1), trivial⟩)
            · have h := h.upd (t := 105) (vb false) rfl (congrArg Value.bool hb11)
              replace hm := ifF hb11 hm
              refine pr 11 [(116, vb false)] h fun a h => ?_
              refine ops_end ?_
              obtain rfl := Option.some.inj hm
              exact then_n (h.tos [900, 901, 902, 903, 4, 5, 906] ⟨(h.g 1), trivial⟩)
          intro a w hJ
          have h := hJ
          refine cb h rfl (fun hb13 => ?_) (fun hb13 => ?_)
          · replace hm := ifT hb13 hm
            refine sp [(8, vb false)] h fun a h => ?_
            refine wp_ret ?_
            refine inb_r (then_r (lp_r (inb_r (inb_r (then_r (lp_r (inb_r (inb_r (then_r (lp_r (inb_r (then_r ?_))))))))))))
            replace hm := loopR hr3 hm
            replace hm := loopR hr2 hm
            replace hm := loopR hr1 hm
            obtain rfl := Option.some.inj hm
            replace hm := hm2
            obtain rfl := Option.some.inj hm
            exact rt1 h rfl rfl ⟨rfl, bk_sel h [] trivial⟩
          replace hm := ifF hb13 hm
          refine wp_skip ?_
          refine inb_n ?_
          refine then_n ?_
          refine reg ?_
          refine pr 2 [(99, vi (w64 (s7 + 1)))] h fun a h => ?_
          refine ops_end ?_
          obtain rfl := Option.some.inj hm
          exact lp_n rfl (h.tos [900, 901, 902, 903, 4, 5] ⟨(h.g 0), trivial⟩)
        replace hm := ifF hb10 hm
        refine wp_exit ?_
        refine then_e (lp_e (inb_hit ?_))
        replace hm := loopR hr3 hm
        refine inb_n ?_
        refine then_n ?_
        refine reg ?_
        refine pr 2 [(56, vi (w64 (s4 + 1)))] h fun a h => ?_
        refine ops_end ?_
        obtain rfl := Option.some.inj hm
        exact lp_n rfl (h.tos [900, 901, 902, 903, 4] ⟨(h.g 0), trivial⟩)
      replace hm := ifF hb4 hm
      refine wp_exit ?_
      refine then_e (lp_e (inb_hit ?_))
      replace hm := loopR hr2 hm
      refine inb_n ?_
      refine then_n ?_
      refine reg ?_
      refine pr 2 [(38, vi (w64 (s2 + 1)))] h fun a h => ?_
      refine ops_end ?_
      obtain rfl := Option.some.inj hm
      exact lp_n rfl (h.tos [900, 901, 902, 903] ⟨(h.g 0), trivial⟩)
    replace hm := ifF hb1 hm
    refine wp_exit ?_
    refine then_e (lp_e (inb_hit ?_))
    replace hm := loopR hr1 hm
    obtain rfl := Option.some.inj hm
    exact then_n ⟨_, rfl, h.tos [900, 901, 902, 903] trivial⟩
  intro a w hJ
  obtain ⟨s1, rfl, h⟩ := hJ
  refine sr ?_
  obtain ⟨r16, h19, hm⟩ := bnd hm
  refine sl (b_call [] [] h Try.call20 rfl rfl (c_law01_awake (h.po [] []) trivial h19) fun v a w hp hc => ?_)
  obtain ⟨rfl, q⟩ := hp
  have h := hc.on q [[], [], [], []]
  refine pr 1 [(8, vb r16)] h fun a h => ?_
  refine oe ?_
  refine wp_ret ?_
  obtain rfl := Option.some.inj hm
  exact rt1 h rfl rfl ⟨rfl, bk_sel h [] trivial⟩

theorem c_law01_LiteralBack {A : List Nat} {w0 : World} {y0 : Str} {y1 : List Int} {p1 : Option Addr} {c1 : Nat} {r : Bool} (hO : Own A w0 []) (hF : All [R (eInt .i64) p1 c1 (List.length y1) y1] (bl [] ++ A) w0) (hm : m_law01_LiteralBack y0 y1 = some r) :
    Calls Try.prog 5 [vs y0, .slice p1 (List.length y1) c1].toArray w0 (Ret fun v w => v = vb r ∧ Bk A [] w0 [] [] w) := by
  unfold m_law01_LiteralBack at hm
  refine ent Try.func5 rfl hO hF fun a h => ?_
  refine sp [] h fun a h => ?_
  refine sr ?_
  refine pr 1 [(12, .slice p1 (List.length y1) c1)] h fun a h => ?_
  obtain ⟨r1, h1, hm⟩ := bnd hm
  refine sl (b_call [] [] h Try.call9 rfl rfl (c_keep_New (y0 := y1) (h.po [] []) ⟨(h.pf [] [] 0), trivial⟩ h1) fun v a w hp hc => ?_)
  obtain ⟨b1, p2, c2, rfl, q⟩ := hp
  have h := hc.on q [bx b1 56 [.slice p2 (List.length r1.1) c2, vi r1.2]]
  refine pr 1 [(5, .pointer (some ⟨b1, 0, none⟩))] h fun a h => ?_
  refine oe ?_
  obtain ⟨os1, hx, hm⟩ := bnd hm
  refine seq_j (fun a w => ∃ s1 : Unit, os1 = .inl s1 ∧ (SS A [] w0 47 [(0, vs y0)] [[]] [] a w)) ?_ ?_
  · have hm2 := hm
    replace hm := hx
    refine sp [(6, vi 0)] h fun a h => ?_
    refine wp_block ?_
    refine loop_m (B := (m_law01_LiteralBack_L1 r1)) (fun (s2 : Int × Int) a w => SS A [] w0 47 [(0, vs y0), (5, .pointer (some ⟨b1, 0, none⟩)), (6, vi s2.1)] [bx b1 56 [.slice p2 (List.length r1.1) c2, vi s2.2]] [R (eInt .i64) p2 c2 (List.length r1.1) r1.1] a w) hm (h.to 1 ⟨(h.g 0), trivial⟩) ?_
    intro s2 a w o1 hJ hm hr1
    have h := hJ
    unfold m_law01_LiteralBack_L1 at hm
    refine wp_seq ?_
    refine sp [(15, vb (decide (s2.1 < 4)))] h fun a h => ?_
    refine cb h rfl (fun hb1 => ?_) (fun hb1 => ?_)
    · replace hm := ifT hb1 hm
      refine wp_skip ?_
      refine then_n ?_
      refine wp_seq ?_
      refine wp_block ?_
      refine sr ?_
      refine pr 1 [(18, .pointer (some ⟨b1, 0, none⟩))] h fun a h => ?_
      obtain ⟨r2, h2, hm⟩ := bnd hm
      refine sl (b_call [0] [] h Try.call11 rfl rfl (c_keep_Src_Literal (y0 := (r1.1, s2.2)) (y1 := 26) (h.po [0] []) ⟨(h.pf [0] [] 0), trivial⟩ h2) fun v a w hp hc => ?_)
      obtain ⟨rfl, q⟩ := hp
      have h := hc.on q [bx b1 56 [.slice p2 (List.length r1.1) c2, vi r2.2]]
      refine sl (b_alloc h rfl fun b2 a w h e => ?_)
      refine sl (b_store_own 1 h rfl rfl rfl fun a w h e => ?_)
      refine oe ?_
      refine sr ?_
      refine sl (b_load_own 1 (.agg #[vb r2.1.1, vs r2.1.2]) h rfl rfl fun a h => ?_)
      obtain ⟨r3, h3, hm⟩ := bnd hm
      refine sl (b_call [] [] h Try.call16 rfl rfl (c_literal_Format (y0 := r2.1) (h.po [] []) trivial h3) fun v a w hp hc => ?_)
      obtain ⟨rfl, q⟩ := hp
      have h := hc.on q [bx b1 56 [.slice p2 (List.length r1.1) c2, vi r2.2], bx b2 23 [vb r2.1.1, vs r2.1.2]]
      obtain ⟨r4, h4, hm⟩ := bnd hm
      refine sl (b_call [] [] h Try.call18 rfl rfl (c_literal_Parse (y0 := r3) (h.po [] []) trivial h4) fun v a w hp hc => ?_)
      obtain ⟨rfl, q⟩ := hp
      have h := hc.on q [bx b1 56 [.slice p2 (List.length r1.1) c2, vi r2.2], bx b2 23 [vb r2.1.1, vs r2.1.2]]
      refine pr 3 [(25, vi r4.2), (24, .agg #[vb r4.1.1, vs r4.1.2])] h fun a h => ?_
      refine sl (b_alloc h rfl fun b3 a w h e => ?_)
      refine sl (b_store_own 2 h rfl rfl rfl fun a w h e => ?_)
      refine pr 1 [(9, vi r4.2)] h fun a h => ?_
      refine oe ?_
      refine seq_j (fun a w => SS A [] w0 47 [(0, vs y0), (5, .pointer (some ⟨b1, 0, none⟩)), (6, vi s2.1), (32, vb ((r4.2 != 0) || (!(r4.1 == r2.1))))] [bx b1 56 [.slice p2 (List.length r1.1) c2, vi r2.2], [], []] [R (eInt .i64) p2 c2 (List.length r1.1) r1.1] a w) ?_ ?_
      · refine reg ?_
        refine pr 3 [(28, vb (r4.2 != 0))] h fun a h => ?_
        rcases Bool.eq_false_or_eq_true (r4.2 != 0) with hb2 | hb2
        · have h := h.upd (t := 28) (vb true) rfl (congrArg Value.bool hb2)
          refine pr 4 [(32, vb true)] h fun a h => ?_
          refine ops_end ?_
          have h := h.upd (t := 32) (vb ((r4.2 != 0) || (!(r4.1 == r2.1)))) rfl (by rw [hb2]; rfl)
          exact then_n (h.tos [0, 901, 902] ⟨(h.g 0), trivial⟩)
        · have h := h.upd (t := 28) (vb false) rfl (congrArg Value.bool hb2)
          refine sl (b_load_own 2 (.agg #[vb r4.1.1, vs r4.1.2]) h rfl rfl fun a h => ?_)
          refine sl (b_load_own 1 (.agg #[vb r2.1.1, vs r2.1.2]) h rfl rfl fun a h => ?_)
          refine pr 2 [(32, vb (!(r4.1 == r2.1)))] h fun a h => ?_
          refine ops_end ?_
          have h := h.upd (t := 32) (vb ((r4.2 != 0) || (!(r4.1 == r2.1)))) rfl (by rw [hb2]; rfl)
          exact then_n (h.tos [0, 901, 902] ⟨(h.g 0), trivial⟩)
      intro a w hJ
      have h := hJ
      refine cb h rfl (fun hb3 => ?_) (fun hb3 => ?_)
      · replace hm := ifT hb3 hm
        refine sp [(4, vb false)] h fun a h => ?_
        refine wp_ret ?_
        refine inb_r (then_r (lp_r (inb_r (then_r ?_))))
        replace hm := loopR hr1 hm
        obtain rfl := Option.some.inj hm
        replace hm := hm2
        obtain rfl := Option.some.inj hm
        exact rt1 h rfl rfl ⟨rfl, bk_sel h [] trivial⟩
      replace hm := ifF hb3 hm
      refine wp_skip ?_
      refine inb_n ?_
      refine then_n ?_
      refine reg ?_
      refine pr 3 [(6, vi (w64 (s2.1 + 1)))] h fun a h => ?_
      refine ops_end ?_
      obtain rfl := Option.some.inj hm
      exact lp_n rfl (h.to 1 ⟨(h.g 0), trivial⟩)
    replace hm := ifF hb1 hm
    refine wp_exit ?_
    refine then_e (lp_e (inb_hit ?_))
    replace hm := loopR hr1 hm
    obtain rfl := Option.some.inj hm
    exact then_n ⟨_, rfl, h.tos [900] trivial⟩
  intro a w hJ
  obtain ⟨s1, rfl, h⟩ := hJ
  refine wp_seq ?_
  refine sr ?_
  refine pr 1 [(34, vs y0)] h fun a h => ?_
  obtain ⟨r5, h5, hm⟩ := bnd hm
  refine sl (b_call [] [] h Try.call18 rfl rfl (c_literal_Parse (y0 := y0) (h.po [] []) trivial h5) fun v a w hp hc => ?_)
  obtain ⟨rfl, q⟩ := hp
  have h := hc.on q [[]]
  refine pr 3 [(37, vi r5.2), (36, .agg #[vb r5.1.1, vs r5.1.2])] h fun a h => ?_
  refine sl (b_alloc h rfl fun b4 a w h e => ?_)
  refine sl (b_store_own 1 h rfl rfl rfl fun a w h e => ?_)
  refine pr 1 [(11, vi r5.2)] h fun a h => ?_
  refine oe ?_
  obtain ⟨s3, hx, hm⟩ := bnd hm
  refine seq_j (fun a w => SS A [] w0 47 [(45, vb s3)] [[], []] [] a w) ?_ ?_
  · replace hm := hx
    refine reg ?_
    refine pr 3 [(40, vb (r5.2 == 0))] h fun a h => ?_
    rcases Bool.eq_false_or_eq_true (r5.2 == 0) with hb4 | hb4
    · have h := h.upd (t := 40) (vb true) rfl (congrArg Value.bool hb4)
      replace hm := ifT hb4 hm
      refine sl (b_load_own 1 (.agg #[vb r5.1.1, vs r5.1.2]) h rfl rfl fun a h => ?_)
      obtain ⟨r6, h6, hm⟩ := bnd hm
      refine sl (b_call [] [] h Try.call16 rfl rfl (c_literal_Format (y0 := r5.1) (h.po [] []) trivial h6) fun v a w hp hc => ?_)
      obtain ⟨rfl, q⟩ := hp
      have h := hc.on q [[], bx b4 23 [vb r5.1.1, vs r5.1.2]]
      refine pr 3 [(45, vb (!(r6 == y0)))] h fun a h => ?_
      refine ops_end ?_
      obtain rfl := Option.some.inj hm
      exact then_n (h.tos [900, 901] trivial)
    · have h := h.upd (t := 40) (vb false) rfl (congrArg Value.bool hb4)
      replace hm := ifF hb4 hm
      refine pr 5 [(45, vb false)] h fun a h => ?_
      refine ops_end ?_
      obtain rfl := Option.some.inj hm
      exact then_n (h.tos [900, 901] trivial)
  intro a w hJ
  have h := hJ
  refine cb h rfl (fun hb5 => ?_) (fun hb5 => ?_)
  · replace hm := ifT hb5 hm
    refine sp [(4, vb false)] h fun a h => ?_
    refine wp_ret ?_
    refine then_r ?_
    obtain rfl := Option.some.inj hm
    exact rt1 h rfl rfl ⟨rfl, bk_sel h [] trivial⟩
  replace hm := ifF hb5 hm
  refine wp_skip ?_
  refine then_n ?_
  refine sr ?_
  obtain ⟨r7, h7, hm⟩ := bnd hm
  refine sl (b_call [] [] h Try.call20 rfl rfl (c_law01_awake (h.po [] []) trivial h7) fun v a w hp hc => ?_)
  obtain ⟨rfl, q⟩ := hp
  have h := hc.on q [[], []]
  refine pr 1 [(4, vb r7)] h fun a h => ?_
  refine oe ?_
  refine wp_ret ?_
  obtain rfl := Option.some.inj hm
  exact rt1 h rfl rfl ⟨rfl, bk_sel h [] trivial⟩

theorem c_keep_Src_Literals {A : List Nat} {w0 : World} {y0 : T_keep_Src} {b1 : Nat} {p1 : Option Addr} {c1 : Nat} {y1 : Int} {y2 : Int} {r : (List T_Literal) × Int} (hO : Own A w0 [bx b1 56 [.slice p1 (List.length y0.1) c1, vi y0.2]]) (hF : All [R (eInt .i64) p1 c1 (List.length y0.1) y0.1] (bl [bx b1 56 [.slice p1 (List.length y0.1) c1, vi y0.2]] ++ A) w0) (hm : m_keep_Src_Literals y0 y1 y2 = some r) :
    Calls Try.prog 25 [.pointer (some ⟨b1, 0, none⟩), vi y1, vi y2].toArray w0 (Ret fun v w => ∃ (p2 : Option Addr) (c2 : Nat), v = .slice p2 (List.length r.1) c2 ∧ Bk A [bx b1 56 [.slice p1 (List.length y0.1) c1, vi y0.2]] w0 [bx b1 56 [.slice p1 (List.length y0.1) c1, vi r.2]] [R e_Literal p2 c2 (List.length r.1) r.1] w) := by
  unfold m_keep_Src_Literals at hm
  refine ent Try.func25 rfl hO hF fun a h => ?_
  refine sp [] h fun a h => ?_
  refine sr ?_
  have h := h.room e_Literal 23
  refine pr 1 [(7, .slice none 0 0)] h fun a h => ?_
  refine oe ?_
  refine wp_seq ?_
  refine sr ?_
  refine pr 3 [(11, vi (w64 (y1 + 1))), (9, .pointer (some ⟨b1, 0, none⟩))] h fun a h => ?_
  obtain ⟨r1, h1, hm⟩ := bnd hm
  refine sl (b_call [0] [] h Try.call27 rfl rfl (c_keep_Src_N (y0 := y0) (y1 := w64 (y1 + 1)) (h.po [0] []) ⟨(h.pf [0] [] 1), trivial⟩ h1) fun v a w hp hc => ?_)
  obtain ⟨rfl, q⟩ := hp
  have h := hc.on q [bx b1 56 [.slice p1 (List.length y0.1) c1, vi r1.2], []]
  refine pr 1 [(8, vi r1.1)] h fun a h => ?_
  refine oe ?_
  refine wp_block ?_
  have h := h.upd (t := 7) (.slice none (List.length ([] : List T_Literal)) 0) rfl (by rw [Ar.ln (h.g 0)])
  have h := h.add (Ar.re (h.g 0))
  refine loop_m (B := (m_keep_Src_Literals_L1 y0 y2)) (fun (s1 : (List T_Literal) × Int × Int) a w => ∃ (p2 : Option Addr) (c2 : Nat) (r_1 : Res), SS A [bx b1 56 [.slice p1 (List.length y0.1) c1, vi y0.2]] w0 24 [(0, .pointer (some ⟨b1, 0, none⟩)), (2, vi y2), (7, .slice p2 (List.length s1.1) c2), (8, vi s1.2.1)] [bx b1 56 [.slice p1 (List.length y0.1) c1, vi s1.2.2], r_1] [Ar e_Literal 23 r_1 p2 c2 (List.length s1.1) s1.1, R (eInt .i64) p1 c1 (List.length y0.1) y0.1] a w) hm ⟨none, 0, [], h.to 2 ⟨(h.g 0), (h.g 2), trivial⟩⟩ ?_
  intro s1 a w o1 hJ hm hr1
  obtain ⟨p2, c2, r_1, h⟩ := hJ
  unfold m_keep_Src_Literals_L1 at hm
  refine wp_seq ?_
  refine sp [(14, vb (decide (0 < s1.2.1)))] h fun a h => ?_
  refine cb h rfl (fun hb1 => ?_) (fun hb1 => ?_)
  · replace hm := ifT hb1 hm
    refine wp_skip ?_
    refine then_n ?_
    refine wp_seq ?_
    refine wp_block ?_
    refine reg ?_
    refine pr 3 [(19, vi y2), (18, .pointer (some ⟨b1, 0, none⟩)), (17, .slice p2 (List.length s1.1) c2)] h fun a h => ?_
    obtain ⟨r2, h2, hm⟩ := bnd hm
    refine sl (b_call [0] [] h Try.call11 rfl rfl (c_keep_Src_Literal (y0 := (y0.1, s1.2.2)) (y1 := y2) (h.po [0] []) ⟨(h.pf [0] [] 1), trivial⟩ h2) fun v a w hp hc => ?_)
    obtain ⟨rfl, q⟩ := hp
    have h := hc.on q [bx b1 56 [.slice p1 (List.length y0.1) c1, vi r2.2], r_1]
    refine sl (b_bs_rd (te := 23) (e := e_Literal) [vb r2.1.1, vs r2.1.2] ([r2.1] : List T_Literal) h ⟨_, _, rfl, eProd.mk eBool.mk eStr.mk, rfl⟩ fun p3 c3 a w h e => ?_)
    obtain ⟨x1, h3, hm⟩ := bnd hm
    refine sl (b_append_r (te := 23) 1 h (h.g 1) (h.g 0) rfl rfl h3 fun r_2 p4 c4 a w h e => ?_)
    refine pr 1 [(7, .slice p4 (List.length x1) c4)] h fun a h => ?_
    refine ops_end ?_
    refine inb_n ?_
    refine then_n ?_
    refine reg ?_
    refine pr 3 [(8, vi (w64 (s1.2.1 - 1)))] h fun a h => ?_
    refine ops_end ?_
    obtain rfl := Option.some.inj hm
    exact lp_n rfl ⟨p4, c4, r_2, h.to 2 ⟨(h.g 0), (h.g 3), trivial⟩⟩
  replace hm := ifF hb1 hm
  refine wp_exit ?_
  refine then_e (lp_e (inb_hit ?_))
  replace hm := loopR hr1 hm
  refine then_n ?_
  refine sp [(6, .slice p2 (List.length s1.1) c2)] h fun a h => ?_
  refine wp_ret ?_
  obtain rfl := Option.some.inj hm
  have h := h.share 1 (h.g 0)
  exact rt1 h rfl rfl ⟨p2, c2, rfl, bk_sel h [0] ⟨(h.g 0), trivial⟩⟩

theorem c_slices_Index_Literal {A : List Nat} {w0 : World} {y0 : List T_Literal} {p1 : Option Addr} {c1 : Nat} {y1 : T_Literal} {r : Int} (hO : Own A w0 []) (hF : All [R e_Literal p1 c1 (List.length y0) y0] (bl [] ++ A) w0) (hm : m_slices_Index_Literal y0 y1 = some r) :
    Calls Try.prog 50 [.slice p1 (List.length y0) c1, .agg #[vb y1.1, vs y1.2]].toArray w0 (Ret fun v w => v = vi r ∧ Bk A [] w0 [] [] w) := by
  unfold m_slices_Index_Literal at hm
  refine ent Try.func50 rfl hO hF fun a h => ?_
  refine sr ?_
  refine sl (b_box h rfl fun b1 a w h e => ?_)
  refine pr 1 [] h fun a h => ?_
  refine oe ?_
  refine wp_seq ?_
  refine sp [(8, vi 0), (7, vi (len y0))] h fun a h => ?_
  refine wp_block ?_
  refine loop_m (B := (m_slices_Index_Literal_L1 y0 y1)) (fun (s1 : Int) a w => SS A [] w0 19 [(0, .slice p1 (List.length y0) c1), (3, .pointer (some ⟨b1, 0, none⟩)), (7, vi (len y0)), (8, vi s1)] [bx b1 23 [vb y1.1, vs y1.2]] [R e_Literal p1 c1 (List.length y0) y0] a w) hm (h.to 1 ⟨(h.g 0), trivial⟩) ?_
  intro s1 a w o1 hJ hm hr1
  have h := hJ
  unfold m_slices_Index_Literal_L1 at hm
  refine sp [(9, vb (decide (s1 < (len y0))))] h fun a h => ?_
  refine wp_seq ?_
  refine cb h rfl (fun hb1 => ?_) (fun hb1 => ?_)
  · replace hm := ifT hb1 hm
    refine wp_skip ?_
    refine then_n ?_
    refine wp_seq ?_
    refine wp_block ?_
    refine sp [(5, vi s1)] h fun a h => ?_
    refine ds [] [0] h fun w h => ?_
    refine dlo 0 0 (.agg #[vb y1.1, vs y1.2]) h rfl rfl rfl fun a h => ?_
    refine dp 1 (.slice p1 (List.length y0) c1) h rfl fun a h => ?_
    refine dp 2 (vi s1) h rfl fun a h => ?_
    obtain ⟨x1, h1, hm⟩ := bnd hm
    refine dir 3 h rfl (h.g 0) rfl rfl h1 fun b2 o2 a h => ?_
    refine dlp 4 true h rfl (h.g 0) rfl fun ci1 hc1 v1 hv1 a h => ?_
    replace hc1 : E.rd e_Literal _ _ ci1 x1 := hc1
    obtain ⟨_, _, rfl, rfl, rfl⟩ := hc1
    obtain rfl := Option.some.inj hv1
    have h := h.upd (t := 15) (.agg #[vb x1.1, vs x1.2]) rfl rfl
    refine dp 5 (vb (y1 == x1)) h rfl fun a h => ?_
    refine de (then_n ?_)
    refine cb h rfl (fun hb2 => ?_) (fun hb2 => ?_)
    · replace hm := ifT hb2 hm
      refine sp [(4, vi s1)] h fun a h => ?_
      refine wp_ret ?_
      refine inb_r (then_r (lp_r (inb_r (then_r ?_))))
      replace hm := loopR hr1 hm
      obtain rfl := Option.some.inj hm
      exact rt1 h rfl rfl ⟨rfl, bk_sel h [] trivial⟩
    replace hm := ifF hb2 hm
    refine wp_skip ?_
    refine inb_n ?_
    refine then_n ?_
    refine reg ?_
    refine pr 2 [(8, vi (w64 (s1 + 1)))] h fun a h => ?_
    refine ops_end ?_
    obtain rfl := Option.some.inj hm
    exact lp_n rfl (h.to 1 ⟨(h.g 1), trivial⟩)
  replace hm := ifF hb1 hm
  refine wp_exit ?_
  refine then_e (lp_e (inb_hit ?_))
  replace hm := loopR hr1 hm
  refine then_n ?_
  refine sp [(4, vi (-1))] h fun a h => ?_
  refine wp_ret ?_
  obtain rfl := Option.some.inj hm
  exact rt1 h rfl rfl ⟨rfl, bk_sel h [] trivial⟩

theorem c_slices_Contains_Literal {A : List Nat} {w0 : World} {y0 : List T_Literal} {p1 : Option Addr} {c1 : Nat} {y1 : T_Literal} {r : Bool} (hO : Own A w0 []) (hF : All [R e_Literal p1 c1 (List.length y0) y0] (bl [] ++ A) w0) (hm : m_slices_Contains_Literal y0 y1 = some r) :
    Calls Try.prog 43 [.slice p1 (List.length y0) c1, .agg #[vb y1.1, vs y1.2]].toArray w0 (Ret fun v w => v = vb r ∧ Bk A [] w0 [] [] w) := by
  unfold m_slices_Contains_Literal at hm
  refine ent Try.func43 rfl hO hF fun a h => ?_
  refine sr ?_
  refine sl (b_box h rfl fun b1 a w h e => ?_)
  refine pr 1 [] h fun a h => ?_
  refine oe ?_
  refine sr ?_
  refine pr 1 [(5, .slice p1 (List.length y0) c1)] h fun a h => ?_
  refine sl (b_load_own 0 (.agg #[vb y1.1, vs y1.2]) h rfl rfl fun a h => ?_)
  obtain ⟨r1, h1, hm⟩ := bnd hm
  refine sl (b_call [] [] h Try.call50 rfl rfl (c_slices_Index_Literal (y0 := y0) (y1 := y1) (h.po [] []) ⟨(h.pf [] [] 0), trivial⟩ h1) fun v a w hp hc => ?_)
  obtain ⟨rfl, q⟩ := hp
  have h := hc.on q [bx b1 23 [vb y1.1, vs y1.2]]
  refine pr 2 [(4, vb (decide (0 ≤ r1)))] h fun a h => ?_
  refine oe ?_
  refine wp_ret ?_
  obtain rfl := Option.some.inj hm
  exact rt1 h rfl rfl ⟨rfl, bk_sel h [] trivial⟩

theorem c_literal_Has {A : List Nat} {w0 : World} {y0 : List T_Literal} {p1 : Option Addr} {c1 : Nat} {y1 : T_Literal} {r : Bool} (hO : Own A w0 []) (hF : All [R e_Literal p1 c1 (List.length y0) y0] (bl [] ++ A) w0) (hm : m_literal_Has y0 y1 = some r) :
    Calls Try.prog 30 [.slice p1 (List.length y0) c1, .agg #[vb y1.1, vs y1.2]].toArray w0 (Ret fun v w => v = vb r ∧ Bk A [] w0 [] [] w) := by
  unfold m_literal_Has at hm
  refine ent Try.func30 rfl hO hF fun a h => ?_
  refine sr ?_
  refine sl (b_box h rfl fun b1 a w h e => ?_)
  refine pr 1 [] h fun a h => ?_
  refine oe ?_
  refine sr ?_
  refine pr 1 [(5, .slice p1 (List.length y0) c1)] h fun a h => ?_
  refine sl (b_load_own 0 (.agg #[vb y1.1, vs y1.2]) h rfl rfl fun a h => ?_)
  obtain ⟨r1, h1, hm⟩ := bnd hm
  refine sl (b_call [] [] h Try.call43 rfl rfl (c_slices_Contains_Literal (y0 := y0) (y1 := y1) (h.po [] []) ⟨(h.pf [] [] 0), trivial⟩ h1) fun v a w hp hc => ?_)
  obtain ⟨rfl, q⟩ := hp
  have h := hc.on q [bx b1 23 [vb y1.1, vs y1.2]]
  refine pr 1 [(4, vb r1)] h fun a h => ?_
  refine oe ?_
  refine wp_ret ?_
  obtain rfl := Option.some.inj hm
  exact rt1 h rfl rfl ⟨rfl, bk_sel h [] trivial⟩

theorem c_ref01_Same {A : List Nat} {w0 : World} {y0 : List T_Literal} {p1 : Option Addr} {c1 : Nat} {y1 : List T_Literal} {p2 : Option Addr} {c2 : Nat} {r : Bool} (hO : Own A w0 []) (hF : All [R e_Literal p1 c1 (List.length y0) y0, R e_Literal p2 c2 (List.length y1) y1] (bl [] ++ A) w0) (hm : m_ref01_Same y0 y1 = some r) :
    Calls Try.prog 29 [.slice p1 (List.length y0) c1, .slice p2 (List.length y1) c2].toArray w0 (Ret fun v w => v = vb r ∧ Bk A [] w0 [] [] w) := by
  unfold m_ref01_Same at hm
  refine ent Try.func29 rfl hO hF fun a h => ?_
  refine sp [] h fun a h => ?_
  refine wp_seq ?_
  refine sp [(10, vb ((len y0) != (len y1)))] h fun a h => ?_
  refine cb h rfl (fun hb1 => ?_) (fun hb1 => ?_)
  · replace hm := ifT hb1 hm
    refine sp [(4, vb false)] h fun a h => ?_
    refine wp_ret ?_
    refine then_r ?_
    obtain rfl := Option.some.inj hm
    exact rt1 h rfl rfl ⟨rfl, bk_sel h [] trivial⟩
  replace hm := ifF hb1 hm
  refine wp_skip ?_
  refine then_n ?_
  refine wp_seq ?_
  refine sp [(5, vi 0)] h fun a h => ?_
  refine wp_block ?_
  refine loop_m (B := (m_ref01_Same_L1 y0 y1)) (fun (s1 : Int) a w => SS A [] w0 26 [(0, .slice p1 (List.length y0) c1), (1, .slice p2 (List.length y1) c2), (5, vi s1)] [] [R e_Literal p1 c1 (List.length y0) y0, R e_Literal p2 c2 (List.length y1) y1] a w) hm (h.to 0 ⟨(h.g 0), (h.g 1), trivial⟩) ?_
  intro s1 a w o1 hJ hm hr1
  have h := hJ
  unfold m_ref01_Same_L1 at hm
  refine wp_seq ?_
  refine sp [(14, vb (decide (s1 < (len y0))))] h fun a h => ?_
  refine cb h rfl (fun hb2 => ?_) (fun hb2 => ?_)
  · replace hm := ifT hb2 hm
    refine wp_skip ?_
    refine then_n ?_
    refine wp_seq ?_
    refine wp_block ?_
    refine ds [] [] h fun w h => ?_
    refine dp 0 (.slice p1 (List.length y0) c1) h rfl fun a h => ?_
    refine dp 1 (vi s1) h rfl fun a h => ?_
    obtain ⟨x1, h1, hm⟩ := bnd hm
    refine dir 2 h rfl (h.g 0) rfl rfl h1 fun b1 o2 a h => ?_
    refine dlp 3 true h rfl (h.g 0) rfl fun ci1 hc1 v1 hv1 a h => ?_
    replace hc1 : E.rd e_Literal _ _ ci1 x1 := hc1
    obtain ⟨_, _, rfl, rfl, rfl⟩ := hc1
    obtain rfl := Option.some.inj hv1
    have h := h.upd (t := 20) (.agg #[vb x1.1, vs x1.2]) rfl rfl
    refine dp 4 (.slice p2 (List.length y1) c2) h rfl fun a h => ?_
    refine dp 5 (vi s1) h rfl fun a h => ?_
    obtain ⟨x2, h2, hm⟩ := bnd hm
    refine dir 6 h rfl (h.g 2) rfl rfl h2 fun b2 o3 a h => ?_
    refine dlp 7 true h rfl (h.g 0) rfl fun ci2 hc2 v2 hv2 a h => ?_
    replace hc2 : E.rd e_Literal _ _ ci2 x2 := hc2
    obtain ⟨_, _, rfl, rfl, rfl⟩ := hc2
    obtain rfl := Option.some.inj hv2
    have h := h.upd (t := 24) (.agg #[vb x2.1, vs x2.2]) rfl rfl
    refine dp 8 (vb (!(x1 == x2))) h rfl fun a h => ?_
    refine de (then_n ?_)
    refine cb h rfl (fun hb3 => ?_) (fun hb3 => ?_)
    · replace hm := ifT hb3 hm
      refine sp [(4, vb false)] h fun a h => ?_
      refine wp_ret ?_
      refine inb_r (then_r (lp_r (inb_r (then_r ?_))))
      replace hm := loopR hr1 hm
      obtain rfl := Option.some.inj hm
      exact rt1 h rfl rfl ⟨rfl, bk_sel h [] trivial⟩
    replace hm := ifF hb3 hm
    refine wp_skip ?_
    refine inb_n ?_
    refine then_n ?_
    refine reg ?_
    refine pr 3 [(5, vi (w64 (s1 + 1)))] h fun a h => ?_
    refine ops_end ?_
    obtain rfl := Option.some.inj hm
    exact lp_n rfl (h.to 0 ⟨(h.g 2), (h.g 3), trivial⟩)
  replace hm := ifF hb2 hm
  refine wp_exit ?_
  refine then_e (lp_e (inb_hit ?_))
  replace hm := loopR hr1 hm
  refine then_n ?_
  refine sp [(4, vb true)] h fun a h => ?_
  refine wp_ret ?_
  obtain rfl := Option.some.inj hm
  exact rt1 h rfl rfl ⟨rfl, bk_sel h [] trivial⟩

theorem c_law01_LiteralNormal {A : List Nat} {w0 : World} {y0 : List Int} {p1 : Option Addr} {c1 : Nat} {y1 : List Int} {p2 : Option Addr} {c2 : Nat} {r : Bool} (hO : Own A w0 []) (hF : All [R (eInt .i64) p1 c1 (List.length y0) y0, R (eInt .i64) p2 c2 (List.length y1) y1] (bl [] ++ A) w0) (hm : m_law01_LiteralNormal y0 y1 = some r) :
    Calls Try.prog 6 [.slice p1 (List.length y0) c1, .slice p2 (List.length y1) c2].toArray w0 (Ret fun v w => v = vb r ∧ Bk A [] w0 [] [] w) := by
  unfold m_law01_LiteralNormal at hm
  refine ent Try.func6 rfl hO hF fun a h => ?_
  refine sp [] h fun a h => ?_
  refine sr ?_
  refine pr 1 [(14, .slice p1 (List.length y0) c1)] h fun a h => ?_
  obtain ⟨r1, h1, hm⟩ := bnd hm
  refine sl (b_call [] [] h Try.call9 rfl rfl (c_keep_New (y0 := y0) (h.po [] []) ⟨(h.pf [] [] 0), trivial⟩ h1) fun v a w hp hc => ?_)
  obtain ⟨b1, p3, c3, rfl, q⟩ := hp
  have h := hc.on q [bx b1 56 [.slice p3 (List.length r1.1) c3, vi r1.2]]
  refine pr 1 [(5, .pointer (some ⟨b1, 0, none⟩))] h fun a h => ?_
  refine oe ?_
  refine sr ?_
  refine pr 1 [(16, .pointer (some ⟨b1, 0, none⟩))] h fun a h => ?_
  obtain ⟨r2, h2, hm⟩ := bnd hm
  refine sl (b_call [0] [] h Try.call25 rfl rfl (c_keep_Src_Literals (y0 := r1) (y1 := 10) (y2 := 4) (h.po [0] []) ⟨(h.pf [0] [] 0), trivial⟩ h2) fun v a w hp hc => ?_)
  obtain ⟨p4, c4, rfl, q⟩ := hp
  have h := hc.on q [bx b1 56 [.slice p3 (List.length r1.1) c3, vi r2.2]]
  refine pr 1 [(6, .slice p4 (List.length r2.1) c4)] h fun a h => ?_
  refine oe ?_
  refine sr ?_
  refine sl (b_bs_own (te := 23) (e := e_Literal) [] ([] : List T_Literal) h rfl fun r_1 p5 c5 a w h e => ?_)
  refine pr 1 [(19, .slice p4 (List.length r2.1) c4)] h fun a h => ?_
  obtain ⟨x1, h3, hm⟩ := bnd hm
  refine sl (b_append_r (te := 23) 1 h (h.g 0) (h.g 1) rfl rfl h3 fun r_2 p6 c6 a w h e => ?_)
  refine pr 1 [(7, .slice p6 (List.length x1) c6)] h fun a h => ?_
  refine oe ?_
  obtain ⟨s1, hx, hm⟩ := bnd hm
  refine seq_j (fun a w => ∃ (p7 : Option Addr) (c7 : Nat) (r_3 : Res), SS A [] w0 124 [(5, .pointer (some ⟨b1, 0, none⟩)), (6, .slice p4 (List.length r2.1) c4), (7, .slice p7 (List.length s1) c7)] [bx b1 56 [.slice p3 (List.length r1.1) c3, vi r2.2], r_3] [Ar e_Literal 23 r_3 p7 c7 (List.length s1) s1, R e_Literal p4 c4 (List.length r2.1) r2.1, R (eInt .i64) p3 c3 (List.length r1.1) r1.1] a w) ?_ ?_
  · have hm2 := hm
    replace hm := hx
    refine sp [(23, vi 0), (22, vi (len x1))] h fun a h => ?_
    refine wp_block ?_
    refine loop_m (B := (m_law01_LiteralNormal_L1 x1 y1)) (fun (s2 : (List T_Literal) × Int) a w => ∃ (r_4 : Res), SS A [] w0 124 [(1, .slice p2 (List.length y1) c2), (5, .pointer (some ⟨b1, 0, none⟩)), (6, .slice p4 (List.length r2.1) c4), (7, .slice p6 (List.length x1) c6), (22, vi (len x1)), (23, vi s2.2)] [bx b1 56 [.slice p3 (List.length r1.1) c3, vi r2.2], r_4] [Ar e_Literal 23 r_4 p6 c6 (List.length x1) s2.1, R (eInt .i64) p2 c2 (List.length y1) y1, R e_Literal p4 c4 (List.length r2.1) r2.1, R (eInt .i64) p3 c3 (List.length r1.1) r1.1] a w) hm ⟨r_2, h.to 2 ⟨(h.g 0), (h.g 5), (h.g 2), (h.g 3), trivial⟩⟩ ?_
    intro s2 a w o1 hJ hm hr1
    obtain ⟨r_4, h⟩ := hJ
    unfold m_law01_LiteralNormal_L1 at hm
    refine sp [(24, vb (decide (s2.2 < (len x1))))] h fun a h => ?_
    refine wp_seq ?_
    refine cb h rfl (fun hb1 => ?_) (fun hb1 => ?_)
    · replace hm := ifT hb1 hm
      refine wp_skip ?_
      refine then_n ?_
      refine wp_seq ?_
      refine wp_block ?_
      refine sp [(8, vi s2.2)] h fun a h => ?_
      refine sp [(29, vb (decide (s2.2 < (len y1))))] h fun a h => ?_
      refine cb h rfl (fun hb2 => ?_) (fun hb2 => ?_)
      · replace hm := ifT hb2 hm
        refine sr ?_
        refine pr 2 [(31, vi s2.2), (30, .slice p2 (List.length y1) c2)] h fun a h => ?_
        obtain ⟨x2, h4, hm⟩ := bnd hm
        refine sl (b_index_rd h (h.g 1) rfl rfl h4 fun b2 o2 a h => ?_)
        refine sl (b_load_pt false h (h.g 0) rfl fun ci1 hc1 v1 hv1 a h => ?_)
        replace hc1 : E.rd (eInt .i64) _ _ ci1 x2 := hc1
        obtain rfl := hc1
        obtain rfl := Option.some.inj hv1
        refine pr 2 [(35, vi (len x1))] h fun a h => ?_
        obtain ⟨r3, h5, hm⟩ := bnd hm
        refine sl (b_call [] [] h Try.call26 rfl rfl (c_keep_Mod (y0 := x2) (y1 := len x1) (h.po [] []) trivial h5) fun v a w hp hc => ?_)
        obtain ⟨rfl, q⟩ := hp
        have h := hc.on q [bx b1 56 [.slice p3 (List.length r1.1) c3, vi r2.2], r_4]
        refine pr 1 [(9, vi r3)] h fun a h => ?_
        refine oe ?_
        refine ds' [13, 15] [1] h fun w h => ?_
        refine dp 0 (.slice p6 (List.length x1) c6) h rfl fun a h => ?_
        refine dp 1 (vi s2.2) h rfl fun a h => ?_
        refine dp 2 (.slice p6 (List.length x1) c6) h rfl fun a h => ?_
        refine dp 3 (vi r3) h rfl fun a h => ?_
        refine dp 4 (.slice p6 (List.length x1) c6) h rfl fun a h => ?_
        refine dp 5 (vi r3) h rfl fun a h => ?_
        obtain ⟨x3, h6, hm⟩ := bnd hm
        refine dia 6 h rfl (h.g 1) rfl rfl h6 fun b3 hp1 a h => ?_
        refine dla 7 1 ((Sub.id e_Literal)) true h rfl (h.g 1) hp1 h6 rfl fun ci2 hc2 v2 hv2 a h => ?_
        replace hc2 : E.rd e_Literal _ _ ci2 x3 := hc2
        obtain ⟨_, _, rfl, rfl, rfl⟩ := hc2
        obtain rfl := Option.some.inj hv2
        have h := h.upd (t := 44) (.agg #[vb x3.1, vs x3.2]) rfl rfl
        refine dp 8 (.slice p6 (List.length x1) c6) h rfl fun a h => ?_
        refine dp 9 (vi s2.2) h rfl fun a h => ?_
        obtain ⟨x4, h7, hm⟩ := bnd hm
        refine dia 10 h rfl (h.g 1) rfl rfl h7 fun b4 hp2 a h => ?_
        refine dla 11 1 ((Sub.id e_Literal)) true h rfl (h.g 1) hp2 h7 rfl fun ci3 hc3 v3 hv3 a h => ?_
        replace hc3 : E.rd e_Literal _ _ ci3 x4 := hc3
        obtain ⟨_, _, rfl, rfl, rfl⟩ := hc3
        obtain rfl := Option.some.inj hv3
        have h := h.upd (t := 48) (.agg #[vb x4.1, vs x4.2]) rfl rfl
        obtain ⟨x5, h8, hm⟩ := bnd hm
        refine dia 12 h rfl (h.g 1) rfl rfl h8 fun b5 hp3 a h => ?_
        refine d1 13 rfl ?_
        refine b_store_arr 1 ((Sub.id e_Literal)) (v := .agg #[vb x3.1, vs x3.2]) x3 true h (h.g 1) hp3 h8 rfl rfl (eProd.mk eBool.mk eStr.mk) fun r_5 a w h e => ?_
        refine db [] [] h ?_
        obtain ⟨x6, h9, hm⟩ := bnd hm
        refine dia 14 h rfl (h.g 0) rfl rfl h9 fun b6 hp4 a h => ?_
        refine d1 15 rfl ?_
        refine b_store_arr 1 ((Sub.id e_Literal)) (v := .agg #[vb x4.1, vs x4.2]) x4 true h (h.g 0) hp4 h9 rfl rfl (eProd.mk eBool.mk eStr.mk) fun r_6 a w h e => ?_
        refine dn h e ?_
        refine de ?_
        refine inb_n ?_
        refine then_n ?_
        refine reg ?_
        refine pr 2 [(23, vi (w64 (s2.2 + 1)))] h fun a h => ?_
        refine ops_end ?_
        obtain rfl := Option.some.inj hm
        exact lp_n rfl ⟨r_6, h.to 2 ⟨(h.g 0), (h.g 4), (h.g 5), (h.g 6), trivial⟩⟩
      replace hm := ifF hb2 hm
      refine wp_skip ?_
      refine inb_n ?_
      refine then_n ?_
      refine reg ?_
      refine pr 2 [(23, vi (w64 (s2.2 + 1)))] h fun a h => ?_
      refine ops_end ?_
      obtain rfl := Option.some.inj hm
      exact lp_n rfl ⟨r_4, h.to 2 ⟨(h.g 0), (h.g 1), (h.g 2), (h.g 3), trivial⟩⟩
    replace hm := ifF hb1 hm
    refine wp_exit ?_
    refine then_e (lp_e (inb_hit ?_))
    replace hm := loopR hr1 hm
    obtain rfl := Option.some.inj hm
    have h := h.upd (t := 7) (.slice p6 (List.length s2.1) c6) rfl (by rw [Ar.ln (h.g 0)])
    have h := h.add (Ar.re (h.g 0))
    exact then_n ⟨p6, c6, r_4, h.to 2 ⟨(h.g 0), (h.g 3), (h.g 4), trivial⟩⟩
  intro a w hJ
  obtain ⟨p7, c7, r_3, h⟩ := hJ
  obtain ⟨s3, hx, hm⟩ := bnd hm
  refine seq_j (fun a w => ∃ (p8 : Option Addr) (c8 : Nat) (r_7 : Res), SS A [] w0 124 [(6, .slice p4 (List.length r2.1) c4), (7, .slice p8 (List.length s3) c8)] [[], r_7] [Ar e_Literal 23 r_7 p8 c8 (List.length s3) s3, R e_Literal p4 c4 (List.length r2.1) r2.1] a w) ?_ ?_
  · have hm2 := hm
    replace hm := hx
    refine sp [(54, vb (decide (0 < (len s1))))] h fun a h => ?_
    refine cb h rfl (fun hb3 => ?_) (fun hb3 => ?_)
    · replace hm := ifT hb3 hm
      refine reg ?_
      refine pr 5 [(59, vi (len s1)), (57, .pointer (some ⟨b1, 0, none⟩)), (56, .slice p7 (List.length s1) c7), (55, .slice p7 (List.length s1) c7)] h fun a h => ?_
      obtain ⟨r4, h10, hm⟩ := bnd hm
      refine sl (b_call [0] [] h Try.call27 rfl rfl (c_keep_Src_N (y0 := (r1.1, r2.2)) (y1 := len s1) (h.po [0] []) ⟨(h.pf [0] [] 2), trivial⟩ h10) fun v a w hp hc => ?_)
      obtain ⟨rfl, q⟩ := hp
      have h := hc.on q [bx b1 56 [.slice p3 (List.length r1.1) c3, vi r4.2], r_3]
      obtain ⟨x7, h11, hm⟩ := bnd hm
      refine sl (b_index_arr h (h.g 0) rfl rfl h11 fun b7 hp5 a h => ?_)
      refine sl (b_load_arr 1 ((Sub.id e_Literal)) true h (h.g 0) hp5 h11 rfl fun ci4 hc4 v4 hv4 a h => ?_)
      replace hc4 : E.rd e_Literal _ _ ci4 x7 := hc4
      obtain ⟨_, _, rfl, rfl, rfl⟩ := hc4
      obtain rfl := Option.some.inj hv4
      have h := h.upd (t := 62) (.agg #[vb x7.1, vs x7.2]) rfl rfl
      refine sl (b_bs_rd (te := 23) (e := e_Literal) [vb x7.1, vs x7.2] ([x7] : List T_Literal) h ⟨_, _, rfl, eProd.mk eBool.mk eStr.mk, rfl⟩ fun p9 c9 a w h e => ?_)
      obtain ⟨x8, h12, hm⟩ := bnd hm
      refine sl (b_append_r (te := 23) 1 h (h.g 1) (h.g 0) rfl rfl h12 fun r_8 p10 c10 a w h e => ?_)
      refine pr 1 [(7, .slice p10 (List.length x8) c10)] h fun a h => ?_
      refine ops_end ?_
      obtain rfl := Option.some.inj hm
      exact then_n ⟨p10, c10, r_8, h.tos [900, 1] ⟨(h.g 0), (h.g 3), trivial⟩⟩
    replace hm := ifF hb3 hm
    refine wp_skip ?_
    obtain rfl := Option.some.inj hm
    exact then_n ⟨p7, c7, r_3, h.tos [900, 1] ⟨(h.g 0), (h.g 1), trivial⟩⟩
  intro a w hJ
  obtain ⟨p8, c8, r_7, h⟩ := hJ
  refine sr ?_
  refine pr 1 [(65, .slice p4 (List.length r2.1) c4)] h fun a h => ?_
  obtain ⟨r5, h13, hm⟩ := bnd hm
  refine sl (b_call [] [] h Try.call28 rfl rfl (c_literal_Normal (y0 := r2.1) (h.po [] []) ⟨(h.pf [] [] 1), trivial⟩ h13) fun v a w hp hc => ?_)
  obtain ⟨p11, c11, rfl, q⟩ := hp
  have h := hc.on q [[], r_7]
  refine pr 1 [(67, .slice p8 (List.length s3) c8)] h fun a h => ?_
  have h := h.share 1 (h.g 1)
  obtain ⟨r6, h14, hm⟩ := bnd hm
  refine sl (b_call [] [] h Try.call28 rfl rfl (c_literal_Normal (y0 := s3) (h.po [] []) ⟨(h.pf [] [] 0), trivial⟩ h14) fun v a w hp hc => ?_)
  obtain ⟨p12, c12, rfl, q⟩ := hp
  have h := hc.on q [[], []]
  refine pr 2 [(11, .slice p12 (List.length r6) c12), (10, .slice p11 (List.length r5) c11)] h fun a h => ?_
  refine oe ?_
  refine wp_seq ?_
  obtain ⟨s4, hx, hm⟩ := bnd hm
  refine seq_j (fun a w => SS A [] w0 124 [(6, .slice p4 (List.length r2.1) c4), (10, .slice p11 (List.length r5) c11), (79, vb s4)] [[], []] [R e_Literal p4 c4 (List.length r2.1) r2.1, R e_Literal p11 c11 (List.length r5) r5] a w) ?_ ?_
  · replace hm := hx
    refine reg ?_
    refine pr 2 [(70, .slice p12 (List.length r6) c12), (69, .slice p11 (List.length r5) c11)] h fun a h => ?_
    obtain ⟨r7, h15, hm⟩ := bnd hm
    refine sl (b_call [] [] h Try.call29 rfl rfl (c_ref01_Same (y0 := r5) (y1 := r6) (h.po [] []) ⟨(h.pf [] [] 2), (h.pf [] [] 0), trivial⟩ h15) fun v a w hp hc => ?_)
    obtain ⟨rfl, q⟩ := hp
    have h := hc.on q [[], []]
    refine pr 2 [(73, vb (!r7))] h fun a h => ?_
    rcases Bool.eq_false_or_eq_true (!r7) with hb4 | hb4
    · have h := h.upd (t := 73) (vb true) rfl (congrArg Value.bool hb4)
      replace hm := ifT hb4 hm
      refine pr 6 [(79, vb true)] h fun a h => ?_
      refine ops_end ?_
      obtain rfl := Option.some.inj hm
      exact then_n (h.tos [900, 901] ⟨(h.g 4), (h.g 2), trivial⟩)
    · have h := h.upd (t := 73) (vb false) rfl (congrArg Value.bool hb4)
      replace hm := ifF hb4 hm
      refine pr 1 [(74, .slice p11 (List.length r5) c11)] h fun a h => ?_
      obtain ⟨r8, h16, hm⟩ := bnd hm
      refine sl (b_call [] [] h Try.call28 rfl rfl (c_literal_Normal (y0 := r5) (h.po [] []) ⟨(h.pf [] [] 2), trivial⟩ h16) fun v a w hp hc => ?_)
      obtain ⟨p13, c13, rfl, q⟩ := hp
      have h := hc.on q [[], []]
      refine pr 1 [(76, .slice p11 (List.length r5) c11)] h fun a h => ?_
      obtain ⟨r9, h17, hm⟩ := bnd hm
      refine sl (b_call [] [] h Try.call29 rfl rfl (c_ref01_Same (y0 := r8) (y1 := r5) (h.po [] []) ⟨(h.pf [] [] 0), (h.pf [] [] 3), trivial⟩ h17) fun v a w hp hc => ?_)
      obtain ⟨rfl, q⟩ := hp
      have h := hc.on q [[], []]
      refine pr 2 [(79, vb (!r9))] h fun a h => ?_
      refine ops_end ?_
      obtain rfl := Option.some.inj hm
      exact then_n (h.tos [900, 901] ⟨(h.g 5), (h.g 3), trivial⟩)
  intro a w hJ
  have h := hJ
  refine cb h rfl (fun hb5 => ?_) (fun hb5 => ?_)
  · replace hm := ifT hb5 hm
    refine sp [(4, vb false)] h fun a h => ?_
    refine wp_ret ?_
    refine then_r ?_
    obtain rfl := Option.some.inj hm
    exact rt1 h rfl rfl ⟨rfl, bk_sel h [] trivial⟩
  replace hm := ifF hb5 hm
  refine wp_skip ?_
  refine then_n ?_
  obtain ⟨os5, hx, hm⟩ := bnd hm
  refine seq_j (fun a w => ∃ s5 : Unit, os5 = .inl s5 ∧ (SS A [] w0 124 [(6, .slice p4 (List.length r2.1) c4), (10, .slice p11 (List.length r5) c11)] [[], []] [R e_Literal p4 c4 (List.length r2.1) r2.1, R e_Literal p11 c11 (List.length r5) r5] a w)) ?_ ?_
  · have hm2 := hm
    replace hm := hx
    refine sp [(82, vi 0), (81, vi (len r5))] h fun a h => ?_
    refine wp_block ?_
    refine loop_m (B := (m_law01_LiteralNormal_L2 r5 r2)) (fun (s6 : Int) a w => SS A [] w0 124 [(6, .slice p4 (List.length r2.1) c4), (10, .slice p11 (List.length r5) c11), (81, vi (len r5)), (82, vi s6)] [[], []] [R e_Literal p4 c4 (List.length r2.1) r2.1, R e_Literal p11 c11 (List.length r5) r5] a w) hm (h.tos [900, 901] ⟨(h.g 0), (h.g 1), trivial⟩) ?_
    intro s6 a w o3 hJ hm hr2
    have h := hJ
    unfold m_law01_LiteralNormal_L2 at hm
    refine sp [(83, vb (decide (s6 < (len r5))))] h fun a h => ?_
    refine wp_seq ?_
    refine cb h rfl (fun hb6 => ?_) (fun hb6 => ?_)
    · replace hm := ifT hb6 hm
      refine wp_skip ?_
      refine then_n ?_
      refine wp_seq ?_
      refine wp_block ?_
      refine sp [(12, vi s6)] h fun a h => ?_
      obtain ⟨s7, hx, hm⟩ := bnd hm
      refine seq_j (fun a w => SS A [] w0 124 [(6, .slice p4 (List.length r2.1) c4), (10, .slice p11 (List.length r5) c11), (81, vi (len r5)), (82, vi s6), (108, vb s7)] [[], []] [R e_Literal p4 c4 (List.length r2.1) r2.1, R e_Literal p11 c11 (List.length r5) r5] a w) ?_ ?_
      · replace hm := hx
        refine ds' [] [] h fun w h => ?_
        refine dp 0 (vi s6) h rfl fun a h => ?_
        refine dp 1 (vb (decide (0 < s6))) h rfl fun a h => ?_
        refine dp 2 (vb (decide (0 < s6))) h rfl fun a h => ?_
        rcases Bool.eq_false_or_eq_true (decide (0 < s6)) with hb7 | hb7
        · have h := h.upd (t := 87) (vb true) rfl (congrArg Value.bool hb7)
          replace hm := ifT hb7 hm
          refine dp 3 (.slice p11 (List.length r5) c11) h rfl fun a h => ?_
          refine dp 4 (vi s6) h rfl fun a h => ?_
          refine dp 5 (vi (w64 (s6 - 1))) h rfl fun a h => ?_
          obtain ⟨x9, h18, hm⟩ := bnd hm
          refine dir 6 h rfl (h.g 1) rfl rfl h18 fun b8 o4 a h => ?_
          refine dlp 7 true h rfl (h.g 0) rfl fun ci5 hc5 v5 hv5 a h => ?_
          replace hc5 : E.rd e_Literal _ _ ci5 x9 := hc5
          obtain ⟨_, _, rfl, rfl, rfl⟩ := hc5
          obtain rfl := Option.some.inj hv5
          have h := h.upd (t := 92) (.agg #[vb x9.1, vs x9.2]) rfl rfl
          refine dp 8 (.slice p11 (List.length r5) c11) h rfl fun a h => ?_
          refine dp 9 (vi s6) h rfl fun a h => ?_
          obtain ⟨x10, h19, hm⟩ := bnd hm
          refine dir 10 h rfl (h.g 2) rfl rfl h19 fun b9 o5 a h => ?_
          refine dlp 11 true h rfl (h.g 0) rfl fun ci6 hc6 v6 hv6 a h => ?_
          replace hc6 : E.rd e_Literal _ _ ci6 x10 := hc6
          obtain ⟨_, _, rfl, rfl, rfl⟩ := hc6
          obtain rfl := Option.some.inj hv6
          have h := h.upd (t := 96) (.agg #[vb x10.1, vs x10.2]) rfl rfl
          refine d1 12 rfl ?_
          obtain ⟨r10, h20, hm⟩ := bnd hm
          refine b_call [] [] h Try.call23 rfl rfl (c_literal_Compare (y0 := x9) (y1 := x10) (h.po [] []) trivial h20) fun v a w hp hc => ?_
          obtain ⟨rfl, q⟩ := hp
          have e := hc.st q [[], []]
          have h := hc.on q [[], []]
          refine dn h e ?_
          refine dp 13 (vb (decide (0 ≤ r10))) h rfl fun a h => ?_
          refine dp 14 (vb (decide (0 ≤ r10))) h rfl fun a h => ?_
          refine dp 15 (vb (decide (0 ≤ r10))) h rfl fun a h => ?_
          rcases Bool.eq_false_or_eq_true (decide (0 ≤ r10)) with hb8 | hb8
          · have h := h.upd (t := 100) (vb true) rfl (congrArg Value.bool hb8)
            replace hm := ifT hb8 hm
            refine dk 16 h rfl fun a h => ?_
            refine dk 17 h rfl fun a h => ?_
            refine dk 18 h rfl fun a h => ?_
            refine dk 19 h rfl fun a h => ?_
            refine dk 20 h rfl fun a h => ?_
            refine dk 21 h rfl fun a h => ?_
            refine dk 22 h rfl fun a h => ?_
            refine dp 23 (vb true) h rfl fun a h => ?_
            refine de ?_
            obtain rfl := Option.some.inj hm
            exact then_n (h.tos [900, 901] ⟨(h.g 2), (h.g 3), trivial⟩)
          · have h := h.upd (t := 100) (vb false) rfl (congrArg Value.bool hb8)
            replace hm := ifF hb8 hm
            refine dp 16 (.slice p4 (List.length r2.1) c4) h rfl fun a h => ?_
            refine dp 17 (.slice p11 (List.length r5) c11) h rfl fun a h => ?_
            refine dp 18 (vi s6) h rfl fun a h => ?_
            obtain ⟨x11, h21, hm⟩ := bnd hm
            refine dir 19 h rfl (h.g 3) rfl rfl h21 fun b10 o6 a h => ?_
            refine dlp 20 true h rfl (h.g 0) rfl fun ci7 hc7 v7 hv7 a h => ?_
            replace hc7 : E.rd e_Literal _ _ ci7 x11 := hc7
            obtain ⟨_, _, rfl, rfl, rfl⟩ := hc7
            obtain rfl := Option.some.inj hv7
            have h := h.upd (t := 105) (.agg #[vb x11.1, vs x11.2]) rfl rfl
            refine d1 21 rfl ?_
            obtain ⟨r11, h22, hm⟩ := bnd hm
            refine b_call [] [] h Try.call30 rfl rfl (c_literal_Has (y0 := r2.1) (y1 := x11) (h.po [] []) ⟨(h.pf [] [] 3), trivial⟩ h22) fun v a w hp hc => ?_
            obtain ⟨rfl, q⟩ := hp
            have e := hc.st q [[], []]
            have h := hc.on q [[], []]
            refine dn h e ?_
            refine dp 22 (vb (!r11)) h rfl fun a h => ?_
            refine dp 23 (vb (!r11)) h rfl fun a h => ?_
            refine de ?_
            obtain rfl := Option.some.inj hm
            exact then_n (h.tos [900, 901] ⟨(h.g 3), (h.g 4), trivial⟩)
        · have h := h.upd (t := 87) (vb false) rfl (congrArg Value.bool hb7)
          replace hm := ifF hb7 hm
          refine dk 3 h rfl fun a h => ?_
          refine dk 4 h rfl fun a h => ?_
          refine dk 5 h rfl fun a h => ?_
          refine dk 6 h rfl fun a h => ?_
          refine dk 7 h rfl fun a h => ?_
          refine dk 8 h rfl fun a h => ?_
          refine dk 9 h rfl fun a h => ?_
          refine dk 10 h rfl fun a h => ?_
          refine dk 11 h rfl fun a h => ?_
          refine dk 12 h rfl fun a h => ?_
          refine dk 13 h rfl fun a h => ?_
          refine dp 14 (vb false) h rfl fun a h => ?_
          refine dp 15 (vb false) h rfl fun a h => ?_
          refine dp 16 (.slice p4 (List.length r2.1) c4) h rfl fun a h => ?_
          refine dp 17 (.slice p11 (List.length r5) c11) h rfl fun a h => ?_
          refine dp 18 (vi s6) h rfl fun a h => ?_
          obtain ⟨x12, h23, hm⟩ := bnd hm
          refine dir 19 h rfl (h.g 1) rfl rfl h23 fun b11 o7 a h => ?_
          refine dlp 20 true h rfl (h.g 0) rfl fun ci8 hc8 v8 hv8 a h => ?_
          replace hc8 : E.rd e_Literal _ _ ci8 x12 := hc8
          obtain ⟨_, _, rfl, rfl, rfl⟩ := hc8
          obtain rfl := Option.some.inj hv8
          have h := h.upd (t := 105) (.agg #[vb x12.1, vs x12.2]) rfl rfl
          refine d1 21 rfl ?_
          obtain ⟨r12, h24, hm⟩ := bnd hm
          refine b_call [] [] h Try.call30 rfl rfl (c_literal_Has (y0 := r2.1) (y1 := x12) (h.po [] []) ⟨(h.pf [] [] 1), trivial⟩ h24) fun v a w hp hc => ?_
          obtain ⟨rfl, q⟩ := hp
          have e := hc.st q [[], []]
          have h := hc.on q [[], []]
          refine dn h e ?_
          refine dp 22 (vb (!r12)) h rfl fun a h => ?_
          refine dp 23 (vb (!r12)) h rfl fun a h => ?_
          refine de ?_
          obtain rfl := Option.some.inj hm
          exact then_n (h.tos [900, 901] ⟨(h.g 1), (h.g 2), trivial⟩)
      intro a w hJ
      have h := hJ
      refine cb h rfl (fun hb9 => ?_) (fun hb9 => ?_)
      · replace hm := ifT hb9 hm
        refine sp [(4, vb false)] h fun a h => ?_
        refine wp_ret ?_
        refine inb_r (then_r (lp_r (inb_r (then_r ?_))))
        replace hm := loopR hr2 hm
        obtain rfl := Option.some.inj hm
        replace hm := hm2
        obtain rfl := Option.some.inj hm
        exact rt1 h rfl rfl ⟨rfl, bk_sel h [] trivial⟩
      replace hm := ifF hb9 hm
      refine wp_skip ?_
      refine inb_n ?_
      refine then_n ?_
      refine reg ?_
      refine pr 2 [(82, vi (w64 (s6 + 1)))] h fun a h => ?_
      refine ops_end ?_
      obtain rfl := Option.some.inj hm
      exact lp_n rfl (h.tos [900, 901] ⟨(h.g 0), (h.g 1), trivial⟩)
    replace hm := ifF hb6 hm
    refine wp_exit ?_
    refine then_e (lp_e (inb_hit ?_))
    replace hm := loopR hr2 hm
    obtain rfl := Option.some.inj hm
    exact then_n ⟨_, rfl, h.tos [900, 901] ⟨(h.g 0), (h.g 1), trivial⟩⟩
  intro a w hJ
  obtain ⟨s5, rfl, h⟩ := hJ
  obtain ⟨os8, hx, hm⟩ := bnd hm
  refine seq_j (fun a w => ∃ s8 : Unit, os8 = .inl s8 ∧ (SS A [] w0 124 [] [[], []] [] a w)) ?_ ?_
  · have hm2 := hm
    replace hm := hx
    refine sp [(112, vi 0), (111, vi (len r2.1))] h fun a h => ?_
    refine wp_block ?_
    refine loop_m (B := (m_law01_LiteralNormal_L3 r2 r5)) (fun (s9 : Int) a w => SS A [] w0 124 [(6, .slice p4 (List.length r2.1) c4), (10, .slice p11 (List.length r5) c11), (111, vi (len r2.1)), (112, vi s9)] [[], []] [R e_Literal p4 c4 (List.length r2.1) r2.1, R e_Literal p11 c11 (List.length r5) r5] a w) hm (h.tos [900, 901] ⟨(h.g 0), (h.g 1), trivial⟩) ?_
    intro s9 a w o8 hJ hm hr3
    have h := hJ
    unfold m_law01_LiteralNormal_L3 at hm
    refine sp [(113, vb (decide (s9 < (len r2.1))))] h fun a h => ?_
    refine wp_seq ?_
    refine cb h rfl (fun hb10 => ?_) (fun hb10 => ?_)
    · replace hm := ifT hb10 hm
      refine wp_skip ?_
      refine then_n ?_
      refine wp_seq ?_
      refine wp_block ?_
      refine sp [(13, vi s9)] h fun a h => ?_
      refine sr ?_
      refine pr 3 [(117, vi s9), (116, .slice p4 (List.length r2.1) c4), (115, .slice p11 (List.length r5) c11)] h fun a h => ?_
      obtain ⟨x13, h25, hm⟩ := bnd hm
      refine sl (b_index_rd h (h.g 0) rfl rfl h25 fun b12 o9 a h => ?_)
      refine sl (b_load_pt true h (h.g 0) rfl fun ci9 hc9 v9 hv9 a h => ?_)
      replace hc9 : E.rd e_Literal _ _ ci9 x13 := hc9
      obtain ⟨_, _, rfl, rfl, rfl⟩ := hc9
      obtain rfl := Option.some.inj hv9
      have h := h.upd (t := 119) (.agg #[vb x13.1, vs x13.2]) rfl rfl
      obtain ⟨r13, h26, hm⟩ := bnd hm
      refine sl (b_call [] [] h Try.call30 rfl rfl (c_literal_Has (y0 := r5) (y1 := x13) (h.po [] []) ⟨(h.pf [] [] 2), trivial⟩ h26) fun v a w hp hc => ?_)
      obtain ⟨rfl, q⟩ := hp
      have h := hc.on q [[], []]
      refine pr 1 [(121, vb (!r13))] h fun a h => ?_
      refine oe ?_
      refine cb h rfl (fun hb11 => ?_) (fun hb11 => ?_)
      · replace hm := ifT hb11 hm
        refine sp [(4, vb false)] h fun a h => ?_
        refine wp_ret ?_
        refine inb_r (then_r (lp_r (inb_r (then_r ?_))))
        replace hm := loopR hr3 hm
        obtain rfl := Option.some.inj hm
        replace hm := hm2
        obtain rfl := Option.some.inj hm
        exact rt1 h rfl rfl ⟨rfl, bk_sel h [] trivial⟩
      replace hm := ifF hb11 hm
      refine wp_skip ?_
      refine inb_n ?_
      refine then_n ?_
      refine reg ?_
      refine pr 2 [(112, vi (w64 (s9 + 1)))] h fun a h => ?_
      refine ops_end ?_
      obtain rfl := Option.some.inj hm
      exact lp_n rfl (h.tos [900, 901] ⟨(h.g 1), (h.g 2), trivial⟩)
    replace hm := ifF hb10 hm
    refine wp_exit ?_
    refine then_e (lp_e (inb_hit ?_))
    replace hm := loopR hr3 hm
    obtain rfl := Option.some.inj hm
    exact then_n ⟨_, rfl, h.tos [900, 901] trivial⟩
  intro a w hJ
  obtain ⟨s8, rfl, h⟩ := hJ
  refine sr ?_
  obtain ⟨r14, h27, hm⟩ := bnd hm
  refine sl (b_call [] [] h Try.call20 rfl rfl (c_law01_awake (h.po [] []) trivial h27) fun v a w hp hc => ?_)
  obtain ⟨rfl, q⟩ := hp
  have h := hc.on q [[], []]
  refine pr 1 [(4, vb r14)] h fun a h => ?_
  refine oe ?_
  refine wp_ret ?_
  obtain rfl := Option.some.inj hm
  exact rt1 h rfl rfl ⟨rfl, bk_sel h [] trivial⟩

theorem c_slices_Compact_string {A : List Nat} {w0 : World} {y0 : List Str} {p1 : Option Addr} {c1 : Nat} {r_1 : Res} {r : (List Str)} (hO : Own A w0 [r_1]) (hF : All [Ar eStr 9 r_1 p1 c1 (List.length y0) y0] (bl [r_1] ++ A) w0) (hm : m_slices_Compact_string y0 = some r) :
    Calls Try.prog 45 [.slice p1 (List.length y0) c1].toArray w0 (Ret fun v w => ∃ (p2 : Option Addr) (c2 : Nat), v = .slice p2 (List.length r) c2 ∧ Bk A [r_1] w0 [[]] [R eStr p2 c2 (List.length r) r] w) := by
  unfold m_slices_Compact_string at hm
  refine ent Try.func45 rfl hO hF fun a h => ?_
  refine sp [] h fun a h => ?_
  refine wp_seq ?_
  refine sp [(8, vb (decide ((len y0) < 2)))] h fun a h => ?_
  refine cb h rfl (fun hb1 => ?_) (fun hb1 => ?_)
  · replace hm := ifT hb1 hm
    refine sp [(2, .slice p1 (List.length y0) c1)] h fun a h => ?_
    refine wp_ret ?_
    refine then_r ?_
    obtain rfl := Option.some.inj hm
    have h := h.share 0 (h.g 0)
    exact rt1 h rfl rfl ⟨p1, c1, rfl, bk_sel h [900] ⟨(h.g 0), trivial⟩⟩
  replace hm := ifF hb1 hm
  refine wp_skip ?_
  refine then_n ?_
  refine wp_seq ?_
  refine sp [(3, vi 1)] h fun a h => ?_
  refine wp_block ?_
  refine loop_m (B := (m_slices_Compact_string_L1 y0)) (fun (s1 : Int) a w => SS A [r_1] w0 61 [(0, .slice p1 (List.length y0) c1), (3, vi s1)] [r_1] [Ar eStr 9 r_1 p1 c1 (List.length y0) y0] a w) hm (h.to 1 ⟨(h.g 0), trivial⟩) ?_
  intro s1 a w o1 hJ hm hr1
  have h := hJ
  unfold m_slices_Compact_string_L1 at hm
  refine wp_seq ?_
  refine sp [(13, vb (decide (s1 < (len y0))))] h fun a h => ?_
  refine cb h rfl (fun hb2 => ?_) (fun hb2 => ?_)
  · replace hm := ifT hb2 hm
    refine wp_skip ?_
    refine then_n ?_
    refine wp_seq ?_
    refine wp_block ?_
    refine ds [] [0] h fun w h => ?_
    refine dp 0 (.slice p1 (List.length y0) c1) h rfl fun a h => ?_
    refine dp 1 (vi s1) h rfl fun a h => ?_
    obtain ⟨x1, h1, hm⟩ := bnd hm
    refine dia 2 h rfl (h.g 0) rfl rfl h1 fun b1 hp1 a h => ?_
    refine dla 3 0 ((Sub.id eStr)) false h rfl (h.g 0) hp1 h1 rfl fun ci1 hc1 v1 hv1 a h => ?_
    replace hc1 : E.rd eStr _ _ ci1 x1 := hc1
    obtain rfl := hc1
    obtain rfl := Option.some.inj hv1
    refine dp 4 (.slice p1 (List.length y0) c1) h rfl fun a h => ?_
    refine dp 5 (vi s1) h rfl fun a h => ?_
    refine dp 6 (vi (w64 (s1 - 1))) h rfl fun a h => ?_
    obtain ⟨x2, h2, hm⟩ := bnd hm
    refine dia 7 h rfl (h.g 0) rfl rfl h2 fun b2 hp2 a h => ?_
    refine dla 8 0 ((Sub.id eStr)) false h rfl (h.g 0) hp2 h2 rfl fun ci2 hc2 v2 hv2 a h => ?_
    replace hc2 : E.rd eStr _ _ ci2 x2 := hc2
    obtain rfl := hc2
    obtain rfl := Option.some.inj hv2
    refine dp 9 (vb (x1 == x2)) h rfl fun a h => ?_
    refine de (then_n ?_)
    refine cb h rfl (fun hb3 => ?_) (fun hb3 => ?_)
    · replace hm := ifT hb3 hm
      refine sr ?_
      refine pr 2 [(27, vi s1), (26, .slice p1 (List.length y0) c1)] h fun a h => ?_
      obtain ⟨u1, h3, hm⟩ := bnd hm
      refine sl (b_slice_view h (h.g 0) rfl rfl h3 fun p2 c2 f1 a h => ?_)
      refine pr 1 [(4, .slice p2 (Int.toNat (((List.length y0 : Nat) : Int) - s1)) c2)] h fun a h => ?_
      refine oe ?_
      obtain ⟨s2, hx, hm⟩ := bnd hm
      refine seq_j (fun a w => ∃ (p3 : Option Addr) (c3 : Nat) (r_2 : Res), SS A [r_1] w0 61 [(0, .slice p3 (List.length s2.1) c3), (3, vi s2.2)] [r_2] [Ar eStr 9 r_2 p3 c3 (List.length s2.1) s2.1] a w) ?_ ?_
      · have hm2 := hm
        replace hm := hx
        refine sp [(5, vi 1)] h fun a h => ?_
        refine wp_block ?_
        refine loop_m (B := (m_slices_Compact_string_L2 y0 s1)) (fun (s3 : (List Str) × Int × Int) a w => ∃ (r_3 : Res), SS A [r_1] w0 61 [(0, .slice p1 (List.length y0) c1), (3, vi s3.2.1), (4, .slice p2 (Int.toNat (((List.length y0 : Nat) : Int) - s1)) c2), (5, vi s3.2.2)] [r_3] [Ar eStr 9 r_3 p1 c1 (List.length y0) s3.1] a w) hm ⟨r_1, h.to 1 ⟨(h.g 0), trivial⟩⟩ ?_
        intro s3 a w o2 hJ hm hr2
        obtain ⟨r_3, h⟩ := hJ
        unfold m_slices_Compact_string_L2 at hm
        refine wp_seq ?_
        refine sp [(32, vb (decide (s3.2.2 < ((Int.toNat (((List.length y0 : Nat) : Int) - s1) : Nat) : Int))))] h fun a h => ?_
        refine cb h rfl (fun hb4 => ?_) (fun hb4 => ?_)
        · replace hm := ifT hb4 hm
          refine wp_skip ?_
          refine then_n ?_
          refine wp_seq ?_
          refine wp_block ?_
          refine ds [] [0] h fun w h => ?_
          refine dp 0 (.slice p2 (Int.toNat (((List.length y0 : Nat) : Int) - s1)) c2) h rfl fun a h => ?_
          refine dp 1 (vi s3.2.2) h rfl fun a h => ?_
          obtain ⟨x3, h4, hm⟩ := bnd hm
          refine dindex_view 2 h rfl (h.g 0) f1 rfl rfl h4 fun b3 hp3 h5 a h => ?_
          refine dla 3 0 ((Sub.id eStr)) false h rfl (h.g 0) hp3 h5 rfl fun ci3 hc3 v3 hv3 a h => ?_
          replace hc3 : E.rd eStr _ _ ci3 x3 := hc3
          obtain rfl := hc3
          obtain rfl := Option.some.inj hv3
          refine dp 4 (.slice p2 (Int.toNat (((List.length y0 : Nat) : Int) - s1)) c2) h rfl fun a h => ?_
          refine dp 5 (vi s3.2.2) h rfl fun a h => ?_
          refine dp 6 (vi (w64 (s3.2.2 - 1))) h rfl fun a h => ?_
          obtain ⟨x4, h6, hm⟩ := bnd hm
          refine dindex_view 7 h rfl (h.g 0) f1 rfl rfl h6 fun b4 hp4 h7 a h => ?_
          refine dla 8 0 ((Sub.id eStr)) false h rfl (h.g 0) hp4 h7 rfl fun ci4 hc4 v4 hv4 a h => ?_
          replace hc4 : E.rd eStr _ _ ci4 x4 := hc4
          obtain rfl := hc4
          obtain rfl := Option.some.inj hv4
          refine dp 9 (vb (!(x3 == x4))) h rfl fun a h => ?_
          refine de (then_n ?_)
          refine cb h rfl (fun hb5 => ?_) (fun hb5 => ?_)
          · replace hm := ifT hb5 hm
            refine sr ?_
            refine pr 4 [(48, vi s3.2.2), (47, .slice p2 (Int.toNat (((List.length y0 : Nat) : Int) - s1)) c2), (46, vi s3.2.1), (45, .slice p1 (List.length y0) c1)] h fun a h => ?_
            obtain ⟨x5, h8, hm⟩ := bnd hm
            refine sl (b_index_view h (h.g 0) f1 rfl rfl h8 fun b5 hp5 h9 a h => ?_)
            refine sl (b_load_arr 0 ((Sub.id eStr)) false h (h.g 0) hp5 h9 rfl fun ci5 hc5 v5 hv5 a h => ?_)
            replace hc5 : E.rd eStr _ _ ci5 x5 := hc5
            obtain rfl := hc5
            obtain rfl := Option.some.inj hv5
            obtain ⟨x6, h10, hm⟩ := bnd hm
            refine sl (b_index_arr h (h.g 0) rfl rfl h10 fun b6 hp6 a h => ?_)
            refine sl (b_store_arr 0 ((Sub.id eStr)) (v := vs x5) x5 false h (h.g 0) hp6 h10 rfl rfl eStr.mk fun r_4 a w h e => ?_)
            refine oe ?_
            refine reg ?_
            refine pr 3 [(3, vi (w64 (s3.2.1 + 1)))] h fun a h => ?_
            refine ops_end ?_
            refine inb_n ?_
            refine then_n ?_
            refine reg ?_
            refine pr 3 [(5, vi (w64 (s3.2.2 + 1)))] h fun a h => ?_
            refine ops_end ?_
            obtain rfl := Option.some.inj hm
            exact lp_n rfl ⟨r_4, h.to 1 ⟨(h.g 0), trivial⟩⟩
          replace hm := ifF hb5 hm
          refine wp_skip ?_
          refine inb_n ?_
          refine then_n ?_
          refine reg ?_
          refine pr 3 [(5, vi (w64 (s3.2.2 + 1)))] h fun a h => ?_
          refine ops_end ?_
          obtain rfl := Option.some.inj hm
          exact lp_n rfl ⟨r_3, h.to 1 ⟨(h.g 0), trivial⟩⟩
        replace hm := ifF hb4 hm
        refine wp_exit ?_
        refine then_e (lp_e (inb_hit ?_))
        replace hm := loopR hr2 hm
        obtain rfl := Option.some.inj hm
        have h := h.upd (t := 0) (.slice p1 (List.length s3.1) c1) rfl (by rw [Ar.ln (h.g 0)])
        have h := h.add (Ar.re (h.g 0))
        exact then_n ⟨p1, c1, r_3, h.to 1 ⟨(h.g 0), trivial⟩⟩
      intro a w hJ
      obtain ⟨p3, c3, r_2, h⟩ := hJ
      refine sr ?_
      refine pr 2 [(55, vi s2.2), (54, .slice p3 (List.length s2.1) c3)] h fun a h => ?_
      obtain ⟨u2, h11, hm⟩ := bnd hm
      refine sl (b_slice_view h (h.g 0) rfl rfl h11 fun p4 c4 f2 a h => ?_)
      refine sl (b_clear_view 0 (zd := []) (zv := vs []) h (h.g 0) f2 rfl rfl eStr.mk fun r_5 a w h e => ?_)
      refine oe ?_
      refine sr ?_
      refine pr 2 [(58, vi s2.2), (57, .slice p3 (List.length s2.1) c3)] h fun a h => ?_
      obtain ⟨x7, h12, hm⟩ := bnd hm
      refine sl (b_slice_pre h (h.g 0) rfl rfl h12 fun a h => ?_)
      refine pr 1 [(2, .slice p3 (List.length x7) c3)] h fun a h => ?_
      refine oe ?_
      refine wp_ret ?_
      refine inb_r (then_r (lp_r (inb_r (then_r ?_))))
      replace hm := loopR hr1 hm
      obtain rfl := Option.some.inj hm
      have h := h.share 0 (h.g 0)
      exact rt1 h rfl rfl ⟨p3, c3, rfl, bk_sel h [900] ⟨(h.g 0), trivial⟩⟩
    replace hm := ifF hb3 hm
    refine wp_skip ?_
    refine inb_n ?_
    refine then_n ?_
    refine reg ?_
    refine pr 3 [(3, vi (w64 (s1 + 1)))] h fun a h => ?_
    refine ops_end ?_
    obtain rfl := Option.some.inj hm
    exact lp_n rfl (h.to 1 ⟨(h.g 0), trivial⟩)
  replace hm := ifF hb2 hm
  refine wp_exit ?_
  refine then_e (lp_e (inb_hit ?_))
  replace hm := loopR hr1 hm
  refine then_n ?_
  refine sp [(2, .slice p1 (List.length y0) c1)] h fun a h => ?_
  refine wp_ret ?_
  obtain rfl := Option.some.inj hm
  have h := h.share 0 (h.g 0)
  exact rt1 h rfl rfl ⟨p1, c1, rfl, bk_sel h [900] ⟨(h.g 0), trivial⟩⟩

theorem c_slices_Sort_string {A : List Nat} {w0 : World} {y0 : List Str} {p1 : Option Addr} {c1 : Nat} {r_1 : Res} {r : List Str} (hO : Own A w0 [r_1]) (hF : All [Ar eStr 9 r_1 p1 c1 (List.length y0) y0] (bl [r_1] ++ A) w0) (hm : m_slices_Sort_string y0 = some r) :
    Calls Try.prog 44 [.slice p1 (List.length y0) c1].toArray w0 (Ret fun v w => ∃ (r_2 : Res), v = .tuple #[] ∧ Bk A [r_1] w0 [r_2] [Ar eStr 9 r_2 p1 c1 (List.length y0) r] w) := by
  have h := sort_str Try.sorts44 (te := 9) hO hF.1.1 hm
  change Calls Try.prog 44 _ _ _ at h
  refine h.mono fun e w' h => ?_
  cases e with
  | returned v => obtain ⟨r', rfl, h1, h2, h3, h4⟩ := h; exact ⟨r', rfl, h1, h2, ⟨h3, h4.symm⟩, trivial⟩
  | panicked ch => exact h
  | outgrown => exact h

theorem c_literal_Names {A : List Nat} {w0 : World} {y0 : List T_Literal} {p1 : Option Addr} {c1 : Nat} {r : (List Str)} (hO : Own A w0 []) (hF : All [R e_Literal p1 c1 (List.length y0) y0] (bl [] ++ A) w0) (hm : m_literal_Names y0 = some r) :
    Calls Try.prog 32 [.slice p1 (List.length y0) c1].toArray w0 (Ret fun v w => ∃ (p2 : Option Addr) (c2 : Nat), v = .slice p2 (List.length r) c2 ∧ Bk A [] w0 [] [R eStr p2 c2 (List.length r) r] w) := by
  unfold m_literal_Names at hm
  refine ent Try.func32 rfl hO hF fun a h => ?_
  refine sp [] h fun a h => ?_
  refine sr ?_
  have h := h.room eStr 9
  refine pr 1 [(3, .slice none 0 0)] h fun a h => ?_
  refine oe ?_
  obtain ⟨s1, hx, hm⟩ := bnd hm
  refine seq_j (fun a w => ∃ (p2 : Option Addr) (c2 : Nat) (r_1 : Res), SS A [] w0 22 [(3, .slice p2 (List.length s1) c2)] [r_1] [Ar eStr 9 r_1 p2 c2 (List.length s1) s1] a w) ?_ ?_
  · have hm2 := hm
    replace hm := hx
    refine sp [(8, vi 0), (7, vi (len y0)), (6, .slice p1 (List.length y0) c1)] h fun a h => ?_
    refine wp_block ?_
    have h := h.upd (t := 3) (.slice none (List.length ([] : List Str)) 0) rfl (by rw [Ar.ln (h.g 0)])
    have h := h.add (Ar.re (h.g 0))
    refine loop_m (B := (m_literal_Names_L1 y0)) (fun (s2 : (List Str) × Int) a w => ∃ (p3 : Option Addr) (c3 : Nat) (r_2 : Res), SS A [] w0 22 [(3, .slice p3 (List.length s2.1) c3), (6, .slice p1 (List.length y0) c1), (7, vi (len y0)), (8, vi s2.2)] [r_2] [Ar eStr 9 r_2 p3 c3 (List.length s2.1) s2.1, R e_Literal p1 c1 (List.length y0) y0] a w) hm ⟨none, 0, [], h.to 1 ⟨(h.g 0), (h.g 2), trivial⟩⟩ ?_
    intro s2 a w o1 hJ hm hr1
    obtain ⟨p3, c3, r_2, h⟩ := hJ
    unfold m_literal_Names_L1 at hm
    refine sp [(9, vb (decide (s2.2 < (len y0))))] h fun a h => ?_
    refine wp_seq ?_
    refine cb h rfl (fun hb1 => ?_) (fun hb1 => ?_)
    · replace hm := ifT hb1 hm
      refine wp_skip ?_
      refine then_n ?_
      refine wp_seq ?_
      refine wp_block ?_
      refine sr ?_
      obtain ⟨x1, h1, hm⟩ := bnd hm
      refine sl (b_index_rd h (h.g 1) rfl rfl h1 fun b1 o2 a h => ?_)
      refine sl (b_load_pt true h (h.g 0) rfl fun ci1 hc1 v1 hv1 a h => ?_)
      replace hc1 : E.rd e_Literal _ _ ci1 x1 := hc1
      obtain ⟨_, _, rfl, rfl, rfl⟩ := hc1
      obtain rfl := Option.some.inj hv1
      have h := h.upd (t := 11) (.agg #[vb x1.1, vs x1.2]) rfl rfl
      refine sl (b_alloc h rfl fun b2 a w h e => ?_)
      refine sl (b_store_own 1 h rfl rfl rfl fun a w h e => ?_)
      refine oe ?_
      refine reg ?_
      refine pr 2 [(13, .pointer (some ⟨b2, 1, none⟩)), (12, .slice p3 (List.length s2.1) c3)] h fun a h => ?_
      refine sl (b_load_own 1 (vs x1.2) h rfl rfl fun a h => ?_)
      refine sl (b_bs_rd (te := 9) (e := eStr) [vs x1.2] ([x1.2] : List Str) h ⟨_, _, rfl, eStr.mk, rfl⟩ fun p4 c4 a w h e => ?_)
      obtain ⟨x2, h2, hm⟩ := bnd hm
      refine sl (b_append_r (te := 9) 0 h (h.g 2) (h.g 0) rfl rfl h2 fun r_3 p5 c5 a w h e => ?_)
      refine pr 1 [(3, .slice p5 (List.length x2) c5)] h fun a h => ?_
      refine ops_end ?_
      refine inb_n ?_
      refine then_n ?_
      refine reg ?_
      refine pr 2 [(8, vi (w64 (s2.2 + 1)))] h fun a h => ?_
      refine ops_end ?_
      obtain rfl := Option.some.inj hm
      exact lp_n rfl ⟨p5, c5, r_3, h.to 1 ⟨(h.g 0), (h.g 4), trivial⟩⟩
    replace hm := ifF hb1 hm
    refine wp_exit ?_
    refine then_e (lp_e (inb_hit ?_))
    replace hm := loopR hr1 hm
    obtain rfl := Option.some.inj hm
    exact then_n ⟨p3, c3, r_2, h.to 1 ⟨(h.g 0), trivial⟩⟩
  intro a w hJ
  obtain ⟨p2, c2, r_1, h⟩ := hJ
  refine sr ?_
  refine pr 1 [(18, .slice p2 (List.length s1) c2)] h fun a h => ?_
  obtain ⟨r1, h3, hm⟩ := bnd hm
  refine sl (b_call [0] [] h Try.call44 rfl rfl (c_slices_Sort_string (y0 := s1) (h.po [0] []) ⟨(h.pf [0] [] 0), trivial⟩ h3) fun v a w hp hc => ?_)
  obtain ⟨r_4, rfl, q⟩ := hp
  have h := hc.on q [r_4]
  refine oe ?_
  refine sr ?_
  refine pr 1 [(20, .slice p2 (List.length s1) c2)] h fun a h => ?_
  have h := h.upd (t := 20) (.slice p2 (List.length r1) c2) rfl (by rw [Ar.ln (h.g 0)])
  have h := h.add (Ar.re (h.g 0))
  obtain ⟨r2, h4, hm⟩ := bnd hm
  refine sl (b_call [0] [] h Try.call45 rfl rfl (c_slices_Compact_string (y0 := r1) (h.po [0] []) ⟨(h.pf [0] [] 0), trivial⟩ h4) fun v a w hp hc => ?_)
  obtain ⟨p6, c6, rfl, q⟩ := hp
  have h := hc.on q [[]]
  refine pr 1 [(2, .slice p6 (List.length r2) c6)] h fun a h => ?_
  refine oe ?_
  refine wp_ret ?_
  obtain rfl := Option.some.inj hm
  exact rt1 h rfl rfl ⟨p6, c6, rfl, bk_sel h [] ⟨(h.g 0), trivial⟩⟩

theorem c_law01_LiteralConsistent {A : List Nat} {w0 : World} {y0 : List Int} {p1 : Option Addr} {c1 : Nat} {r : Bool} (hO : Own A w0 []) (hF : All [R (eInt .i64) p1 c1 (List.length y0) y0] (bl [] ++ A) w0) (hm : m_law01_LiteralConsistent y0 = some r) :
    Calls Try.prog 7 [.slice p1 (List.length y0) c1].toArray w0 (Ret fun v w => v = vb r ∧ Bk A [] w0 [] [] w) := by
  unfold m_law01_LiteralConsistent at hm
  refine ent Try.func7 rfl hO hF fun a h => ?_
  refine sp [] h fun a h => ?_
  refine sr ?_
  refine pr 1 [(7, .slice p1 (List.length y0) c1)] h fun a h => ?_
  obtain ⟨r1, h1, hm⟩ := bnd hm
  refine sl (b_call [] [] h Try.call9 rfl rfl (c_keep_New (y0 := y0) (h.po [] []) ⟨(h.pf [] [] 0), trivial⟩ h1) fun v a w hp hc => ?_)
  obtain ⟨b1, p2, c2, rfl, q⟩ := hp
  have h := hc.on q [bx b1 56 [.slice p2 (List.length r1.1) c2, vi r1.2]]
  refine pr 1 [(3, .pointer (some ⟨b1, 0, none⟩))] h fun a h => ?_
  refine oe ?_
  refine sr ?_
  refine pr 1 [(9, .pointer (some ⟨b1, 0, none⟩))] h fun a h => ?_
  obtain ⟨r2, h2, hm⟩ := bnd hm
  refine sl (b_call [0] [] h Try.call25 rfl rfl (c_keep_Src_Literals (y0 := r1) (y1 := 8) (y2 := 5) (h.po [0] []) ⟨(h.pf [0] [] 0), trivial⟩ h2) fun v a w hp hc => ?_)
  obtain ⟨p3, c3, rfl, q⟩ := hp
  have h := hc.on q [bx b1 56 [.slice p2 (List.length r1.1) c2, vi r2.2]]
  refine pr 1 [(4, .slice p3 (List.length r2.1) c3)] h fun a h => ?_
  refine oe ?_
  refine wp_seq ?_
  refine sr ?_
  refine pr 1 [(11, .slice p3 (List.length r2.1) c3)] h fun a h => ?_
  obtain ⟨r3, h3, hm⟩ := bnd hm
  refine sl (b_call [] [] h Try.call31 rfl rfl (c_literal_Consistent (y0 := r2.1) (h.po [] []) ⟨(h.pf [] [] 0), trivial⟩ h3) fun v a w hp hc => ?_)
  obtain ⟨rfl, q⟩ := hp
  have h := hc.on q [bx b1 56 [.slice p2 (List.length r1.1) c2, vi r2.2]]
  refine pr 1 [(13, .slice p3 (List.length r2.1) c3)] h fun a h => ?_
  obtain ⟨r4, h4, hm⟩ := bnd hm
  refine sl (b_call [] [] h Try.call32 rfl rfl (c_literal_Names (y0 := r2.1) (h.po [] []) ⟨(h.pf [] [] 0), trivial⟩ h4) fun v a w hp hc => ?_)
  obtain ⟨p4, c4, rfl, q⟩ := hp
  have h := hc.on q [bx b1 56 [.slice p2 (List.length r1.1) c2, vi r2.2]]
  refine pr 2 [(16, .slice p3 (List.length r2.1) c3), (15, vi (len r4))] h fun a h => ?_
  obtain ⟨r5, h5, hm⟩ := bnd hm
  refine sl (b_call [] [] h Try.call28 rfl rfl (c_literal_Normal (y0 := r2.1) (h.po [] []) ⟨(h.pf [] [] 1), trivial⟩ h5) fun v a w hp hc => ?_)
  obtain ⟨p5, c5, rfl, q⟩ := hp
  have h := hc.on q [bx b1 56 [.slice p2 (List.length r1.1) c2, vi r2.2]]
  refine pr 3 [(20, vb (!(r3 == ((len r4) == (len r5)))))] h fun a h => ?_
  refine oe ?_
  refine cb h rfl (fun hb1 => ?_) (fun hb1 => ?_)
  · replace hm := ifT hb1 hm
    refine sp [(2, vb false)] h fun a h => ?_
    refine wp_ret ?_
    refine then_r ?_
    obtain rfl := Option.some.inj hm
    exact rt1 h rfl rfl ⟨rfl, bk_sel h [] trivial⟩
  replace hm := ifF hb1 hm
  refine wp_skip ?_
  refine then_n ?_
  refine sr ?_
  have h := h.room e_Literal 23
  refine pr 1 [(5, .slice none 0 0)] h fun a h => ?_
  refine oe ?_
  obtain ⟨s1, hx, hm⟩ := bnd hm
  refine seq_j (fun a w => ∃ (p6 : Option Addr) (c6 : Nat) (r_1 : Res), SS A [] w0 47 [(4, .slice p3 (List.length r2.1) c3), (5, .slice p6 (List.length s1) c6)] [[], r_1] [Ar e_Literal 23 r_1 p6 c6 (List.length s1) s1, R e_Literal p3 c3 (List.length r2.1) r2.1] a w) ?_ ?_
  · have hm2 := hm
    replace hm := hx
    refine sp [(23, vi 0), (22, vi (len r2.1))] h fun a h => ?_
    refine wp_block ?_
    have h := h.upd (t := 5) (.slice none (List.length ([] : List T_Literal)) 0) rfl (by rw [Ar.ln (h.g 0)])
    have h := h.add (Ar.re (h.g 0))
    refine loop_m (B := (m_law01_LiteralConsistent_L1 r2 r1)) (fun (s2 : (List T_Literal) × Int × Int) a w => ∃ (p7 : Option Addr) (c7 : Nat) (r_2 : Res), SS A [] w0 47 [(3, .pointer (some ⟨b1, 0, none⟩)), (4, .slice p3 (List.length r2.1) c3), (5, .slice p7 (List.length s2.1) c7), (22, vi (len r2.1)), (23, vi s2.2.1)] [bx b1 56 [.slice p2 (List.length r1.1) c2, vi s2.2.2], r_2] [Ar e_Literal 23 r_2 p7 c7 (List.length s2.1) s2.1, R e_Literal p3 c3 (List.length r2.1) r2.1, R (eInt .i64) p2 c2 (List.length r1.1) r1.1] a w) hm ⟨none, 0, [], h.to 2 ⟨(h.g 0), (h.g 4), (h.g 5), trivial⟩⟩ ?_
    intro s2 a w o1 hJ hm hr1
    obtain ⟨p7, c7, r_2, h⟩ := hJ
    unfold m_law01_LiteralConsistent_L1 at hm
    refine sp [(24, vb (decide (s2.2.1 < (len r2.1))))] h fun a h => ?_
    refine wp_seq ?_
    refine cb h rfl (fun hb2 => ?_) (fun hb2 => ?_)
    · replace hm := ifT hb2 hm
      refine wp_skip ?_
      refine then_n ?_
      refine wp_seq ?_
      refine wp_block ?_
      refine sp [(6, vi s2.2.1)] h fun a h => ?_
      refine sr ?_
      refine pr 1 [(26, .pointer (some ⟨b1, 0, none⟩))] h fun a h => ?_
      obtain ⟨r6, h6, hm⟩ := bnd hm
      refine sl (b_call [0] [] h Try.call27 rfl rfl (c_keep_Src_N (y0 := (r1.1, s2.2.2)) (y1 := 2) (h.po [0] []) ⟨(h.pf [0] [] 2), trivial⟩ h6) fun v a w hp hc => ?_)
      obtain ⟨rfl, q⟩ := hp
      have h := hc.on q [bx b1 56 [.slice p2 (List.length r1.1) c2, vi r6.2], r_2]
      refine pr 1 [(28, vb (r6.1 == 0))] h fun a h => ?_
      refine oe ?_
      refine cb h rfl (fun hb3 => ?_) (fun hb3 => ?_)
      · replace hm := ifT hb3 hm
        refine reg ?_
        refine pr 3 [(31, vi s2.2.1), (30, .slice p3 (List.length r2.1) c3), (29, .slice p7 (List.length s2.1) c7)] h fun a h => ?_
        obtain ⟨x1, h7, hm⟩ := bnd hm
        refine sl (b_index_rd h (h.g 1) rfl rfl h7 fun b2 o2 a h => ?_)
        refine sl (b_load_pt true h (h.g 0) rfl fun ci1 hc1 v1 hv1 a h => ?_)
        replace hc1 : E.rd e_Literal _ _ ci1 x1 := hc1
        obtain ⟨_, _, rfl, rfl, rfl⟩ := hc1
        obtain rfl := Option.some.inj hv1
        have h := h.upd (t := 33) (.agg #[vb x1.1, vs x1.2]) rfl rfl
        refine sl (b_bs_rd (te := 23) (e := e_Literal) [vb x1.1, vs x1.2] ([x1] : List T_Literal) h ⟨_, _, rfl, eProd.mk eBool.mk eStr.mk, rfl⟩ fun p8 c8 a w h e => ?_)
        obtain ⟨x2, h8, hm⟩ := bnd hm
        refine sl (b_append_r (te := 23) 1 h (h.g 2) (h.g 0) rfl rfl h8 fun r_3 p9 c9 a w h e => ?_)
        refine pr 1 [(5, .slice p9 (List.length x2) c9)] h fun a h => ?_
        refine ops_end ?_
        refine inb_n ?_
        refine then_n ?_
        refine reg ?_
        refine pr 2 [(23, vi (w64 (s2.2.1 + 1)))] h fun a h => ?_
        refine ops_end ?_
        obtain rfl := Option.some.inj hm
        exact lp_n rfl ⟨p9, c9, r_3, h.to 2 ⟨(h.g 0), (h.g 4), (h.g 5), trivial⟩⟩
      replace hm := ifF hb3 hm
      refine wp_skip ?_
      refine inb_n ?_
      refine then_n ?_
      refine reg ?_
      refine pr 2 [(23, vi (w64 (s2.2.1 + 1)))] h fun a h => ?_
      refine ops_end ?_
      obtain rfl := Option.some.inj hm
      exact lp_n rfl ⟨p7, c7, r_2, h.to 2 ⟨(h.g 0), (h.g 1), (h.g 2), trivial⟩⟩
    replace hm := ifF hb2 hm
    refine wp_exit ?_
    refine then_e (lp_e (inb_hit ?_))
    replace hm := loopR hr1 hm
    obtain rfl := Option.some.inj hm
    exact then_n ⟨p7, c7, r_2, h.tos [900, 1] ⟨(h.g 0), (h.g 1), trivial⟩⟩
  intro a w hJ
  obtain ⟨p6, c6, r_1, h⟩ := hJ
  obtain ⟨s3, hx, hm⟩ := bnd hm
  refine seq_j (fun a w => SS A [] w0 47 [(2, vb s3)] [[], []] [] a w) ?_ ?_
  · replace hm := hx
    refine reg ?_
    refine pr 1 [(37, .slice p6 (List.length s1) c6)] h fun a h => ?_
    obtain ⟨r7, h9, hm⟩ := bnd hm
    refine sl (b_call [] [1] h Try.call31 rfl rfl (c_literal_Consistent (y0 := s1) (h.po [] [1]) ⟨(h.pl [] [1] 1 (h.g 0)), trivial⟩ h9) fun v a w hp hc => ?_)
    obtain ⟨rfl, q⟩ := hp
    have h := hc.on q [[], r_1]
    refine pr 1 [(39, vb r7)] h fun a h => ?_
    rcases Bool.eq_false_or_eq_true r7 with hb4 | hb4
    · have h := h.upd (t := 39) (vb true) rfl (congrArg Value.bool hb4)
      replace hm := ifT hb4 hm
      refine pr 5 [(44, vb true)] h fun a h => ?_
      obtain ⟨r8, h10, hm⟩ := bnd hm
      refine sl (b_call [] [] h Try.call20 rfl rfl (c_law01_awake (h.po [] []) trivial h10) fun v a w hp hc => ?_)
      obtain ⟨rfl, q⟩ := hp
      have h := hc.on q [[], r_1]
      refine pr 2 [(2, vb r8)] h fun a h => ?_
      refine ops_end ?_
      obtain rfl := Option.some.inj hm
      exact then_n (h.tos [900, 901] trivial)
    · have h := h.upd (t := 39) (vb false) rfl (congrArg Value.bool hb4)
      replace hm := ifF hb4 hm
      refine pr 1 [(40, .slice p3 (List.length r2.1) c3)] h fun a h => ?_
      obtain ⟨r9, h11, hm⟩ := bnd hm
      refine sl (b_call [] [] h Try.call31 rfl rfl (c_literal_Consistent (y0 := r2.1) (h.po [] []) ⟨(h.pf [] [] 1), trivial⟩ h11) fun v a w hp hc => ?_)
      obtain ⟨rfl, q⟩ := hp
      have h := hc.on q [[], r_1]
      refine pr 3 [(44, vb (!r9))] h fun a h => ?_
      rcases Bool.eq_false_or_eq_true (!r9) with hb5 | hb5
      · have h := h.upd (t := 44) (vb true) rfl (congrArg Value.bool hb5)
        replace hm := ifT hb5 hm
        obtain ⟨r10, h12, hm⟩ := bnd hm
        refine sl (b_call [] [] h Try.call20 rfl rfl (c_law01_awake (h.po [] []) trivial h12) fun v a w hp hc => ?_)
        obtain ⟨rfl, q⟩ := hp
        have h := hc.on q [[], r_1]
        refine pr 2 [(2, vb r10)] h fun a h => ?_
        refine ops_end ?_
        obtain rfl := Option.some.inj hm
        exact then_n (h.tos [900, 901] trivial)
      · have h := h.upd (t := 44) (vb false) rfl (congrArg Value.bool hb5)
        replace hm := ifF hb5 hm
        refine pr 3 [(2, vb false)] h fun a h => ?_
        refine ops_end ?_
        obtain rfl := Option.some.inj hm
        exact then_n (h.tos [900, 901] trivial)
  intro a w hJ
  have h := hJ
  refine wp_ret ?_
  obtain rfl := Option.some.inj hm
  exact rt1 h rfl rfl ⟨rfl, bk_sel h [] trivial⟩

theorem c_ref01_Has {A : List Nat} {w0 : World} {y0 : List T_Literal} {p1 : Option Addr} {c1 : Nat} {y1 : T_Literal} {r : Bool} (hO : Own A w0 []) (hF : All [R e_Literal p1 c1 (List.length y0) y0] (bl [] ++ A) w0) (hm : m_ref01_Has y0 y1 = some r) :
    Calls Try.prog 36 [.slice p1 (List.length y0) c1, .agg #[vb y1.1, vs y1.2]].toArray w0 (Ret fun v w => v = vb r ∧ Bk A [] w0 [] [] w) := by
  unfold m_ref01_Has at hm
  refine ent Try.func36 rfl hO hF fun a h => ?_
  refine sr ?_
  refine sl (b_box h rfl fun b1 a w h e => ?_)
  refine pr 1 [] h fun a h => ?_
  refine oe ?_
  refine wp_seq ?_
  refine sp [(5, vi 0)] h fun a h => ?_
  refine wp_block ?_
  refine loop_m (B := (m_ref01_Has_L1 y0 y1)) (fun (s1 : Int) a w => SS A [] w0 18 [(0, .slice p1 (List.length y0) c1), (3, .pointer (some ⟨b1, 0, none⟩)), (5, vi s1)] [bx b1 23 [vb y1.1, vs y1.2]] [R e_Literal p1 c1 (List.length y0) y0] a w) hm (h.to 1 ⟨(h.g 0), trivial⟩) ?_
  intro s1 a w o1 hJ hm hr1
  have h := hJ
  unfold m_ref01_Has_L1 at hm
  refine wp_seq ?_
  refine sp [(9, vb (decide (s1 < (len y0))))] h fun a h => ?_
  refine cb h rfl (fun hb1 => ?_) (fun hb1 => ?_)
  · replace hm := ifT hb1 hm
    refine wp_skip ?_
    refine then_n ?_
    refine wp_seq ?_
    refine wp_block ?_
    refine ds [] [0] h fun w h => ?_
    refine dp 0 (.slice p1 (List.length y0) c1) h rfl fun a h => ?_
    refine dp 1 (vi s1) h rfl fun a h => ?_
    obtain ⟨x1, h1, hm⟩ := bnd hm
    refine dir 2 h rfl (h.g 0) rfl rfl h1 fun b2 o2 a h => ?_
    refine dlp 3 true h rfl (h.g 0) rfl fun ci1 hc1 v1 hv1 a h => ?_
    replace hc1 : E.rd e_Literal _ _ ci1 x1 := hc1
    obtain ⟨_, _, rfl, rfl, rfl⟩ := hc1
    obtain rfl := Option.some.inj hv1
    have h := h.upd (t := 15) (.agg #[vb x1.1, vs x1.2]) rfl rfl
    refine dlo 4 0 (.agg #[vb y1.1, vs y1.2]) h rfl rfl rfl fun a h => ?_
    refine dp 5 (vb (x1 == y1)) h rfl fun a h => ?_
    refine de (then_n ?_)
    refine cb h rfl (fun hb2 => ?_) (fun hb2 => ?_)
    · replace hm := ifT hb2 hm
      refine sp [(4, vb true)] h fun a h => ?_
      refine wp_ret ?_
      refine inb_r (then_r (lp_r (inb_r (then_r ?_))))
      replace hm := loopR hr1 hm
      obtain rfl := Option.some.inj hm
      exact rt1 h rfl rfl ⟨rfl, bk_sel h [] trivial⟩
    replace hm := ifF hb2 hm
    refine wp_skip ?_
    refine inb_n ?_
    refine then_n ?_
    refine reg ?_
    refine pr 3 [(5, vi (w64 (s1 + 1)))] h fun a h => ?_
    refine ops_end ?_
    obtain rfl := Option.some.inj hm
    exact lp_n rfl (h.to 1 ⟨(h.g 1), trivial⟩)
  replace hm := ifF hb1 hm
  refine wp_exit ?_
  refine then_e (lp_e (inb_hit ?_))
  replace hm := loopR hr1 hm
  refine then_n ?_
  refine sp [(4, vb false)] h fun a h => ?_
  refine wp_ret ?_
  obtain rfl := Option.some.inj hm
  exact rt1 h rfl rfl ⟨rfl, bk_sel h [] trivial⟩

theorem c_ref01_Consistent {A : List Nat} {w0 : World} {y0 : List T_Literal} {p1 : Option Addr} {c1 : Nat} {r : Bool} (hO : Own A w0 []) (hF : All [R e_Literal p1 c1 (List.length y0) y0] (bl [] ++ A) w0) (hm : m_ref01_Consistent y0 = some r) :
    Calls Try.prog 35 [.slice p1 (List.length y0) c1].toArray w0 (Ret fun v w => v = vb r ∧ Bk A [] w0 [] [] w) := by
  unfold m_ref01_Consistent at hm
  refine ent Try.func35 rfl hO hF fun a h => ?_
  refine sp [] h fun a h => ?_
  refine wp_seq ?_
  refine sp [(3, vi 0)] h fun a h => ?_
  refine wp_block ?_
  refine loop_m (B := (m_ref01_Consistent_L1 y0)) (fun (s1 : Int) a w => SS A [] w0 17 [(0, .slice p1 (List.length y0) c1), (3, vi s1)] [] [R e_Literal p1 c1 (List.length y0) y0] a w) hm (h.to 0 ⟨(h.g 0), trivial⟩) ?_
  intro s1 a w o1 hJ hm hr1
  have h := hJ
  unfold m_ref01_Consistent_L1 at hm
  refine wp_seq ?_
  refine sp [(7, vb (decide (s1 < (len y0))))] h fun a h => ?_
  refine cb h rfl (fun hb1 => ?_) (fun hb1 => ?_)
  · replace hm := ifT hb1 hm
    refine wp_skip ?_
    refine then_n ?_
    refine wp_seq ?_
    refine wp_block ?_
    refine sr ?_
    refine pr 3 [(12, vi s1), (11, .slice p1 (List.length y0) c1), (10, .slice p1 (List.length y0) c1)] h fun a h => ?_
    obtain ⟨x1, h1, hm⟩ := bnd hm
    refine sl (b_index_rd h (h.g 0) rfl rfl h1 fun b1 o2 a h => ?_)
    refine sl (b_load_pt true h (h.g 0) rfl fun ci1 hc1 v1 hv1 a h => ?_)
    replace hc1 : E.rd e_Literal _ _ ci1 x1 := hc1
    obtain ⟨_, _, rfl, rfl, rfl⟩ := hc1
    obtain rfl := Option.some.inj hv1
    have h := h.upd (t := 14) (.agg #[vb x1.1, vs x1.2]) rfl rfl
    obtain ⟨r1, h2, hm⟩ := bnd hm
    refine sl (b_call [] [] h Try.call22 rfl rfl (c_ref01_Complement (y0 := x1) (h.po [] []) trivial h2) fun v a w hp hc => ?_)
    obtain ⟨rfl, q⟩ := hp
    have h := hc.on q []
    obtain ⟨r2, h3, hm⟩ := bnd hm
    refine sl (b_call [] [] h Try.call36 rfl rfl (c_ref01_Has (y0 := y0) (y1 := r1) (h.po [] []) ⟨(h.pf [] [] 1), trivial⟩ h3) fun v a w hp hc => ?_)
    obtain ⟨rfl, q⟩ := hp
    have h := hc.on q []
    refine oe ?_
    refine cb h rfl (fun hb2 => ?_) (fun hb2 => ?_)
    · replace hm := ifT hb2 hm
      refine sp [(2, vb false)] h fun a h => ?_
      refine wp_ret ?_
      refine inb_r (then_r (lp_r (inb_r (then_r ?_))))
      replace hm := loopR hr1 hm
      obtain rfl := Option.some.inj hm
      exact rt1 h rfl rfl ⟨rfl, bk_sel h [] trivial⟩
    replace hm := ifF hb2 hm
    refine wp_skip ?_
    refine inb_n ?_
    refine then_n ?_
    refine reg ?_
    refine pr 3 [(3, vi (w64 (s1 + 1)))] h fun a h => ?_
    refine ops_end ?_
    obtain rfl := Option.some.inj hm
    exact lp_n rfl (h.to 0 ⟨(h.g 1), trivial⟩)
  replace hm := ifF hb1 hm
  refine wp_exit ?_
  refine then_e (lp_e (inb_hit ?_))
  replace hm := loopR hr1 hm
  refine then_n ?_
  refine sp [(2, vb true)] h fun a h => ?_
  refine wp_ret ?_
  obtain rfl := Option.some.inj hm
  exact rt1 h rfl rfl ⟨rfl, bk_sel h [] trivial⟩

theorem c_ref01_Insert {A : List Nat} {w0 : World} {y0 : List T_Literal} {p1 : Option Addr} {c1 : Nat} {y1 : T_Literal} {r : (List T_Literal)} (hO : Own A w0 []) (hF : All [R e_Literal p1 c1 (List.length y0) y0] (bl [] ++ A) w0) (hm : m_ref01_Insert y0 y1 = some r) :
    Calls Try.prog 46 [.slice p1 (List.length y0) c1, .agg #[vb y1.1, vs y1.2]].toArray w0 (Ret fun v w => ∃ (p2 : Option Addr) (c2 : Nat), v = .slice p2 (List.length r) c2 ∧ Bk A [] w0 [] [R e_Literal p2 c2 (List.length r) r] w) := by
  unfold m_ref01_Insert at hm
  refine ent Try.func46 rfl hO hF fun a h => ?_
  refine sr ?_
  refine sl (b_box h rfl fun b1 a w h e => ?_)
  refine pr 1 [] h fun a h => ?_
  refine oe ?_
  refine sp [(5, vi 0)] h fun a h => ?_
  obtain ⟨s1, hx, hm⟩ := bnd hm
  refine seq_j (fun a w => SS A [] w0 48 [(0, .slice p1 (List.length y0) c1), (3, .pointer (some ⟨b1, 0, none⟩)), (5, vi s1)] [bx b1 23 [vb y1.1, vs y1.2]] [R e_Literal p1 c1 (List.length y0) y0] a w) ?_ ?_
  · have hm2 := hm
    replace hm := hx
    refine wp_block ?_
    refine loop_m (B := (m_ref01_Insert_L1 y0 y1)) (fun (s2 : Int) a w => SS A [] w0 48 [(0, .slice p1 (List.length y0) c1), (3, .pointer (some ⟨b1, 0, none⟩)), (5, vi s2)] [bx b1 23 [vb y1.1, vs y1.2]] [R e_Literal p1 c1 (List.length y0) y0] a w) hm (h.to 1 ⟨(h.g 0), trivial⟩) ?_
    intro s2 a w o1 hJ hm hr1
    have h := hJ
    unfold m_ref01_Insert_L1 at hm
    refine wp_seq ?_
    obtain ⟨s3, hx, hm⟩ := bnd hm
    refine seq_j (fun a w => SS A [] w0 48 [(0, .slice p1 (List.length y0) c1), (3, .pointer (some ⟨b1, 0, none⟩)), (5, vi s2), (19, vb s3)] [bx b1 23 [vb y1.1, vs y1.2]] [R e_Literal p1 c1 (List.length y0) y0] a w) ?_ ?_
    · replace hm := hx
      refine ds' [] [0] h fun w h => ?_
      refine dp 0 (vi s2) h rfl fun a h => ?_
      refine dp 1 (.slice p1 (List.length y0) c1) h rfl fun a h => ?_
      refine dp 2 (vi (len y0)) h rfl fun a h => ?_
      refine dp 3 (vb (decide (s2 < (len y0)))) h rfl fun a h => ?_
      refine dp 4 (vb (decide (s2 < (len y0)))) h rfl fun a h => ?_
      rcases Bool.eq_false_or_eq_true (decide (s2 < (len y0))) with hb1 | hb1
      · have h := h.upd (t := 11) (vb true) rfl (congrArg Value.bool hb1)
        replace hm := ifT hb1 hm
        refine dp 5 (.slice p1 (List.length y0) c1) h rfl fun a h => ?_
        refine dp 6 (vi s2) h rfl fun a h => ?_
        obtain ⟨x1, h1, hm⟩ := bnd hm
        refine dir 7 h rfl (h.g 0) rfl rfl h1 fun b2 o2 a h => ?_
        refine dlp 8 true h rfl (h.g 0) rfl fun ci1 hc1 v1 hv1 a h => ?_
        replace hc1 : E.rd e_Literal _ _ ci1 x1 := hc1
        obtain ⟨_, _, rfl, rfl, rfl⟩ := hc1
        obtain rfl := Option.some.inj hv1
        have h := h.upd (t := 15) (.agg #[vb x1.1, vs x1.2]) rfl rfl
        refine dlo 9 0 (.agg #[vb y1.1, vs y1.2]) h rfl rfl rfl fun a h => ?_
        refine d1 10 rfl ?_
        obtain ⟨r1, h2, hm⟩ := bnd hm
        refine b_call [] [] h Try.call24 rfl rfl (c_ref01_Compare (y0 := x1) (y1 := y1) (h.po [] []) trivial h2) fun v a w hp hc => ?_
        obtain ⟨rfl, q⟩ := hp
        have e := hc.st q [bx b1 23 [vb y1.1, vs y1.2]]
        have h := hc.on q [bx b1 23 [vb y1.1, vs y1.2]]
        refine dn h e ?_
        refine dp 11 (vb (decide (r1 < 0))) h rfl fun a h => ?_
        refine dp 12 (vb (decide (r1 < 0))) h rfl fun a h => ?_
        refine de ?_
        obtain rfl := Option.some.inj hm
        exact then_n (h.to 1 ⟨(h.g 1), trivial⟩)
      · have h := h.upd (t := 11) (vb false) rfl (congrArg Value.bool hb1)
        replace hm := ifF hb1 hm
        refine dk 5 h rfl fun a h => ?_
        refine dk 6 h rfl fun a h => ?_
        refine dk 7 h rfl fun a h => ?_
        refine dk 8 h rfl fun a h => ?_
        refine dk 9 h rfl fun a h => ?_
        refine dk 10 h rfl fun a h => ?_
        refine dk 11 h rfl fun a h => ?_
        refine dp 12 (vb false) h rfl fun a h => ?_
        refine de ?_
        obtain rfl := Option.some.inj hm
        exact then_n (h.to 1 ⟨(h.g 0), trivial⟩)
    intro a w hJ
    have h := hJ
    refine cb h rfl (fun hb2 => ?_) (fun hb2 => ?_)
    · replace hm := ifT hb2 hm
      refine wp_skip ?_
      refine then_n ?_
      refine wp_block ?_
      refine reg ?_
      refine pr 3 [(5, vi (w64 (s2 + 1)))] h fun a h => ?_
      refine ops_end ?_
      refine inb_n ?_
      obtain rfl := Option.some.inj hm
      exact lp_n rfl (h.to 1 ⟨(h.g 0), trivial⟩)
    replace hm := ifF hb2 hm
    refine wp_exit ?_
    refine then_e (lp_e (inb_hit ?_))
    replace hm := loopR hr1 hm
    obtain rfl := Option.some.inj hm
    exact then_n (h.to 1 ⟨(h.g 0), trivial⟩)
  intro a w hJ
  have h := hJ
  refine wp_seq ?_
  obtain ⟨s4, hx, hm⟩ := bnd hm
  refine seq_j (fun a w => SS A [] w0 48 [(0, .slice p1 (List.length y0) c1), (3, .pointer (some ⟨b1, 0, none⟩)), (5, vi s1), (33, vb s4)] [bx b1 23 [vb y1.1, vs y1.2]] [R e_Literal p1 c1 (List.length y0) y0] a w) ?_ ?_
  · replace hm := hx
    refine ds' [] [0] h fun w h => ?_
    refine dp 0 (vi s1) h rfl fun a h => ?_
    refine dp 1 (.slice p1 (List.length y0) c1) h rfl fun a h => ?_
    refine dp 2 (vi (len y0)) h rfl fun a h => ?_
    refine dp 3 (vb (decide (s1 < (len y0)))) h rfl fun a h => ?_
    refine dp 4 (vb (decide (s1 < (len y0)))) h rfl fun a h => ?_
    rcases Bool.eq_false_or_eq_true (decide (s1 < (len y0))) with hb3 | hb3
    · have h := h.upd (t := 26) (vb true) rfl (congrArg Value.bool hb3)
      replace hm := ifT hb3 hm
      refine dp 5 (.slice p1 (List.length y0) c1) h rfl fun a h => ?_
      refine dp 6 (vi s1) h rfl fun a h => ?_
      obtain ⟨x2, h3, hm⟩ := bnd hm
      refine dir 7 h rfl (h.g 0) rfl rfl h3 fun b3 o3 a h => ?_
      refine dlp 8 true h rfl (h.g 0) rfl fun ci2 hc2 v2 hv2 a h => ?_
      replace hc2 : E.rd e_Literal _ _ ci2 x2 := hc2
      obtain ⟨_, _, rfl, rfl, rfl⟩ := hc2
      obtain rfl := Option.some.inj hv2
      have h := h.upd (t := 30) (.agg #[vb x2.1, vs x2.2]) rfl rfl
      refine dlo 9 0 (.agg #[vb y1.1, vs y1.2]) h rfl rfl rfl fun a h => ?_
      refine dp 10 (vb (x2 == y1)) h rfl fun a h => ?_
      refine dp 11 (vb (x2 == y1)) h rfl fun a h => ?_
      refine de ?_
      obtain rfl := Option.some.inj hm
      exact then_n (h.to 1 ⟨(h.g 1), trivial⟩)
    · have h := h.upd (t := 26) (vb false) rfl (congrArg Value.bool hb3)
      replace hm := ifF hb3 hm
      refine dk 5 h rfl fun a h => ?_
      refine dk 6 h rfl fun a h => ?_
      refine dk 7 h rfl fun a h => ?_
      refine dk 8 h rfl fun a h => ?_
      refine dk 9 h rfl fun a h => ?_
      refine dk 10 h rfl fun a h => ?_
      refine dp 11 (vb false) h rfl fun a h => ?_
      refine de ?_
      obtain rfl := Option.some.inj hm
      exact then_n (h.to 1 ⟨(h.g 0), trivial⟩)
  intro a w hJ
  have h := hJ
  refine cb h rfl (fun hb4 => ?_) (fun hb4 => ?_)
  · replace hm := ifT hb4 hm
    refine sp [(4, .slice p1 (List.length y0) c1)] h fun a h => ?_
    refine wp_ret ?_
    refine then_r ?_
    obtain rfl := Option.some.inj hm
    exact rt1 h rfl rfl ⟨p1, c1, rfl, bk_sel h [] ⟨(h.g 0), trivial⟩⟩
  replace hm := ifF hb4 hm
  refine wp_skip ?_
  refine then_n ?_
  refine sr ?_
  refine sl (b_bs_own (te := 23) (e := e_Literal) [] ([] : List T_Literal) h rfl fun r_1 p2 c2 a w h e => ?_)
  refine pr 2 [(37, vi s1), (36, .slice p1 (List.length y0) c1)] h fun a h => ?_
  obtain ⟨x3, h4, hm⟩ := bnd hm
  refine sl (b_slice_rd h (h.g 1) rfl rfl rfl (.inl ⟨rfl, rfl⟩) (.inr ⟨_, rfl⟩) h4 fun p3 c3 a h => ?_)
  obtain ⟨x4, h5, hm⟩ := bnd hm
  refine sl (b_append_r (te := 23) 1 h (h.g 1) (h.g 0) rfl rfl h5 fun r_2 p4 c4 a w h e => ?_)
  refine pr 1 [(6, .slice p4 (List.length x4) c4)] h fun a h => ?_
  refine oe ?_
  refine ds [] [0] h fun w h => ?_
  refine dp 0 (.slice p4 (List.length x4) c4) h rfl fun a h => ?_
  refine dlo 1 0 (.agg #[vb y1.1, vs y1.2]) h rfl rfl rfl fun a h => ?_
  refine dp 4 (.slice p1 (List.length y0) c1) h rfl fun a h => ?_
  refine dp 5 (vi s1) h rfl fun a h => ?_
  obtain ⟨x5, h6, hm⟩ := bnd hm
  refine dslice_rd 6 h rfl (h.g 3) rfl rfl rfl (.inr ⟨_, rfl⟩) (.inl ⟨rfl, rfl⟩) h6 fun p5 c5 a h => ?_
  refine d1 2 rfl ?_
  refine b_bs_rd (te := 23) (e := e_Literal) [vb y1.1, vs y1.2] ([y1] : List T_Literal) h ⟨_, _, rfl, eProd.mk eBool.mk eStr.mk, rfl⟩ fun p6 c6 a w h e => ?_
  refine dn h e ?_
  refine d1 3 rfl ?_
  obtain ⟨x6, h7, hm⟩ := bnd hm
  refine b_append_r (te := 23) 1 h (h.g 2) (h.g 0) rfl rfl h7 fun r_3 p7 c7 a w h e => ?_
  refine dn h e ?_
  refine d1 7 rfl ?_
  obtain ⟨x7, h8, hm⟩ := bnd hm
  refine b_append_r (te := 23) 1 h (h.g 0) (h.g 2) rfl rfl h8 fun r_4 p8 c8 a w h e => ?_
  refine dn h e ?_
  refine dp 8 (.slice p8 (List.length x7) c8) h rfl fun a h => ?_
  refine de (then_n ?_)
  refine wp_ret ?_
  obtain rfl := Option.some.inj hm
  have h := h.share 1 (h.g 0)
  exact rt1 h rfl rfl ⟨p8, c8, rfl, bk_sel h [] ⟨(h.g 0), trivial⟩⟩

theorem c_ref01_Normal {A : List Nat} {w0 : World} {y0 : List T_Literal} {p1 : Option Addr} {c1 : Nat} {r : (List T_Literal)} (hO : Own A w0 []) (hF : All [R e_Literal p1 c1 (List.length y0) y0] (bl [] ++ A) w0) (hm : m_ref01_Normal y0 = some r) :
    Calls Try.prog 34 [.slice p1 (List.length y0) c1].toArray w0 (Ret fun v w => ∃ (p2 : Option Addr) (c2 : Nat), v = .slice p2 (List.length r) c2 ∧ Bk A [] w0 [] [R e_Literal p2 c2 (List.length r) r] w) := by
  unfold m_ref01_Normal at hm
  refine ent Try.func34 rfl hO hF fun a h => ?_
  refine sp [] h fun a h => ?_
  refine sp [(3, .slice none 0 0)] h fun a h => ?_
  refine wp_seq ?_
  refine sp [(4, vi 0)] h fun a h => ?_
  refine wp_block ?_
  refine loop_m (B := (m_ref01_Normal_L1 y0)) (fun (s1 : (List T_Literal) × Int) a w => ∃ (p2 : Option Addr) (c2 : Nat), SS A [] w0 18 [(0, .slice p1 (List.length y0) c1), (3, .slice p2 (List.length s1.1) c2), (4, vi s1.2)] [] [R e_Literal p2 c2 (List.length s1.1) s1.1, R e_Literal p1 c1 (List.length y0) y0] a w) hm ⟨none, 0, h.to 0 ⟨(rnil e_Literal _ _ _ _), (h.g 0), trivial⟩⟩ ?_
  intro s1 a w o1 hJ hm hr1
  obtain ⟨p2, c2, h⟩ := hJ
  unfold m_ref01_Normal_L1 at hm
  refine wp_seq ?_
  refine sp [(8, vb (decide (s1.2 < (len y0))))] h fun a h => ?_
  refine cb h rfl (fun hb1 => ?_) (fun hb1 => ?_)
  · replace hm := ifT hb1 hm
    refine wp_skip ?_
    refine then_n ?_
    refine wp_seq ?_
    refine wp_block ?_
    refine reg ?_
    refine pr 3 [(13, vi s1.2), (12, .slice p1 (List.length y0) c1), (11, .slice p2 (List.length s1.1) c2)] h fun a h => ?_
    obtain ⟨x1, h1, hm⟩ := bnd hm
    refine sl (b_index_rd h (h.g 1) rfl rfl h1 fun b1 o2 a h => ?_)
    refine sl (b_load_pt true h (h.g 0) rfl fun ci1 hc1 v1 hv1 a h => ?_)
    replace hc1 : E.rd e_Literal _ _ ci1 x1 := hc1
    obtain ⟨_, _, rfl, rfl, rfl⟩ := hc1
    obtain rfl := Option.some.inj hv1
    have h := h.upd (t := 15) (.agg #[vb x1.1, vs x1.2]) rfl rfl
    obtain ⟨r1, h2, hm⟩ := bnd hm
    refine sl (b_call [] [] h Try.call46 rfl rfl (c_ref01_Insert (y0 := s1.1) (y1 := x1) (h.po [] []) ⟨(h.pf [] [] 1), trivial⟩ h2) fun v a w hp hc => ?_)
    obtain ⟨p3, c3, rfl, q⟩ := hp
    have h := hc.on q []
    refine pr 1 [(3, .slice p3 (List.length r1) c3)] h fun a h => ?_
    refine ops_end ?_
    refine inb_n ?_
    refine then_n ?_
    refine reg ?_
    refine pr 3 [(4, vi (w64 (s1.2 + 1)))] h fun a h => ?_
    refine ops_end ?_
    obtain rfl := Option.some.inj hm
    exact lp_n rfl ⟨p3, c3, h.to 0 ⟨(h.g 0), (h.g 3), trivial⟩⟩
  replace hm := ifF hb1 hm
  refine wp_exit ?_
  refine then_e (lp_e (inb_hit ?_))
  replace hm := loopR hr1 hm
  refine then_n ?_
  refine sp [(2, .slice p2 (List.length s1.1) c2)] h fun a h => ?_
  refine wp_ret ?_
  obtain rfl := Option.some.inj hm
  exact rt1 h rfl rfl ⟨p2, c2, rfl, bk_sel h [] ⟨(h.g 0), trivial⟩⟩

theorem c_ref01_Names {A : List Nat} {w0 : World} {y0 : List T_Literal} {p1 : Option Addr} {c1 : Nat} {r : (List Str)} (hO : Own A w0 []) (hF : All [R e_Literal p1 c1 (List.length y0) y0] (bl [] ++ A) w0) (hm : m_ref01_Names y0 = some r) :
    Calls Try.prog 33 [.slice p1 (List.length y0) c1].toArray w0 (Ret fun v w => ∃ (p2 : Option Addr) (c2 : Nat), v = .slice p2 (List.length r) c2 ∧ Bk A [] w0 [] [R eStr p2 c2 (List.length r) r] w) := by
  unfold m_ref01_Names at hm
  refine ent Try.func33 rfl hO hF fun a h => ?_
  refine sp [] h fun a h => ?_
  refine sr ?_
  have h := h.room eStr 9
  refine pr 1 [(3, .slice none 0 0)] h fun a h => ?_
  refine oe ?_
  refine sr ?_
  refine pr 1 [(6, .slice p1 (List.length y0) c1)] h fun a h => ?_
  obtain ⟨r1, h1, hm⟩ := bnd hm
  refine sl (b_call [] [] h Try.call34 rfl rfl (c_ref01_Normal (y0 := y0) (h.po [] []) ⟨(h.pf [] [] 1), trivial⟩ h1) fun v a w hp hc => ?_)
  obtain ⟨p2, c2, rfl, q⟩ := hp
  have h := hc.on q [[]]
  refine pr 1 [(4, .slice p2 (List.length r1) c2)] h fun a h => ?_
  refine oe ?_
  refine wp_seq ?_
  refine sp [(5, vi 0)] h fun a h => ?_
  refine wp_block ?_
  have h := h.upd (t := 3) (.slice none (List.length ([] : List Str)) 0) rfl (by rw [Ar.ln (h.g 1)])
  have h := h.add (Ar.re (h.g 1))
  refine loop_m (B := (m_ref01_Names_L1 r1)) (fun (s1 : (List Str) × Int) a w => ∃ (p3 : Option Addr) (c3 : Nat) (r_1 : Res), SS A [] w0 39 [(3, .slice p3 (List.length s1.1) c3), (4, .slice p2 (List.length r1) c2), (5, vi s1.2)] [r_1] [Ar eStr 9 r_1 p3 c3 (List.length s1.1) s1.1, R e_Literal p2 c2 (List.length r1) r1] a w) hm ⟨none, 0, [], h.to 1 ⟨(h.g 0), (h.g 1), trivial⟩⟩ ?_
  intro s1 a w o1 hJ hm hr1
  obtain ⟨p3, c3, r_1, h⟩ := hJ
  unfold m_ref01_Names_L1 at hm
  refine wp_seq ?_
  refine sp [(11, vb (decide (s1.2 < (len r1))))] h fun a h => ?_
  refine cb h rfl (fun hb1 => ?_) (fun hb1 => ?_)
  · replace hm := ifT hb1 hm
    refine wp_skip ?_
    refine then_n ?_
    refine wp_seq ?_
    refine wp_block ?_
    obtain ⟨s2, hx, hm⟩ := bnd hm
    refine seq_j (fun a w => SS A [] w0 39 [(3, .slice p3 (List.length s1.1) c3), (4, .slice p2 (List.length r1) c2), (5, vi s1.2), (29, vb s2)] [r_1] [Ar eStr 9 r_1 p3 c3 (List.length s1.1) s1.1, R e_Literal p2 c2 (List.length r1) r1] a w) ?_ ?_
    · replace hm := hx
      refine ds' [] [] h fun w h => ?_
      refine dp 0 (vi s1.2) h rfl fun a h => ?_
      refine dp 1 (vb (s1.2 == 0)) h rfl fun a h => ?_
      refine dp 2 (vb (s1.2 == 0)) h rfl fun a h => ?_
      rcases Bool.eq_false_or_eq_true (s1.2 == 0) with hb2 | hb2
      · have h := h.upd (t := 16) (vb true) rfl (congrArg Value.bool hb2)
        replace hm := ifT hb2 hm
        refine dk 3 h rfl fun a h => ?_
        refine dk 4 h rfl fun a h => ?_
        refine dk 5 h rfl fun a h => ?_
        refine dk 6 h rfl fun a h => ?_
        refine dk 7 h rfl fun a h => ?_
        refine dk 8 h rfl fun a h => ?_
        refine dk 9 h rfl fun a h => ?_
        refine dk 10 h rfl fun a h => ?_
        refine dk 11 h rfl fun a h => ?_
        refine dk 12 h rfl fun a h => ?_
        refine dk 13 h rfl fun a h => ?_
        refine dk 14 h rfl fun a h => ?_
        refine dp 15 (vb true) h rfl fun a h => ?_
        refine de ?_
        obtain rfl := Option.some.inj hm
        exact then_n (h.to 1 ⟨(h.g 0), (h.g 1), trivial⟩)
      · have h := h.upd (t := 16) (vb false) rfl (congrArg Value.bool hb2)
        replace hm := ifF hb2 hm
        refine dp 3 (.slice p2 (List.length r1) c2) h rfl fun a h => ?_
        refine dp 4 (vi s1.2) h rfl fun a h => ?_
        obtain ⟨x1, h2, hm⟩ := bnd hm
        refine dir 5 h rfl (h.g 1) rfl rfl h2 fun b1 o2 a h => ?_
        refine dp 6 (.pointer (some ⟨b1, (o2 + 1), none⟩)) h rfl fun a h => ?_
        refine dlp 7 false h rfl (PtTo.snd (h.g 0)) rfl fun ci1 hc1 v1 hv1 a h => ?_
        replace hc1 : E.rd eStr _ _ ci1 x1.2 := hc1
        obtain rfl := hc1
        obtain rfl := Option.some.inj hv1
        refine dp 8 (.slice p2 (List.length r1) c2) h rfl fun a h => ?_
        refine dp 9 (vi s1.2) h rfl fun a h => ?_
        refine dp 10 (vi (w64 (s1.2 - 1))) h rfl fun a h => ?_
        obtain ⟨x2, h3, hm⟩ := bnd hm
        refine dir 11 h rfl (h.g 2) rfl rfl h3 fun b2 o3 a h => ?_
        refine dp 12 (.pointer (some ⟨b2, (o3 + 1), none⟩)) h rfl fun a h => ?_
        refine dlp 13 false h rfl (PtTo.snd (h.g 0)) rfl fun ci2 hc2 v2 hv2 a h => ?_
        replace hc2 : E.rd eStr _ _ ci2 x2.2 := hc2
        obtain rfl := hc2
        obtain rfl := Option.some.inj hv2
        refine dp 14 (vb (!(x1.2 == x2.2))) h rfl fun a h => ?_
        refine dp 15 (vb (!(x1.2 == x2.2))) h rfl fun a h => ?_
        refine de ?_
        obtain rfl := Option.some.inj hm
        exact then_n (h.to 1 ⟨(h.g 2), (h.g 3), trivial⟩)
    intro a w hJ
    have h := hJ
    refine cb h rfl (fun hb3 => ?_) (fun hb3 => ?_)
    · replace hm := ifT hb3 hm
      refine reg ?_
      refine pr 3 [(32, vi s1.2), (31, .slice p2 (List.length r1) c2), (30, .slice p3 (List.length s1.1) c3)] h fun a h => ?_
      obtain ⟨x3, h4, hm⟩ := bnd hm
      refine sl (b_index_rd h (h.g 1) rfl rfl h4 fun b3 o4 a h => ?_)
      refine pr 1 [(34, .pointer (some ⟨b3, (o4 + 1), none⟩))] h fun a h => ?_
      refine sl (b_load_pt false h (PtTo.snd (h.g 0)) rfl fun ci3 hc3 v3 hv3 a h => ?_)
      replace hc3 : E.rd eStr _ _ ci3 x3.2 := hc3
      obtain rfl := hc3
      obtain rfl := Option.some.inj hv3
      refine sl (b_bs_rd (te := 9) (e := eStr) [vs x3.2] ([x3.2] : List Str) h ⟨_, _, rfl, eStr.mk, rfl⟩ fun p4 c4 a w h e => ?_)
      obtain ⟨x4, h5, hm⟩ := bnd hm
      refine sl (b_append_r (te := 9) 0 h (h.g 2) (h.g 0) rfl rfl h5 fun r_2 p5 c5 a w h e => ?_)
      refine pr 1 [(3, .slice p5 (List.length x4) c5)] h fun a h => ?_
      refine ops_end ?_
      refine inb_n ?_
      refine then_n ?_
      refine reg ?_
      refine pr 3 [(5, vi (w64 (s1.2 + 1)))] h fun a h => ?_
      refine ops_end ?_
      obtain rfl := Option.some.inj hm
      exact lp_n rfl ⟨p5, c5, r_2, h.to 1 ⟨(h.g 0), (h.g 4), trivial⟩⟩
    replace hm := ifF hb3 hm
    refine wp_skip ?_
    refine inb_n ?_
    refine then_n ?_
    refine reg ?_
    refine pr 3 [(5, vi (w64 (s1.2 + 1)))] h fun a h => ?_
    refine ops_end ?_
    obtain rfl := Option.some.inj hm
    exact lp_n rfl ⟨p3, c3, r_1, h.to 1 ⟨(h.g 0), (h.g 1), trivial⟩⟩
  replace hm := ifF hb1 hm
  refine wp_exit ?_
  refine then_e (lp_e (inb_hit ?_))
  replace hm := loopR hr1 hm
  refine then_n ?_
  refine sp [(2, .slice p3 (List.length s1.1) c3)] h fun a h => ?_
  refine wp_ret ?_
  obtain rfl := Option.some.inj hm
  have h := h.share 0 (h.g 0)
  exact rt1 h rfl rfl ⟨p3, c3, rfl, bk_sel h [] ⟨(h.g 0), trivial⟩⟩

theorem c_law01_LiteralSets {A : List Nat} {w0 : World} {y0 : List T_Literal} {p1 : Option Addr} {c1 : Nat} {y1 : T_Literal} {y2 : List Int} {p2 : Option Addr} {c2 : Nat} {r : Bool} (hO : Own A w0 []) (hF : All [R e_Literal p1 c1 (List.length y0) y0, R (eInt .i64) p2 c2 (List.length y2) y2] (bl [] ++ A) w0) (hm : m_law01_LiteralSets y0 y1 y2 = some r) :
    Calls Try.prog 8 [.slice p1 (List.length y0) c1, .agg #[vb y1.1, vs y1.2], .slice p2 (List.length y2) c2].toArray w0 (Ret fun v w => v = vb r ∧ Bk A [] w0 [] [] w) := by
  unfold m_law01_LiteralSets at hm
  refine ent Try.func8 rfl hO hF fun a h => ?_
  refine sr ?_
  refine sl (b_box h rfl fun b1 a w h e => ?_)
  refine pr 1 [] h fun a h => ?_
  refine oe ?_
  refine wp_seq ?_
  refine sp [(18, vb (decide (40 < (len y0))))] h fun a h => ?_
  refine cb h rfl (fun hb1 => ?_) (fun hb1 => ?_)
  · replace hm := ifT hb1 hm
    refine sp [(6, vb true)] h fun a h => ?_
    refine wp_ret ?_
    refine then_r ?_
    obtain rfl := Option.some.inj hm
    exact rt1 h rfl rfl ⟨rfl, bk_sel h [] trivial⟩
  replace hm := ifF hb1 hm
  refine wp_skip ?_
  refine then_n ?_
  refine sr ?_
  refine pr 1 [(19, .slice p2 (List.length y2) c2)] h fun a h => ?_
  obtain ⟨r1, h1, hm⟩ := bnd hm
  refine sl (b_call [] [] h Try.call9 rfl rfl (c_keep_New (y0 := y2) (h.po [] []) ⟨(h.pf [] [] 1), trivial⟩ h1) fun v a w hp hc => ?_)
  obtain ⟨b2, p3, c3, rfl, q⟩ := hp
  have h := hc.on q [bx b1 23 [vb y1.1, vs y1.2], bx b2 56 [.slice p3 (List.length r1.1) c3, vi r1.2]]
  refine pr 1 [(7, .pointer (some ⟨b2, 0, none⟩))] h fun a h => ?_
  refine oe ?_
  refine sr ?_
  refine pr 1 [(21, .pointer (some ⟨b2, 0, none⟩))] h fun a h => ?_
  obtain ⟨r2, h2, hm⟩ := bnd hm
  refine sl (b_call [1] [] h Try.call25 rfl rfl (c_keep_Src_Literals (y0 := r1) (y1 := 12) (y2 := 4) (h.po [1] []) ⟨(h.pf [1] [] 0), trivial⟩ h2) fun v a w hp hc => ?_)
  obtain ⟨p4, c4, rfl, q⟩ := hp
  have h := hc.on q [bx b1 23 [vb y1.1, vs y1.2], bx b2 56 [.slice p3 (List.length r1.1) c3, vi r2.2]]
  refine pr 1 [(8, .slice p4 (List.length r2.1) c4)] h fun a h => ?_
  refine oe ?_
  obtain ⟨os1, hx, hm⟩ := bnd hm
  refine seq_j (fun a w => ∃ s1 : Unit, os1 = .inl s1 ∧ (SS A [] w0 99 [] [[], []] [] a w)) ?_ ?_
  · have hm2 := hm
    replace hm := hx
    refine sr ?_
    refine pr 7 [(29, vi (len r2.1)), (27, vi (len r2.1)), (25, .slice p4 (List.length r2.1) c4), (24, .slice p4 (List.length r2.1) c4), (23, .slice p1 (List.length y0) c1)] h fun a h => ?_
    obtain ⟨x1, h3, hm⟩ := bnd hm
    refine sl (b_slice_full h (h.g 0) rfl rfl rfl rfl (.inl ⟨rfl, rfl⟩) h3 fun p5 a h => ?_)
    refine pr 1 [(31, .slice p1 (List.length y0) c1)] h fun a h => ?_
    obtain ⟨x2, h4, hm⟩ := bnd hm
    refine sl (b_append_f (te := 23) h (h.g 0) (h.g 3) rfl rfl h4 fun p6 c5 a w h e => ?_)
    refine sl (b_bs_rd (te := 29) (e := eSlice e_Literal) [.slice p1 (List.length y0) c1, .slice p4 (List.length r2.1) c4, .slice p6 (List.length x2) c5] ([y0, r2.1, x2] : List (List T_Literal)) h ⟨_, _, rfl, R.cell (h.g 4), ⟨_, _, rfl, R.cell (h.g 2), ⟨_, _, rfl, R.cell (h.g 0), rfl⟩⟩⟩ fun p7 c6 a w h e => ?_)
    refine pr 2 [(35, vi 0), (34, vi (len ([y0, r2.1, x2] : List (List T_Literal))))] h fun a h => ?_
    refine oe ?_
    refine wp_block ?_
    refine loop_m (B := (m_law01_LiteralSets_L1 y0 r2 x2 r1 y1)) (fun (s2 : Int × Int) a w => SS A [] w0 99 [(4, .pointer (some ⟨b1, 0, none⟩)), (7, .pointer (some ⟨b2, 0, none⟩)), (33, .slice p7 (List.length ([y0, r2.1, x2] : List (List T_Literal))) c6), (34, vi (len ([y0, r2.1, x2] : List (List T_Literal)))), (35, vi s2.1)] [bx b1 23 [vb y1.1, vs y1.2], bx b2 56 [.slice p3 (List.length r1.1) c3, vi s2.2]] [R (eSlice e_Literal) p7 c6 (List.length ([y0, r2.1, x2] : List (List T_Literal))) ([y0, r2.1, x2] : List (List T_Literal)), R (eInt .i64) p3 c3 (List.length r1.1) r1.1] a w) hm (h.to 2 ⟨(h.g 0), (h.g 4), trivial⟩) ?_
    intro s2 a w o1 hJ hm hr1
    have h := hJ
    unfold m_law01_LiteralSets_L1 at hm
    refine sp [(36, vb (decide (s2.1 < (len ([y0, r2.1, x2] : List (List T_Literal))))))] h fun a h => ?_
    refine wp_seq ?_
    refine cb h rfl (fun hb2 => ?_) (fun hb2 => ?_)
    · replace hm := ifT hb2 hm
      refine wp_skip ?_
      refine then_n ?_
      refine wp_seq ?_
      refine wp_block ?_
      refine sr ?_
      obtain ⟨x3, h5, hm⟩ := bnd hm
      refine sl (b_index_rd h (h.g 0) rfl rfl h5 fun b3 o2 a h => ?_)
      refine sl (b_load_pt false h (h.g 0) rfl fun ci1 hc1 v1 hv1 a h => ?_)
      replace hc1 : E.rd (eSlice e_Literal) _ _ ci1 x3 := hc1
      obtain ⟨p8, c7, rfl, f1⟩ := hc1
      obtain rfl := Option.some.inj hv1
      have h := h.upd (t := 38) (.slice p8 (List.length x3) c7) rfl rfl
      have h := h.add (R.of f1)
      refine pr 1 [(10, .slice p8 (List.length x3) c7)] h fun a h => ?_
      refine oe ?_
      refine sr ?_
      refine pr 1 [(39, .slice p8 (List.length x3) c7)] h fun a h => ?_
      obtain ⟨r3, h6, hm⟩ := bnd hm
      refine sl (b_call [] [] h Try.call32 rfl rfl (c_literal_Names (y0 := x3) (h.po [] []) ⟨(h.pf [] [] 0), trivial⟩ h6) fun v a w hp hc => ?_)
      obtain ⟨p9, c8, rfl, q⟩ := hp
      have h := hc.on q [bx b1 23 [vb y1.1, vs y1.2], bx b2 56 [.slice p3 (List.length r1.1) c3, vi s2.2]]
      refine pr 1 [(41, .slice p8 (List.length x3) c7)] h fun a h => ?_
      obtain ⟨r4, h7, hm⟩ := bnd hm
      refine sl (b_call [] [] h Try.call33 rfl rfl (c_ref01_Names (y0 := x3) (h.po [] []) ⟨(h.pf [] [] 1), trivial⟩ h7) fun v a w hp hc => ?_)
      obtain ⟨p10, c9, rfl, q⟩ := hp
      have h := hc.on q [bx b1 23 [vb y1.1, vs y1.2], bx b2 56 [.slice p3 (List.length r1.1) c3, vi s2.2]]
      refine pr 2 [(12, .slice p10 (List.length r4) c9), (11, .slice p9 (List.length r3) c8)] h fun a h => ?_
      refine oe ?_
      refine wp_seq ?_
      obtain ⟨s3, hx, hm⟩ := bnd hm
      refine seq_j (fun a w => SS A [] w0 99 [(4, .pointer (some ⟨b1, 0, none⟩)), (7, .pointer (some ⟨b2, 0, none⟩)), (10, .slice p8 (List.length x3) c7), (11, .slice p9 (List.length r3) c8), (12, .slice p10 (List.length r4) c9), (33, .slice p7 (List.length ([y0, r2.1, x2] : List (List T_Literal))) c6), (34, vi (len ([y0, r2.1, x2] : List (List T_Literal)))), (35, vi s2.1), (62, vb s3)] [bx b1 23 [vb y1.1, vs y1.2], bx b2 56 [.slice p3 (List.length r1.1) c3, vi s2.2]] [R (eSlice e_Literal) p7 c6 (List.length ([y0, r2.1, x2] : List (List T_Literal))) ([y0, r2.1, x2] : List (List T_Literal)), R e_Literal p8 c7 (List.length x3) x3, R eStr p9 c8 (List.length r3) r3, R eStr p10 c9 (List.length r4) r4, R (eInt .i64) p3 c3 (List.length r1.1) r1.1] a w) ?_ ?_
      · replace hm := hx
        refine reg ?_
        refine pr 1 [(43, .slice p8 (List.length x3) c7)] h fun a h => ?_
        obtain ⟨r5, h8, hm⟩ := bnd hm
        refine sl (b_call [] [] h Try.call28 rfl rfl (c_literal_Normal (y0 := x3) (h.po [] []) ⟨(h.pf [] [] 2), trivial⟩ h8) fun v a w hp hc => ?_)
        obtain ⟨p11, c10, rfl, q⟩ := hp
        have h := hc.on q [bx b1 23 [vb y1.1, vs y1.2], bx b2 56 [.slice p3 (List.length r1.1) c3, vi s2.2]]
        refine pr 1 [(45, .slice p8 (List.length x3) c7)] h fun a h => ?_
        obtain ⟨r6, h9, hm⟩ := bnd hm
        refine sl (b_call [] [] h Try.call34 rfl rfl (c_ref01_Normal (y0 := x3) (h.po [] []) ⟨(h.pf [] [] 3), trivial⟩ h9) fun v a w hp hc => ?_)
        obtain ⟨p12, c11, rfl, q⟩ := hp
        have h := hc.on q [bx b1 23 [vb y1.1, vs y1.2], bx b2 56 [.slice p3 (List.length r1.1) c3, vi s2.2]]
        obtain ⟨r7, h10, hm⟩ := bnd hm
        refine sl (b_call [] [] h Try.call29 rfl rfl (c_ref01_Same (y0 := r5) (y1 := r6) (h.po [] []) ⟨(h.pf [] [] 1), (h.pf [] [] 0), trivial⟩ h10) fun v a w hp hc => ?_)
        obtain ⟨rfl, q⟩ := hp
        have h := hc.on q [bx b1 23 [vb y1.1, vs y1.2], bx b2 56 [.slice p3 (List.length r1.1) c3, vi s2.2]]
        refine pr 2 [(49, vb (!r7))] h fun a h => ?_
        rcases Bool.eq_false_or_eq_true (!r7) with hb3 | hb3
        · have h := h.upd (t := 49) (vb true) rfl (congrArg Value.bool hb3)
          replace hm := ifT hb3 hm
          refine pr 13 [(62, vb true)] h fun a h => ?_
          refine ops_end ?_
          obtain rfl := Option.some.inj hm
          exact then_n (h.to 2 ⟨(h.g 6), (h.g 4), (h.g 3), (h.g 2), (h.g 7), trivial⟩)
        · have h := h.upd (t := 49) (vb false) rfl (congrArg Value.bool hb3)
          replace hm := ifF hb3 hm
          refine pr 1 [(50, .slice p8 (List.length x3) c7)] h fun a h => ?_
          obtain ⟨r8, h11, hm⟩ := bnd hm
          refine sl (b_call [] [] h Try.call31 rfl rfl (c_literal_Consistent (y0 := x3) (h.po [] []) ⟨(h.pf [] [] 4), trivial⟩ h11) fun v a w hp hc => ?_)
          obtain ⟨rfl, q⟩ := hp
          have h := hc.on q [bx b1 23 [vb y1.1, vs y1.2], bx b2 56 [.slice p3 (List.length r1.1) c3, vi s2.2]]
          refine pr 1 [(52, .slice p8 (List.length x3) c7)] h fun a h => ?_
          obtain ⟨r9, h12, hm⟩ := bnd hm
          refine sl (b_call [] [] h Try.call35 rfl rfl (c_ref01_Consistent (y0 := x3) (h.po [] []) ⟨(h.pf [] [] 4), trivial⟩ h12) fun v a w hp hc => ?_)
          obtain ⟨rfl, q⟩ := hp
          have h := hc.on q [bx b1 23 [vb y1.1, vs y1.2], bx b2 56 [.slice p3 (List.length r1.1) c3, vi s2.2]]
          refine pr 3 [(56, vb (!(r8 == r9)))] h fun a h => ?_
          rcases Bool.eq_false_or_eq_true (!(r8 == r9)) with hb4 | hb4
          · have h := h.upd (t := 56) (vb true) rfl (congrArg Value.bool hb4)
            replace hm := ifT hb4 hm
            refine pr 6 [(62, vb true)] h fun a h => ?_
            refine ops_end ?_
            obtain rfl := Option.some.inj hm
            exact then_n (h.to 2 ⟨(h.g 6), (h.g 4), (h.g 3), (h.g 2), (h.g 7), trivial⟩)
          · have h := h.upd (t := 56) (vb false) rfl (congrArg Value.bool hb4)
            replace hm := ifF hb4 hm
            refine pr 6 [(62, vb ((len r3) != (len r4)))] h fun a h => ?_
            refine ops_end ?_
            obtain rfl := Option.some.inj hm
            exact then_n (h.to 2 ⟨(h.g 6), (h.g 4), (h.g 3), (h.g 2), (h.g 7), trivial⟩)
      intro a w hJ
      have h := hJ
      refine cb h rfl (fun hb5 => ?_) (fun hb5 => ?_)
      · replace hm := ifT hb5 hm
        refine sp [(6, vb false)] h fun a h => ?_
        refine wp_ret ?_
        refine then_r (inb_r (then_r (lp_r (inb_r (then_r ?_)))))
        replace hm := loopR hr1 hm
        obtain rfl := Option.some.inj hm
        replace hm := hm2
        obtain rfl := Option.some.inj hm
        exact rt1 h rfl rfl ⟨rfl, bk_sel h [] trivial⟩
      replace hm := ifF hb5 hm
      refine wp_skip ?_
      refine then_n ?_
      obtain ⟨os4, hx, hm⟩ := bnd hm
      refine seq_j (fun a w => ∃ s4 : Unit, os4 = .inl s4 ∧ (SS A [] w0 99 [(4, .pointer (some ⟨b1, 0, none⟩)), (7, .pointer (some ⟨b2, 0, none⟩)), (10, .slice p8 (List.length x3) c7), (33, .slice p7 (List.length ([y0, r2.1, x2] : List (List T_Literal))) c6), (34, vi (len ([y0, r2.1, x2] : List (List T_Literal)))), (35, vi s2.1)] [bx b1 23 [vb y1.1, vs y1.2], bx b2 56 [.slice p3 (List.length r1.1) c3, vi s2.2]] [R (eSlice e_Literal) p7 c6 (List.length ([y0, r2.1, x2] : List (List T_Literal))) ([y0, r2.1, x2] : List (List T_Literal)), R e_Literal p8 c7 (List.length x3) x3, R (eInt .i64) p3 c3 (List.length r1.1) r1.1] a w)) ?_ ?_
      · have hm2 := hm
        replace hm := hx
        refine sp [(65, vi 0), (64, vi (len r3))] h fun a h => ?_
        refine wp_block ?_
        refine loop_m (B := (m_law01_LiteralSets_L2 r3 r4)) (fun (s5 : Int) a w => SS A [] w0 99 [(4, .pointer (some ⟨b1, 0, none⟩)), (7, .pointer (some ⟨b2, 0, none⟩)), (10, .slice p8 (List.length x3) c7), (11, .slice p9 (List.length r3) c8), (12, .slice p10 (List.length r4) c9), (33, .slice p7 (List.length ([y0, r2.1, x2] : List (List T_Literal))) c6), (34, vi (len ([y0, r2.1, x2] : List (List T_Literal)))), (35, vi s2.1), (64, vi (len r3)), (65, vi s5)] [bx b1 23 [vb y1.1, vs y1.2], bx b2 56 [.slice p3 (List.length r1.1) c3, vi s2.2]] [R (eSlice e_Literal) p7 c6 (List.length ([y0, r2.1, x2] : List (List T_Literal))) ([y0, r2.1, x2] : List (List T_Literal)), R e_Literal p8 c7 (List.length x3) x3, R eStr p9 c8 (List.length r3) r3, R eStr p10 c9 (List.length r4) r4, R (eInt .i64) p3 c3 (List.length r1.1) r1.1] a w) hm (h.to 2 ⟨(h.g 0), (h.g 1), (h.g 2), (h.g 3), (h.g 4), trivial⟩) ?_
        intro s5 a w o3 hJ hm hr2
        have h := hJ
        unfold m_law01_LiteralSets_L2 at hm
        refine sp [(66, vb (decide (s5 < (len r3))))] h fun a h => ?_
        refine wp_seq ?_
        refine cb h rfl (fun hb6 => ?_) (fun hb6 => ?_)
        · replace hm := ifT hb6 hm
          refine wp_skip ?_
          refine then_n ?_
          refine wp_seq ?_
          refine wp_block ?_
          refine sp [(13, vi s5)] h fun a h => ?_
          refine ds [] [] h fun w h => ?_
          refine dp 0 (.slice p9 (List.length r3) c8) h rfl fun a h => ?_
          refine dp 1 (vi s5) h rfl fun a h => ?_
          obtain ⟨x4, h13, hm⟩ := bnd hm
          refine dir 2 h rfl (h.g 2) rfl rfl h13 fun b4 o4 a h => ?_
          refine dlp 3 false h rfl (h.g 0) rfl fun ci2 hc2 v2 hv2 a h => ?_
          replace hc2 : E.rd eStr _ _ ci2 x4 := hc2
          obtain rfl := hc2
          obtain rfl := Option.some.inj hv2
          refine dp 4 (.slice p10 (List.length r4) c9) h rfl fun a h => ?_
          refine dp 5 (vi s5) h rfl fun a h => ?_
          obtain ⟨x5, h14, hm⟩ := bnd hm
          refine dir 6 h rfl (h.g 4) rfl rfl h14 fun b5 o5 a h => ?_
          refine dlp 7 false h rfl (h.g 0) rfl fun ci3 hc3 v3 hv3 a h => ?_
          replace hc3 : E.rd eStr _ _ ci3 x5 := hc3
          obtain rfl := hc3
          obtain rfl := Option.some.inj hv3
          refine dp 8 (vb (!(x4 == x5))) h rfl fun a h => ?_
          refine de (then_n ?_)
          refine cb h rfl (fun hb7 => ?_) (fun hb7 => ?_)
          · replace hm := ifT hb7 hm
            refine sp [(6, vb false)] h fun a h => ?_
            refine wp_ret ?_
            refine inb_r (then_r (lp_r (inb_r (then_r (inb_r (then_r (lp_r (inb_r (then_r ?_)))))))))
            replace hm := loopR hr2 hm
            obtain rfl := Option.some.inj hm
            replace hm := hm2
            replace hm := loopR hr1 hm
            obtain rfl := Option.some.inj hm
            replace hm := hm2
            obtain rfl := Option.some.inj hm
            exact rt1 h rfl rfl ⟨rfl, bk_sel h [] trivial⟩
          replace hm := ifF hb7 hm
          refine wp_skip ?_
          refine inb_n ?_
          refine then_n ?_
          refine reg ?_
          refine pr 2 [(65, vi (w64 (s5 + 1)))] h fun a h => ?_
          refine ops_end ?_
          obtain rfl := Option.some.inj hm
          exact lp_n rfl (h.to 2 ⟨(h.g 2), (h.g 3), (h.g 4), (h.g 5), (h.g 6), trivial⟩)
        replace hm := ifF hb6 hm
        refine wp_exit ?_
        refine then_e (lp_e (inb_hit ?_))
        replace hm := loopR hr2 hm
        obtain rfl := Option.some.inj hm
        exact then_n ⟨_, rfl, h.to 2 ⟨(h.g 0), (h.g 1), (h.g 4), trivial⟩⟩
      intro a w hJ
      obtain ⟨s4, rfl, h⟩ := hJ
      refine ds [] [0] h fun w h => ?_
      refine dlo 0 0 (.agg #[vb y1.1, vs y1.2]) h rfl rfl rfl fun a h => ?_
      refine dp 1 (.pointer (some ⟨b2, 0, none⟩)) h rfl fun a h => ?_
      refine dp 4 (.slice p8 (List.length x3) c7) h rfl fun a h => ?_
      refine dp 7 (vi 0) h rfl fun a h => ?_
      refine d1 2 rfl ?_
      obtain ⟨r10, h15, hm⟩ := bnd hm
      refine b_call [1] [] h Try.call11 rfl rfl (c_keep_Src_Literal (y0 := (r1.1, s2.2)) (y1 := 4) (h.po [1] []) ⟨(h.pf [1] [] 2), trivial⟩ h15) fun v a w hp hc => ?_
      obtain ⟨rfl, q⟩ := hp
      have e := hc.st q [bx b1 23 [vb y1.1, vs y1.2], bx b2 56 [.slice p3 (List.length r1.1) c3, vi r10.2]]
      have h := hc.on q [bx b1 23 [vb y1.1, vs y1.2], bx b2 56 [.slice p3 (List.length r1.1) c3, vi r10.2]]
      refine dn h e ?_
      refine d1 3 rfl ?_
      refine b_bs_own (te := 23) (e := e_Literal) [vb y1.1, vs y1.2, vb r10.1.1, vs r10.1.2] ([y1, r10.1] : List T_Literal) h ⟨_, _, rfl, eProd.mk eBool.mk eStr.mk, ⟨_, _, rfl, eProd.mk eBool.mk eStr.mk, rfl⟩⟩ fun r_1 p13 c12 a w h e => ?_
      refine dn h e ?_
      refine d1 5 rfl ?_
      obtain ⟨x6, h16, hm⟩ := bnd hm
      refine b_append_r (te := 23) 2 h (h.g 0) (h.g 2) rfl rfl h16 fun r_2 p14 c13 a w h e => ?_
      refine dn h e ?_
      refine dp 6 (vi (len x6)) h rfl fun a h => ?_
      refine de (then_n ?_)
      refine wp_block ?_
      refine loop_m (B := (m_law01_LiteralSets_L3 x6 x3 s2 r10)) (fun (s6 : Int) a w => SS A [] w0 99 [(4, .pointer (some ⟨b1, 0, none⟩)), (7, .pointer (some ⟨b2, 0, none⟩)), (10, .slice p8 (List.length x3) c7), (33, .slice p7 (List.length ([y0, r2.1, x2] : List (List T_Literal))) c6), (34, vi (len ([y0, r2.1, x2] : List (List T_Literal)))), (35, vi s2.1), (83, .slice p14 (List.length x6) c13), (84, vi (len x6)), (85, vi s6)] [bx b1 23 [vb y1.1, vs y1.2], bx b2 56 [.slice p3 (List.length r1.1) c3, vi r10.2], r_2] [R (eSlice e_Literal) p7 c6 (List.length ([y0, r2.1, x2] : List (List T_Literal))) ([y0, r2.1, x2] : List (List T_Literal)), R e_Literal p8 c7 (List.length x3) x3, Ar e_Literal 23 r_2 p14 c13 (List.length x6) x6, R (eInt .i64) p3 c3 (List.length r1.1) r1.1] a w) hm (h.to 3 ⟨(h.g 2), (h.g 3), (h.g 0), (h.g 4), trivial⟩) ?_
      intro s6 a w o6 hJ hm hr3
      have h := hJ
      unfold m_law01_LiteralSets_L3 at hm
      refine sp [(86, vb (decide (s6 < (len x6))))] h fun a h => ?_
      refine wp_seq ?_
      refine cb h rfl (fun hb8 => ?_) (fun hb8 => ?_)
      · replace hm := ifT hb8 hm
        refine wp_skip ?_
        refine then_n ?_
        refine wp_seq ?_
        refine wp_block ?_
        refine sr ?_
        obtain ⟨x7, h17, hm⟩ := bnd hm
        refine sl (b_index_arr h (h.g 2) rfl rfl h17 fun b6 hp1 a h => ?_)
        refine sl (b_load_arr 2 ((Sub.id e_Literal)) true h (h.g 2) hp1 h17 rfl fun ci4 hc4 v4 hv4 a h => ?_)
        replace hc4 : E.rd e_Literal _ _ ci4 x7 := hc4
        obtain ⟨_, _, rfl, rfl, rfl⟩ := hc4
        obtain rfl := Option.some.inj hv4
        have h := h.upd (t := 88) (.agg #[vb x7.1, vs x7.2]) rfl rfl
        refine sl (b_alloc h rfl fun b7 a w h e => ?_)
        refine sl (b_store_own 3 h rfl rfl rfl fun a w h e => ?_)
        refine oe ?_
        refine ds [] [3] h fun w h => ?_
        refine dp 0 (.slice p8 (List.length x3) c7) h rfl fun a h => ?_
        refine dlo 1 3 (.agg #[vb x7.1, vs x7.2]) h rfl rfl rfl fun a h => ?_
        refine dp 3 (.slice p8 (List.length x3) c7) h rfl fun a h => ?_
        refine dlo 4 3 (.agg #[vb x7.1, vs x7.2]) h rfl rfl rfl fun a h => ?_
        refine d1 2 rfl ?_
        obtain ⟨r11, h18, hm⟩ := bnd hm
        refine b_call [] [] h Try.call30 rfl rfl (c_literal_Has (y0 := x3) (y1 := x7) (h.po [] []) ⟨(h.pf [] [] 1), trivial⟩ h18) fun v a w hp hc => ?_
        obtain ⟨rfl, q⟩ := hp
        have e := hc.st q [bx b1 23 [vb y1.1, vs y1.2], bx b2 56 [.slice p3 (List.length r1.1) c3, vi r10.2], r_2, bx b7 23 [vb x7.1, vs x7.2]]
        have h := hc.on q [bx b1 23 [vb y1.1, vs y1.2], bx b2 56 [.slice p3 (List.length r1.1) c3, vi r10.2], r_2, bx b7 23 [vb x7.1, vs x7.2]]
        refine dn h e ?_
        refine d1 5 rfl ?_
        obtain ⟨r12, h19, hm⟩ := bnd hm
        refine b_call [] [] h Try.call36 rfl rfl (c_ref01_Has (y0 := x3) (y1 := x7) (h.po [] []) ⟨(h.pf [] [] 1), trivial⟩ h19) fun v a w hp hc => ?_
        obtain ⟨rfl, q⟩ := hp
        have e := hc.st q [bx b1 23 [vb y1.1, vs y1.2], bx b2 56 [.slice p3 (List.length r1.1) c3, vi r10.2], r_2, bx b7 23 [vb x7.1, vs x7.2]]
        have h := hc.on q [bx b1 23 [vb y1.1, vs y1.2], bx b2 56 [.slice p3 (List.length r1.1) c3, vi r10.2], r_2, bx b7 23 [vb x7.1, vs x7.2]]
        refine dn h e ?_
        refine dp 6 (vb (!(r11 == r12))) h rfl fun a h => ?_
        refine de (then_n ?_)
        refine cb h rfl (fun hb9 => ?_) (fun hb9 => ?_)
        · replace hm := ifT hb9 hm
          refine sp [(6, vb false)] h fun a h => ?_
          refine wp_ret ?_
          refine inb_r (then_r (lp_r (inb_r (inb_r (then_r (lp_r (inb_r (then_r ?_))))))))
          replace hm := loopR hr3 hm
          replace hm := loopR hr1 hm
          obtain rfl := Option.some.inj hm
          replace hm := hm2
          obtain rfl := Option.some.inj hm
          exact rt1 h rfl rfl ⟨rfl, bk_sel h [] trivial⟩
        replace hm := ifF hb9 hm
        refine wp_skip ?_
        refine inb_n ?_
        refine then_n ?_
        refine reg ?_
        refine pr 2 [(85, vi (w64 (s6 + 1)))] h fun a h => ?_
        refine ops_end ?_
        obtain rfl := Option.some.inj hm
        exact lp_n rfl (h.to 3 ⟨(h.g 0), (h.g 1), (h.g 2), (h.g 3), trivial⟩)
      replace hm := ifF hb8 hm
      refine wp_exit ?_
      refine then_e (lp_e (inb_hit ?_))
      replace hm := loopR hr3 hm
      refine inb_n ?_
      refine then_n ?_
      refine reg ?_
      refine pr 2 [(35, vi (w64 (s2.1 + 1)))] h fun a h => ?_
      refine ops_end ?_
      obtain rfl := Option.some.inj hm
      exact lp_n rfl (h.to 2 ⟨(h.g 0), (h.g 3), trivial⟩)
    replace hm := ifF hb2 hm
    refine wp_exit ?_
    refine then_e (lp_e (inb_hit ?_))
    replace hm := loopR hr1 hm
    obtain rfl := Option.some.inj hm
    exact then_n ⟨_, rfl, h.tos [900, 901] trivial⟩
  intro a w hJ
  obtain ⟨s1, rfl, h⟩ := hJ
  refine sr ?_
  obtain ⟨r13, h20, hm⟩ := bnd hm
  refine sl (b_call [] [] h Try.call20 rfl rfl (c_law01_awake (h.po [] []) trivial h20) fun v a w hp hc => ?_)
  obtain ⟨rfl, q⟩ := hp
  have h := hc.on q [[], []]
  refine pr 1 [(6, vb r13)] h fun a h => ?_
  refine oe ?_
  refine wp_ret ?_
  obtain rfl := Option.some.inj hm
  exact rt1 h rfl rfl ⟨rfl, bk_sel h [] trivial⟩

end Go.Proofs.Ytfocdgbdeacgaaa
