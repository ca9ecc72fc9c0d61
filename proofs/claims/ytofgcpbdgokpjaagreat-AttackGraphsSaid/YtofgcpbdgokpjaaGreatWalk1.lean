/- The Go functions compute their models: printed by program (gd2). Conditions: none. -/
import Derived.Test.YtofgcpbdgokpjaaGreatProg
import Derived.Test.YtofgcpbdgokpjaaGreatMap
import Derived.Test.YtofgcpbdgokpjaaGreatCopy
import Derived.Test.YtofgcpbdgokpjaaGreatModels
import Derived.Test.YtofgcpbdgokpjaaGreatSort
import Derived.Test.YtofgcpbdgokpjaaGreatSort2
import Derived.Test.YtofgcpbdgokpjaaGreatShelfP
namespace Go.Proofs.YtofgcpbdgokpjaaGreat
open Go Go.GD
set_option autoImplicit false
set_option maxRecDepth 100000

abbrev e_Ordering : E T_Ordering := eProd (eInt .i64) (eInt .i64)
abbrev e_keep_Src : E T_keep_Src := eProd (eSlice (eInt .i64)) (eInt .i64)
abbrev e_Literal : E T_Literal := eProd eBool eStr
abbrev e_Premise : E T_Premise := eProd e_Literal (eProd (eInt .i64) (eProd (eInt .i64) eStr))
abbrev e_Rule : E T_Rule := eProd eStr (eProd eBool (eProd (eInt .i64) (eProd (eSlice e_Literal) e_Literal)))
abbrev e_Promotion : E T_Promotion := eProd eStr (eProd (eInt .i64) e_Literal)
abbrev e_Base : E T_Base := eProd (eSlice e_Premise) (eProd (eSlice e_Rule) (eSlice e_Promotion))
abbrev e_Argument : E T_Argument := eProd (eInt .i64) (eProd (eInt .i64) (eProd (eSlice (eInt .i64)) e_Literal))
abbrev e_Attack : E T_Attack := eProd (eInt .i64) (eProd (eInt .i64) (eProd (eInt .i64) (eInt .i64)))
abbrev e_Pair : E T_Pair := eProd (eInt .i64) (eInt .i64)
abbrev e_Graph : E T_Graph := eProd (eInt .i64) (eSlice e_Pair)

theorem c_argument_inside {A : List Nat} {w0 : World} {y0 : List T_Argument} {p1 : Option Addr} {c1 : Nat} {y1 : Int} {r : Bool} (hO : Own A w0 []) (hF : All [R e_Argument p1 c1 (List.length y0) y0] (bl [] ++ A) w0) (hm : m_argument_inside y0 y1 = some r) :
    Calls Tryz.prog 61 [.slice p1 (List.length y0) c1, vi y1].toArray w0 (Ret fun v w => v = vb r ∧ Bk A [] w0 [] [] w) := by
  unfold m_argument_inside at hm
  refine ent Tryz.func61 rfl hO hF fun a h => ?_
  refine sp [] h fun a h => ?_
  refine seq_j (fun a w => SS A [] w0 13 [(4, vb ((decide (0 ≤ y1)) && (decide (y1 < (len y0)))))] [] [] a w) ?_ ?_
  · refine reg ?_
    refine pr 3 [(7, vb (decide (0 ≤ y1)))] h fun a h => ?_
    rcases Bool.eq_false_or_eq_true (decide (0 ≤ y1)) with hb1 | hb1
    · have h := h.upd (t := 7) (vb true) rfl (congrArg Value.bool hb1)
      refine pr 6 [(4, vb (decide (y1 < (len y0))))] h fun a h => ?_
      refine ops_end ?_
      have h := h.upd (t := 4) (vb ((decide (0 ≤ y1)) && (decide (y1 < (len y0))))) rfl (by rw [hb1]; rfl)
      exact then_n (h.to 0 trivial)
    · have h := h.upd (t := 7) (vb false) rfl (congrArg Value.bool hb1)
      refine pr 6 [(4, vb false)] h fun a h => ?_
      refine ops_end ?_
      have h := h.upd (t := 4) (vb ((decide (0 ≤ y1)) && (decide (y1 < (len y0))))) rfl (by rw [hb1]; rfl)
      exact then_n (h.to 0 trivial)
  intro a w hJ
  have h := hJ
  refine wp_ret ?_
  obtain rfl := Option.some.inj hm
  exact rt1 h rfl rfl ⟨rfl, bk_sel h [] trivial⟩

theorem c_slices_Compact_int {A : List Nat} {w0 : World} {y0 : List Int} {p1 : Option Addr} {c1 : Nat} {r_1 : Res} {r : (List Int)} (hO : Own A w0 [r_1]) (hF : All [Ar (eInt .i64) 3 r_1 p1 c1 (List.length y0) y0] (bl [r_1] ++ A) w0) (hm : m_slices_Compact_int y0 = some r) :
    Calls Tryz.prog 63 [.slice p1 (List.length y0) c1].toArray w0 (Ret fun v w => ∃ (p2 : Option Addr) (c2 : Nat), v = .slice p2 (List.length r) c2 ∧ Bk A [r_1] w0 [[]] [R (eInt .i64) p2 c2 (List.length r) r] w) := by
  unfold m_slices_Compact_int at hm
  refine ent Tryz.func63 rfl hO hF fun a h => ?_
  refine sp [] h fun a h => ?_
  refine wp_seq ?_
  refine sp [(8, vb (decide ((len y0) < 2)))] h fun a h => ?_
  refine cb h rfl (fun hb1 => ?_) (fun hb1 => ?_)
  · replace hm := ifT hb1 hm
    refine sp [(2, .slice p1 (List.length y0) c1)] h fun a h => ?_
    refine wp_ret ?_
    refine then_r ?_
    obtain rfl := Option.some.inj hm
    have h := h.share 0 (h.g 0)
    exact rt1 h rfl rfl ⟨p1, c1, rfl, bk_sel h [900] ⟨(h.g 0), trivial⟩⟩
  replace hm := ifF hb1 hm
  refine wp_skip ?_
  refine then_n ?_
  refine wp_seq ?_
  refine sp [(3, vi 1)] h fun a h => ?_
  refine wp_block ?_
  refine loop_m (B := (m_slices_Compact_int_L1 y0)) (fun (s1 : Int) a w => SS A [r_1] w0 61 [(0, .slice p1 (List.length y0) c1), (3, vi s1)] [r_1] [Ar (eInt .i64) 3 r_1 p1 c1 (List.length y0) y0] a w) hm (h.to 1 ⟨(h.g 0), trivial⟩) ?_
  intro s1 a w o1 hJ hm hr1
  have h := hJ
  unfold m_slices_Compact_int_L1 at hm
  refine wp_seq ?_
  refine sp [(13, vb (decide (s1 < (len y0))))] h fun a h => ?_
  refine cb h rfl (fun hb2 => ?_) (fun hb2 => ?_)
  · replace hm := ifT hb2 hm
    refine wp_skip ?_
    refine then_n ?_
    refine wp_seq ?_
    refine wp_block ?_
    refine ds [] [0] h fun w h => ?_
    refine dp 0 (.slice p1 (List.length y0) c1) h rfl fun a h => ?_
    refine dp 1 (vi s1) h rfl fun a h => ?_
    obtain ⟨x1, h1, hm⟩ := bnd hm
    refine dia 2 h rfl (h.g 0) rfl rfl h1 fun b1 hp1 a h => ?_
    refine dla 3 0 ((Sub.id (eInt .i64))) false h rfl (h.g 0) hp1 h1 rfl fun ci1 hc1 v1 hv1 a h => ?_
    replace hc1 : E.rd (eInt .i64) _ _ ci1 x1 := hc1
    obtain rfl := hc1
    obtain rfl := Option.some.inj hv1
    refine dp 4 (.slice p1 (List.length y0) c1) h rfl fun a h => ?_
    refine dp 5 (vi s1) h rfl fun a h => ?_
    refine dp 6 (vi (w64 (s1 - 1))) h rfl fun a h => ?_
    obtain ⟨x2, h2, hm⟩ := bnd hm
    refine dia 7 h rfl (h.g 0) rfl rfl h2 fun b2 hp2 a h => ?_
    refine dla 8 0 ((Sub.id (eInt .i64))) false h rfl (h.g 0) hp2 h2 rfl fun ci2 hc2 v2 hv2 a h => ?_
    replace hc2 : E.rd (eInt .i64) _ _ ci2 x2 := hc2
    obtain rfl := hc2
    obtain rfl := Option.some.inj hv2
    refine dp 9 (vb (x1 == x2)) h rfl fun a h => ?_
    refine de (then_n ?_)
    refine cb h rfl (fun hb3 => ?_) (fun hb3 => ?_)
    · replace hm := ifT hb3 hm
      refine sr ?_
      refine pr 2 [(27, vi s1), (26, .slice p1 (List.length y0) c1)] h fun a h => ?_
      obtain ⟨u1, h3, hm⟩ := bnd hm
      refine sl (b_slice_view h (h.g 0) rfl rfl h3 fun p2 c2 f1 a h => ?_)
      refine pr 1 [(4, .slice p2 (Int.toNat (((List.length y0 : Nat) : Int) - s1)) c2)] h fun a h => ?_
      refine oe ?_
      obtain ⟨s2, hx, hm⟩ := bnd hm
      refine seq_j (fun a w => ∃ (p3 : Option Addr) (c3 : Nat) (r_2 : Res), SS A [r_1] w0 61 [(0, .slice p3 (List.length s2.1) c3), (3, vi s2.2)] [r_2] [Ar (eInt .i64) 3 r_2 p3 c3 (List.length s2.1) s2.1] a w) ?_ ?_
      · have hm2 := hm
        replace hm := hx
        refine sp [(5, vi 1)] h fun a h => ?_
        refine wp_block ?_
        refine loop_m (B := (m_slices_Compact_int_L2 y0 s1)) (fun (s3 : (List Int) × Int × Int) a w => ∃ (r_3 : Res), SS A [r_1] w0 61 [(0, .slice p1 (List.length y0) c1), (3, vi s3.2.1), (4, .slice p2 (Int.toNat (((List.length y0 : Nat) : Int) - s1)) c2), (5, vi s3.2.2)] [r_3] [Ar (eInt .i64) 3 r_3 p1 c1 (List.length y0) s3.1] a w) hm ⟨r_1, h.to 1 ⟨(h.g 0), trivial⟩⟩ ?_
        intro s3 a w o2 hJ hm hr2
        obtain ⟨r_3, h⟩ := hJ
        unfold m_slices_Compact_int_L2 at hm
        refine wp_seq ?_
        refine sp [(32, vb (decide (s3.2.2 < ((Int.toNat (((List.length y0 : Nat) : Int) - s1) : Nat) : Int))))] h fun a h => ?_
        refine cb h rfl (fun hb4 => ?_) (fun hb4 => ?_)
        · replace hm := ifT hb4 hm
          refine wp_skip ?_
          refine then_n ?_
          refine wp_seq ?_
          refine wp_block ?_
          refine ds [] [0] h fun w h => ?_
          refine dp 0 (.slice p2 (Int.toNat (((List.length y0 : Nat) : Int) - s1)) c2) h rfl fun a h => ?_
          refine dp 1 (vi s3.2.2) h rfl fun a h => ?_
          obtain ⟨x3, h4, hm⟩ := bnd hm
          refine dindex_view 2 h rfl (h.g 0) f1 rfl rfl h4 fun b3 hp3 h5 a h => ?_
          refine dla 3 0 ((Sub.id (eInt .i64))) false h rfl (h.g 0) hp3 h5 rfl fun ci3 hc3 v3 hv3 a h => ?_
          replace hc3 : E.rd (eInt .i64) _ _ ci3 x3 := hc3
          obtain rfl := hc3
          obtain rfl := Option.some.inj hv3
          refine dp 4 (.slice p2 (Int.toNat (((List.length y0 : Nat) : Int) - s1)) c2) h rfl fun a h => ?_
          refine dp 5 (vi s3.2.2) h rfl fun a h => ?_
          refine dp 6 (vi (w64 (s3.2.2 - 1))) h rfl fun a h => ?_
          obtain ⟨x4, h6, hm⟩ := bnd hm
          refine dindex_view 7 h rfl (h.g 0) f1 rfl rfl h6 fun b4 hp4 h7 a h => ?_
          refine dla 8 0 ((Sub.id (eInt .i64))) false h rfl (h.g 0) hp4 h7 rfl fun ci4 hc4 v4 hv4 a h => ?_
          replace hc4 : E.rd (eInt .i64) _ _ ci4 x4 := hc4
          obtain rfl := hc4
          obtain rfl := Option.some.inj hv4
          refine dp 9 (vb (x3 != x4)) h rfl fun a h => ?_
          refine de (then_n ?_)
          refine cb h rfl (fun hb5 => ?_) (fun hb5 => ?_)
          · replace hm := ifT hb5 hm
            refine sr ?_
            refine pr 4 [(48, vi s3.2.2), (47, .slice p2 (Int.toNat (((List.length y0 : Nat) : Int) - s1)) c2), (46, vi s3.2.1), (45, .slice p1 (List.length y0) c1)] h fun a h => ?_
            obtain ⟨x5, h8, hm⟩ := bnd hm
            refine sl (b_index_view h (h.g 0) f1 rfl rfl h8 fun b5 hp5 h9 a h => ?_)
            refine sl (b_load_arr 0 ((Sub.id (eInt .i64))) false h (h.g 0) hp5 h9 rfl fun ci5 hc5 v5 hv5 a h => ?_)
            replace hc5 : E.rd (eInt .i64) _ _ ci5 x5 := hc5
            obtain rfl := hc5
            obtain rfl := Option.some.inj hv5
            obtain ⟨x6, h10, hm⟩ := bnd hm
            refine sl (b_index_arr h (h.g 0) rfl rfl h10 fun b6 hp6 a h => ?_)
            refine sl (b_store_arr 0 ((Sub.id (eInt .i64))) (v := vi x5) x5 false h (h.g 0) hp6 h10 rfl rfl eInt.mk fun r_4 a w h e => ?_)
            refine oe ?_
            refine reg ?_
            refine pr 3 [(3, vi (w64 (s3.2.1 + 1)))] h fun a h => ?_
            refine ops_end ?_
            refine inb_n ?_
            refine then_n ?_
            refine reg ?_
            refine pr 3 [(5, vi (w64 (s3.2.2 + 1)))] h fun a h => ?_
            refine ops_end ?_
            obtain rfl := Option.some.inj hm
            exact lp_n rfl ⟨r_4, h.to 1 ⟨(h.g 0), trivial⟩⟩
          replace hm := ifF hb5 hm
          refine wp_skip ?_
          refine inb_n ?_
          refine then_n ?_
          refine reg ?_
          refine pr 3 [(5, vi (w64 (s3.2.2 + 1)))] h fun a h => ?_
          refine ops_end ?_
          obtain rfl := Option.some.inj hm
          exact lp_n rfl ⟨r_3, h.to 1 ⟨(h.g 0), trivial⟩⟩
        replace hm := ifF hb4 hm
        refine wp_exit ?_
        refine then_e (lp_e (inb_hit ?_))
        replace hm := loopR hr2 hm
        obtain rfl := Option.some.inj hm
        have h := h.upd (t := 0) (.slice p1 (List.length s3.1) c1) rfl (congrArg (fun q : Nat => Value.slice p1 q c1) (Ar.ln (h.g 0)))
        have h := h.add (Ar.re (h.g 0))
        exact then_n ⟨p1, c1, r_3, h.to 1 ⟨(h.g 0), trivial⟩⟩
      intro a w hJ
      obtain ⟨p3, c3, r_2, h⟩ := hJ
      refine sr ?_
      refine pr 2 [(55, vi s2.2), (54, .slice p3 (List.length s2.1) c3)] h fun a h => ?_
      obtain ⟨u2, h11, hm⟩ := bnd hm
      refine sl (b_slice_view h (h.g 0) rfl rfl h11 fun p4 c4 f2 a h => ?_)
      refine sl (b_clear_view 0 (zd := 0) (zv := vi 0) h (h.g 0) f2 rfl rfl eInt.mk fun r_5 a w h e => ?_)
      refine oe ?_
      refine sr ?_
      refine pr 2 [(58, vi s2.2), (57, .slice p3 (List.length s2.1) c3)] h fun a h => ?_
      obtain ⟨x7, h12, hm⟩ := bnd hm
      refine sl (b_slice_pre h (h.g 0) rfl rfl h12 fun a h => ?_)
      refine pr 1 [(2, .slice p3 (List.length x7) c3)] h fun a h => ?_
      refine oe ?_
      refine wp_ret ?_
      refine inb_r (then_r (lp_r (inb_r (then_r ?_))))
      replace hm := loopR hr1 hm
      obtain rfl := Option.some.inj hm
      have h := h.share 0 (h.g 0)
      exact rt1 h rfl rfl ⟨p3, c3, rfl, bk_sel h [900] ⟨(h.g 0), trivial⟩⟩
    replace hm := ifF hb3 hm
    refine wp_skip ?_
    refine inb_n ?_
    refine then_n ?_
    refine reg ?_
    refine pr 3 [(3, vi (w64 (s1 + 1)))] h fun a h => ?_
    refine ops_end ?_
    obtain rfl := Option.some.inj hm
    exact lp_n rfl (h.to 1 ⟨(h.g 0), trivial⟩)
  replace hm := ifF hb2 hm
  refine wp_exit ?_
  refine then_e (lp_e (inb_hit ?_))
  replace hm := loopR hr1 hm
  refine then_n ?_
  refine sp [(2, .slice p1 (List.length y0) c1)] h fun a h => ?_
  refine wp_ret ?_
  obtain rfl := Option.some.inj hm
  have h := h.share 0 (h.g 0)
  exact rt1 h rfl rfl ⟨p1, c1, rfl, bk_sel h [900] ⟨(h.g 0), trivial⟩⟩

theorem c_slices_Sort_int {A : List Nat} {w0 : World} {y0 : List Int} {p1 : Option Addr} {c1 : Nat} {r_1 : Res} {r : List Int} (hO : Own A w0 [r_1]) (hF : All [Ar (eInt .i64) 3 r_1 p1 c1 (List.length y0) y0] (bl [r_1] ++ A) w0) (hm : m_slices_Sort_int y0 = some r) :
    Calls Tryz.prog 62 [.slice p1 (List.length y0) c1].toArray w0 (Ret fun v w => ∃ (r_2 : Res), v = .tuple #[] ∧ Bk A [r_1] w0 [r_2] [Ar (eInt .i64) 3 r_2 p1 c1 (List.length y0) r] w) := by
  have h := sort_int Tryz.sorts62 (te := 3) hO hF.1.1 hm
  change Calls Tryz.prog 62 _ _ _ at h
  refine h.mono fun e w' h => ?_
  cases e with
  | returned v => obtain ⟨r', rfl, h1, h2, h3, h4⟩ := h; exact ⟨r', rfl, h1, h2, ⟨h3, h4.symm⟩, trivial⟩
  | panicked ch => exact h
  | outgrown => exact h

theorem k_argument_Subs_all (k : Nat) :
    (∀ {A : List Nat} {w0 : World} {y0 : List T_Argument} {p1 : Option Addr} {c1 : Nat} {y1 : Int} {r : (List Int)} (_hO : Own A w0 []) (_hF : All [R e_Argument p1 c1 (List.length y0) y0] (bl [] ++ A) w0) (_hm : k_argument_Subs k y0 y1 = some r),
    Calls Tryz.prog 32 [.slice p1 (List.length y0) c1, vi y1].toArray w0 (Ret fun v w => ∃ (p2 : Option Addr) (c2 : Nat), v = .slice p2 (List.length r) c2 ∧ Bk A [] w0 [] [R (eInt .i64) p2 c2 (List.length r) r] w)) := by
  induction k with
  | zero => intros; rename_i hm; cases hm
  | succ k ih =>
    have ih_argument_Subs := @ih
    generalize hr_argument_Subs : k_argument_Subs k = rec_argument_Subs at ih_argument_Subs
    intro A w0 y0 p1 c1 y1 r hO hF hm
    replace hm : F_argument_Subs rec_argument_Subs y0 y1 = some r := by rw [← hr_argument_Subs]; exact hm
    unfold F_argument_Subs at hm
    refine ent Tryz.func32 rfl hO hF fun a h => ?_
    refine sp [] h fun a h => ?_
    refine wp_seq ?_
    refine sr ?_
    refine pr 2 [(9, vi y1), (8, .slice p1 (List.length y0) c1)] h fun a h => ?_
    obtain ⟨r1, h1, hm⟩ := bnd hm
    refine sl (b_call [] [] h Tryz.call61 rfl rfl (c_argument_inside (y0 := y0) (y1 := y1) (h.po [] []) ⟨(h.pf [] [] 0), trivial⟩ h1) fun v a w hp hc => ?_)
    obtain ⟨rfl, q⟩ := hp
    have h := hc.on q []
    refine pr 1 [(11, vb (!r1))] h fun a h => ?_
    refine oe ?_
    refine cb h rfl (fun hb1 => ?_) (fun hb1 => ?_)
    · replace hm := ifT hb1 hm
      refine sp [(4, .slice none 0 0)] h fun a h => ?_
      refine wp_ret ?_
      refine then_r ?_
      obtain rfl := Option.some.inj hm
      exact rt1 h rfl rfl ⟨none, 0, rfl, bk_sel h [] ⟨(rnil (eInt .i64) _ _ _ _), trivial⟩⟩
    replace hm := ifF hb1 hm
    refine wp_skip ?_
    refine then_n ?_
    refine sr ?_
    refine pr 1 [(12, vi y1)] h fun a h => ?_
    refine sl (b_bs_own (te := 3) (e := eInt .i64) [vi y1] ([y1] : List Int) h ⟨_, _, rfl, eInt.mk, rfl⟩ fun r_1 p2 c2 a w h e => ?_)
    refine pr 1 [(5, .slice p2 (List.length ([y1] : List Int)) c2)] h fun a h => ?_
    refine oe ?_
    obtain ⟨s1, hx, hm⟩ := bnd hm
    refine seq_j (fun a w => ∃ (p3 : Option Addr) (c3 : Nat) (r_2 : Res), SS A [] w0 34 [(5, .slice p3 (List.length s1) c3)] [r_2] [Ar (eInt .i64) 3 r_2 p3 c3 (List.length s1) s1] a w) ?_ ?_
    · have hm2 := hm
      replace hm := hx
      refine sr ?_
      refine pr 2 [(15, vi y1), (14, .slice p1 (List.length y0) c1)] h fun a h => ?_
      obtain ⟨x1, h2, hm⟩ := bnd hm
      refine sl (b_index_rd h (h.g 1) rfl rfl h2 fun b1 o1 a h => ?_)
      refine pr 1 [(17, .pointer (some ⟨b1, (o1 + 2), none⟩))] h fun a h => ?_
      refine sl (b_load_pt false h (PtTo.fst (PtTo.snd (PtTo.snd (h.g 0)))) rfl fun ci1 hc1 v1 hv1 a h => ?_)
      replace hc1 : E.rd (eSlice (eInt .i64)) _ _ ci1 x1.2.2.1 := hc1
      obtain ⟨p4, c4, rfl, f1⟩ := hc1
      obtain rfl := Option.some.inj hv1
      have h := h.upd (t := 18) (.slice p4 (List.length x1.2.2.1) c4) rfl rfl
      have h := h.add (R.of f1)
      refine pr 2 [(20, vi 0), (19, vi (len x1.2.2.1))] h fun a h => ?_
      refine oe ?_
      refine wp_block ?_
      refine loop_m (B := (m_argument_Subs_L1 x1 rec_argument_Subs y0)) (fun (s2 : (List Int) × Int) a w => ∃ (p5 : Option Addr) (c5 : Nat) (r_3 : Res), SS A [] w0 34 [(0, .slice p1 (List.length y0) c1), (5, .slice p5 (List.length s2.1) c5), (18, .slice p4 (List.length x1.2.2.1) c4), (19, vi (len x1.2.2.1)), (20, vi s2.2)] [r_3] [Ar (eInt .i64) 3 r_3 p5 c5 (List.length s2.1) s2.1, R e_Argument p1 c1 (List.length y0) y0, R (eInt .i64) p4 c4 (List.length x1.2.2.1) x1.2.2.1] a w) hm ⟨p2, c2, r_1, h.to 1 ⟨(h.g 2), (h.g 3), (h.g 0), trivial⟩⟩ ?_
      intro s2 a w o2 hJ hm hr1
      obtain ⟨p5, c5, r_3, h⟩ := hJ
      unfold m_argument_Subs_L1 at hm
      refine sp [(21, vb (decide (s2.2 < (len x1.2.2.1))))] h fun a h => ?_
      refine wp_seq ?_
      refine cb h rfl (fun hb2 => ?_) (fun hb2 => ?_)
      · replace hm := ifT hb2 hm
        refine wp_skip ?_
        refine then_n ?_
        refine wp_seq ?_
        refine wp_block ?_
        refine sr ?_
        obtain ⟨x2, h3, hm⟩ := bnd hm
        refine sl (b_index_rd h (h.g 2) rfl rfl h3 fun b2 o3 a h => ?_)
        refine sl (b_load_pt false h (h.g 0) rfl fun ci2 hc2 v2 hv2 a h => ?_)
        replace hc2 : E.rd (eInt .i64) _ _ ci2 x2 := hc2
        obtain rfl := hc2
        obtain rfl := Option.some.inj hv2
        refine pr 1 [(7, vi x2)] h fun a h => ?_
        refine oe ?_
        refine reg ?_
        refine pr 3 [(26, vi x2), (25, .slice p1 (List.length y0) c1), (24, .slice p5 (List.length s2.1) c5)] h fun a h => ?_
        obtain ⟨r2, h4, hm⟩ := bnd hm
        refine sl (b_call [] [] h Tryz.call32 rfl rfl (ih_argument_Subs (y0 := y0) (y1 := x2) (h.po [] []) ⟨(h.pf [] [] 2), trivial⟩ h4) fun v a w hp hc => ?_)
        obtain ⟨p6, c6, rfl, q⟩ := hp
        have h := hc.on q [r_3]
        obtain ⟨x3, h5, hm⟩ := bnd hm
        refine sl (b_append_r (te := 3) 0 h (h.g 2) (h.g 0) rfl rfl h5 fun r_4 p7 c7 a w h e => ?_)
        refine pr 1 [(5, .slice p7 (List.length x3) c7)] h fun a h => ?_
        refine ops_end ?_
        refine inb_n ?_
        refine then_n ?_
        refine reg ?_
        refine pr 2 [(20, vi (w64 (s2.2 + 1)))] h fun a h => ?_
        refine ops_end ?_
        obtain rfl := Option.some.inj hm
        exact lp_n rfl ⟨p7, c7, r_4, h.to 1 ⟨(h.g 0), (h.g 4), (h.g 5), trivial⟩⟩
      replace hm := ifF hb2 hm
      refine wp_exit ?_
      refine then_e (lp_e (inb_hit ?_))
      replace hm := loopR hr1 hm
      obtain rfl := Option.some.inj hm
      exact then_n ⟨p5, c5, r_3, h.to 1 ⟨(h.g 0), trivial⟩⟩
    intro a w hJ
    obtain ⟨p3, c3, r_2, h⟩ := hJ
    refine sr ?_
    refine pr 1 [(30, .slice p3 (List.length s1) c3)] h fun a h => ?_
    obtain ⟨r3, h6, hm⟩ := bnd hm
    refine sl (b_call [0] [] h Tryz.call62 rfl rfl (c_slices_Sort_int (y0 := s1) (h.po [0] []) ⟨(h.pf [0] [] 0), trivial⟩ h6) fun v a w hp hc => ?_)
    obtain ⟨r_5, rfl, q⟩ := hp
    have h := hc.on q [r_5]
    refine oe ?_
    refine sr ?_
    refine pr 1 [(32, .slice p3 (List.length s1) c3)] h fun a h => ?_
    have h := h.upd (t := 32) (.slice p3 (List.length r3) c3) rfl (congrArg (fun q : Nat => Value.slice p3 q c3) (Ar.ln (h.g 0)))
    have h := h.add (Ar.re (h.g 0))
    obtain ⟨r4, h7, hm⟩ := bnd hm
    refine sl (b_call [0] [] h Tryz.call63 rfl rfl (c_slices_Compact_int (y0 := r3) (h.po [0] []) ⟨(h.pf [0] [] 0), trivial⟩ h7) fun v a w hp hc => ?_)
    obtain ⟨p8, c8, rfl, q⟩ := hp
    have h := hc.on q [[]]
    refine pr 1 [(4, .slice p8 (List.length r4) c8)] h fun a h => ?_
    refine oe ?_
    refine wp_ret ?_
    obtain rfl := Option.some.inj hm
    exact rt1 h rfl rfl ⟨p8, c8, rfl, bk_sel h [] ⟨(h.g 0), trivial⟩⟩

theorem c_argument_Subs {A : List Nat} {w0 : World} {y0 : List T_Argument} {p1 : Option Addr} {c1 : Nat} {y1 : Int} {r : (List Int)} (hO : Own A w0 []) (hF : All [R e_Argument p1 c1 (List.length y0) y0] (bl [] ++ A) w0) (hm : m_argument_Subs y0 y1 = some r) :
    Calls Tryz.prog 32 [.slice p1 (List.length y0) c1, vi y1].toArray w0 (Ret fun v w => ∃ (p2 : Option Addr) (c2 : Nat), v = .slice p2 (List.length r) c2 ∧ Bk A [] w0 [] [R (eInt .i64) p2 c2 (List.length r) r] w) := by
  obtain ⟨k, hk⟩ := limM_some hm
  exact (k_argument_Subs_all k) hO hF hk

theorem c_literal_Complement {A : List Nat} {w0 : World} {y0 : T_Literal} {r : T_Literal} (hO : Own A w0 []) (hF : All [] (bl [] ++ A) w0) (hm : m_literal_Complement y0 = some r) :
    Calls Tryz.prog 59 [.agg #[vb y0.1, vs y0.2]].toArray w0 (Ret fun v w => v = .agg #[vb r.1, vs r.2] ∧ Bk A [] w0 [] [] w) := by
  unfold m_literal_Complement at hm
  refine ent Tryz.func59 rfl hO hF fun a h => ?_
  refine sr ?_
  refine sl (b_box h rfl fun b1 a w h e => ?_)
  refine sl (b_alloc h rfl fun b2 a w h e => ?_)
  refine oe ?_
  refine sr ?_
  refine pr 1 [(3, .pointer (some ⟨b1, 0, none⟩))] h fun a h => ?_
  refine sl (b_load_own 0 (vb y0.1) h rfl rfl fun a h => ?_)
  refine pr 2 [(6, .pointer (some ⟨b1, 0, none⟩)), (5, vb (!y0.1))] h fun a h => ?_
  refine sl (b_store_own 0 h rfl rfl rfl fun a w h e => ?_)
  refine oe ?_
  refine sr ?_
  refine sl (b_load_own 0 (.agg #[vb (!y0.1), vs y0.2]) h rfl rfl fun a h => ?_)
  refine sl (b_store_own 1 h rfl rfl rfl fun a w h e => ?_)
  refine oe ?_
  refine wp_ret ?_
  obtain rfl := Option.some.inj hm
  exact rtg h rfl (vs := [.agg #[vb (!y0.1), vs y0.2]]) (rtc 1 h rfl rfl resN) ⟨rfl, bk_sel h [] trivial⟩

theorem c_attack_kinds {A : List Nat} {w0 : World} {y0 : T_Base} {p1 : Option Addr} {c1 : Nat} {p2 : Option Addr} {c2 : Nat} {p3 : Option Addr} {c3 : Nat} {y1 : List T_Argument} {p4 : Option Addr} {c4 : Nat} {y2 : Int} {y3 : Int} {r : (List Int)} (hO : Own A w0 []) (hF : All [R e_Premise p1 c1 (List.length y0.1) y0.1, R e_Rule p2 c2 (List.length y0.2.1) y0.2.1, R e_Promotion p3 c3 (List.length y0.2.2) y0.2.2, R e_Argument p4 c4 (List.length y1) y1] (bl [] ++ A) w0) (hm : m_attack_kinds y0 y1 y2 y3 = some r) :
    Calls Tryz.prog 30 [.agg #[.slice p1 (List.length y0.1) c1, .slice p2 (List.length y0.2.1) c2, .slice p3 (List.length y0.2.2) c3], .slice p4 (List.length y1) c4, vi y2, vi y3].toArray w0 (Ret fun v w => ∃ (p5 : Option Addr) (c5 : Nat), v = .slice p5 (List.length r) c5 ∧ Bk A [] w0 [] [R (eInt .i64) p5 c5 (List.length r) r] w) := by
  unfold m_attack_kinds at hm
  refine ent Tryz.func30 rfl hO hF fun a h => ?_
  refine sr ?_
  refine sl (b_box h rfl fun b1 a w h e => ?_)
  refine pr 1 [] h fun a h => ?_
  refine oe ?_
  refine sr ?_
  refine pr 1 [(9, .slice none 0 0)] h fun a h => ?_
  have h := h.room (eInt .i64) 3
  refine oe ?_
  obtain ⟨s1, hx, hm⟩ := bnd hm
  refine seq_j (fun a w => ∃ (b2 : Nat) (b3 : Nat) (p5 : Option Addr) (c5 : Nat), SS A [] w0 76 [(4, .pointer (some ⟨b1, 0, none⟩)), (9, .slice none (List.length ([] : List Int)) 0), (10, .pointer (some ⟨b2, 0, none⟩)), (11, .pointer (some ⟨b3, 0, none⟩))] [bx b1 31 [.slice p1 (List.length y0.1) c1, .slice p2 (List.length y0.2.1) c2, .slice p3 (List.length y0.2.2) c3], [], bx b2 61 [vb s1.1.1, vs s1.1.2], bx b3 63 [vi s1.2.1, vi s1.2.2.1, .slice p5 (List.length s1.2.2.2.1) c5, vb s1.2.2.2.2.1, vs s1.2.2.2.2.2]] [R (eInt .i64) p5 c5 (List.length s1.2.2.2.1) s1.2.2.2.1, Ar (eInt .i64) 3 [] none 0 (List.length ([] : List Int)) ([] : List Int), R e_Premise p1 c1 (List.length y0.1) y0.1, R e_Rule p2 c2 (List.length y0.2.1) y0.2.1, R e_Promotion p3 c3 (List.length y0.2.2) y0.2.2] a w) ?_ ?_
  · replace hm := hx
    refine ds' [] [] h fun w h => ?_
    refine dp 0 (.slice p4 (List.length y1) c4) h rfl fun a h => ?_
    refine dp 1 (vi y2) h rfl fun a h => ?_
    obtain ⟨x1, h1, hm⟩ := bnd hm
    refine dir 2 h rfl (h.g 4) rfl rfl h1 fun b4 o1 a h => ?_
    refine dp 3 (.pointer (some ⟨b4, (o1 + 3), none⟩)) h rfl fun a h => ?_
    refine dlp 4 true h rfl (PtTo.snd (PtTo.snd (PtTo.snd (h.g 0)))) rfl fun ci1 hc1 v1 hv1 a h => ?_
    replace hc1 : E.rd e_Literal _ _ ci1 x1.2.2.2 := hc1
    obtain ⟨_, _, rfl, rfl, rfl⟩ := hc1
    obtain rfl := Option.some.inj hv1
    have h := h.upd (t := 17) (.agg #[vb x1.2.2.2.1, vs x1.2.2.2.2]) rfl rfl
    refine dp 5 (.slice p4 (List.length y1) c4) h rfl fun a h => ?_
    refine dp 6 (vi y3) h rfl fun a h => ?_
    obtain ⟨x2, h2, hm⟩ := bnd hm
    refine dir 7 h rfl (h.g 5) rfl rfl h2 fun b5 o2 a h => ?_
    refine dlp 8 true h rfl (h.g 0) rfl fun ci2 hc2 v2 hv2 a h => ?_
    replace hc2 : E.rd e_Argument _ _ ci2 x2 := hc2
    obtain ⟨_, _, rfl, rfl, ⟨_, _, rfl, rfl, ⟨_, _, rfl, ⟨p6, c6, rfl, f1⟩, ⟨_, _, rfl, rfl, rfl⟩⟩⟩⟩ := hc2
    obtain rfl := Option.some.inj hv2
    have h := h.upd (t := 21) (.agg #[vi x2.1, vi x2.2.1, .slice p6 (List.length x2.2.2.1) c6, vb x2.2.2.2.1, vs x2.2.2.2.2]) rfl rfl
    have h := h.add (R.of f1)
    refine d2 9 10 rfl rfl ?_ ?_
    · refine b_alloc h rfl fun b6 a w h e => ?_
      refine dn h e ?_
      refine d1 10 rfl ?_
      refine b_alloc h rfl fun b7 a w h e => ?_
      refine dn h e ?_
      refine d1 11 rfl ?_
      refine b_store_own 2 h rfl rfl rfl fun a w h e => ?_
      refine dn h e ?_
      refine d1 12 rfl ?_
      refine b_store_own 3 h rfl rfl rfl fun a w h e => ?_
      refine dn h e ?_
      refine de ?_
      obtain rfl := Option.some.inj hm
      exact then_n ⟨b6, b7, p6, c6, h.to 4 ⟨(h.g 0), (h.g 3), (h.g 4), (h.g 5), (h.g 6), trivial⟩⟩
    · refine b_alloc h rfl fun b8 a w h e => ?_
      refine dn h e ?_
      refine d1 9 rfl ?_
      refine b_alloc h rfl fun b9 a w h e => ?_
      refine dn h e ?_
      refine d1 11 rfl ?_
      refine b_store_own 3 h rfl rfl rfl fun a w h e => ?_
      refine dn h e ?_
      refine d1 12 rfl ?_
      refine b_store_own 2 h rfl rfl rfl fun a w h e => ?_
      refine dn h e ?_
      refine de ?_
      obtain rfl := Option.some.inj hm
      exact then_n ⟨b9, b8, p6, c6, h.tos [0, 1, 3, 2] ⟨(h.g 0), (h.g 3), (h.g 4), (h.g 5), (h.g 6), trivial⟩⟩
  intro a w hJ
  obtain ⟨b2, b3, p5, c5, h⟩ := hJ
  refine ds [] [2, 3] h fun w h => ?_
  refine dlo 0 2 (.agg #[vb s1.1.1, vs s1.1.2]) h rfl rfl rfl fun a h => ?_
  refine dp 1 (.pointer (some ⟨b3, 3, none⟩)) h rfl fun a h => ?_
  refine dlo 2 3 (.agg #[vb s1.2.2.2.2.1, vs s1.2.2.2.2.2]) h rfl rfl rfl fun a h => ?_
  refine d1 3 rfl ?_
  obtain ⟨r1, h3, hm⟩ := bnd hm
  refine b_call [] [] h Tryz.call59 rfl rfl (c_literal_Complement (y0 := s1.2.2.2.2) (h.po [] []) trivial h3) fun v a w hp hc => ?_
  obtain ⟨rfl, q⟩ := hp
  have e := hc.st q [bx b1 31 [.slice p1 (List.length y0.1) c1, .slice p2 (List.length y0.2.1) c2, .slice p3 (List.length y0.2.2) c3], [], bx b2 61 [vb s1.1.1, vs s1.1.2], bx b3 63 [vi s1.2.1, vi s1.2.2.1, .slice p5 (List.length s1.2.2.2.1) c5, vb s1.2.2.2.2.1, vs s1.2.2.2.2.2]]
  have h := hc.on q [bx b1 31 [.slice p1 (List.length y0.1) c1, .slice p2 (List.length y0.2.1) c2, .slice p3 (List.length y0.2.2) c3], [], bx b2 61 [vb s1.1.1, vs s1.1.2], bx b3 63 [vi s1.2.1, vi s1.2.2.1, .slice p5 (List.length s1.2.2.2.1) c5, vb s1.2.2.2.2.1, vs s1.2.2.2.2.2]]
  refine dn h e ?_
  refine dp 4 (vb (s1.1 == r1)) h rfl fun a h => ?_
  refine dp 5 (vb (s1.1 == r1)) h rfl fun a h => ?_
  refine de (then_n ?_)
  refine wp_seq ?_
  refine wp_block ?_
  refine sr ?_
  refine pr 1 [(28, .pointer (some ⟨b3, 0, none⟩))] h fun a h => ?_
  refine sl (b_load_own 3 (vi s1.2.1) h rfl rfl fun a h => ?_)
  refine pr 2 [(27, vb (decide (0 ≤ s1.2.1)))] h fun a h => ?_
  refine oe ?_
  refine cb h rfl (fun hb1 => ?_) (fun hb1 => ?_)
  · replace hm := ifT hb1 hm
    obtain ⟨s2, hx, hm⟩ := bnd hm
    refine seq_j (fun a w => SS A [] w0 76 [(9, .slice none (List.length ([] : List Int)) 0), (41, vb s2)] [[], [], [], []] [Ar (eInt .i64) 3 [] none 0 (List.length ([] : List Int)) ([] : List Int)] a w) ?_ ?_
    · replace hm := hx
      refine reg ?_
      refine pr 2 [(32, vb (s1.1 == r1))] h fun a h => ?_
      rcases Bool.eq_false_or_eq_true (s1.1 == r1) with hb2 | hb2
      · have h := h.upd (t := 32) (vb true) rfl (congrArg Value.bool hb2)
        replace hm := ifT hb2 hm
        refine pr 1 [(33, .pointer (some ⟨b1, 0, none⟩))] h fun a h => ?_
        refine sl (b_load_own 0 (.slice p1 (List.length y0.1) c1) h rfl rfl fun a h => ?_)
        refine pr 1 [(35, .pointer (some ⟨b3, 0, none⟩))] h fun a h => ?_
        refine sl (b_load_own 3 (vi s1.2.1) h rfl rfl fun a h => ?_)
        obtain ⟨x3, h4, hm⟩ := bnd hm
        refine sl (b_index_rd h (h.g 2) rfl rfl h4 fun b10 o3 a h => ?_)
        refine pr 1 [(38, .pointer (some ⟨b10, (o3 + 2), none⟩))] h fun a h => ?_
        refine sl (b_load_pt false h (PtTo.fst (PtTo.snd (h.g 0))) rfl fun ci3 hc3 v3 hv3 a h => ?_)
        replace hc3 : E.rd (eInt .i64) _ _ ci3 x3.2.1 := hc3
        obtain rfl := hc3
        obtain rfl := Option.some.inj hv3
        refine pr 2 [(41, vb (x3.2.1 != 1))] h fun a h => ?_
        refine ops_end ?_
        obtain rfl := Option.some.inj hm
        exact then_n (h.tos [900, 1, 902, 903] ⟨(h.g 2), trivial⟩)
      · have h := h.upd (t := 32) (vb false) rfl (congrArg Value.bool hb2)
        replace hm := ifF hb2 hm
        refine pr 9 [(41, vb false)] h fun a h => ?_
        refine ops_end ?_
        obtain rfl := Option.some.inj hm
        exact then_n (h.tos [900, 1, 902, 903] ⟨(h.g 1), trivial⟩)
    intro a w hJ
    have h := hJ
    refine cb h rfl (fun hb3 => ?_) (fun hb3 => ?_)
    · replace hm := ifT hb3 hm
      refine reg ?_
      refine pr 1 [(42, .slice none (List.length ([] : List Int)) 0)] h fun a h => ?_
      refine sl (b_bs_rd (te := 3) (e := eInt .i64) [vi 1] ([1] : List Int) h ⟨_, _, rfl, eInt.mk, rfl⟩ fun p7 c7 a w h e => ?_)
      obtain ⟨x4, h5, hm⟩ := bnd hm
      refine sl (b_append_r (te := 3) 1 h (h.g 1) (h.g 0) rfl rfl h5 fun r_1 p8 c8 a w h e => ?_)
      refine pr 1 [(9, .slice p8 (List.length x4) c8)] h fun a h => ?_
      refine ops_end ?_
      refine inb_n ?_
      refine then_n ?_
      refine sp [(8, .slice p8 (List.length x4) c8)] h fun a h => ?_
      refine wp_ret ?_
      obtain rfl := Option.some.inj hm
      have h := h.share 1 (h.g 0)
      exact rt1 h rfl rfl ⟨p8, c8, rfl, bk_sel h [] ⟨(h.g 0), trivial⟩⟩
    replace hm := ifF hb3 hm
    refine wp_skip ?_
    refine inb_n ?_
    refine then_n ?_
    refine sp [(8, .slice none (List.length ([] : List Int)) 0)] h fun a h => ?_
    refine wp_ret ?_
    obtain rfl := Option.some.inj hm
    have h := h.share 1 (h.g 0)
    exact rt1 h rfl rfl ⟨none, 0, rfl, bk_sel h [] ⟨(h.g 0), trivial⟩⟩
  replace hm := ifF hb1 hm
  refine sr ?_
  refine pr 1 [(46, .pointer (some ⟨b1, 1, none⟩))] h fun a h => ?_
  refine sl (b_load_own 0 (.slice p2 (List.length y0.2.1) c2) h rfl rfl fun a h => ?_)
  refine pr 1 [(48, .pointer (some ⟨b3, 1, none⟩))] h fun a h => ?_
  refine sl (b_load_own 3 (vi s1.2.2.1) h rfl rfl fun a h => ?_)
  obtain ⟨x5, h6, hm⟩ := bnd hm
  refine sl (b_index_rd h (h.g 3) rfl rfl h6 fun b11 o4 a h => ?_)
  refine pr 1 [(51, .pointer (some ⟨b11, (o4 + 1), none⟩))] h fun a h => ?_
  refine sl (b_load_pt false h (PtTo.fst (PtTo.snd (h.g 0))) rfl fun ci4 hc4 v4 hv4 a h => ?_)
  replace hc4 : E.rd eBool _ _ ci4 x5.2.1 := hc4
  obtain rfl := hc4
  obtain rfl := Option.some.inj hv4
  refine pr 2 [(45, vb (!x5.2.1))] h fun a h => ?_
  refine oe ?_
  refine cb h rfl (fun hb4 => ?_) (fun hb4 => ?_)
  · replace hm := ifT hb4 hm
    obtain ⟨s3, hx, hm⟩ := bnd hm
    refine seq_j (fun a w => ∃ (p9 : Option Addr) (c9 : Nat) (r_2 : Res), SS A [] w0 76 [(4, .pointer (some ⟨b1, 0, none⟩)), (9, .slice p9 (List.length s3) c9), (10, .pointer (some ⟨b2, 0, none⟩)), (11, .pointer (some ⟨b3, 0, none⟩))] [bx b1 31 [.slice p1 (List.length y0.1) c1, .slice p2 (List.length y0.2.1) c2, .slice p3 (List.length y0.2.2) c3], r_2, bx b2 61 [vb s1.1.1, vs s1.1.2], bx b3 63 [vi s1.2.1, vi s1.2.2.1, .slice p5 (List.length s1.2.2.2.1) c5, vb s1.2.2.2.2.1, vs s1.2.2.2.2.2]] [Ar (eInt .i64) 3 r_2 p9 c9 (List.length s3) s3, R e_Premise p1 c1 (List.length y0.1) y0.1, R e_Rule p2 c2 (List.length y0.2.1) y0.2.1, R e_Promotion p3 c3 (List.length y0.2.2) y0.2.2, R (eInt .i64) p5 c5 (List.length s1.2.2.2.1) s1.2.2.2.1] a w) ?_ ?_
    · have hm2 := hm
      replace hm := hx
      refine sp [(54, vb (s1.1 == r1))] h fun a h => ?_
      refine cb h rfl (fun hb5 => ?_) (fun hb5 => ?_)
      · replace hm := ifT hb5 hm
        refine reg ?_
        refine pr 1 [(55, .slice none (List.length ([] : List Int)) 0)] h fun a h => ?_
        refine sl (b_bs_rd (te := 3) (e := eInt .i64) [vi 2] ([2] : List Int) h ⟨_, _, rfl, eInt.mk, rfl⟩ fun p10 c10 a w h e => ?_)
        obtain ⟨x6, h7, hm⟩ := bnd hm
        refine sl (b_append_r (te := 3) 1 h (h.g 3) (h.g 0) rfl rfl h7 fun r_3 p11 c11 a w h e => ?_)
        refine pr 1 [(9, .slice p11 (List.length x6) c11)] h fun a h => ?_
        refine ops_end ?_
        obtain rfl := Option.some.inj hm
        exact then_n ⟨p11, c11, r_3, h.to 4 ⟨(h.g 0), (h.g 5), (h.g 6), (h.g 7), (h.g 3), trivial⟩⟩
      replace hm := ifF hb5 hm
      refine wp_skip ?_
      obtain rfl := Option.some.inj hm
      exact then_n ⟨none, 0, [], h.to 4 ⟨(h.g 2), (h.g 3), (h.g 4), (h.g 5), (h.g 1), trivial⟩⟩
    intro a w hJ
    obtain ⟨p9, c9, r_2, h⟩ := hJ
    obtain ⟨s4, hx, hm⟩ := bnd hm
    refine seq_j (fun a w => SS A [] w0 76 [(9, .slice p9 (List.length s3) c9), (71, vb s4)] [[], r_2, [], []] [Ar (eInt .i64) 3 r_2 p9 c9 (List.length s3) s3] a w) ?_ ?_
    · replace hm := hx
      refine ds' [] [0, 2, 3] h fun w h => ?_
      refine dp 0 (.pointer (some ⟨b2, 0, none⟩)) h rfl fun a h => ?_
      refine dlo 1 2 (vb s1.1.1) h rfl rfl rfl fun a h => ?_
      refine dp 2 (vb s1.1.1) h rfl fun a h => ?_
      rcases Bool.eq_false_or_eq_true s1.1.1 with hb6 | hb6
      · have h := h.upd (t := 60) (vb true) rfl (congrArg Value.bool hb6)
        replace hm := ifT hb6 hm
        refine dp 3 (.pointer (some ⟨b2, 1, none⟩)) h rfl fun a h => ?_
        refine dlo 4 2 (vs s1.1.2) h rfl rfl rfl fun a h => ?_
        refine dp 5 (.pointer (some ⟨b1, 1, none⟩)) h rfl fun a h => ?_
        refine dlo 6 0 (.slice p2 (List.length y0.2.1) c2) h rfl rfl rfl fun a h => ?_
        refine dp 7 (.pointer (some ⟨b3, 1, none⟩)) h rfl fun a h => ?_
        refine dlo 8 3 (vi s1.2.2.1) h rfl rfl rfl fun a h => ?_
        obtain ⟨x7, h8, hm⟩ := bnd hm
        refine dir 9 h rfl (h.g 2) rfl rfl h8 fun b12 o5 a h => ?_
        refine dp 10 (.pointer (some ⟨b12, o5, none⟩)) h rfl fun a h => ?_
        refine dlp 11 false h rfl (PtTo.fst (h.g 0)) rfl fun ci5 hc5 v5 hv5 a h => ?_
        replace hc5 : E.rd eStr _ _ ci5 x7.1 := hc5
        obtain rfl := hc5
        obtain rfl := Option.some.inj hv5
        refine dp 12 (vb (s1.1.2 == x7.1)) h rfl fun a h => ?_
        refine dp 13 (vb (s1.1.2 == x7.1)) h rfl fun a h => ?_
        refine de ?_
        obtain rfl := Option.some.inj hm
        exact then_n (h.tos [900, 1, 902, 903] ⟨(h.g 1), trivial⟩)
      · have h := h.upd (t := 60) (vb false) rfl (congrArg Value.bool hb6)
        replace hm := ifF hb6 hm
        refine dk 3 h rfl fun a h => ?_
        refine dk 4 h rfl fun a h => ?_
        refine dk 5 h rfl fun a h => ?_
        refine dk 6 h rfl fun a h => ?_
        refine dk 7 h rfl fun a h => ?_
        refine dk 8 h rfl fun a h => ?_
        refine dk 9 h rfl fun a h => ?_
        refine dk 10 h rfl fun a h => ?_
        refine dk 11 h rfl fun a h => ?_
        refine dk 12 h rfl fun a h => ?_
        refine dp 13 (vb false) h rfl fun a h => ?_
        refine de ?_
        obtain rfl := Option.some.inj hm
        exact then_n (h.tos [900, 1, 902, 903] ⟨(h.g 0), trivial⟩)
    intro a w hJ
    have h := hJ
    refine cb h rfl (fun hb7 => ?_) (fun hb7 => ?_)
    · replace hm := ifT hb7 hm
      refine reg ?_
      refine pr 1 [(72, .slice p9 (List.length s3) c9)] h fun a h => ?_
      refine sl (b_bs_rd (te := 3) (e := eInt .i64) [vi 3] ([3] : List Int) h ⟨_, _, rfl, eInt.mk, rfl⟩ fun p12 c12 a w h e => ?_)
      obtain ⟨x8, h9, hm⟩ := bnd hm
      refine sl (b_append_r (te := 3) 1 h (h.g 1) (h.g 0) rfl rfl h9 fun r_4 p13 c13 a w h e => ?_)
      refine pr 1 [(9, .slice p13 (List.length x8) c13)] h fun a h => ?_
      refine ops_end ?_
      refine inb_n ?_
      refine then_n ?_
      refine sp [(8, .slice p13 (List.length x8) c13)] h fun a h => ?_
      refine wp_ret ?_
      obtain rfl := Option.some.inj hm
      have h := h.share 1 (h.g 0)
      exact rt1 h rfl rfl ⟨p13, c13, rfl, bk_sel h [] ⟨(h.g 0), trivial⟩⟩
    replace hm := ifF hb7 hm
    refine wp_skip ?_
    refine inb_n ?_
    refine then_n ?_
    refine sp [(8, .slice p9 (List.length s3) c9)] h fun a h => ?_
    refine wp_ret ?_
    obtain rfl := Option.some.inj hm
    have h := h.share 1 (h.g 0)
    exact rt1 h rfl rfl ⟨p9, c9, rfl, bk_sel h [] ⟨(h.g 0), trivial⟩⟩
  replace hm := ifF hb4 hm
  refine wp_skip ?_
  refine inb_n ?_
  refine then_n ?_
  refine sp [(8, .slice none (List.length ([] : List Int)) 0)] h fun a h => ?_
  refine wp_ret ?_
  obtain rfl := Option.some.inj hm
  have h := h.share 1 (h.g 2)
  exact rt1 h rfl rfl ⟨none, 0, rfl, bk_sel h [] ⟨(h.g 0), trivial⟩⟩

theorem c_slices_Index_int {A : List Nat} {w0 : World} {y0 : List Int} {p1 : Option Addr} {c1 : Nat} {y1 : Int} {r : Int} (hO : Own A w0 []) (hF : All [R (eInt .i64) p1 c1 (List.length y0) y0] (bl [] ++ A) w0) (hm : m_slices_Index_int y0 y1 = some r) :
    Calls Tryz.prog 60 [.slice p1 (List.length y0) c1, vi y1].toArray w0 (Ret fun v w => v = vi r ∧ Bk A [] w0 [] [] w) := by
  unfold m_slices_Index_int at hm
  refine ent Tryz.func60 rfl hO hF fun a h => ?_
  refine sp [] h fun a h => ?_
  refine wp_seq ?_
  refine sp [(8, vi 0), (7, vi (len y0))] h fun a h => ?_
  refine wp_block ?_
  refine loop_m (B := (m_slices_Index_int_L1 y0 y1)) (fun (s1 : Int) a w => SS A [] w0 19 [(0, .slice p1 (List.length y0) c1), (1, vi y1), (7, vi (len y0)), (8, vi s1)] [] [R (eInt .i64) p1 c1 (List.length y0) y0] a w) hm (h.to 0 ⟨(h.g 0), trivial⟩) ?_
  intro s1 a w o1 hJ hm hr1
  have h := hJ
  unfold m_slices_Index_int_L1 at hm
  refine sp [(9, vb (decide (s1 < (len y0))))] h fun a h => ?_
  refine wp_seq ?_
  refine cb h rfl (fun hb1 => ?_) (fun hb1 => ?_)
  · replace hm := ifT hb1 hm
    refine wp_skip ?_
    refine then_n ?_
    refine wp_seq ?_
    refine wp_block ?_
    refine sp [(5, vi s1)] h fun a h => ?_
    refine sr ?_
    refine pr 3 [(13, vi s1), (12, .slice p1 (List.length y0) c1), (11, vi y1)] h fun a h => ?_
    obtain ⟨x1, h1, hm⟩ := bnd hm
    refine sl (b_index_rd h (h.g 0) rfl rfl h1 fun b1 o2 a h => ?_)
    refine sl (b_load_pt false h (h.g 0) rfl fun ci1 hc1 v1 hv1 a h => ?_)
    replace hc1 : E.rd (eInt .i64) _ _ ci1 x1 := hc1
    obtain rfl := hc1
    obtain rfl := Option.some.inj hv1
    refine pr 1 [(16, vb (y1 == x1))] h fun a h => ?_
    refine oe ?_
    refine cb h rfl (fun hb2 => ?_) (fun hb2 => ?_)
    · replace hm := ifT hb2 hm
      refine sp [(4, vi s1)] h fun a h => ?_
      refine wp_ret ?_
      refine inb_r (then_r (lp_r (inb_r (then_r ?_))))
      replace hm := loopR hr1 hm
      obtain rfl := Option.some.inj hm
      exact rt1 h rfl rfl ⟨rfl, bk_sel h [] trivial⟩
    replace hm := ifF hb2 hm
    refine wp_skip ?_
    refine inb_n ?_
    refine then_n ?_
    refine reg ?_
    refine pr 2 [(8, vi (w64 (s1 + 1)))] h fun a h => ?_
    refine ops_end ?_
    obtain rfl := Option.some.inj hm
    exact lp_n rfl (h.to 0 ⟨(h.g 1), trivial⟩)
  replace hm := ifF hb1 hm
  refine wp_exit ?_
  refine then_e (lp_e (inb_hit ?_))
  replace hm := loopR hr1 hm
  refine then_n ?_
  refine sp [(4, vi (-1))] h fun a h => ?_
  refine wp_ret ?_
  obtain rfl := Option.some.inj hm
  exact rt1 h rfl rfl ⟨rfl, bk_sel h [] trivial⟩

theorem c_slices_Contains_int {A : List Nat} {w0 : World} {y0 : List Int} {p1 : Option Addr} {c1 : Nat} {y1 : Int} {r : Bool} (hO : Own A w0 []) (hF : All [R (eInt .i64) p1 c1 (List.length y0) y0] (bl [] ++ A) w0) (hm : m_slices_Contains_int y0 y1 = some r) :
    Calls Tryz.prog 31 [.slice p1 (List.length y0) c1, vi y1].toArray w0 (Ret fun v w => v = vb r ∧ Bk A [] w0 [] [] w) := by
  unfold m_slices_Contains_int at hm
  refine ent Tryz.func31 rfl hO hF fun a h => ?_
  refine sp [] h fun a h => ?_
  refine sr ?_
  refine pr 2 [(6, vi y1), (5, .slice p1 (List.length y0) c1)] h fun a h => ?_
  obtain ⟨r1, h1, hm⟩ := bnd hm
  refine sl (b_call [] [] h Tryz.call60 rfl rfl (c_slices_Index_int (y0 := y0) (y1 := y1) (h.po [] []) ⟨(h.pf [] [] 0), trivial⟩ h1) fun v a w hp hc => ?_)
  obtain ⟨rfl, q⟩ := hp
  have h := hc.on q []
  refine pr 2 [(4, vb (decide (0 ≤ r1)))] h fun a h => ?_
  refine oe ?_
  refine wp_ret ?_
  obtain rfl := Option.some.inj hm
  exact rt1 h rfl rfl ⟨rfl, bk_sel h [] trivial⟩

theorem c_cmp_isNaN_int {A : List Nat} {w0 : World} {y0 : Int} {r : Bool} (hO : Own A w0 []) (hF : All [] (bl [] ++ A) w0) (hm : m_cmp_isNaN_int y0 = some r) :
    Calls Tryz.prog 66 [vi y0].toArray w0 (Ret fun v w => v = vb r ∧ Bk A [] w0 [] [] w) := by
  unfold m_cmp_isNaN_int at hm
  refine ent Tryz.func66 rfl hO hF fun a h => ?_
  refine sp [] h fun a h => ?_
  refine sp [(2, vb (y0 != y0))] h fun a h => ?_
  refine wp_ret ?_
  obtain rfl := Option.some.inj hm
  exact rt1 h rfl rfl ⟨rfl, bk_sel h [] trivial⟩

theorem c_cmp_Compare_int {A : List Nat} {w0 : World} {y0 : Int} {y1 : Int} {r : Int} (hO : Own A w0 []) (hF : All [] (bl [] ++ A) w0) (hm : m_cmp_Compare_int y0 y1 = some r) :
    Calls Tryz.prog 36 [vi y0, vi y1].toArray w0 (Ret fun v w => v = vi r ∧ Bk A [] w0 [] [] w) := by
  unfold m_cmp_Compare_int at hm
  refine ent Tryz.func36 rfl hO hF fun a h => ?_
  refine sp [] h fun a h => ?_
  refine sr ?_
  refine pr 1 [(7, vi y0)] h fun a h => ?_
  obtain ⟨r1, h1, hm⟩ := bnd hm
  refine sl (b_call [] [] h Tryz.call66 rfl rfl (c_cmp_isNaN_int (y0 := y0) (h.po [] []) trivial h1) fun v a w hp hc => ?_)
  obtain ⟨rfl, q⟩ := hp
  have h := hc.on q []
  refine pr 1 [(5, vb r1)] h fun a h => ?_
  refine oe ?_
  refine sr ?_
  refine pr 1 [(9, vi y1)] h fun a h => ?_
  obtain ⟨r2, h2, hm⟩ := bnd hm
  refine sl (b_call [] [] h Tryz.call66 rfl rfl (c_cmp_isNaN_int (y0 := y1) (h.po [] []) trivial h2) fun v a w hp hc => ?_)
  obtain ⟨rfl, q⟩ := hp
  have h := hc.on q []
  refine pr 1 [(6, vb r2)] h fun a h => ?_
  refine oe ?_
  refine wp_seq ?_
  refine sp [(11, vb r1)] h fun a h => ?_
  refine cb h rfl (fun hb1 => ?_) (fun hb1 => ?_)
  · replace hm := ifT hb1 hm
    refine wp_seq ?_
    refine sp [(12, vb r2)] h fun a h => ?_
    refine cb h rfl (fun hb2 => ?_) (fun hb2 => ?_)
    · replace hm := ifT hb2 hm
      refine sp [(4, vi 0)] h fun a h => ?_
      refine wp_ret ?_
      refine then_r (then_r ?_)
      obtain rfl := Option.some.inj hm
      exact rt1 h rfl rfl ⟨rfl, bk_sel h [] trivial⟩
    replace hm := ifF hb2 hm
    refine wp_skip ?_
    refine then_n ?_
    refine sp [(4, vi (-1))] h fun a h => ?_
    refine wp_ret ?_
    refine then_r ?_
    obtain rfl := Option.some.inj hm
    exact rt1 h rfl rfl ⟨rfl, bk_sel h [] trivial⟩
  replace hm := ifF hb1 hm
  refine wp_skip ?_
  refine then_n ?_
  refine wp_seq ?_
  refine sp [(13, vb r2)] h fun a h => ?_
  refine cb h rfl (fun hb3 => ?_) (fun hb3 => ?_)
  · replace hm := ifT hb3 hm
    refine sp [(4, vi 1)] h fun a h => ?_
    refine wp_ret ?_
    refine then_r ?_
    obtain rfl := Option.some.inj hm
    exact rt1 h rfl rfl ⟨rfl, bk_sel h [] trivial⟩
  replace hm := ifF hb3 hm
  refine wp_skip ?_
  refine then_n ?_
  refine wp_seq ?_
  refine sp [(16, vb (decide (y0 < y1)))] h fun a h => ?_
  refine cb h rfl (fun hb4 => ?_) (fun hb4 => ?_)
  · replace hm := ifT hb4 hm
    refine sp [(4, vi (-1))] h fun a h => ?_
    refine wp_ret ?_
    refine then_r ?_
    obtain rfl := Option.some.inj hm
    exact rt1 h rfl rfl ⟨rfl, bk_sel h [] trivial⟩
  replace hm := ifF hb4 hm
  refine wp_skip ?_
  refine then_n ?_
  refine wp_seq ?_
  refine sp [(19, vb (decide (y1 < y0)))] h fun a h => ?_
  refine cb h rfl (fun hb5 => ?_) (fun hb5 => ?_)
  · replace hm := ifT hb5 hm
    refine sp [(4, vi 1)] h fun a h => ?_
    refine wp_ret ?_
    refine then_r ?_
    obtain rfl := Option.some.inj hm
    exact rt1 h rfl rfl ⟨rfl, bk_sel h [] trivial⟩
  replace hm := ifF hb5 hm
  refine wp_skip ?_
  refine then_n ?_
  refine sp [(4, vi 0)] h fun a h => ?_
  refine wp_ret ?_
  obtain rfl := Option.some.inj hm
  exact rt1 h rfl rfl ⟨rfl, bk_sel h [] trivial⟩

theorem c_cmp_Or_int {A : List Nat} {w0 : World} {y0 : List Int} {p1 : Option Addr} {c1 : Nat} {r : Int} (hO : Own A w0 []) (hF : All [R (eInt .i64) p1 c1 (List.length y0) y0] (bl [] ++ A) w0) (hm : m_cmp_Or_int y0 = some r) :
    Calls Tryz.prog 35 [.slice p1 (List.length y0) c1].toArray w0 (Ret fun v w => v = vi r ∧ Bk A [] w0 [] [] w) := by
  unfold m_cmp_Or_int at hm
  refine ent Tryz.func35 rfl hO hF fun a h => ?_
  refine sp [] h fun a h => ?_
  refine sp [(3, vi 0)] h fun a h => ?_
  refine wp_seq ?_
  refine sp [(8, vi 0), (7, vi (len y0)), (6, .slice p1 (List.length y0) c1)] h fun a h => ?_
  refine wp_block ?_
  refine loop_m (B := (m_cmp_Or_int_L1 y0)) (fun (s1 : Int) a w => SS A [] w0 18 [(3, vi 0), (6, .slice p1 (List.length y0) c1), (7, vi (len y0)), (8, vi s1)] [] [R (eInt .i64) p1 c1 (List.length y0) y0] a w) hm (h.to 0 ⟨(h.g 0), trivial⟩) ?_
  intro s1 a w o1 hJ hm hr1
  have h := hJ
  unfold m_cmp_Or_int_L1 at hm
  refine sp [(9, vb (decide (s1 < (len y0))))] h fun a h => ?_
  refine wp_seq ?_
  refine cb h rfl (fun hb1 => ?_) (fun hb1 => ?_)
  · replace hm := ifT hb1 hm
    refine wp_skip ?_
    refine then_n ?_
    refine wp_seq ?_
    refine wp_block ?_
    refine sr ?_
    obtain ⟨x1, h1, hm⟩ := bnd hm
    refine sl (b_index_rd h (h.g 0) rfl rfl h1 fun b1 o2 a h => ?_)
    refine sl (b_load_pt false h (h.g 0) rfl fun ci1 hc1 v1 hv1 a h => ?_)
    replace hc1 : E.rd (eInt .i64) _ _ ci1 x1 := hc1
    obtain rfl := hc1
    obtain rfl := Option.some.inj hv1
    refine pr 1 [(5, vi x1)] h fun a h => ?_
    refine oe ?_
    refine sp [(14, vb (x1 != 0))] h fun a h => ?_
    refine cb h rfl (fun hb2 => ?_) (fun hb2 => ?_)
    · replace hm := ifT hb2 hm
      refine sp [(2, vi x1)] h fun a h => ?_
      refine wp_ret ?_
      refine inb_r (then_r (lp_r (inb_r (then_r ?_))))
      replace hm := loopR hr1 hm
      obtain rfl := Option.some.inj hm
      exact rt1 h rfl rfl ⟨rfl, bk_sel h [] trivial⟩
    replace hm := ifF hb2 hm
    refine wp_skip ?_
    refine inb_n ?_
    refine then_n ?_
    refine reg ?_
    refine pr 2 [(8, vi (w64 (s1 + 1)))] h fun a h => ?_
    refine ops_end ?_
    obtain rfl := Option.some.inj hm
    exact lp_n rfl (h.to 0 ⟨(h.g 1), trivial⟩)
  replace hm := ifF hb1 hm
  refine wp_exit ?_
  refine then_e (lp_e (inb_hit ?_))
  replace hm := loopR hr1 hm
  refine then_n ?_
  refine sp [(2, vi 0)] h fun a h => ?_
  refine wp_ret ?_
  obtain rfl := Option.some.inj hm
  exact rt1 h rfl rfl ⟨rfl, bk_sel h [] trivial⟩

theorem c_attack_Attacks_1 {A : List Nat} {w0 : World} {y0 : T_Attack} {y1 : T_Attack} {r : Int} (hO : Own A w0 []) (hF : All [] (bl [] ++ A) w0) (hm : m_attack_Attacks_1 y0 y1 = some r) :
    Calls Tryz.prog 34 [.agg #[vi y0.1, vi y0.2.1, vi y0.2.2.1, vi y0.2.2.2], .agg #[vi y1.1, vi y1.2.1, vi y1.2.2.1, vi y1.2.2.2]].toArray w0 (Ret fun v w => v = vi r ∧ Bk A [] w0 [] [] w) := by
  unfold m_attack_Attacks_1 at hm
  refine ent Tryz.func34 rfl hO hF fun a h => ?_
  refine sr ?_
  refine sl (b_box h rfl fun b1 a w h e => ?_)
  refine sl (b_box h rfl fun b2 a w h e => ?_)
  refine pr 1 [] h fun a h => ?_
  refine oe ?_
  refine ds [] [0, 1] h fun w h => ?_
  refine dp 0 (.pointer (some ⟨b1, 0, none⟩)) h rfl fun a h => ?_
  refine dlo 1 0 (vi y0.1) h rfl rfl rfl fun a h => ?_
  refine dp 2 (.pointer (some ⟨b2, 0, none⟩)) h rfl fun a h => ?_
  refine dlo 3 1 (vi y1.1) h rfl rfl rfl fun a h => ?_
  refine dp 5 (.pointer (some ⟨b1, 1, none⟩)) h rfl fun a h => ?_
  refine dlo 6 0 (vi y0.2.1) h rfl rfl rfl fun a h => ?_
  refine dp 7 (.pointer (some ⟨b2, 1, none⟩)) h rfl fun a h => ?_
  refine dlo 8 1 (vi y1.2.1) h rfl rfl rfl fun a h => ?_
  refine dp 10 (.pointer (some ⟨b1, 2, none⟩)) h rfl fun a h => ?_
  refine dlo 11 0 (vi y0.2.2.1) h rfl rfl rfl fun a h => ?_
  refine dp 12 (.pointer (some ⟨b2, 2, none⟩)) h rfl fun a h => ?_
  refine dlo 13 1 (vi y1.2.2.1) h rfl rfl rfl fun a h => ?_
  refine dp 15 (.pointer (some ⟨b1, 3, none⟩)) h rfl fun a h => ?_
  refine dlo 16 0 (vi y0.2.2.2) h rfl rfl rfl fun a h => ?_
  refine dp 17 (.pointer (some ⟨b2, 3, none⟩)) h rfl fun a h => ?_
  refine dlo 18 1 (vi y1.2.2.2) h rfl rfl rfl fun a h => ?_
  refine d1 4 rfl ?_
  obtain ⟨r1, h1, hm⟩ := bnd hm
  refine b_call [] [] h Tryz.call36 rfl rfl (c_cmp_Compare_int (y0 := y0.1) (y1 := y1.1) (h.po [] []) trivial h1) fun v a w hp hc => ?_
  obtain ⟨rfl, q⟩ := hp
  have e := hc.st q [bx b1 45 [vi y0.1, vi y0.2.1, vi y0.2.2.1, vi y0.2.2.2], bx b2 45 [vi y1.1, vi y1.2.1, vi y1.2.2.1, vi y1.2.2.2]]
  have h := hc.on q [bx b1 45 [vi y0.1, vi y0.2.1, vi y0.2.2.1, vi y0.2.2.2], bx b2 45 [vi y1.1, vi y1.2.1, vi y1.2.2.1, vi y1.2.2.2]]
  refine dn h e ?_
  refine d1 9 rfl ?_
  obtain ⟨r2, h2, hm⟩ := bnd hm
  refine b_call [] [] h Tryz.call36 rfl rfl (c_cmp_Compare_int (y0 := y0.2.1) (y1 := y1.2.1) (h.po [] []) trivial h2) fun v a w hp hc => ?_
  obtain ⟨rfl, q⟩ := hp
  have e := hc.st q [bx b1 45 [vi y0.1, vi y0.2.1, vi y0.2.2.1, vi y0.2.2.2], bx b2 45 [vi y1.1, vi y1.2.1, vi y1.2.2.1, vi y1.2.2.2]]
  have h := hc.on q [bx b1 45 [vi y0.1, vi y0.2.1, vi y0.2.2.1, vi y0.2.2.2], bx b2 45 [vi y1.1, vi y1.2.1, vi y1.2.2.1, vi y1.2.2.2]]
  refine dn h e ?_
  refine d1 14 rfl ?_
  obtain ⟨r3, h3, hm⟩ := bnd hm
  refine b_call [] [] h Tryz.call36 rfl rfl (c_cmp_Compare_int (y0 := y0.2.2.1) (y1 := y1.2.2.1) (h.po [] []) trivial h3) fun v a w hp hc => ?_
  obtain ⟨rfl, q⟩ := hp
  have e := hc.st q [bx b1 45 [vi y0.1, vi y0.2.1, vi y0.2.2.1, vi y0.2.2.2], bx b2 45 [vi y1.1, vi y1.2.1, vi y1.2.2.1, vi y1.2.2.2]]
  have h := hc.on q [bx b1 45 [vi y0.1, vi y0.2.1, vi y0.2.2.1, vi y0.2.2.2], bx b2 45 [vi y1.1, vi y1.2.1, vi y1.2.2.1, vi y1.2.2.2]]
  refine dn h e ?_
  refine d1 19 rfl ?_
  obtain ⟨r4, h4, hm⟩ := bnd hm
  refine b_call [] [] h Tryz.call36 rfl rfl (c_cmp_Compare_int (y0 := y0.2.2.2) (y1 := y1.2.2.2) (h.po [] []) trivial h4) fun v a w hp hc => ?_
  obtain ⟨rfl, q⟩ := hp
  have e := hc.st q [bx b1 45 [vi y0.1, vi y0.2.1, vi y0.2.2.1, vi y0.2.2.2], bx b2 45 [vi y1.1, vi y1.2.1, vi y1.2.2.1, vi y1.2.2.2]]
  have h := hc.on q [bx b1 45 [vi y0.1, vi y0.2.1, vi y0.2.2.1, vi y0.2.2.2], bx b2 45 [vi y1.1, vi y1.2.1, vi y1.2.2.1, vi y1.2.2.2]]
  refine dn h e ?_
  refine d1 20 rfl ?_
  refine b_bs_rd (te := 3) (e := eInt .i64) [vi r1, vi r2, vi r3, vi r4] ([r1, r2, r3, r4] : List Int) h ⟨_, _, rfl, eInt.mk, ⟨_, _, rfl, eInt.mk, ⟨_, _, rfl, eInt.mk, ⟨_, _, rfl, eInt.mk, rfl⟩⟩⟩⟩ fun p1 c1 a w h e => ?_
  refine dn h e ?_
  refine d1 21 rfl ?_
  obtain ⟨r5, h5, hm⟩ := bnd hm
  refine b_call [] [] h Tryz.call35 rfl rfl (c_cmp_Or_int (y0 := ([r1, r2, r3, r4] : List Int)) (h.po [] []) ⟨(h.pf [] [] 0), trivial⟩ h5) fun v a w hp hc => ?_
  obtain ⟨rfl, q⟩ := hp
  have e := hc.st q [bx b1 45 [vi y0.1, vi y0.2.1, vi y0.2.2.1, vi y0.2.2.2], bx b2 45 [vi y1.1, vi y1.2.1, vi y1.2.2.1, vi y1.2.2.2]]
  have h := hc.on q [bx b1 45 [vi y0.1, vi y0.2.1, vi y0.2.2.1, vi y0.2.2.2], bx b2 45 [vi y1.1, vi y1.2.1, vi y1.2.2.1, vi y1.2.2.2]]
  refine dn h e ?_
  refine dp 22 (vi r5) h rfl fun a h => ?_
  refine de (then_n ?_)
  refine wp_ret ?_
  obtain rfl := Option.some.inj hm
  exact rt1 h rfl rfl ⟨rfl, bk_sel h [] trivial⟩

theorem c_slices_SortFunc_Attack__attack_Attacks_1 {A : List Nat} {w0 : World} {y0 : List T_Attack} {p1 : Option Addr} {c1 : Nat} {r_1 : Res} {r : List T_Attack} (hO : Own A w0 [r_1]) (hF : All [Ar e_Attack 45 r_1 p1 c1 (List.length y0) y0] (bl [r_1] ++ A) w0) (hm : m_slices_SortFunc_Attack__attack_Attacks_1 y0 = some r) :
    Calls Tryz.prog 33 [.slice p1 (List.length y0) c1, .func (.func 34) #[] #[]].toArray w0 (Ret fun v w => ∃ (r_2 : Res), v = .tuple #[] ∧ Bk A [r_1] w0 [r_2] [Ar e_Attack 45 r_2 p1 c1 (List.length y0) r] w) := by
  have h := sort_flat Go.Proofs.Tryz.sort33 (Flat.prod (Flat.int .i64) (Flat.prod (Flat.int .i64) (Flat.prod (Flat.int .i64) (Flat.int .i64)))) (te := 45) Tryz.isAgg45 Tryz.sizeOf45 m_attack_Attacks_1 34 (enters_of Tryz.func34 (by kernel_rfl) rfl) (fun w x y n hn => ?_) hO hF.1.1 hm
  · change Calls Tryz.prog 33 _ _ _ at h
    refine h.mono fun e w' h => ?_
    cases e with
    | returned v => obtain ⟨r', rfl, h1, h2, h3, h4⟩ := h; exact ⟨r', rfl, h1, h2, ⟨h3, h4.symm⟩, trivial⟩
    | panicked ch => exact h
    | outgrown => exact h
  · refine (c_attack_Attacks_1 (A := []) (y0 := x) (y1 := y) (Own.start (by simp)) trivial hn).mono fun e w' h => ?_
    cases e with
    | returned v => obtain ⟨rfl, h⟩ := h; exact ⟨rfl, h.e⟩
    | panicked ch => exact h
    | outgrown => exact h

theorem c_attack_Attacks {A : List Nat} {w0 : World} {y0 : T_Base} {p1 : Option Addr} {c1 : Nat} {p2 : Option Addr} {c2 : Nat} {p3 : Option Addr} {c3 : Nat} {y1 : List T_Argument} {p4 : Option Addr} {c4 : Nat} {r : (List T_Attack)} (hO : Own A w0 []) (hF : All [R e_Premise p1 c1 (List.length y0.1) y0.1, R e_Rule p2 c2 (List.length y0.2.1) y0.2.1, R e_Promotion p3 c3 (List.length y0.2.2) y0.2.2, R e_Argument p4 c4 (List.length y1) y1] (bl [] ++ A) w0) (hm : m_attack_Attacks y0 y1 = some r) :
    Calls Tryz.prog 12 [.agg #[.slice p1 (List.length y0.1) c1, .slice p2 (List.length y0.2.1) c2, .slice p3 (List.length y0.2.2) c3], .slice p4 (List.length y1) c4].toArray w0 (Ret fun v w => ∃ (p5 : Option Addr) (c5 : Nat) (r_1 : Res), v = .slice p5 (List.length r) c5 ∧ Bk A [] w0 [r_1] [Ar e_Attack 45 r_1 p5 c5 (List.length r) r] w) := by
  unfold m_attack_Attacks at hm
  refine ent Tryz.func12 rfl hO hF fun a h => ?_
  refine sr ?_
  refine sl (b_box h rfl fun b1 a w h e => ?_)
  refine pr 1 [] h fun a h => ?_
  refine oe ?_
  refine sr ?_
  refine pr 1 [(5, .slice none 0 0)] h fun a h => ?_
  have h := h.room e_Attack 45
  refine oe ?_
  obtain ⟨s1, hx, hm⟩ := bnd hm
  refine seq_j (fun a w => ∃ (p5 : Option Addr) (c5 : Nat) (r_1 : Res), SS A [] w0 62 [(5, .slice p5 (List.length s1) c5)] [[], r_1] [Ar e_Attack 45 r_1 p5 c5 (List.length s1) s1] a w) ?_ ?_
  · have hm2 := hm
    replace hm := hx
    refine sp [(14, vi 0), (13, vi (len y1))] h fun a h => ?_
    refine wp_block ?_
    refine loop_m (B := (m_attack_Attacks_L1 y1 y0)) (fun (s2 : (List T_Attack) × Int) a w => ∃ (p6 : Option Addr) (c6 : Nat) (r_2 : Res), SS A [] w0 62 [(1, .slice p4 (List.length y1) c4), (2, .pointer (some ⟨b1, 0, none⟩)), (5, .slice p6 (List.length s2.1) c6), (13, vi (len y1)), (14, vi s2.2)] [bx b1 31 [.slice p1 (List.length y0.1) c1, .slice p2 (List.length y0.2.1) c2, .slice p3 (List.length y0.2.2) c3], r_2] [Ar e_Attack 45 r_2 p6 c6 (List.length s2.1) s2.1, R e_Argument p4 c4 (List.length y1) y1, R e_Premise p1 c1 (List.length y0.1) y0.1, R e_Rule p2 c2 (List.length y0.2.1) y0.2.1, R e_Promotion p3 c3 (List.length y0.2.2) y0.2.2] a w) hm ⟨none, 0, [], h.to 2 ⟨(h.g 0), (h.g 4), (h.g 1), (h.g 2), (h.g 3), trivial⟩⟩ ?_
    intro s2 a w o1 hJ hm hr1
    obtain ⟨p6, c6, r_2, h⟩ := hJ
    unfold m_attack_Attacks_L1 at hm
    refine sp [(15, vb (decide (s2.2 < (len y1))))] h fun a h => ?_
    refine wp_seq ?_
    refine cb h rfl (fun hb1 => ?_) (fun hb1 => ?_)
    · replace hm := ifT hb1 hm
      refine wp_skip ?_
      refine then_n ?_
      refine wp_seq ?_
      refine wp_block ?_
      refine sp [(6, vi s2.2)] h fun a h => ?_
      refine sp [(19, vi 0), (18, vi (len y1))] h fun a h => ?_
      refine wp_block ?_
      refine loop_m (B := (m_attack_Attacks_L2 y1 y0 s2)) (fun (s3 : (List T_Attack) × Int) a w => ∃ (p7 : Option Addr) (c7 : Nat) (r_3 : Res), SS A [] w0 62 [(1, .slice p4 (List.length y1) c4), (2, .pointer (some ⟨b1, 0, none⟩)), (5, .slice p7 (List.length s3.1) c7), (6, vi s2.2), (13, vi (len y1)), (14, vi s2.2), (18, vi (len y1)), (19, vi s3.2)] [bx b1 31 [.slice p1 (List.length y0.1) c1, .slice p2 (List.length y0.2.1) c2, .slice p3 (List.length y0.2.2) c3], r_3] [Ar e_Attack 45 r_3 p7 c7 (List.length s3.1) s3.1, R e_Argument p4 c4 (List.length y1) y1, R e_Premise p1 c1 (List.length y0.1) y0.1, R e_Rule p2 c2 (List.length y0.2.1) y0.2.1, R e_Promotion p3 c3 (List.length y0.2.2) y0.2.2] a w) hm ⟨p6, c6, r_2, h.to 2 ⟨(h.g 0), (h.g 1), (h.g 2), (h.g 3), (h.g 4), trivial⟩⟩ ?_
      intro s3 a w o2 hJ hm hr2
      obtain ⟨p7, c7, r_3, h⟩ := hJ
      unfold m_attack_Attacks_L2 at hm
      refine sp [(20, vb (decide (s3.2 < (len y1))))] h fun a h => ?_
      refine wp_seq ?_
      refine cb h rfl (fun hb2 => ?_) (fun hb2 => ?_)
      · replace hm := ifT hb2 hm
        refine wp_skip ?_
        refine then_n ?_
        refine wp_seq ?_
        refine wp_block ?_
        refine sp [(7, vi s3.2)] h fun a h => ?_
        refine sr ?_
        refine sl (b_load_own 0 (.agg #[.slice p1 (List.length y0.1) c1, .slice p2 (List.length y0.2.1) c2, .slice p3 (List.length y0.2.2) c3]) h rfl rfl fun a h => ?_)
        refine pr 3 [(25, vi s2.2), (24, vi s3.2), (23, .slice p4 (List.length y1) c4)] h fun a h => ?_
        obtain ⟨r1, h1, hm⟩ := bnd hm
        refine sl (b_call [] [] h Tryz.call30 rfl rfl (c_attack_kinds (y0 := y0) (y1 := y1) (y2 := s3.2) (y3 := s2.2) (h.po [] []) ⟨(h.pf [] [] 2), (h.pf [] [] 3), (h.pf [] [] 4), (h.pf [] [] 1), trivial⟩ h1) fun v a w hp hc => ?_)
        obtain ⟨p8, c8, rfl, q⟩ := hp
        have h := hc.on q [bx b1 31 [.slice p1 (List.length y0.1) c1, .slice p2 (List.length y0.2.1) c2, .slice p3 (List.length y0.2.2) c3], r_3]
        refine pr 1 [(8, .slice p8 (List.length r1) c8)] h fun a h => ?_
        refine oe ?_
        refine wp_seq ?_
        refine sp [(29, vb ((len r1) == 0))] h fun a h => ?_
        refine cb h rfl (fun hb3 => ?_) (fun hb3 => ?_)
        · replace hm := ifT hb3 hm
          refine wp_exit ?_
          refine then_e (inb_hit ?_)
          refine then_n ?_
          refine reg ?_
          refine pr 2 [(19, vi (w64 (s3.2 + 1)))] h fun a h => ?_
          refine ops_end ?_
          obtain rfl := Option.some.inj hm
          exact lp_n rfl ⟨p7, c7, r_3, h.to 2 ⟨(h.g 1), (h.g 2), (h.g 3), (h.g 4), (h.g 5), trivial⟩⟩
        replace hm := ifF hb3 hm
        refine wp_skip ?_
        refine then_n ?_
        refine sp [(32, vi 0), (31, vi (len y1))] h fun a h => ?_
        refine wp_block ?_
        refine loop_m (B := (m_attack_Attacks_L3 y1 s2 r1 s3)) (fun (s4 : (List T_Attack) × Int) a w => ∃ (p9 : Option Addr) (c9 : Nat) (r_4 : Res), SS A [] w0 62 [(1, .slice p4 (List.length y1) c4), (2, .pointer (some ⟨b1, 0, none⟩)), (5, .slice p9 (List.length s4.1) c9), (6, vi s2.2), (7, vi s3.2), (8, .slice p8 (List.length r1) c8), (13, vi (len y1)), (14, vi s2.2), (18, vi (len y1)), (19, vi s3.2), (31, vi (len y1)), (32, vi s4.2)] [bx b1 31 [.slice p1 (List.length y0.1) c1, .slice p2 (List.length y0.2.1) c2, .slice p3 (List.length y0.2.2) c3], r_4] [Ar e_Attack 45 r_4 p9 c9 (List.length s4.1) s4.1, R e_Argument p4 c4 (List.length y1) y1, R (eInt .i64) p8 c8 (List.length r1) r1, R e_Premise p1 c1 (List.length y0.1) y0.1, R e_Rule p2 c2 (List.length y0.2.1) y0.2.1, R e_Promotion p3 c3 (List.length y0.2.2) y0.2.2] a w) hm ⟨p7, c7, r_3, h.to 2 ⟨(h.g 1), (h.g 2), (h.g 0), (h.g 3), (h.g 4), (h.g 5), trivial⟩⟩ ?_
        intro s4 a w o3 hJ hm hr3
        obtain ⟨p9, c9, r_4, h⟩ := hJ
        unfold m_attack_Attacks_L3 at hm
        refine sp [(33, vb (decide (s4.2 < (len y1))))] h fun a h => ?_
        refine wp_seq ?_
        refine cb h rfl (fun hb4 => ?_) (fun hb4 => ?_)
        · replace hm := ifT hb4 hm
          refine wp_skip ?_
          refine then_n ?_
          refine wp_seq ?_
          refine wp_block ?_
          refine sp [(9, vi s4.2)] h fun a h => ?_
          refine wp_seq ?_
          refine sr ?_
          refine pr 2 [(36, vi s4.2), (35, .slice p4 (List.length y1) c4)] h fun a h => ?_
          obtain ⟨r2, h2, hm⟩ := bnd hm
          refine sl (b_call [] [] h Tryz.call32 rfl rfl (c_argument_Subs (y0 := y1) (y1 := s4.2) (h.po [] []) ⟨(h.pf [] [] 1), trivial⟩ h2) fun v a w hp hc => ?_)
          obtain ⟨p10, c10, rfl, q⟩ := hp
          have h := hc.on q [bx b1 31 [.slice p1 (List.length y0.1) c1, .slice p2 (List.length y0.2.1) c2, .slice p3 (List.length y0.2.2) c3], r_4]
          refine pr 1 [(38, vi s2.2)] h fun a h => ?_
          obtain ⟨r3, h3, hm⟩ := bnd hm
          refine sl (b_call [] [] h Tryz.call31 rfl rfl (c_slices_Contains_int (y0 := r2) (y1 := s2.2) (h.po [] []) ⟨(h.pf [] [] 0), trivial⟩ h3) fun v a w hp hc => ?_)
          obtain ⟨rfl, q⟩ := hp
          have h := hc.on q [bx b1 31 [.slice p1 (List.length y0.1) c1, .slice p2 (List.length y0.2.1) c2, .slice p3 (List.length y0.2.2) c3], r_4]
          refine pr 1 [(40, vb (!r3))] h fun a h => ?_
          refine oe ?_
          refine cb h rfl (fun hb5 => ?_) (fun hb5 => ?_)
          · replace hm := ifT hb5 hm
            refine wp_exit ?_
            refine then_e (inb_hit ?_)
            refine then_n ?_
            refine reg ?_
            refine pr 2 [(32, vi (w64 (s4.2 + 1)))] h fun a h => ?_
            refine ops_end ?_
            obtain rfl := Option.some.inj hm
            exact lp_n rfl ⟨p9, c9, r_4, h.to 2 ⟨(h.g 1), (h.g 2), (h.g 3), (h.g 4), (h.g 5), (h.g 6), trivial⟩⟩
          replace hm := ifF hb5 hm
          refine wp_skip ?_
          refine then_n ?_
          refine sp [(43, vi 0), (42, vi (len r1)), (41, .slice p8 (List.length r1) c8)] h fun a h => ?_
          refine wp_block ?_
          refine loop_m (B := (m_attack_Attacks_L4 r1 s3 s4 s2)) (fun (s5 : (List T_Attack) × Int) a w => ∃ (p11 : Option Addr) (c11 : Nat) (r_5 : Res), SS A [] w0 62 [(1, .slice p4 (List.length y1) c4), (2, .pointer (some ⟨b1, 0, none⟩)), (5, .slice p11 (List.length s5.1) c11), (6, vi s2.2), (7, vi s3.2), (8, .slice p8 (List.length r1) c8), (9, vi s4.2), (13, vi (len y1)), (14, vi s2.2), (18, vi (len y1)), (19, vi s3.2), (31, vi (len y1)), (32, vi s4.2), (41, .slice p8 (List.length r1) c8), (42, vi (len r1)), (43, vi s5.2)] [bx b1 31 [.slice p1 (List.length y0.1) c1, .slice p2 (List.length y0.2.1) c2, .slice p3 (List.length y0.2.2) c3], r_5] [Ar e_Attack 45 r_5 p11 c11 (List.length s5.1) s5.1, R e_Argument p4 c4 (List.length y1) y1, R (eInt .i64) p8 c8 (List.length r1) r1, R e_Premise p1 c1 (List.length y0.1) y0.1, R e_Rule p2 c2 (List.length y0.2.1) y0.2.1, R e_Promotion p3 c3 (List.length y0.2.2) y0.2.2] a w) hm ⟨p9, c9, r_4, h.to 2 ⟨(h.g 1), (h.g 2), (h.g 3), (h.g 4), (h.g 5), (h.g 6), trivial⟩⟩ ?_
          intro s5 a w o4 hJ hm hr4
          obtain ⟨p11, c11, r_5, h⟩ := hJ
          unfold m_attack_Attacks_L4 at hm
          refine sp [(44, vb (decide (s5.2 < (len r1))))] h fun a h => ?_
          refine wp_seq ?_
          refine cb h rfl (fun hb6 => ?_) (fun hb6 => ?_)
          · replace hm := ifT hb6 hm
            refine wp_skip ?_
            refine then_n ?_
            refine wp_seq ?_
            refine wp_block ?_
            refine sr ?_
            obtain ⟨x1, h4, hm⟩ := bnd hm
            refine sl (b_index_rd h (h.g 2) rfl rfl h4 fun b2 o5 a h => ?_)
            refine sl (b_load_pt false h (h.g 0) rfl fun ci1 hc1 v1 hv1 a h => ?_)
            replace hc1 : E.rd (eInt .i64) _ _ ci1 x1 := hc1
            obtain rfl := hc1
            obtain rfl := Option.some.inj hv1
            refine pr 1 [(11, vi x1)] h fun a h => ?_
            refine oe ?_
            refine reg ?_
            refine pr 6 [(52, .agg #[vi s3.2, vi s4.2, vi s2.2, vi x1]), (47, .slice p11 (List.length s5.1) c11)] h fun a h => ?_
            refine sl (b_bs_rd (te := 45) (e := e_Attack) [vi s3.2, vi s4.2, vi s2.2, vi x1] ([(s3.2, s4.2, s2.2, x1)] : List T_Attack) h ⟨_, _, rfl, eProd.mk eInt.mk (eProd.mk eInt.mk (eProd.mk eInt.mk eInt.mk)), rfl⟩ fun p12 c12 a w h e => ?_)
            obtain ⟨x2, h5, hm⟩ := bnd hm
            refine sl (b_append_r (te := 45) 1 h (h.g 2) (h.g 0) rfl rfl h5 fun r_6 p13 c13 a w h e => ?_)
            refine pr 1 [(5, .slice p13 (List.length x2) c13)] h fun a h => ?_
            refine ops_end ?_
            refine inb_n ?_
            refine then_n ?_
            refine reg ?_
            refine pr 2 [(43, vi (w64 (s5.2 + 1)))] h fun a h => ?_
            refine ops_end ?_
            obtain rfl := Option.some.inj hm
            exact lp_n rfl ⟨p13, c13, r_6, h.to 2 ⟨(h.g 0), (h.g 4), (h.g 5), (h.g 6), (h.g 7), (h.g 8), trivial⟩⟩
          replace hm := ifF hb6 hm
          refine wp_exit ?_
          refine then_e (lp_e (inb_hit ?_))
          replace hm := loopR hr4 hm
          refine inb_n ?_
          refine then_n ?_
          refine reg ?_
          refine pr 2 [(32, vi (w64 (s4.2 + 1)))] h fun a h => ?_
          refine ops_end ?_
          obtain rfl := Option.some.inj hm
          exact lp_n rfl ⟨p11, c11, r_5, h.to 2 ⟨(h.g 0), (h.g 1), (h.g 2), (h.g 3), (h.g 4), (h.g 5), trivial⟩⟩
        replace hm := ifF hb4 hm
        refine wp_exit ?_
        refine then_e (lp_e (inb_hit ?_))
        replace hm := loopR hr3 hm
        refine inb_n ?_
        refine then_n ?_
        refine reg ?_
        refine pr 2 [(19, vi (w64 (s3.2 + 1)))] h fun a h => ?_
        refine ops_end ?_
        obtain rfl := Option.some.inj hm
        exact lp_n rfl ⟨p9, c9, r_4, h.to 2 ⟨(h.g 0), (h.g 1), (h.g 3), (h.g 4), (h.g 5), trivial⟩⟩
      replace hm := ifF hb2 hm
      refine wp_exit ?_
      refine then_e (lp_e (inb_hit ?_))
      replace hm := loopR hr2 hm
      refine inb_n ?_
      refine then_n ?_
      refine reg ?_
      refine pr 2 [(14, vi (w64 (s2.2 + 1)))] h fun a h => ?_
      refine ops_end ?_
      obtain rfl := Option.some.inj hm
      exact lp_n rfl ⟨p7, c7, r_3, h.to 2 ⟨(h.g 0), (h.g 1), (h.g 2), (h.g 3), (h.g 4), trivial⟩⟩
    replace hm := ifF hb1 hm
    refine wp_exit ?_
    refine then_e (lp_e (inb_hit ?_))
    replace hm := loopR hr1 hm
    obtain rfl := Option.some.inj hm
    exact then_n ⟨p6, c6, r_2, h.tos [900, 1] ⟨(h.g 0), trivial⟩⟩
  intro a w hJ
  obtain ⟨p5, c5, r_1, h⟩ := hJ
  refine sr ?_
  refine pr 1 [(59, .slice p5 (List.length s1) c5)] h fun a h => ?_
  obtain ⟨r4, h6, hm⟩ := bnd hm
  refine sl (b_call [1] [] h Tryz.call33 rfl rfl (c_slices_SortFunc_Attack__attack_Attacks_1 (y0 := s1) (h.po [1] []) ⟨(h.pf [1] [] 0), trivial⟩ h6) fun v a w hp hc => ?_)
  obtain ⟨r_7, rfl, q⟩ := hp
  have h := hc.on q [[], r_7]
  refine oe ?_
  refine sp [(4, .slice p5 (List.length s1) c5)] h fun a h => ?_
  refine wp_ret ?_
  obtain rfl := Option.some.inj hm
  have h := h.upd (t := 4) (.slice p5 (List.length r4) c5) rfl (congrArg (fun q : Nat => Value.slice p5 q c5) (Ar.ln (h.g 0)))
  have h := h.add (Ar.re (h.g 0))
  exact rt1 h rfl rfl ⟨p5, c5, r_7, rfl, bk_sel h [1] ⟨(h.g 0), trivial⟩⟩

theorem c_argument_Premises {A : List Nat} {w0 : World} {y0 : List T_Argument} {p1 : Option Addr} {c1 : Nat} {y1 : Int} {r : (List Int)} (hO : Own A w0 []) (hF : All [R e_Argument p1 c1 (List.length y0) y0] (bl [] ++ A) w0) (hm : m_argument_Premises y0 y1 = some r) :
    Calls Tryz.prog 103 [.slice p1 (List.length y0) c1, vi y1].toArray w0 (Ret fun v w => ∃ (p2 : Option Addr) (c2 : Nat), v = .slice p2 (List.length r) c2 ∧ Bk A [] w0 [] [R (eInt .i64) p2 c2 (List.length r) r] w) := by
  unfold m_argument_Premises at hm
  refine ent Tryz.func103 rfl hO hF fun a h => ?_
  refine sp [] h fun a h => ?_
  refine sr ?_
  refine pr 1 [(5, .slice none 0 0)] h fun a h => ?_
  have h := h.room (eInt .i64) 3
  refine oe ?_
  obtain ⟨s1, hx, hm⟩ := bnd hm
  refine seq_j (fun a w => ∃ (p2 : Option Addr) (c2 : Nat) (r_1 : Res), SS A [] w0 34 [(5, .slice p2 (List.length s1) c2)] [r_1] [Ar (eInt .i64) 3 r_1 p2 c2 (List.length s1) s1] a w) ?_ ?_
  · have hm2 := hm
    replace hm := hx
    refine sr ?_
    refine pr 2 [(9, vi y1), (8, .slice p1 (List.length y0) c1)] h fun a h => ?_
    obtain ⟨r1, h1, hm⟩ := bnd hm
    refine sl (b_call [] [] h Tryz.call32 rfl rfl (c_argument_Subs (y0 := y0) (y1 := y1) (h.po [] []) ⟨(h.pf [] [] 1), trivial⟩ h1) fun v a w hp hc => ?_)
    obtain ⟨p3, c3, rfl, q⟩ := hp
    have h := hc.on q [[]]
    refine pr 2 [(12, vi 0), (11, vi (len r1))] h fun a h => ?_
    refine oe ?_
    refine wp_block ?_
    refine loop_m (B := (m_argument_Premises_L1 r1 y0)) (fun (s2 : (List Int) × Int) a w => ∃ (p4 : Option Addr) (c4 : Nat) (r_2 : Res), SS A [] w0 34 [(0, .slice p1 (List.length y0) c1), (5, .slice p4 (List.length s2.1) c4), (10, .slice p3 (List.length r1) c3), (11, vi (len r1)), (12, vi s2.2)] [r_2] [Ar (eInt .i64) 3 r_2 p4 c4 (List.length s2.1) s2.1, R e_Argument p1 c1 (List.length y0) y0, R (eInt .i64) p3 c3 (List.length r1) r1] a w) hm ⟨none, 0, [], h.to 1 ⟨(h.g 1), (h.g 2), (h.g 0), trivial⟩⟩ ?_
    intro s2 a w o1 hJ hm hr1
    obtain ⟨p4, c4, r_2, h⟩ := hJ
    unfold m_argument_Premises_L1 at hm
    refine sp [(13, vb (decide (s2.2 < (len r1))))] h fun a h => ?_
    refine wp_seq ?_
    refine cb h rfl (fun hb1 => ?_) (fun hb1 => ?_)
    · replace hm := ifT hb1 hm
      refine wp_skip ?_
      refine then_n ?_
      refine wp_seq ?_
      refine wp_block ?_
      refine sr ?_
      obtain ⟨x1, h2, hm⟩ := bnd hm
      refine sl (b_index_rd h (h.g 2) rfl rfl h2 fun b1 o2 a h => ?_)
      refine sl (b_load_pt false h (h.g 0) rfl fun ci1 hc1 v1 hv1 a h => ?_)
      replace hc1 : E.rd (eInt .i64) _ _ ci1 x1 := hc1
      obtain rfl := hc1
      obtain rfl := Option.some.inj hv1
      refine pr 1 [(7, vi x1)] h fun a h => ?_
      refine oe ?_
      refine sr ?_
      refine pr 2 [(17, vi x1), (16, .slice p1 (List.length y0) c1)] h fun a h => ?_
      obtain ⟨x2, h3, hm⟩ := bnd hm
      refine sl (b_index_rd h (h.g 2) rfl rfl h3 fun b2 o3 a h => ?_)
      refine pr 1 [(19, .pointer (some ⟨b2, o3, none⟩))] h fun a h => ?_
      refine sl (b_load_pt false h (PtTo.fst (h.g 0)) rfl fun ci2 hc2 v2 hv2 a h => ?_)
      replace hc2 : E.rd (eInt .i64) _ _ ci2 x2.1 := hc2
      obtain rfl := hc2
      obtain rfl := Option.some.inj hv2
      refine pr 1 [(21, vb (decide (0 ≤ x2.1)))] h fun a h => ?_
      refine oe ?_
      refine cb h rfl (fun hb2 => ?_) (fun hb2 => ?_)
      · replace hm := ifT hb2 hm
        refine reg ?_
        refine pr 3 [(24, vi x1), (23, .slice p1 (List.length y0) c1), (22, .slice p4 (List.length s2.1) c4)] h fun a h => ?_
        obtain ⟨x3, h4, hm⟩ := bnd hm
        refine sl (b_index_rd h (h.g 3) rfl rfl h4 fun b3 o4 a h => ?_)
        refine pr 1 [(26, .pointer (some ⟨b3, o4, none⟩))] h fun a h => ?_
        refine sl (b_load_pt false h (PtTo.fst (h.g 0)) rfl fun ci3 hc3 v3 hv3 a h => ?_)
        replace hc3 : E.rd (eInt .i64) _ _ ci3 x3.1 := hc3
        obtain rfl := hc3
        obtain rfl := Option.some.inj hv3
        refine sl (b_bs_rd (te := 3) (e := eInt .i64) [vi x3.1] ([x3.1] : List Int) h ⟨_, _, rfl, eInt.mk, rfl⟩ fun p5 c5 a w h e => ?_)
        obtain ⟨x4, h5, hm⟩ := bnd hm
        refine sl (b_append_r (te := 3) 0 h (h.g 4) (h.g 0) rfl rfl h5 fun r_3 p6 c6 a w h e => ?_)
        refine pr 1 [(5, .slice p6 (List.length x4) c6)] h fun a h => ?_
        refine ops_end ?_
        refine inb_n ?_
        refine then_n ?_
        refine reg ?_
        refine pr 2 [(12, vi (w64 (s2.2 + 1)))] h fun a h => ?_
        refine ops_end ?_
        obtain rfl := Option.some.inj hm
        exact lp_n rfl ⟨p6, c6, r_3, h.to 1 ⟨(h.g 0), (h.g 6), (h.g 7), trivial⟩⟩
      replace hm := ifF hb2 hm
      refine wp_skip ?_
      refine inb_n ?_
      refine then_n ?_
      refine reg ?_
      refine pr 2 [(12, vi (w64 (s2.2 + 1)))] h fun a h => ?_
      refine ops_end ?_
      obtain rfl := Option.some.inj hm
      exact lp_n rfl ⟨p4, c4, r_2, h.to 1 ⟨(h.g 2), (h.g 3), (h.g 4), trivial⟩⟩
    replace hm := ifF hb1 hm
    refine wp_exit ?_
    refine then_e (lp_e (inb_hit ?_))
    replace hm := loopR hr1 hm
    obtain rfl := Option.some.inj hm
    exact then_n ⟨p4, c4, r_2, h.to 1 ⟨(h.g 0), trivial⟩⟩
  intro a w hJ
  obtain ⟨p2, c2, r_1, h⟩ := hJ
  refine sr ?_
  refine pr 1 [(31, .slice p2 (List.length s1) c2)] h fun a h => ?_
  obtain ⟨r2, h6, hm⟩ := bnd hm
  refine sl (b_call [0] [] h Tryz.call62 rfl rfl (c_slices_Sort_int (y0 := s1) (h.po [0] []) ⟨(h.pf [0] [] 0), trivial⟩ h6) fun v a w hp hc => ?_)
  obtain ⟨r_4, rfl, q⟩ := hp
  have h := hc.on q [r_4]
  refine oe ?_
  refine sp [(4, .slice p2 (List.length s1) c2)] h fun a h => ?_
  refine wp_ret ?_
  obtain rfl := Option.some.inj hm
  have h := h.share 0 (h.g 0)
  have h := h.upd (t := 4) (.slice p2 (List.length r2) c2) rfl (congrArg (fun q : Nat => Value.slice p2 q c2) (R.ln (h.g 0)))
  have h := h.add (R.re (h.g 0))
  exact rt1 h rfl rfl ⟨p2, c2, rfl, bk_sel h [] ⟨(h.g 0), trivial⟩⟩

theorem c_lift_Assumes_1 {A : List Nat} {w0 : World} {y0 : Int} {y1 : T_Base} {b1 : Nat} {p1 : Option Addr} {c1 : Nat} {p2 : Option Addr} {c2 : Nat} {p3 : Option Addr} {c3 : Nat} {r : Bool} (hO : Own A w0 [bx b1 31 [.slice p1 (List.length y1.1) c1, .slice p2 (List.length y1.2.1) c2, .slice p3 (List.length y1.2.2) c3]]) (hF : All [R e_Premise p1 c1 (List.length y1.1) y1.1, R e_Rule p2 c2 (List.length y1.2.1) y1.2.1, R e_Promotion p3 c3 (List.length y1.2.2) y1.2.2] (bl [bx b1 31 [.slice p1 (List.length y1.1) c1, .slice p2 (List.length y1.2.1) c2, .slice p3 (List.length y1.2.2) c3]] ++ A) w0) (hm : m_lift_Assumes_1 y0 y1 = some r) :
    Calls Tryz.prog 104 [vi y0, .pointer (some ⟨b1, 0, none⟩)].toArray w0 (Ret fun v w => v = vb r ∧ Bk A [bx b1 31 [.slice p1 (List.length y1.1) c1, .slice p2 (List.length y1.2.1) c2, .slice p3 (List.length y1.2.2) c3]] w0 [bx b1 31 [.slice p1 (List.length y1.1) c1, .slice p2 (List.length y1.2.1) c2, .slice p3 (List.length y1.2.2) c3]] [] w) := by
  unfold m_lift_Assumes_1 at hm
  refine ent Tryz.func104 rfl hO hF fun a h => ?_
  refine sp [] h fun a h => ?_
  refine sr ?_
  refine pr 1 [(4, .pointer (some ⟨b1, 0, none⟩))] h fun a h => ?_
  refine sl (b_load_own 0 (.slice p1 (List.length y1.1) c1) h rfl rfl fun a h => ?_)
  refine pr 1 [(6, vi y0)] h fun a h => ?_
  obtain ⟨x1, h1, hm⟩ := bnd hm
  refine sl (b_index_rd h (h.g 0) rfl rfl h1 fun b2 o1 a h => ?_)
  refine pr 1 [(8, .pointer (some ⟨b2, (o1 + 2), none⟩))] h fun a h => ?_
  refine sl (b_load_pt false h (PtTo.fst (PtTo.snd (h.g 0))) rfl fun ci1 hc1 v1 hv1 a h => ?_)
  replace hc1 : E.rd (eInt .i64) _ _ ci1 x1.2.1 := hc1
  obtain rfl := hc1
  obtain rfl := Option.some.inj hv1
  refine pr 2 [(3, vb (x1.2.1 == 3))] h fun a h => ?_
  refine oe ?_
  refine wp_ret ?_
  obtain rfl := Option.some.inj hm
  exact rt1 h rfl rfl ⟨rfl, bk_sel h [0] trivial⟩

theorem c_slices_IndexFunc_int__lift_Assumes_1 {A : List Nat} {w0 : World} {y0 : List Int} {p1 : Option Addr} {c1 : Nat} {y1 : T_Base} {b1 : Nat} {p2 : Option Addr} {c2 : Nat} {p3 : Option Addr} {c3 : Nat} {p4 : Option Addr} {c4 : Nat} {r : Int} (hO : Own A w0 [bx b1 31 [.slice p2 (List.length y1.1) c2, .slice p3 (List.length y1.2.1) c3, .slice p4 (List.length y1.2.2) c4]]) (hF : All [R (eInt .i64) p1 c1 (List.length y0) y0, R e_Premise p2 c2 (List.length y1.1) y1.1, R e_Rule p3 c3 (List.length y1.2.1) y1.2.1, R e_Promotion p4 c4 (List.length y1.2.2) y1.2.2] (bl [bx b1 31 [.slice p2 (List.length y1.1) c2, .slice p3 (List.length y1.2.1) c3, .slice p4 (List.length y1.2.2) c4]] ++ A) w0) (hm : m_slices_IndexFunc_int__lift_Assumes_1 y0 y1 = some r) :
    Calls Tryz.prog 136 [.slice p1 (List.length y0) c1, .func (.func 104) #[] #[.pointer (some ⟨b1, 0, none⟩)]].toArray w0 (Ret fun v w => v = vi r ∧ Bk A [bx b1 31 [.slice p2 (List.length y1.1) c2, .slice p3 (List.length y1.2.1) c3, .slice p4 (List.length y1.2.2) c4]] w0 [bx b1 31 [.slice p2 (List.length y1.1) c2, .slice p3 (List.length y1.2.1) c3, .slice p4 (List.length y1.2.2) c4]] [] w) := by
  unfold m_slices_IndexFunc_int__lift_Assumes_1 at hm
  refine ent Tryz.func136 rfl hO hF fun a h => ?_
  refine sp [] h fun a h => ?_
  refine wp_seq ?_
  refine sp [(8, vi 0), (7, vi (len y0))] h fun a h => ?_
  refine wp_block ?_
  refine loop_m (B := (m_slices_IndexFunc_int__lift_Assumes_1_L1 y0 y1)) (fun (s1 : Int) a w => SS A [bx b1 31 [.slice p2 (List.length y1.1) c2, .slice p3 (List.length y1.2.1) c3, .slice p4 (List.length y1.2.2) c4]] w0 19 [(0, .slice p1 (List.length y0) c1), (1, .func (.func 104) #[] #[.pointer (some ⟨b1, 0, none⟩)]), (7, vi (len y0)), (8, vi s1)] [bx b1 31 [.slice p2 (List.length y1.1) c2, .slice p3 (List.length y1.2.1) c3, .slice p4 (List.length y1.2.2) c4]] [R (eInt .i64) p1 c1 (List.length y0) y0, R e_Premise p2 c2 (List.length y1.1) y1.1, R e_Rule p3 c3 (List.length y1.2.1) y1.2.1, R e_Promotion p4 c4 (List.length y1.2.2) y1.2.2] a w) hm (h.to 1 ⟨(h.g 0), (h.g 1), (h.g 2), (h.g 3), trivial⟩) ?_
  intro s1 a w o1 hJ hm hr1
  have h := hJ
  unfold m_slices_IndexFunc_int__lift_Assumes_1_L1 at hm
  refine sp [(9, vb (decide (s1 < (len y0))))] h fun a h => ?_
  refine wp_seq ?_
  refine cb h rfl (fun hb1 => ?_) (fun hb1 => ?_)
  · replace hm := ifT hb1 hm
    refine wp_skip ?_
    refine then_n ?_
    refine wp_seq ?_
    refine wp_block ?_
    refine sp [(5, vi s1)] h fun a h => ?_
    refine sr ?_
    refine pr 3 [(13, vi s1), (12, .slice p1 (List.length y0) c1), (11, .func (.func 104) #[] #[.pointer (some ⟨b1, 0, none⟩)])] h fun a h => ?_
    obtain ⟨x1, h1, hm⟩ := bnd hm
    refine sl (b_index_rd h (h.g 0) rfl rfl h1 fun b2 o2 a h => ?_)
    refine sl (b_load_pt false h (h.g 0) rfl fun ci1 hc1 v1 hv1 a h => ?_)
    replace hc1 : E.rd (eInt .i64) _ _ ci1 x1 := hc1
    obtain rfl := hc1
    obtain rfl := Option.some.inj hv1
    obtain ⟨r1, h2, hm⟩ := bnd hm
    refine sl (b_call [0] [] h Tryz.call104 rfl rfl (c_lift_Assumes_1 (y0 := x1) (y1 := y1) (h.po [0] []) ⟨(h.pf [0] [] 2), (h.pf [0] [] 3), (h.pf [0] [] 4), trivial⟩ h2) fun v a w hp hc => ?_)
    obtain ⟨rfl, q⟩ := hp
    have h := hc.on q [bx b1 31 [.slice p2 (List.length y1.1) c2, .slice p3 (List.length y1.2.1) c3, .slice p4 (List.length y1.2.2) c4]]
    refine oe ?_
    refine cb h rfl (fun hb2 => ?_) (fun hb2 => ?_)
    · replace hm := ifT hb2 hm
      refine sp [(4, vi s1)] h fun a h => ?_
      refine wp_ret ?_
      refine inb_r (then_r (lp_r (inb_r (then_r ?_))))
      replace hm := loopR hr1 hm
      obtain rfl := Option.some.inj hm
      exact rt1 h rfl rfl ⟨rfl, bk_sel h [0] trivial⟩
    replace hm := ifF hb2 hm
    refine wp_skip ?_
    refine inb_n ?_
    refine then_n ?_
    refine reg ?_
    refine pr 2 [(8, vi (w64 (s1 + 1)))] h fun a h => ?_
    refine ops_end ?_
    obtain rfl := Option.some.inj hm
    exact lp_n rfl (h.to 1 ⟨(h.g 1), (h.g 2), (h.g 3), (h.g 4), trivial⟩)
  replace hm := ifF hb1 hm
  refine wp_exit ?_
  refine then_e (lp_e (inb_hit ?_))
  replace hm := loopR hr1 hm
  refine then_n ?_
  refine sp [(4, vi (-1))] h fun a h => ?_
  refine wp_ret ?_
  obtain rfl := Option.some.inj hm
  exact rt1 h rfl rfl ⟨rfl, bk_sel h [0] trivial⟩

theorem c_slices_ContainsFunc_int__lift_Assumes_1 {A : List Nat} {w0 : World} {y0 : List Int} {p1 : Option Addr} {c1 : Nat} {y1 : T_Base} {b1 : Nat} {p2 : Option Addr} {c2 : Nat} {p3 : Option Addr} {c3 : Nat} {p4 : Option Addr} {c4 : Nat} {r : Bool} (hO : Own A w0 [bx b1 31 [.slice p2 (List.length y1.1) c2, .slice p3 (List.length y1.2.1) c3, .slice p4 (List.length y1.2.2) c4]]) (hF : All [R (eInt .i64) p1 c1 (List.length y0) y0, R e_Premise p2 c2 (List.length y1.1) y1.1, R e_Rule p3 c3 (List.length y1.2.1) y1.2.1, R e_Promotion p4 c4 (List.length y1.2.2) y1.2.2] (bl [bx b1 31 [.slice p2 (List.length y1.1) c2, .slice p3 (List.length y1.2.1) c3, .slice p4 (List.length y1.2.2) c4]] ++ A) w0) (hm : m_slices_ContainsFunc_int__lift_Assumes_1 y0 y1 = some r) :
    Calls Tryz.prog 102 [.slice p1 (List.length y0) c1, .func (.func 104) #[] #[.pointer (some ⟨b1, 0, none⟩)]].toArray w0 (Ret fun v w => v = vb r ∧ Bk A [bx b1 31 [.slice p2 (List.length y1.1) c2, .slice p3 (List.length y1.2.1) c3, .slice p4 (List.length y1.2.2) c4]] w0 [bx b1 31 [.slice p2 (List.length y1.1) c2, .slice p3 (List.length y1.2.1) c3, .slice p4 (List.length y1.2.2) c4]] [] w) := by
  unfold m_slices_ContainsFunc_int__lift_Assumes_1 at hm
  refine ent Tryz.func102 rfl hO hF fun a h => ?_
  refine sp [] h fun a h => ?_
  refine sr ?_
  refine pr 2 [(6, .func (.func 104) #[] #[.pointer (some ⟨b1, 0, none⟩)]), (5, .slice p1 (List.length y0) c1)] h fun a h => ?_
  obtain ⟨r1, h1, hm⟩ := bnd hm
  refine sl (b_call [0] [] h Tryz.call136 rfl rfl (c_slices_IndexFunc_int__lift_Assumes_1 (y0 := y0) (y1 := y1) (h.po [0] []) ⟨(h.pf [0] [] 0), (h.pf [0] [] 1), (h.pf [0] [] 2), (h.pf [0] [] 3), trivial⟩ h1) fun v a w hp hc => ?_)
  obtain ⟨rfl, q⟩ := hp
  have h := hc.on q [bx b1 31 [.slice p2 (List.length y1.1) c2, .slice p3 (List.length y1.2.1) c3, .slice p4 (List.length y1.2.2) c4]]
  refine pr 2 [(4, vb (decide (0 ≤ r1)))] h fun a h => ?_
  refine oe ?_
  refine wp_ret ?_
  obtain rfl := Option.some.inj hm
  exact rt1 h rfl rfl ⟨rfl, bk_sel h [0] trivial⟩

theorem c_lift_Assumes {A : List Nat} {w0 : World} {y0 : T_Base} {p1 : Option Addr} {c1 : Nat} {p2 : Option Addr} {c2 : Nat} {p3 : Option Addr} {c3 : Nat} {y1 : List T_Argument} {p4 : Option Addr} {c4 : Nat} {y2 : Int} {r : Bool} (hO : Own A w0 []) (hF : All [R e_Premise p1 c1 (List.length y0.1) y0.1, R e_Rule p2 c2 (List.length y0.2.1) y0.2.1, R e_Promotion p3 c3 (List.length y0.2.2) y0.2.2, R e_Argument p4 c4 (List.length y1) y1] (bl [] ++ A) w0) (hm : m_lift_Assumes y0 y1 y2 = some r) :
    Calls Tryz.prog 69 [.agg #[.slice p1 (List.length y0.1) c1, .slice p2 (List.length y0.2.1) c2, .slice p3 (List.length y0.2.2) c3], .slice p4 (List.length y1) c4, vi y2].toArray w0 (Ret fun v w => v = vb r ∧ Bk A [] w0 [] [] w) := by
  unfold m_lift_Assumes at hm
  refine ent Tryz.func69 rfl hO hF fun a h => ?_
  refine sr ?_
  refine sl (b_box h rfl fun b1 a w h e => ?_)
  refine pr 1 [] h fun a h => ?_
  refine oe ?_
  refine sr ?_
  refine pr 2 [(8, vi y2), (7, .slice p4 (List.length y1) c4)] h fun a h => ?_
  obtain ⟨r1, h1, hm⟩ := bnd hm
  refine sl (b_call [] [] h Tryz.call103 rfl rfl (c_argument_Premises (y0 := y1) (y1 := y2) (h.po [] []) ⟨(h.pf [] [] 3), trivial⟩ h1) fun v a w hp hc => ?_)
  obtain ⟨p5, c5, rfl, q⟩ := hp
  have h := hc.on q [bx b1 31 [.slice p1 (List.length y0.1) c1, .slice p2 (List.length y0.2.1) c2, .slice p3 (List.length y0.2.2) c3]]
  refine pr 1 [(10, .func (.func 104) #[] #[.pointer (some ⟨b1, 0, none⟩)])] h fun a h => ?_
  obtain ⟨r2, h2, hm⟩ := bnd hm
  refine sl (b_call [0] [] h Tryz.call102 rfl rfl (c_slices_ContainsFunc_int__lift_Assumes_1 (y0 := r1) (y1 := y0) (h.po [0] []) ⟨(h.pf [0] [] 0), (h.pf [0] [] 1), (h.pf [0] [] 2), (h.pf [0] [] 3), trivial⟩ h2) fun v a w hp hc => ?_)
  obtain ⟨rfl, q⟩ := hp
  have h := hc.on q [bx b1 31 [.slice p1 (List.length y0.1) c1, .slice p2 (List.length y0.2.1) c2, .slice p3 (List.length y0.2.2) c3]]
  refine pr 1 [(6, vb r2)] h fun a h => ?_
  refine oe ?_
  refine wp_ret ?_
  obtain rfl := Option.some.inj hm
  exact rt1 h rfl rfl ⟨rfl, bk_sel h [] trivial⟩

theorem k_argument_Last_all (k : Nat) :
    (∀ {A : List Nat} {w0 : World} {y0 : T_Base} {p1 : Option Addr} {c1 : Nat} {p2 : Option Addr} {c2 : Nat} {p3 : Option Addr} {c3 : Nat} {y1 : List T_Argument} {p4 : Option Addr} {c4 : Nat} {y2 : Int} {r : (List Int)} (_hO : Own A w0 []) (_hF : All [R e_Premise p1 c1 (List.length y0.1) y0.1, R e_Rule p2 c2 (List.length y0.2.1) y0.2.1, R e_Promotion p3 c3 (List.length y0.2.2) y0.2.2, R e_Argument p4 c4 (List.length y1) y1] (bl [] ++ A) w0) (_hm : k_argument_Last k y0 y1 y2 = some r),
    Calls Tryz.prog 108 [.agg #[.slice p1 (List.length y0.1) c1, .slice p2 (List.length y0.2.1) c2, .slice p3 (List.length y0.2.2) c3], .slice p4 (List.length y1) c4, vi y2].toArray w0 (Ret fun v w => ∃ (p5 : Option Addr) (c5 : Nat), v = .slice p5 (List.length r) c5 ∧ Bk A [] w0 [] [R (eInt .i64) p5 c5 (List.length r) r] w)) := by
  induction k with
  | zero => intros; rename_i hm; cases hm
  | succ k ih =>
    have ih_argument_Last := @ih
    generalize hr_argument_Last : k_argument_Last k = rec_argument_Last at ih_argument_Last
    intro A w0 y0 p1 c1 p2 c2 p3 c3 y1 p4 c4 y2 r hO hF hm
    replace hm : F_argument_Last rec_argument_Last y0 y1 y2 = some r := by rw [← hr_argument_Last]; exact hm
    unfold F_argument_Last at hm
    refine ent Tryz.func108 rfl hO hF fun a h => ?_
    refine sr ?_
    refine sl (b_box h rfl fun b1 a w h e => ?_)
    refine pr 1 [] h fun a h => ?_
    refine oe ?_
    refine wp_seq ?_
    obtain ⟨s1, hx, hm⟩ := bnd hm
    refine seq_j (fun a w => SS A [] w0 60 [(1, .slice p4 (List.length y1) c4), (2, vi y2), (3, .pointer (some ⟨b1, 0, none⟩)), (21, vb s1)] [bx b1 31 [.slice p1 (List.length y0.1) c1, .slice p2 (List.length y0.2.1) c2, .slice p3 (List.length y0.2.2) c3]] [R e_Argument p4 c4 (List.length y1) y1, R e_Premise p1 c1 (List.length y0.1) y0.1, R e_Rule p2 c2 (List.length y0.2.1) y0.2.1, R e_Promotion p3 c3 (List.length y0.2.2) y0.2.2] a w) ?_ ?_
    · replace hm := hx
      refine reg ?_
      refine pr 2 [(11, vi y2), (10, .slice p4 (List.length y1) c4)] h fun a h => ?_
      obtain ⟨r1, h1, hm⟩ := bnd hm
      refine sl (b_call [] [] h Tryz.call61 rfl rfl (c_argument_inside (y0 := y1) (y1 := y2) (h.po [] []) ⟨(h.pf [] [] 3), trivial⟩ h1) fun v a w hp hc => ?_)
      obtain ⟨rfl, q⟩ := hp
      have h := hc.on q [bx b1 31 [.slice p1 (List.length y0.1) c1, .slice p2 (List.length y0.2.1) c2, .slice p3 (List.length y0.2.2) c3]]
      refine pr 2 [(14, vb (!r1))] h fun a h => ?_
      rcases Bool.eq_false_or_eq_true (!r1) with hb1 | hb1
      · have h := h.upd (t := 14) (vb true) rfl (congrArg Value.bool hb1)
        replace hm := ifT hb1 hm
        refine pr 7 [(21, vb true)] h fun a h => ?_
        refine ops_end ?_
        obtain rfl := Option.some.inj hm
        exact then_n (h.to 1 ⟨(h.g 3), (h.g 0), (h.g 1), (h.g 2), trivial⟩)
      · have h := h.upd (t := 14) (vb false) rfl (congrArg Value.bool hb1)
        replace hm := ifF hb1 hm
        refine pr 2 [(16, vi y2), (15, .slice p4 (List.length y1) c4)] h fun a h => ?_
        obtain ⟨x1, h2, hm⟩ := bnd hm
        refine sl (b_index_rd h (h.g 3) rfl rfl h2 fun b2 o1 a h => ?_)
        refine pr 1 [(18, .pointer (some ⟨b2, (o1 + 1), none⟩))] h fun a h => ?_
        refine sl (b_load_pt false h (PtTo.fst (PtTo.snd (h.g 0))) rfl fun ci1 hc1 v1 hv1 a h => ?_)
        replace hc1 : E.rd (eInt .i64) _ _ ci1 x1.2.1 := hc1
        obtain rfl := hc1
        obtain rfl := Option.some.inj hv1
        refine pr 2 [(21, vb (decide (x1.2.1 < 0)))] h fun a h => ?_
        refine ops_end ?_
        obtain rfl := Option.some.inj hm
        exact then_n (h.to 1 ⟨(h.g 4), (h.g 1), (h.g 2), (h.g 3), trivial⟩)
    intro a w hJ
    have h := hJ
    refine cb h rfl (fun hb2 => ?_) (fun hb2 => ?_)
    · replace hm := ifT hb2 hm
      refine sp [(6, .slice none 0 0)] h fun a h => ?_
      refine wp_ret ?_
      refine then_r ?_
      obtain rfl := Option.some.inj hm
      exact rt1 h rfl rfl ⟨none, 0, rfl, bk_sel h [] ⟨(rnil (eInt .i64) _ _ _ _), trivial⟩⟩
    replace hm := ifF hb2 hm
    refine wp_skip ?_
    refine then_n ?_
    refine wp_seq ?_
    refine ds [] [0] h fun w h => ?_
    refine dp 0 (.pointer (some ⟨b1, 1, none⟩)) h rfl fun a h => ?_
    refine dlo 1 0 (.slice p2 (List.length y0.2.1) c2) h rfl rfl rfl fun a h => ?_
    refine dp 2 (.slice p4 (List.length y1) c4) h rfl fun a h => ?_
    refine dp 3 (vi y2) h rfl fun a h => ?_
    obtain ⟨x2, h3, hm⟩ := bnd hm
    refine dir 4 h rfl (h.g 0) rfl rfl h3 fun b3 o2 a h => ?_
    refine dp 5 (.pointer (some ⟨b3, (o2 + 1), none⟩)) h rfl fun a h => ?_
    refine dlp 6 false h rfl (PtTo.fst (PtTo.snd (h.g 0))) rfl fun ci2 hc2 v2 hv2 a h => ?_
    replace hc2 : E.rd (eInt .i64) _ _ ci2 x2.2.1 := hc2
    obtain rfl := hc2
    obtain rfl := Option.some.inj hv2
    obtain ⟨x3, h4, hm⟩ := bnd hm
    refine dir 7 h rfl (h.g 3) rfl rfl h4 fun b4 o3 a h => ?_
    refine dp 8 (.pointer (some ⟨b4, (o3 + 1), none⟩)) h rfl fun a h => ?_
    refine dlp 9 false h rfl (PtTo.fst (PtTo.snd (h.g 0))) rfl fun ci3 hc3 v3 hv3 a h => ?_
    replace hc3 : E.rd eBool _ _ ci3 x3.2.1 := hc3
    obtain rfl := hc3
    obtain rfl := Option.some.inj hv3
    refine dp 10 (vb (!x3.2.1)) h rfl fun a h => ?_
    refine de (then_n ?_)
    refine cb h rfl (fun hb3 => ?_) (fun hb3 => ?_)
    · replace hm := ifT hb3 hm
      refine sr ?_
      refine pr 2 [(34, vi y2), (33, .slice p4 (List.length y1) c4)] h fun a h => ?_
      obtain ⟨x4, h5, hm⟩ := bnd hm
      refine sl (b_index_rd h (h.g 2) rfl rfl h5 fun b5 o4 a h => ?_)
      refine pr 1 [(36, .pointer (some ⟨b5, (o4 + 1), none⟩))] h fun a h => ?_
      refine sl (b_load_pt false h (PtTo.fst (PtTo.snd (h.g 0))) rfl fun ci4 hc4 v4 hv4 a h => ?_)
      replace hc4 : E.rd (eInt .i64) _ _ ci4 x4.2.1 := hc4
      obtain rfl := hc4
      obtain rfl := Option.some.inj hv4
      refine sl (b_bs_rd (te := 3) (e := eInt .i64) [vi x4.2.1] ([x4.2.1] : List Int) h ⟨_, _, rfl, eInt.mk, rfl⟩ fun p5 c5 a w h e => ?_)
      refine pr 1 [(6, .slice p5 (List.length ([x4.2.1] : List Int)) c5)] h fun a h => ?_
      refine oe ?_
      refine wp_ret ?_
      refine then_r ?_
      obtain rfl := Option.some.inj hm
      exact rt1 h rfl rfl ⟨p5, c5, rfl, bk_sel h [] ⟨(h.g 0), trivial⟩⟩
    replace hm := ifF hb3 hm
    refine wp_skip ?_
    refine then_n ?_
    refine sr ?_
    refine pr 1 [(7, .slice none 0 0)] h fun a h => ?_
    have h := h.room (eInt .i64) 3
    refine oe ?_
    obtain ⟨s2, hx, hm⟩ := bnd hm
    refine seq_j (fun a w => ∃ (p6 : Option Addr) (c6 : Nat) (r_1 : Res), SS A [] w0 60 [(7, .slice p6 (List.length s2) c6)] [[], r_1] [Ar (eInt .i64) 3 r_1 p6 c6 (List.length s2) s2] a w) ?_ ?_
    · have hm2 := hm
      replace hm := hx
      refine sr ?_
      refine pr 2 [(40, vi y2), (39, .slice p4 (List.length y1) c4)] h fun a h => ?_
      obtain ⟨x5, h6, hm⟩ := bnd hm
      refine sl (b_index_rd h (h.g 3) rfl rfl h6 fun b6 o5 a h => ?_)
      refine pr 1 [(42, .pointer (some ⟨b6, (o5 + 2), none⟩))] h fun a h => ?_
      refine sl (b_load_pt false h (PtTo.fst (PtTo.snd (PtTo.snd (h.g 0)))) rfl fun ci5 hc5 v5 hv5 a h => ?_)
      replace hc5 : E.rd (eSlice (eInt .i64)) _ _ ci5 x5.2.2.1 := hc5
      obtain ⟨p7, c7, rfl, f1⟩ := hc5
      obtain rfl := Option.some.inj hv5
      have h := h.upd (t := 43) (.slice p7 (List.length x5.2.2.1) c7) rfl rfl
      have h := h.add (R.of f1)
      refine pr 2 [(45, vi 0), (44, vi (len x5.2.2.1))] h fun a h => ?_
      refine oe ?_
      refine wp_block ?_
      refine loop_m (B := (m_argument_Last_L1 x5 rec_argument_Last y0 y1)) (fun (s3 : (List Int) × Int) a w => ∃ (p8 : Option Addr) (c8 : Nat) (r_2 : Res), SS A [] w0 60 [(1, .slice p4 (List.length y1) c4), (3, .pointer (some ⟨b1, 0, none⟩)), (7, .slice p8 (List.length s3.1) c8), (43, .slice p7 (List.length x5.2.2.1) c7), (44, vi (len x5.2.2.1)), (45, vi s3.2)] [bx b1 31 [.slice p1 (List.length y0.1) c1, .slice p2 (List.length y0.2.1) c2, .slice p3 (List.length y0.2.2) c3], r_2] [Ar (eInt .i64) 3 r_2 p8 c8 (List.length s3.1) s3.1, R e_Argument p4 c4 (List.length y1) y1, R (eInt .i64) p7 c7 (List.length x5.2.2.1) x5.2.2.1, R e_Premise p1 c1 (List.length y0.1) y0.1, R e_Rule p2 c2 (List.length y0.2.1) y0.2.1, R e_Promotion p3 c3 (List.length y0.2.2) y0.2.2] a w) hm ⟨none, 0, [], h.to 2 ⟨(h.g 2), (h.g 5), (h.g 0), (h.g 6), (h.g 7), (h.g 8), trivial⟩⟩ ?_
      intro s3 a w o6 hJ hm hr1
      obtain ⟨p8, c8, r_2, h⟩ := hJ
      unfold m_argument_Last_L1 at hm
      refine sp [(46, vb (decide (s3.2 < (len x5.2.2.1))))] h fun a h => ?_
      refine wp_seq ?_
      refine cb h rfl (fun hb4 => ?_) (fun hb4 => ?_)
      · replace hm := ifT hb4 hm
        refine wp_skip ?_
        refine then_n ?_
        refine wp_seq ?_
        refine wp_block ?_
        refine sr ?_
        obtain ⟨x6, h7, hm⟩ := bnd hm
        refine sl (b_index_rd h (h.g 2) rfl rfl h7 fun b7 o7 a h => ?_)
        refine sl (b_load_pt false h (h.g 0) rfl fun ci6 hc6 v6 hv6 a h => ?_)
        replace hc6 : E.rd (eInt .i64) _ _ ci6 x6 := hc6
        obtain rfl := hc6
        obtain rfl := Option.some.inj hv6
        refine pr 1 [(9, vi x6)] h fun a h => ?_
        refine oe ?_
        refine reg ?_
        refine pr 1 [(49, .slice p8 (List.length s3.1) c8)] h fun a h => ?_
        refine sl (b_load_own 0 (.agg #[.slice p1 (List.length y0.1) c1, .slice p2 (List.length y0.2.1) c2, .slice p3 (List.length y0.2.2) c3]) h rfl rfl fun a h => ?_)
        refine pr 2 [(52, vi x6), (51, .slice p4 (List.length y1) c4)] h fun a h => ?_
        obtain ⟨r2, h8, hm⟩ := bnd hm
        refine sl (b_call [] [] h Tryz.call108 rfl rfl (ih_argument_Last (y0 := y0) (y1 := y1) (y2 := x6) (h.po [] []) ⟨(h.pf [] [] 4), (h.pf [] [] 5), (h.pf [] [] 6), (h.pf [] [] 2), trivial⟩ h8) fun v a w hp hc => ?_)
        obtain ⟨p9, c9, rfl, q⟩ := hp
        have h := hc.on q [bx b1 31 [.slice p1 (List.length y0.1) c1, .slice p2 (List.length y0.2.1) c2, .slice p3 (List.length y0.2.2) c3], r_2]
        obtain ⟨x7, h9, hm⟩ := bnd hm
        refine sl (b_append_r (te := 3) 1 h (h.g 2) (h.g 0) rfl rfl h9 fun r_3 p10 c10 a w h e => ?_)
        refine pr 1 [(7, .slice p10 (List.length x7) c10)] h fun a h => ?_
        refine ops_end ?_
        refine inb_n ?_
        refine then_n ?_
        refine reg ?_
        refine pr 2 [(45, vi (w64 (s3.2 + 1)))] h fun a h => ?_
        refine ops_end ?_
        obtain rfl := Option.some.inj hm
        exact lp_n rfl ⟨p10, c10, r_3, h.to 2 ⟨(h.g 0), (h.g 4), (h.g 5), (h.g 6), (h.g 7), (h.g 8), trivial⟩⟩
      replace hm := ifF hb4 hm
      refine wp_exit ?_
      refine then_e (lp_e (inb_hit ?_))
      replace hm := loopR hr1 hm
      obtain rfl := Option.some.inj hm
      exact then_n ⟨p8, c8, r_2, h.tos [900, 1] ⟨(h.g 0), trivial⟩⟩
    intro a w hJ
    obtain ⟨p6, c6, r_1, h⟩ := hJ
    refine sr ?_
    refine pr 1 [(56, .slice p6 (List.length s2) c6)] h fun a h => ?_
    obtain ⟨r3, h10, hm⟩ := bnd hm
    refine sl (b_call [1] [] h Tryz.call62 rfl rfl (c_slices_Sort_int (y0 := s2) (h.po [1] []) ⟨(h.pf [1] [] 0), trivial⟩ h10) fun v a w hp hc => ?_)
    obtain ⟨r_4, rfl, q⟩ := hp
    have h := hc.on q [[], r_4]
    refine oe ?_
    refine sr ?_
    refine pr 1 [(58, .slice p6 (List.length s2) c6)] h fun a h => ?_
    have h := h.upd (t := 58) (.slice p6 (List.length r3) c6) rfl (congrArg (fun q : Nat => Value.slice p6 q c6) (Ar.ln (h.g 0)))
    have h := h.add (Ar.re (h.g 0))
    obtain ⟨r4, h11, hm⟩ := bnd hm
    refine sl (b_call [1] [] h Tryz.call63 rfl rfl (c_slices_Compact_int (y0 := r3) (h.po [1] []) ⟨(h.pf [1] [] 0), trivial⟩ h11) fun v a w hp hc => ?_)
    obtain ⟨p11, c11, rfl, q⟩ := hp
    have h := hc.on q [[], []]
    refine pr 1 [(6, .slice p11 (List.length r4) c11)] h fun a h => ?_
    refine oe ?_
    refine wp_ret ?_
    obtain rfl := Option.some.inj hm
    exact rt1 h rfl rfl ⟨p11, c11, rfl, bk_sel h [] ⟨(h.g 0), trivial⟩⟩

theorem c_argument_Last {A : List Nat} {w0 : World} {y0 : T_Base} {p1 : Option Addr} {c1 : Nat} {p2 : Option Addr} {c2 : Nat} {p3 : Option Addr} {c3 : Nat} {y1 : List T_Argument} {p4 : Option Addr} {c4 : Nat} {y2 : Int} {r : (List Int)} (hO : Own A w0 []) (hF : All [R e_Premise p1 c1 (List.length y0.1) y0.1, R e_Rule p2 c2 (List.length y0.2.1) y0.2.1, R e_Promotion p3 c3 (List.length y0.2.2) y0.2.2, R e_Argument p4 c4 (List.length y1) y1] (bl [] ++ A) w0) (hm : m_argument_Last y0 y1 y2 = some r) :
    Calls Tryz.prog 108 [.agg #[.slice p1 (List.length y0.1) c1, .slice p2 (List.length y0.2.1) c2, .slice p3 (List.length y0.2.2) c3], .slice p4 (List.length y1) c4, vi y2].toArray w0 (Ret fun v w => ∃ (p5 : Option Addr) (c5 : Nat), v = .slice p5 (List.length r) c5 ∧ Bk A [] w0 [] [R (eInt .i64) p5 c5 (List.length r) r] w) := by
  obtain ⟨k, hk⟩ := limM_some hm
  exact (k_argument_Last_all k) hO hF hk

theorem c_lift_ranks {A : List Nat} {w0 : World} {y0 : T_Base} {p1 : Option Addr} {c1 : Nat} {p2 : Option Addr} {c2 : Nat} {p3 : Option Addr} {c3 : Nat} {y1 : List Int} {p4 : Option Addr} {c4 : Nat} {r : (List Int)} (hO : Own A w0 []) (hF : All [R e_Premise p1 c1 (List.length y0.1) y0.1, R e_Rule p2 c2 (List.length y0.2.1) y0.2.1, R e_Promotion p3 c3 (List.length y0.2.2) y0.2.2, R (eInt .i64) p4 c4 (List.length y1) y1] (bl [] ++ A) w0) (hm : m_lift_ranks y0 y1 = some r) :
    Calls Tryz.prog 107 [.agg #[.slice p1 (List.length y0.1) c1, .slice p2 (List.length y0.2.1) c2, .slice p3 (List.length y0.2.2) c3], .slice p4 (List.length y1) c4].toArray w0 (Ret fun v w => ∃ (p5 : Option Addr) (c5 : Nat), v = .slice p5 (List.length r) c5 ∧ Bk A [] w0 [] [R (eInt .i64) p5 c5 (List.length r) r] w) := by
  unfold m_lift_ranks at hm
  refine ent Tryz.func107 rfl hO hF fun a h => ?_
  refine sr ?_
  refine sl (b_box h rfl fun b1 a w h e => ?_)
  refine pr 1 [] h fun a h => ?_
  refine oe ?_
  refine sr ?_
  refine pr 1 [(5, .slice none 0 0)] h fun a h => ?_
  have h := h.room (eInt .i64) 3
  refine oe ?_
  refine wp_seq ?_
  refine sp [(10, vi 0), (9, vi (len y1)), (8, .slice p4 (List.length y1) c4)] h fun a h => ?_
  refine wp_block ?_
  refine loop_m (B := (m_lift_ranks_L1 y1 y0)) (fun (s1 : (List Int) × Int) a w => ∃ (p5 : Option Addr) (c5 : Nat) (r_1 : Res), SS A [] w0 25 [(2, .pointer (some ⟨b1, 0, none⟩)), (5, .slice p5 (List.length s1.1) c5), (8, .slice p4 (List.length y1) c4), (9, vi (len y1)), (10, vi s1.2)] [bx b1 31 [.slice p1 (List.length y0.1) c1, .slice p2 (List.length y0.2.1) c2, .slice p3 (List.length y0.2.2) c3], r_1] [Ar (eInt .i64) 3 r_1 p5 c5 (List.length s1.1) s1.1, R (eInt .i64) p4 c4 (List.length y1) y1, R e_Premise p1 c1 (List.length y0.1) y0.1, R e_Rule p2 c2 (List.length y0.2.1) y0.2.1, R e_Promotion p3 c3 (List.length y0.2.2) y0.2.2] a w) hm ⟨none, 0, [], h.to 2 ⟨(h.g 0), (h.g 4), (h.g 1), (h.g 2), (h.g 3), trivial⟩⟩ ?_
  intro s1 a w o1 hJ hm hr1
  obtain ⟨p5, c5, r_1, h⟩ := hJ
  unfold m_lift_ranks_L1 at hm
  refine sp [(11, vb (decide (s1.2 < (len y1))))] h fun a h => ?_
  refine wp_seq ?_
  refine cb h rfl (fun hb1 => ?_) (fun hb1 => ?_)
  · replace hm := ifT hb1 hm
    refine wp_skip ?_
    refine then_n ?_
    refine wp_seq ?_
    refine wp_block ?_
    refine sr ?_
    obtain ⟨x1, h1, hm⟩ := bnd hm
    refine sl (b_index_rd h (h.g 1) rfl rfl h1 fun b2 o2 a h => ?_)
    refine sl (b_load_pt false h (h.g 0) rfl fun ci1 hc1 v1 hv1 a h => ?_)
    replace hc1 : E.rd (eInt .i64) _ _ ci1 x1 := hc1
    obtain rfl := hc1
    obtain rfl := Option.some.inj hv1
    refine pr 1 [(7, vi x1)] h fun a h => ?_
    refine oe ?_
    refine reg ?_
    refine pr 2 [(15, .pointer (some ⟨b1, 1, none⟩)), (14, .slice p5 (List.length s1.1) c5)] h fun a h => ?_
    refine sl (b_load_own 0 (.slice p2 (List.length y0.2.1) c2) h rfl rfl fun a h => ?_)
    refine pr 1 [(17, vi x1)] h fun a h => ?_
    obtain ⟨x2, h2, hm⟩ := bnd hm
    refine sl (b_index_rd h (h.g 4) rfl rfl h2 fun b3 o3 a h => ?_)
    refine pr 1 [(19, .pointer (some ⟨b3, (o3 + 2), none⟩))] h fun a h => ?_
    refine sl (b_load_pt false h (PtTo.fst (PtTo.snd (PtTo.snd (h.g 0)))) rfl fun ci2 hc2 v2 hv2 a h => ?_)
    replace hc2 : E.rd (eInt .i64) _ _ ci2 x2.2.2.1 := hc2
    obtain rfl := hc2
    obtain rfl := Option.some.inj hv2
    refine sl (b_bs_rd (te := 3) (e := eInt .i64) [vi x2.2.2.1] ([x2.2.2.1] : List Int) h ⟨_, _, rfl, eInt.mk, rfl⟩ fun p6 c6 a w h e => ?_)
    obtain ⟨x3, h3, hm⟩ := bnd hm
    refine sl (b_append_r (te := 3) 1 h (h.g 3) (h.g 0) rfl rfl h3 fun r_2 p7 c7 a w h e => ?_)
    refine pr 1 [(5, .slice p7 (List.length x3) c7)] h fun a h => ?_
    refine ops_end ?_
    refine inb_n ?_
    refine then_n ?_
    refine reg ?_
    refine pr 2 [(10, vi (w64 (s1.2 + 1)))] h fun a h => ?_
    refine ops_end ?_
    obtain rfl := Option.some.inj hm
    exact lp_n rfl ⟨p7, c7, r_2, h.to 2 ⟨(h.g 0), (h.g 5), (h.g 6), (h.g 7), (h.g 8), trivial⟩⟩
  replace hm := ifF hb1 hm
  refine wp_exit ?_
  refine then_e (lp_e (inb_hit ?_))
  replace hm := loopR hr1 hm
  refine then_n ?_
  refine sp [(4, .slice p5 (List.length s1.1) c5)] h fun a h => ?_
  refine wp_ret ?_
  obtain rfl := Option.some.inj hm
  have h := h.share 1 (h.g 0)
  exact rt1 h rfl rfl ⟨p5, c5, rfl, bk_sel h [] ⟨(h.g 0), trivial⟩⟩

theorem c_lift_LastRanks {A : List Nat} {w0 : World} {y0 : T_Base} {p1 : Option Addr} {c1 : Nat} {p2 : Option Addr} {c2 : Nat} {p3 : Option Addr} {c3 : Nat} {y1 : List T_Argument} {p4 : Option Addr} {c4 : Nat} {y2 : Int} {r : (List Int)} (hO : Own A w0 []) (hF : All [R e_Premise p1 c1 (List.length y0.1) y0.1, R e_Rule p2 c2 (List.length y0.2.1) y0.2.1, R e_Promotion p3 c3 (List.length y0.2.2) y0.2.2, R e_Argument p4 c4 (List.length y1) y1] (bl [] ++ A) w0) (hm : m_lift_LastRanks y0 y1 y2 = some r) :
    Calls Tryz.prog 74 [.agg #[.slice p1 (List.length y0.1) c1, .slice p2 (List.length y0.2.1) c2, .slice p3 (List.length y0.2.2) c3], .slice p4 (List.length y1) c4, vi y2].toArray w0 (Ret fun v w => ∃ (p5 : Option Addr) (c5 : Nat), v = .slice p5 (List.length r) c5 ∧ Bk A [] w0 [] [R (eInt .i64) p5 c5 (List.length r) r] w) := by
  unfold m_lift_LastRanks at hm
  refine ent Tryz.func74 rfl hO hF fun a h => ?_
  refine sr ?_
  refine sl (b_box h rfl fun b1 a w h e => ?_)
  refine pr 1 [] h fun a h => ?_
  refine oe ?_
  refine ds [] [0] h fun w h => ?_
  refine dlo 0 0 (.agg #[.slice p1 (List.length y0.1) c1, .slice p2 (List.length y0.2.1) c2, .slice p3 (List.length y0.2.2) c3]) h rfl rfl rfl fun a h => ?_
  refine dlo 1 0 (.agg #[.slice p1 (List.length y0.1) c1, .slice p2 (List.length y0.2.1) c2, .slice p3 (List.length y0.2.2) c3]) h rfl rfl rfl fun a h => ?_
  refine dp 2 (.slice p4 (List.length y1) c4) h rfl fun a h => ?_
  refine dp 3 (vi y2) h rfl fun a h => ?_
  refine d1 4 rfl ?_
  obtain ⟨r1, h1, hm⟩ := bnd hm
  refine b_call [] [] h Tryz.call108 rfl rfl (c_argument_Last (y0 := y0) (y1 := y1) (y2 := y2) (h.po [] []) ⟨(h.pf [] [] 0), (h.pf [] [] 1), (h.pf [] [] 2), (h.pf [] [] 3), trivial⟩ h1) fun v a w hp hc => ?_
  obtain ⟨p5, c5, rfl, q⟩ := hp
  have e := hc.st q [bx b1 31 [.slice p1 (List.length y0.1) c1, .slice p2 (List.length y0.2.1) c2, .slice p3 (List.length y0.2.2) c3]]
  have h := hc.on q [bx b1 31 [.slice p1 (List.length y0.1) c1, .slice p2 (List.length y0.2.1) c2, .slice p3 (List.length y0.2.2) c3]]
  refine dn h e ?_
  refine d1 5 rfl ?_
  obtain ⟨r2, h2, hm⟩ := bnd hm
  refine b_call [] [] h Tryz.call107 rfl rfl (c_lift_ranks (y0 := y0) (y1 := r1) (h.po [] []) ⟨(h.pf [] [] 1), (h.pf [] [] 2), (h.pf [] [] 3), (h.pf [] [] 0), trivial⟩ h2) fun v a w hp hc => ?_
  obtain ⟨p6, c6, rfl, q⟩ := hp
  have e := hc.st q [bx b1 31 [.slice p1 (List.length y0.1) c1, .slice p2 (List.length y0.2.1) c2, .slice p3 (List.length y0.2.2) c3]]
  have h := hc.on q [bx b1 31 [.slice p1 (List.length y0.1) c1, .slice p2 (List.length y0.2.1) c2, .slice p3 (List.length y0.2.2) c3]]
  refine dn h e ?_
  refine dp 6 (.slice p6 (List.length r2) c6) h rfl fun a h => ?_
  refine de (then_n ?_)
  refine wp_ret ?_
  obtain rfl := Option.some.inj hm
  exact rt1 h rfl rfl ⟨p6, c6, rfl, bk_sel h [] ⟨(h.g 0), trivial⟩⟩

theorem c_slices_Max_int {A : List Nat} {w0 : World} {y0 : List Int} {p1 : Option Addr} {c1 : Nat} {r : Int} (hO : Own A w0 []) (hF : All [R (eInt .i64) p1 c1 (List.length y0) y0] (bl [] ++ A) w0) (hm : m_slices_Max_int y0 = some r) :
    Calls Tryz.prog 106 [.slice p1 (List.length y0) c1].toArray w0 (Ret fun v w => v = vi r ∧ Bk A [] w0 [] [] w) := by
  unfold m_slices_Max_int at hm
  refine ent Tryz.func106 rfl hO hF fun a h => ?_
  refine sp [] h fun a h => ?_
  obtain ⟨s1, hx, hm⟩ := bnd hm
  refine seq_j (fun a w => SS A [] w0 25 [(0, .slice p1 (List.length y0) c1)] [] [R (eInt .i64) p1 c1 (List.length y0) y0] a w) ?_ ?_
  · have hm2 := hm
    replace hm := hx
    refine sp [(7, vb (decide ((len y0) < 1)))] h fun a h => ?_
    refine cb h rfl (fun hb1 => ?_) (fun hb1 => ?_)
    · replace hm := ifT hb1 hm
      refine reg ?_
      cases hm
    replace hm := ifF hb1 hm
    refine wp_skip ?_
    obtain rfl := Option.some.inj hm
    exact then_n (h.to 0 ⟨(h.g 0), trivial⟩)
  intro a w hJ
  have h := hJ
  refine sr ?_
  refine pr 1 [(9, .slice p1 (List.length y0) c1)] h fun a h => ?_
  obtain ⟨x1, h1, hm⟩ := bnd hm
  refine sl (b_index_rd h (h.g 0) rfl rfl h1 fun b1 o1 a h => ?_)
  refine sl (b_load_pt false h (h.g 0) rfl fun ci1 hc1 v1 hv1 a h => ?_)
  replace hc1 : E.rd (eInt .i64) _ _ ci1 x1 := hc1
  obtain rfl := hc1
  obtain rfl := Option.some.inj hv1
  refine pr 1 [(3, vi x1)] h fun a h => ?_
  refine oe ?_
  refine wp_seq ?_
  refine sp [(4, vi 1)] h fun a h => ?_
  refine wp_block ?_
  refine loop_m (B := (m_slices_Max_int_L1 y0)) (fun (s2 : Int × Int) a w => SS A [] w0 25 [(0, .slice p1 (List.length y0) c1), (3, vi s2.1), (4, vi s2.2)] [] [R (eInt .i64) p1 c1 (List.length y0) y0] a w) hm (h.to 0 ⟨(h.g 1), trivial⟩) ?_
  intro s2 a w o2 hJ hm hr1
  have h := hJ
  unfold m_slices_Max_int_L1 at hm
  refine wp_seq ?_
  refine sp [(15, vb (decide (s2.2 < (len y0))))] h fun a h => ?_
  refine cb h rfl (fun hb2 => ?_) (fun hb2 => ?_)
  · replace hm := ifT hb2 hm
    refine wp_skip ?_
    refine then_n ?_
    refine wp_seq ?_
    refine wp_block ?_
    refine reg ?_
    refine pr 3 [(20, vi s2.2), (19, .slice p1 (List.length y0) c1), (18, vi s2.1)] h fun a h => ?_
    obtain ⟨x2, h2, hm⟩ := bnd hm
    refine sl (b_index_rd h (h.g 0) rfl rfl h2 fun b2 o3 a h => ?_)
    refine sl (b_load_pt false h (h.g 0) rfl fun ci2 hc2 v2 hv2 a h => ?_)
    replace hc2 : E.rd (eInt .i64) _ _ ci2 x2 := hc2
    obtain rfl := hc2
    obtain rfl := Option.some.inj hv2
    refine pr 2 [(3, vi (if x2 > s2.1 then x2 else s2.1))] h fun a h => ?_
    refine ops_end ?_
    refine inb_n ?_
    refine then_n ?_
    refine reg ?_
    refine pr 3 [(4, vi (w64 (s2.2 + 1)))] h fun a h => ?_
    refine ops_end ?_
    obtain rfl := Option.some.inj hm
    exact lp_n rfl (h.to 0 ⟨(h.g 1), trivial⟩)
  replace hm := ifF hb2 hm
  refine wp_exit ?_
  refine then_e (lp_e (inb_hit ?_))
  replace hm := loopR hr1 hm
  refine then_n ?_
  refine sp [(2, vi s2.1)] h fun a h => ?_
  refine wp_ret ?_
  obtain rfl := Option.some.inj hm
  exact rt1 h rfl rfl ⟨rfl, bk_sel h [] trivial⟩

theorem c_slices_Min_int {A : List Nat} {w0 : World} {y0 : List Int} {p1 : Option Addr} {c1 : Nat} {r : Int} (hO : Own A w0 []) (hF : All [R (eInt .i64) p1 c1 (List.length y0) y0] (bl [] ++ A) w0) (hm : m_slices_Min_int y0 = some r) :
    Calls Tryz.prog 105 [.slice p1 (List.length y0) c1].toArray w0 (Ret fun v w => v = vi r ∧ Bk A [] w0 [] [] w) := by
  unfold m_slices_Min_int at hm
  refine ent Tryz.func105 rfl hO hF fun a h => ?_
  refine sp [] h fun a h => ?_
  obtain ⟨s1, hx, hm⟩ := bnd hm
  refine seq_j (fun a w => SS A [] w0 25 [(0, .slice p1 (List.length y0) c1)] [] [R (eInt .i64) p1 c1 (List.length y0) y0] a w) ?_ ?_
  · have hm2 := hm
    replace hm := hx
    refine sp [(7, vb (decide ((len y0) < 1)))] h fun a h => ?_
    refine cb h rfl (fun hb1 => ?_) (fun hb1 => ?_)
    · replace hm := ifT hb1 hm
      refine reg ?_
      cases hm
    replace hm := ifF hb1 hm
    refine wp_skip ?_
    obtain rfl := Option.some.inj hm
    exact then_n (h.to 0 ⟨(h.g 0), trivial⟩)
  intro a w hJ
  have h := hJ
  refine sr ?_
  refine pr 1 [(9, .slice p1 (List.length y0) c1)] h fun a h => ?_
  obtain ⟨x1, h1, hm⟩ := bnd hm
  refine sl (b_index_rd h (h.g 0) rfl rfl h1 fun b1 o1 a h => ?_)
  refine sl (b_load_pt false h (h.g 0) rfl fun ci1 hc1 v1 hv1 a h => ?_)
  replace hc1 : E.rd (eInt .i64) _ _ ci1 x1 := hc1
  obtain rfl := hc1
  obtain rfl := Option.some.inj hv1
  refine pr 1 [(3, vi x1)] h fun a h => ?_
  refine oe ?_
  refine wp_seq ?_
  refine sp [(4, vi 1)] h fun a h => ?_
  refine wp_block ?_
  refine loop_m (B := (m_slices_Min_int_L1 y0)) (fun (s2 : Int × Int) a w => SS A [] w0 25 [(0, .slice p1 (List.length y0) c1), (3, vi s2.1), (4, vi s2.2)] [] [R (eInt .i64) p1 c1 (List.length y0) y0] a w) hm (h.to 0 ⟨(h.g 1), trivial⟩) ?_
  intro s2 a w o2 hJ hm hr1
  have h := hJ
  unfold m_slices_Min_int_L1 at hm
  refine wp_seq ?_
  refine sp [(15, vb (decide (s2.2 < (len y0))))] h fun a h => ?_
  refine cb h rfl (fun hb2 => ?_) (fun hb2 => ?_)
  · replace hm := ifT hb2 hm
    refine wp_skip ?_
    refine then_n ?_
    refine wp_seq ?_
    refine wp_block ?_
    refine reg ?_
    refine pr 3 [(20, vi s2.2), (19, .slice p1 (List.length y0) c1), (18, vi s2.1)] h fun a h => ?_
    obtain ⟨x2, h2, hm⟩ := bnd hm
    refine sl (b_index_rd h (h.g 0) rfl rfl h2 fun b2 o3 a h => ?_)
    refine sl (b_load_pt false h (h.g 0) rfl fun ci2 hc2 v2 hv2 a h => ?_)
    replace hc2 : E.rd (eInt .i64) _ _ ci2 x2 := hc2
    obtain rfl := hc2
    obtain rfl := Option.some.inj hv2
    refine pr 2 [(3, vi (if x2 < s2.1 then x2 else s2.1))] h fun a h => ?_
    refine ops_end ?_
    refine inb_n ?_
    refine then_n ?_
    refine reg ?_
    refine pr 3 [(4, vi (w64 (s2.2 + 1)))] h fun a h => ?_
    refine ops_end ?_
    obtain rfl := Option.some.inj hm
    exact lp_n rfl (h.to 0 ⟨(h.g 1), trivial⟩)
  replace hm := ifF hb2 hm
  refine wp_exit ?_
  refine then_e (lp_e (inb_hit ?_))
  replace hm := loopR hr1 hm
  refine then_n ?_
  refine sp [(2, vi s2.1)] h fun a h => ?_
  refine wp_ret ?_
  obtain rfl := Option.some.inj hm
  exact rt1 h rfl rfl ⟨rfl, bk_sel h [] trivial⟩

theorem c_lift_SetLess {A : List Nat} {w0 : World} {y0 : List Int} {p1 : Option Addr} {c1 : Nat} {y1 : List Int} {p2 : Option Addr} {c2 : Nat} {y2 : Int} {r : Bool} (hO : Own A w0 []) (hF : All [R (eInt .i64) p1 c1 (List.length y0) y0, R (eInt .i64) p2 c2 (List.length y1) y1] (bl [] ++ A) w0) (hm : m_lift_SetLess y0 y1 y2 = some r) :
    Calls Tryz.prog 71 [.slice p1 (List.length y0) c1, .slice p2 (List.length y1) c2, vi y2].toArray w0 (Ret fun v w => v = vb r ∧ Bk A [] w0 [] [] w) := by
  unfold m_lift_SetLess at hm
  refine ent Tryz.func71 rfl hO hF fun a h => ?_
  refine sp [] h fun a h => ?_
  refine wp_seq ?_
  refine seq_j (fun a w => SS A [] w0 35 [(0, .slice p1 (List.length y0) c1), (1, .slice p2 (List.length y1) c2), (2, vi y2), (17, vb (if y2 != 1 then (y2 != 2) || ((len y0) == 0) else (len y0) == 0))] [] [R (eInt .i64) p1 c1 (List.length y0) y0, R (eInt .i64) p2 c2 (List.length y1) y1] a w) ?_ ?_
  · refine reg ?_
    refine pr 3 [(9, vb (y2 != 1))] h fun a h => ?_
    rcases Bool.eq_false_or_eq_true (y2 != 1) with hb1 | hb1
    · have h := h.upd (t := 9) (vb true) rfl (congrArg Value.bool hb1)
      refine pr 4 [(13, vb (y2 != 2))] h fun a h => ?_
      rcases Bool.eq_false_or_eq_true (y2 != 2) with hb2 | hb2
      · have h := h.upd (t := 13) (vb true) rfl (congrArg Value.bool hb2)
        refine pr 4 [(17, vb true)] h fun a h => ?_
        refine ops_end ?_
        have h := h.upd (t := 17) (vb (if y2 != 1 then (y2 != 2) || ((len y0) == 0) else (len y0) == 0)) rfl (by rw [hb1, hb2]; rfl)
        exact then_n (h.to 0 ⟨(h.g 0), (h.g 1), trivial⟩)
      · have h := h.upd (t := 13) (vb false) rfl (congrArg Value.bool hb2)
        refine pr 4 [(17, vb ((len y0) == 0))] h fun a h => ?_
        refine ops_end ?_
        have h := h.upd (t := 17) (vb (if y2 != 1 then (y2 != 2) || ((len y0) == 0) else (len y0) == 0)) rfl (by rw [hb1, hb2]; rfl)
        exact then_n (h.to 0 ⟨(h.g 0), (h.g 1), trivial⟩)
    · have h := h.upd (t := 9) (vb false) rfl (congrArg Value.bool hb1)
      refine pr 8 [(17, vb ((len y0) == 0))] h fun a h => ?_
      refine ops_end ?_
      have h := h.upd (t := 17) (vb (if y2 != 1 then (y2 != 2) || ((len y0) == 0) else (len y0) == 0)) rfl (by rw [hb1]; rfl)
      exact then_n (h.to 0 ⟨(h.g 0), (h.g 1), trivial⟩)
  intro a w hJ
  have h := hJ
  refine cb h rfl (fun hb3 => ?_) (fun hb3 => ?_)
  · replace hm := ifT hb3 hm
    refine sp [(6, vb false)] h fun a h => ?_
    refine wp_ret ?_
    refine then_r ?_
    obtain rfl := Option.some.inj hm
    exact rt1 h rfl rfl ⟨rfl, bk_sel h [] trivial⟩
  replace hm := ifF hb3 hm
  refine wp_skip ?_
  refine then_n ?_
  refine wp_seq ?_
  refine wp_block ?_
  refine sp [(18, vb ((len y1) == 0))] h fun a h => ?_
  refine cb h rfl (fun hb4 => ?_) (fun hb4 => ?_)
  · replace hm := ifT hb4 hm
    refine sp [(6, vb true)] h fun a h => ?_
    refine wp_ret ?_
    refine inb_r (then_r ?_)
    obtain rfl := Option.some.inj hm
    exact rt1 h rfl rfl ⟨rfl, bk_sel h [] trivial⟩
  replace hm := ifF hb4 hm
  refine sp [(22, vb (y2 == 1))] h fun a h => ?_
  refine cb h rfl (fun hb5 => ?_) (fun hb5 => ?_)
  · replace hm := ifT hb5 hm
    refine sr ?_
    refine pr 1 [(25, .slice p1 (List.length y0) c1)] h fun a h => ?_
    obtain ⟨r1, h1, hm⟩ := bnd hm
    refine sl (b_call [] [] h Tryz.call105 rfl rfl (c_slices_Min_int (y0 := y0) (h.po [] []) ⟨(h.pf [] [] 0), trivial⟩ h1) fun v a w hp hc => ?_)
    obtain ⟨rfl, q⟩ := hp
    have h := hc.on q []
    refine pr 1 [(27, .slice p2 (List.length y1) c2)] h fun a h => ?_
    obtain ⟨r2, h2, hm⟩ := bnd hm
    refine sl (b_call [] [] h Tryz.call105 rfl rfl (c_slices_Min_int (y0 := y1) (h.po [] []) ⟨(h.pf [] [] 1), trivial⟩ h2) fun v a w hp hc => ?_)
    obtain ⟨rfl, q⟩ := hp
    have h := hc.on q []
    refine pr 2 [(6, vb (decide (r1 < r2)))] h fun a h => ?_
    refine oe ?_
    refine wp_ret ?_
    refine inb_r (then_r ?_)
    obtain rfl := Option.some.inj hm
    exact rt1 h rfl rfl ⟨rfl, bk_sel h [] trivial⟩
  replace hm := ifF hb5 hm
  refine wp_skip ?_
  refine inb_n ?_
  refine then_n ?_
  refine sr ?_
  refine pr 1 [(30, .slice p1 (List.length y0) c1)] h fun a h => ?_
  obtain ⟨r3, h3, hm⟩ := bnd hm
  refine sl (b_call [] [] h Tryz.call106 rfl rfl (c_slices_Max_int (y0 := y0) (h.po [] []) ⟨(h.pf [] [] 0), trivial⟩ h3) fun v a w hp hc => ?_)
  obtain ⟨rfl, q⟩ := hp
  have h := hc.on q []
  refine pr 1 [(32, .slice p2 (List.length y1) c2)] h fun a h => ?_
  obtain ⟨r4, h4, hm⟩ := bnd hm
  refine sl (b_call [] [] h Tryz.call106 rfl rfl (c_slices_Max_int (y0 := y1) (h.po [] []) ⟨(h.pf [] [] 1), trivial⟩ h4) fun v a w hp hc => ?_)
  obtain ⟨rfl, q⟩ := hp
  have h := hc.on q []
  refine pr 2 [(6, vb (decide (r3 < r4)))] h fun a h => ?_
  refine oe ?_
  refine wp_ret ?_
  obtain rfl := Option.some.inj hm
  exact rt1 h rfl rfl ⟨rfl, bk_sel h [] trivial⟩

theorem c_lift_Less_1__lift_LastRanks {A : List Nat} {w0 : World} {y0 : T_Base} {b1 : Nat} {p1 : Option Addr} {c1 : Nat} {p2 : Option Addr} {c2 : Nat} {p3 : Option Addr} {c3 : Nat} {y1 : List T_Argument} {b2 : Nat} {p4 : Option Addr} {c4 : Nat} {y2 : Int} {b3 : Nat} {y3 : Int} {b4 : Nat} {y4 : T_Ordering} {b5 : Nat} {r : Bool} (hO : Own A w0 [bx b1 31 [.slice p1 (List.length y0.1) c1, .slice p2 (List.length y0.2.1) c2, .slice p3 (List.length y0.2.2) c3], bx b2 32 [.slice p4 (List.length y1) c4], bx b3 3 [vi y2], bx b4 3 [vi y3], bx b5 24 [vi y4.1, vi y4.2]]) (hF : All [R e_Premise p1 c1 (List.length y0.1) y0.1, R e_Rule p2 c2 (List.length y0.2.1) y0.2.1, R e_Promotion p3 c3 (List.length y0.2.2) y0.2.2, R e_Argument p4 c4 (List.length y1) y1] (bl [bx b1 31 [.slice p1 (List.length y0.1) c1, .slice p2 (List.length y0.2.1) c2, .slice p3 (List.length y0.2.2) c3], bx b2 32 [.slice p4 (List.length y1) c4], bx b3 3 [vi y2], bx b4 3 [vi y3], bx b5 24 [vi y4.1, vi y4.2]] ++ A) w0) (hm : m_lift_Less_1__lift_LastRanks y0 y1 y2 y3 y4 = some r) :
    Calls Tryz.prog 70 [.func (.func 74) #[] #[], .pointer (some ⟨b1, 0, none⟩), .pointer (some ⟨b2, 0, none⟩), .pointer (some ⟨b3, 0, none⟩), .pointer (some ⟨b4, 0, none⟩), .pointer (some ⟨b5, 0, none⟩)].toArray w0 (Ret fun v w => v = vb r ∧ Bk A [bx b1 31 [.slice p1 (List.length y0.1) c1, .slice p2 (List.length y0.2.1) c2, .slice p3 (List.length y0.2.2) c3], bx b2 32 [.slice p4 (List.length y1) c4], bx b3 3 [vi y2], bx b4 3 [vi y3], bx b5 24 [vi y4.1, vi y4.2]] w0 [bx b1 31 [.slice p1 (List.length y0.1) c1, .slice p2 (List.length y0.2.1) c2, .slice p3 (List.length y0.2.2) c3], bx b2 32 [.slice p4 (List.length y1) c4], bx b3 3 [vi y2], bx b4 3 [vi y3], bx b5 24 [vi y4.1, vi y4.2]] [] w) := by
  unfold m_lift_Less_1__lift_LastRanks at hm
  refine ent Tryz.func70 rfl hO hF fun a h => ?_
  refine sp [] h fun a h => ?_
  refine ds [] [0, 1, 2, 3, 4] h fun w h => ?_
  refine dp 0 (.func (.func 74) #[] #[]) h rfl fun a h => ?_
  refine dlo 1 0 (.agg #[.slice p1 (List.length y0.1) c1, .slice p2 (List.length y0.2.1) c2, .slice p3 (List.length y0.2.2) c3]) h rfl rfl rfl fun a h => ?_
  refine dlo 2 1 (.slice p4 (List.length y1) c4) h rfl rfl rfl fun a h => ?_
  refine dlo 3 2 (vi y2) h rfl rfl rfl fun a h => ?_
  refine dp 5 (.func (.func 74) #[] #[]) h rfl fun a h => ?_
  refine dlo 6 0 (.agg #[.slice p1 (List.length y0.1) c1, .slice p2 (List.length y0.2.1) c2, .slice p3 (List.length y0.2.2) c3]) h rfl rfl rfl fun a h => ?_
  refine dlo 7 1 (.slice p4 (List.length y1) c4) h rfl rfl rfl fun a h => ?_
  refine dlo 8 3 (vi y3) h rfl rfl rfl fun a h => ?_
  refine dp 10 (.pointer (some ⟨b5, 1, none⟩)) h rfl fun a h => ?_
  refine dlo 11 4 (vi y4.2) h rfl rfl rfl fun a h => ?_
  refine d1 4 rfl ?_
  obtain ⟨r1, h1, hm⟩ := bnd hm
  refine b_call [] [] h Tryz.call74 rfl rfl (c_lift_LastRanks (y0 := y0) (y1 := y1) (y2 := y2) (h.po [] []) ⟨(h.pf [] [] 0), (h.pf [] [] 1), (h.pf [] [] 2), (h.pf [] [] 3), trivial⟩ h1) fun v a w hp hc => ?_
  obtain ⟨p5, c5, rfl, q⟩ := hp
  have e := hc.st q [bx b1 31 [.slice p1 (List.length y0.1) c1, .slice p2 (List.length y0.2.1) c2, .slice p3 (List.length y0.2.2) c3], bx b2 32 [.slice p4 (List.length y1) c4], bx b3 3 [vi y2], bx b4 3 [vi y3], bx b5 24 [vi y4.1, vi y4.2]]
  have h := hc.on q [bx b1 31 [.slice p1 (List.length y0.1) c1, .slice p2 (List.length y0.2.1) c2, .slice p3 (List.length y0.2.2) c3], bx b2 32 [.slice p4 (List.length y1) c4], bx b3 3 [vi y2], bx b4 3 [vi y3], bx b5 24 [vi y4.1, vi y4.2]]
  refine dn h e ?_
  refine d1 9 rfl ?_
  obtain ⟨r2, h2, hm⟩ := bnd hm
  refine b_call [] [] h Tryz.call74 rfl rfl (c_lift_LastRanks (y0 := y0) (y1 := y1) (y2 := y3) (h.po [] []) ⟨(h.pf [] [] 1), (h.pf [] [] 2), (h.pf [] [] 3), (h.pf [] [] 4), trivial⟩ h2) fun v a w hp hc => ?_
  obtain ⟨p6, c6, rfl, q⟩ := hp
  have e := hc.st q [bx b1 31 [.slice p1 (List.length y0.1) c1, .slice p2 (List.length y0.2.1) c2, .slice p3 (List.length y0.2.2) c3], bx b2 32 [.slice p4 (List.length y1) c4], bx b3 3 [vi y2], bx b4 3 [vi y3], bx b5 24 [vi y4.1, vi y4.2]]
  have h := hc.on q [bx b1 31 [.slice p1 (List.length y0.1) c1, .slice p2 (List.length y0.2.1) c2, .slice p3 (List.length y0.2.2) c3], bx b2 32 [.slice p4 (List.length y1) c4], bx b3 3 [vi y2], bx b4 3 [vi y3], bx b5 24 [vi y4.1, vi y4.2]]
  refine dn h e ?_
  refine d1 12 rfl ?_
  obtain ⟨r3, h3, hm⟩ := bnd hm
  refine b_call [] [] h Tryz.call71 rfl rfl (c_lift_SetLess (y0 := r1) (y1 := r2) (y2 := y4.2) (h.po [] []) ⟨(h.pf [] [] 1), (h.pf [] [] 0), trivial⟩ h3) fun v a w hp hc => ?_
  obtain ⟨rfl, q⟩ := hp
  have e := hc.st q [bx b1 31 [.slice p1 (List.length y0.1) c1, .slice p2 (List.length y0.2.1) c2, .slice p3 (List.length y0.2.2) c3], bx b2 32 [.slice p4 (List.length y1) c4], bx b3 3 [vi y2], bx b4 3 [vi y3], bx b5 24 [vi y4.1, vi y4.2]]
  have h := hc.on q [bx b1 31 [.slice p1 (List.length y0.1) c1, .slice p2 (List.length y0.2.1) c2, .slice p3 (List.length y0.2.2) c3], bx b2 32 [.slice p4 (List.length y1) c4], bx b3 3 [vi y2], bx b4 3 [vi y3], bx b5 24 [vi y4.1, vi y4.2]]
  refine dn h e ?_
  refine dp 13 (vb r3) h rfl fun a h => ?_
  refine de (then_n ?_)
  refine wp_ret ?_
  obtain rfl := Option.some.inj hm
  exact rt1 h rfl rfl ⟨rfl, bk_sel h [0, 1, 2, 3, 4] trivial⟩

theorem c_lift_PremiseRanks {A : List Nat} {w0 : World} {y0 : T_Base} {p1 : Option Addr} {c1 : Nat} {p2 : Option Addr} {c2 : Nat} {p3 : Option Addr} {c3 : Nat} {y1 : List T_Argument} {p4 : Option Addr} {c4 : Nat} {y2 : Int} {r : (List Int)} (hO : Own A w0 []) (hF : All [R e_Premise p1 c1 (List.length y0.1) y0.1, R e_Rule p2 c2 (List.length y0.2.1) y0.2.1, R e_Promotion p3 c3 (List.length y0.2.2) y0.2.2, R e_Argument p4 c4 (List.length y1) y1] (bl [] ++ A) w0) (hm : m_lift_PremiseRanks y0 y1 y2 = some r) :
    Calls Tryz.prog 75 [.agg #[.slice p1 (List.length y0.1) c1, .slice p2 (List.length y0.2.1) c2, .slice p3 (List.length y0.2.2) c3], .slice p4 (List.length y1) c4, vi y2].toArray w0 (Ret fun v w => ∃ (p5 : Option Addr) (c5 : Nat), v = .slice p5 (List.length r) c5 ∧ Bk A [] w0 [] [R (eInt .i64) p5 c5 (List.length r) r] w) := by
  unfold m_lift_PremiseRanks at hm
  refine ent Tryz.func75 rfl hO hF fun a h => ?_
  refine sr ?_
  refine sl (b_box h rfl fun b1 a w h e => ?_)
  refine pr 1 [] h fun a h => ?_
  refine oe ?_
  refine sr ?_
  refine pr 1 [(7, .slice none 0 0)] h fun a h => ?_
  have h := h.room (eInt .i64) 3
  refine oe ?_
  refine wp_seq ?_
  refine sr ?_
  refine pr 2 [(12, vi y2), (11, .slice p4 (List.length y1) c4)] h fun a h => ?_
  obtain ⟨r1, h1, hm⟩ := bnd hm
  refine sl (b_call [] [] h Tryz.call103 rfl rfl (c_argument_Premises (y0 := y1) (y1 := y2) (h.po [] []) ⟨(h.pf [] [] 4), trivial⟩ h1) fun v a w hp hc => ?_)
  obtain ⟨p5, c5, rfl, q⟩ := hp
  have h := hc.on q [bx b1 31 [.slice p1 (List.length y0.1) c1, .slice p2 (List.length y0.2.1) c2, .slice p3 (List.length y0.2.2) c3], []]
  refine pr 2 [(15, vi 0), (14, vi (len r1))] h fun a h => ?_
  refine oe ?_
  refine wp_block ?_
  refine loop_m (B := (m_lift_PremiseRanks_L1 r1 y0)) (fun (s1 : (List Int) × Int) a w => ∃ (p6 : Option Addr) (c6 : Nat) (r_1 : Res), SS A [] w0 40 [(3, .pointer (some ⟨b1, 0, none⟩)), (7, .slice p6 (List.length s1.1) c6), (13, .slice p5 (List.length r1) c5), (14, vi (len r1)), (15, vi s1.2)] [bx b1 31 [.slice p1 (List.length y0.1) c1, .slice p2 (List.length y0.2.1) c2, .slice p3 (List.length y0.2.2) c3], r_1] [Ar (eInt .i64) 3 r_1 p6 c6 (List.length s1.1) s1.1, R (eInt .i64) p5 c5 (List.length r1) r1, R e_Premise p1 c1 (List.length y0.1) y0.1, R e_Rule p2 c2 (List.length y0.2.1) y0.2.1, R e_Promotion p3 c3 (List.length y0.2.2) y0.2.2] a w) hm ⟨none, 0, [], h.to 2 ⟨(h.g 1), (h.g 0), (h.g 2), (h.g 3), (h.g 4), trivial⟩⟩ ?_
  intro s1 a w o1 hJ hm hr1
  obtain ⟨p6, c6, r_1, h⟩ := hJ
  unfold m_lift_PremiseRanks_L1 at hm
  refine sp [(16, vb (decide (s1.2 < (len r1))))] h fun a h => ?_
  refine wp_seq ?_
  refine cb h rfl (fun hb1 => ?_) (fun hb1 => ?_)
  · replace hm := ifT hb1 hm
    refine wp_skip ?_
    refine then_n ?_
    refine wp_seq ?_
    refine wp_block ?_
    refine sr ?_
    obtain ⟨x1, h2, hm⟩ := bnd hm
    refine sl (b_index_rd h (h.g 1) rfl rfl h2 fun b2 o2 a h => ?_)
    refine sl (b_load_pt false h (h.g 0) rfl fun ci1 hc1 v1 hv1 a h => ?_)
    replace hc1 : E.rd (eInt .i64) _ _ ci1 x1 := hc1
    obtain rfl := hc1
    obtain rfl := Option.some.inj hv1
    refine pr 1 [(9, vi x1)] h fun a h => ?_
    refine oe ?_
    refine sr ?_
    refine pr 1 [(19, .pointer (some ⟨b1, 0, none⟩))] h fun a h => ?_
    refine sl (b_load_own 0 (.slice p1 (List.length y0.1) c1) h rfl rfl fun a h => ?_)
    refine pr 1 [(21, vi x1)] h fun a h => ?_
    obtain ⟨x2, h3, hm⟩ := bnd hm
    refine sl (b_index_rd h (h.g 3) rfl rfl h3 fun b3 o3 a h => ?_)
    refine sl (b_load_pt true h (h.g 0) rfl fun ci2 hc2 v2 hv2 a h => ?_)
    replace hc2 : E.rd e_Premise _ _ ci2 x2 := hc2
    obtain ⟨_, _, rfl, ⟨_, _, rfl, rfl, rfl⟩, ⟨_, _, rfl, rfl, ⟨_, _, rfl, rfl, rfl⟩⟩⟩ := hc2
    obtain rfl := Option.some.inj hv2
    have h := h.upd (t := 23) (.agg #[vb x2.1.1, vs x2.1.2, vi x2.2.1, vi x2.2.2.1, vs x2.2.2.2]) rfl rfl
    refine sl (b_alloc h rfl fun b4 a w h e => ?_)
    refine sl (b_store_own 2 h rfl rfl rfl fun a w h e => ?_)
    refine oe ?_
    refine sr ?_
    refine pr 1 [(24, .pointer (some ⟨b4, 2, none⟩))] h fun a h => ?_
    refine sl (b_load_own 2 (vi x2.2.1) h rfl rfl fun a h => ?_)
    refine oe ?_
    refine wp_block ?_
    refine sp [(26, vb (x2.2.1 == 2))] h fun a h => ?_
    refine cb h rfl (fun hb2 => ?_) (fun hb2 => ?_)
    · replace hm := ifT hb2 hm
      refine reg ?_
      refine pr 2 [(29, .pointer (some ⟨b4, 3, none⟩)), (28, .slice p6 (List.length s1.1) c6)] h fun a h => ?_
      refine sl (b_load_own 2 (vi x2.2.2.1) h rfl rfl fun a h => ?_)
      refine sl (b_bs_rd (te := 3) (e := eInt .i64) [vi x2.2.2.1] ([x2.2.2.1] : List Int) h ⟨_, _, rfl, eInt.mk, rfl⟩ fun p7 c7 a w h e => ?_)
      obtain ⟨x3, h4, hm⟩ := bnd hm
      refine sl (b_append_r (te := 3) 1 h (h.g 3) (h.g 0) rfl rfl h4 fun r_2 p8 c8 a w h e => ?_)
      refine pr 1 [(7, .slice p8 (List.length x3) c8)] h fun a h => ?_
      refine ops_end ?_
      refine inb_n ?_
      refine inb_n ?_
      refine then_n ?_
      refine reg ?_
      refine pr 2 [(15, vi (w64 (s1.2 + 1)))] h fun a h => ?_
      refine ops_end ?_
      obtain rfl := Option.some.inj hm
      exact lp_n rfl ⟨p8, c8, r_2, h.to 2 ⟨(h.g 0), (h.g 5), (h.g 6), (h.g 7), (h.g 8), trivial⟩⟩
    replace hm := ifF hb2 hm
    refine sp [(33, vb (x2.2.1 == 3))] h fun a h => ?_
    refine cb h rfl (fun hb3 => ?_) (fun hb3 => ?_)
    · replace hm := ifT hb3 hm
      refine reg ?_
      refine pr 1 [(35, .slice p6 (List.length s1.1) c6)] h fun a h => ?_
      refine sl (b_bs_rd (te := 3) (e := eInt .i64) [vi (-1)] ([(-1)] : List Int) h ⟨_, _, rfl, eInt.mk, rfl⟩ fun p9 c9 a w h e => ?_)
      obtain ⟨x4, h5, hm⟩ := bnd hm
      refine sl (b_append_r (te := 3) 1 h (h.g 3) (h.g 0) rfl rfl h5 fun r_3 p10 c10 a w h e => ?_)
      refine pr 1 [(7, .slice p10 (List.length x4) c10)] h fun a h => ?_
      refine ops_end ?_
      refine inb_n ?_
      refine inb_n ?_
      refine then_n ?_
      refine reg ?_
      refine pr 2 [(15, vi (w64 (s1.2 + 1)))] h fun a h => ?_
      refine ops_end ?_
      obtain rfl := Option.some.inj hm
      exact lp_n rfl ⟨p10, c10, r_3, h.to 2 ⟨(h.g 0), (h.g 5), (h.g 6), (h.g 7), (h.g 8), trivial⟩⟩
    replace hm := ifF hb3 hm
    refine wp_skip ?_
    refine inb_n ?_
    refine inb_n ?_
    refine then_n ?_
    refine reg ?_
    refine pr 2 [(15, vi (w64 (s1.2 + 1)))] h fun a h => ?_
    refine ops_end ?_
    obtain rfl := Option.some.inj hm
    exact lp_n rfl ⟨p6, c6, r_1, h.to 2 ⟨(h.g 2), (h.g 3), (h.g 4), (h.g 5), (h.g 6), trivial⟩⟩
  replace hm := ifF hb1 hm
  refine wp_exit ?_
  refine then_e (lp_e (inb_hit ?_))
  replace hm := loopR hr1 hm
  refine then_n ?_
  refine sp [(6, .slice p6 (List.length s1.1) c6)] h fun a h => ?_
  refine wp_ret ?_
  obtain rfl := Option.some.inj hm
  have h := h.share 1 (h.g 0)
  exact rt1 h rfl rfl ⟨p6, c6, rfl, bk_sel h [] ⟨(h.g 0), trivial⟩⟩

theorem c_lift_Less_1__lift_PremiseRanks {A : List Nat} {w0 : World} {y0 : T_Base} {b1 : Nat} {p1 : Option Addr} {c1 : Nat} {p2 : Option Addr} {c2 : Nat} {p3 : Option Addr} {c3 : Nat} {y1 : List T_Argument} {b2 : Nat} {p4 : Option Addr} {c4 : Nat} {y2 : Int} {b3 : Nat} {y3 : Int} {b4 : Nat} {y4 : T_Ordering} {b5 : Nat} {r : Bool} (hO : Own A w0 [bx b1 31 [.slice p1 (List.length y0.1) c1, .slice p2 (List.length y0.2.1) c2, .slice p3 (List.length y0.2.2) c3], bx b2 32 [.slice p4 (List.length y1) c4], bx b3 3 [vi y2], bx b4 3 [vi y3], bx b5 24 [vi y4.1, vi y4.2]]) (hF : All [R e_Premise p1 c1 (List.length y0.1) y0.1, R e_Rule p2 c2 (List.length y0.2.1) y0.2.1, R e_Promotion p3 c3 (List.length y0.2.2) y0.2.2, R e_Argument p4 c4 (List.length y1) y1] (bl [bx b1 31 [.slice p1 (List.length y0.1) c1, .slice p2 (List.length y0.2.1) c2, .slice p3 (List.length y0.2.2) c3], bx b2 32 [.slice p4 (List.length y1) c4], bx b3 3 [vi y2], bx b4 3 [vi y3], bx b5 24 [vi y4.1, vi y4.2]] ++ A) w0) (hm : m_lift_Less_1__lift_PremiseRanks y0 y1 y2 y3 y4 = some r) :
    Calls Tryz.prog 70 [.func (.func 75) #[] #[], .pointer (some ⟨b1, 0, none⟩), .pointer (some ⟨b2, 0, none⟩), .pointer (some ⟨b3, 0, none⟩), .pointer (some ⟨b4, 0, none⟩), .pointer (some ⟨b5, 0, none⟩)].toArray w0 (Ret fun v w => v = vb r ∧ Bk A [bx b1 31 [.slice p1 (List.length y0.1) c1, .slice p2 (List.length y0.2.1) c2, .slice p3 (List.length y0.2.2) c3], bx b2 32 [.slice p4 (List.length y1) c4], bx b3 3 [vi y2], bx b4 3 [vi y3], bx b5 24 [vi y4.1, vi y4.2]] w0 [bx b1 31 [.slice p1 (List.length y0.1) c1, .slice p2 (List.length y0.2.1) c2, .slice p3 (List.length y0.2.2) c3], bx b2 32 [.slice p4 (List.length y1) c4], bx b3 3 [vi y2], bx b4 3 [vi y3], bx b5 24 [vi y4.1, vi y4.2]] [] w) := by
  unfold m_lift_Less_1__lift_PremiseRanks at hm
  refine ent Tryz.func70 rfl hO hF fun a h => ?_
  refine sp [] h fun a h => ?_
  refine ds [] [0, 1, 2, 3, 4] h fun w h => ?_
  refine dp 0 (.func (.func 75) #[] #[]) h rfl fun a h => ?_
  refine dlo 1 0 (.agg #[.slice p1 (List.length y0.1) c1, .slice p2 (List.length y0.2.1) c2, .slice p3 (List.length y0.2.2) c3]) h rfl rfl rfl fun a h => ?_
  refine dlo 2 1 (.slice p4 (List.length y1) c4) h rfl rfl rfl fun a h => ?_
  refine dlo 3 2 (vi y2) h rfl rfl rfl fun a h => ?_
  refine dp 5 (.func (.func 75) #[] #[]) h rfl fun a h => ?_
  refine dlo 6 0 (.agg #[.slice p1 (List.length y0.1) c1, .slice p2 (List.length y0.2.1) c2, .slice p3 (List.length y0.2.2) c3]) h rfl rfl rfl fun a h => ?_
  refine dlo 7 1 (.slice p4 (List.length y1) c4) h rfl rfl rfl fun a h => ?_
  refine dlo 8 3 (vi y3) h rfl rfl rfl fun a h => ?_
  refine dp 10 (.pointer (some ⟨b5, 1, none⟩)) h rfl fun a h => ?_
  refine dlo 11 4 (vi y4.2) h rfl rfl rfl fun a h => ?_
  refine d1 4 rfl ?_
  obtain ⟨r1, h1, hm⟩ := bnd hm
  refine b_call [] [] h Tryz.call75 rfl rfl (c_lift_PremiseRanks (y0 := y0) (y1 := y1) (y2 := y2) (h.po [] []) ⟨(h.pf [] [] 0), (h.pf [] [] 1), (h.pf [] [] 2), (h.pf [] [] 3), trivial⟩ h1) fun v a w hp hc => ?_
  obtain ⟨p5, c5, rfl, q⟩ := hp
  have e := hc.st q [bx b1 31 [.slice p1 (List.length y0.1) c1, .slice p2 (List.length y0.2.1) c2, .slice p3 (List.length y0.2.2) c3], bx b2 32 [.slice p4 (List.length y1) c4], bx b3 3 [vi y2], bx b4 3 [vi y3], bx b5 24 [vi y4.1, vi y4.2]]
  have h := hc.on q [bx b1 31 [.slice p1 (List.length y0.1) c1, .slice p2 (List.length y0.2.1) c2, .slice p3 (List.length y0.2.2) c3], bx b2 32 [.slice p4 (List.length y1) c4], bx b3 3 [vi y2], bx b4 3 [vi y3], bx b5 24 [vi y4.1, vi y4.2]]
  refine dn h e ?_
  refine d1 9 rfl ?_
  obtain ⟨r2, h2, hm⟩ := bnd hm
  refine b_call [] [] h Tryz.call75 rfl rfl (c_lift_PremiseRanks (y0 := y0) (y1 := y1) (y2 := y3) (h.po [] []) ⟨(h.pf [] [] 1), (h.pf [] [] 2), (h.pf [] [] 3), (h.pf [] [] 4), trivial⟩ h2) fun v a w hp hc => ?_
  obtain ⟨p6, c6, rfl, q⟩ := hp
  have e := hc.st q [bx b1 31 [.slice p1 (List.length y0.1) c1, .slice p2 (List.length y0.2.1) c2, .slice p3 (List.length y0.2.2) c3], bx b2 32 [.slice p4 (List.length y1) c4], bx b3 3 [vi y2], bx b4 3 [vi y3], bx b5 24 [vi y4.1, vi y4.2]]
  have h := hc.on q [bx b1 31 [.slice p1 (List.length y0.1) c1, .slice p2 (List.length y0.2.1) c2, .slice p3 (List.length y0.2.2) c3], bx b2 32 [.slice p4 (List.length y1) c4], bx b3 3 [vi y2], bx b4 3 [vi y3], bx b5 24 [vi y4.1, vi y4.2]]
  refine dn h e ?_
  refine d1 12 rfl ?_
  obtain ⟨r3, h3, hm⟩ := bnd hm
  refine b_call [] [] h Tryz.call71 rfl rfl (c_lift_SetLess (y0 := r1) (y1 := r2) (y2 := y4.2) (h.po [] []) ⟨(h.pf [] [] 1), (h.pf [] [] 0), trivial⟩ h3) fun v a w hp hc => ?_
  obtain ⟨rfl, q⟩ := hp
  have e := hc.st q [bx b1 31 [.slice p1 (List.length y0.1) c1, .slice p2 (List.length y0.2.1) c2, .slice p3 (List.length y0.2.2) c3], bx b2 32 [.slice p4 (List.length y1) c4], bx b3 3 [vi y2], bx b4 3 [vi y3], bx b5 24 [vi y4.1, vi y4.2]]
  have h := hc.on q [bx b1 31 [.slice p1 (List.length y0.1) c1, .slice p2 (List.length y0.2.1) c2, .slice p3 (List.length y0.2.2) c3], bx b2 32 [.slice p4 (List.length y1) c4], bx b3 3 [vi y2], bx b4 3 [vi y3], bx b5 24 [vi y4.1, vi y4.2]]
  refine dn h e ?_
  refine dp 13 (vb r3) h rfl fun a h => ?_
  refine de (then_n ?_)
  refine wp_ret ?_
  obtain rfl := Option.some.inj hm
  exact rt1 h rfl rfl ⟨rfl, bk_sel h [0, 1, 2, 3, 4] trivial⟩

theorem c_lift_Less_2__lift_LastRanks {A : List Nat} {w0 : World} {y0 : T_Base} {b1 : Nat} {p1 : Option Addr} {c1 : Nat} {p2 : Option Addr} {c2 : Nat} {p3 : Option Addr} {c3 : Nat} {y1 : List T_Argument} {b2 : Nat} {p4 : Option Addr} {c4 : Nat} {y2 : Int} {b3 : Nat} {y3 : Int} {b4 : Nat} {r : Bool} (hO : Own A w0 [bx b1 31 [.slice p1 (List.length y0.1) c1, .slice p2 (List.length y0.2.1) c2, .slice p3 (List.length y0.2.2) c3], bx b2 32 [.slice p4 (List.length y1) c4], bx b3 3 [vi y2], bx b4 3 [vi y3]]) (hF : All [R e_Premise p1 c1 (List.length y0.1) y0.1, R e_Rule p2 c2 (List.length y0.2.1) y0.2.1, R e_Promotion p3 c3 (List.length y0.2.2) y0.2.2, R e_Argument p4 c4 (List.length y1) y1] (bl [bx b1 31 [.slice p1 (List.length y0.1) c1, .slice p2 (List.length y0.2.1) c2, .slice p3 (List.length y0.2.2) c3], bx b2 32 [.slice p4 (List.length y1) c4], bx b3 3 [vi y2], bx b4 3 [vi y3]] ++ A) w0) (hm : m_lift_Less_2__lift_LastRanks y0 y1 y2 y3 = some r) :
    Calls Tryz.prog 72 [.func (.func 74) #[] #[], .pointer (some ⟨b1, 0, none⟩), .pointer (some ⟨b2, 0, none⟩), .pointer (some ⟨b3, 0, none⟩), .pointer (some ⟨b4, 0, none⟩)].toArray w0 (Ret fun v w => v = vb r ∧ Bk A [bx b1 31 [.slice p1 (List.length y0.1) c1, .slice p2 (List.length y0.2.1) c2, .slice p3 (List.length y0.2.2) c3], bx b2 32 [.slice p4 (List.length y1) c4], bx b3 3 [vi y2], bx b4 3 [vi y3]] w0 [bx b1 31 [.slice p1 (List.length y0.1) c1, .slice p2 (List.length y0.2.1) c2, .slice p3 (List.length y0.2.2) c3], bx b2 32 [.slice p4 (List.length y1) c4], bx b3 3 [vi y2], bx b4 3 [vi y3]] [] w) := by
  unfold m_lift_Less_2__lift_LastRanks at hm
  refine ent Tryz.func72 rfl hO hF fun a h => ?_
  refine sp [] h fun a h => ?_
  obtain ⟨s1, hx, hm⟩ := bnd hm
  refine seq_j (fun a w => SS A [bx b1 31 [.slice p1 (List.length y0.1) c1, .slice p2 (List.length y0.2.1) c2, .slice p3 (List.length y0.2.2) c3], bx b2 32 [.slice p4 (List.length y1) c4], bx b3 3 [vi y2], bx b4 3 [vi y3]] w0 23 [(6, vb s1)] [bx b1 31 [.slice p1 (List.length y0.1) c1, .slice p2 (List.length y0.2.1) c2, .slice p3 (List.length y0.2.2) c3], bx b2 32 [.slice p4 (List.length y1) c4], bx b3 3 [vi y2], bx b4 3 [vi y3]] [R e_Premise p1 c1 (List.length y0.1) y0.1, R e_Rule p2 c2 (List.length y0.2.1) y0.2.1, R e_Promotion p3 c3 (List.length y0.2.2) y0.2.2, R e_Argument p4 c4 (List.length y1) y1] a w) ?_ ?_
  · replace hm := hx
    refine reg ?_
    refine pr 1 [(7, .func (.func 74) #[] #[])] h fun a h => ?_
    refine sl (b_load_own 0 (.agg #[.slice p1 (List.length y0.1) c1, .slice p2 (List.length y0.2.1) c2, .slice p3 (List.length y0.2.2) c3]) h rfl rfl fun a h => ?_)
    refine sl (b_load_own 1 (.slice p4 (List.length y1) c4) h rfl rfl fun a h => ?_)
    refine sl (b_load_own 2 (vi y2) h rfl rfl fun a h => ?_)
    obtain ⟨r1, h1, hm⟩ := bnd hm
    refine sl (b_call [] [] h Tryz.call74 rfl rfl (c_lift_LastRanks (y0 := y0) (y1 := y1) (y2 := y2) (h.po [] []) ⟨(h.pf [] [] 0), (h.pf [] [] 1), (h.pf [] [] 2), (h.pf [] [] 3), trivial⟩ h1) fun v a w hp hc => ?_)
    obtain ⟨p5, c5, rfl, q⟩ := hp
    have h := hc.on q [bx b1 31 [.slice p1 (List.length y0.1) c1, .slice p2 (List.length y0.2.1) c2, .slice p3 (List.length y0.2.2) c3], bx b2 32 [.slice p4 (List.length y1) c4], bx b3 3 [vi y2], bx b4 3 [vi y3]]
    refine pr 3 [(14, vb ((len r1) == 0))] h fun a h => ?_
    rcases Bool.eq_false_or_eq_true ((len r1) == 0) with hb1 | hb1
    · have h := h.upd (t := 14) (vb true) rfl (congrArg Value.bool hb1)
      replace hm := ifT hb1 hm
      refine pr 1 [(15, .func (.func 74) #[] #[])] h fun a h => ?_
      refine sl (b_load_own 0 (.agg #[.slice p1 (List.length y0.1) c1, .slice p2 (List.length y0.2.1) c2, .slice p3 (List.length y0.2.2) c3]) h rfl rfl fun a h => ?_)
      refine sl (b_load_own 1 (.slice p4 (List.length y1) c4) h rfl rfl fun a h => ?_)
      refine sl (b_load_own 3 (vi y3) h rfl rfl fun a h => ?_)
      obtain ⟨r2, h2, hm⟩ := bnd hm
      refine sl (b_call [] [] h Tryz.call74 rfl rfl (c_lift_LastRanks (y0 := y0) (y1 := y1) (y2 := y3) (h.po [] []) ⟨(h.pf [] [] 1), (h.pf [] [] 2), (h.pf [] [] 3), (h.pf [] [] 4), trivial⟩ h2) fun v a w hp hc => ?_)
      obtain ⟨p6, c6, rfl, q⟩ := hp
      have h := hc.on q [bx b1 31 [.slice p1 (List.length y0.1) c1, .slice p2 (List.length y0.2.1) c2, .slice p3 (List.length y0.2.2) c3], bx b2 32 [.slice p4 (List.length y1) c4], bx b3 3 [vi y2], bx b4 3 [vi y3]]
      refine pr 4 [(6, vb ((len r2) == 0))] h fun a h => ?_
      refine ops_end ?_
      obtain rfl := Option.some.inj hm
      exact then_n (h.to 4 ⟨(h.g 2), (h.g 3), (h.g 4), (h.g 5), trivial⟩)
    · have h := h.upd (t := 14) (vb false) rfl (congrArg Value.bool hb1)
      replace hm := ifF hb1 hm
      refine pr 9 [(6, vb false)] h fun a h => ?_
      refine ops_end ?_
      obtain rfl := Option.some.inj hm
      exact then_n (h.to 4 ⟨(h.g 1), (h.g 2), (h.g 3), (h.g 4), trivial⟩)
  intro a w hJ
  have h := hJ
  refine wp_ret ?_
  obtain rfl := Option.some.inj hm
  exact rt1 h rfl rfl ⟨rfl, bk_sel h [0, 1, 2, 3] trivial⟩

theorem c_lift_Less_3__lift_Less_1 {A : List Nat} {w0 : World} {b1 : Nat} {y1 : T_Base} {b2 : Nat} {p1 : Option Addr} {c1 : Nat} {p2 : Option Addr} {c2 : Nat} {p3 : Option Addr} {c3 : Nat} {y2 : List T_Argument} {b3 : Nat} {p4 : Option Addr} {c4 : Nat} {y3 : Int} {b4 : Nat} {y4 : Int} {b5 : Nat} {y5 : T_Ordering} {b6 : Nat} {b7 : Nat} {r : Bool} (hO : Own A w0 [bx b1 115 [.func (.func 70) #[] #[.pointer (some ⟨b2, 0, none⟩), .pointer (some ⟨b3, 0, none⟩), .pointer (some ⟨b4, 0, none⟩), .pointer (some ⟨b5, 0, none⟩), .pointer (some ⟨b6, 0, none⟩)]], bx b2 31 [.slice p1 (List.length y1.1) c1, .slice p2 (List.length y1.2.1) c2, .slice p3 (List.length y1.2.2) c3], bx b3 32 [.slice p4 (List.length y2) c4], bx b4 3 [vi y3], bx b5 3 [vi y4], bx b6 24 [vi y5.1, vi y5.2], bx b7 115 [.func (.func 72) #[] #[.pointer (some ⟨b2, 0, none⟩), .pointer (some ⟨b3, 0, none⟩), .pointer (some ⟨b4, 0, none⟩), .pointer (some ⟨b5, 0, none⟩)]]]) (hF : All [R e_Premise p1 c1 (List.length y1.1) y1.1, R e_Rule p2 c2 (List.length y1.2.1) y1.2.1, R e_Promotion p3 c3 (List.length y1.2.2) y1.2.2, R e_Argument p4 c4 (List.length y2) y2] (bl [bx b1 115 [.func (.func 70) #[] #[.pointer (some ⟨b2, 0, none⟩), .pointer (some ⟨b3, 0, none⟩), .pointer (some ⟨b4, 0, none⟩), .pointer (some ⟨b5, 0, none⟩), .pointer (some ⟨b6, 0, none⟩)]], bx b2 31 [.slice p1 (List.length y1.1) c1, .slice p2 (List.length y1.2.1) c2, .slice p3 (List.length y1.2.2) c3], bx b3 32 [.slice p4 (List.length y2) c4], bx b4 3 [vi y3], bx b5 3 [vi y4], bx b6 24 [vi y5.1, vi y5.2], bx b7 115 [.func (.func 72) #[] #[.pointer (some ⟨b2, 0, none⟩), .pointer (some ⟨b3, 0, none⟩), .pointer (some ⟨b4, 0, none⟩), .pointer (some ⟨b5, 0, none⟩)]]] ++ A) w0) (hm : m_lift_Less_3__lift_Less_1 y1 y2 y3 y4 y5 = some r) :
    Calls Tryz.prog 73 [.pointer (some ⟨b1, 0, none⟩), .pointer (some ⟨b7, 0, none⟩)].toArray w0 (Ret fun v w => v = vb r ∧ Bk A [bx b1 115 [.func (.func 70) #[] #[.pointer (some ⟨b2, 0, none⟩), .pointer (some ⟨b3, 0, none⟩), .pointer (some ⟨b4, 0, none⟩), .pointer (some ⟨b5, 0, none⟩), .pointer (some ⟨b6, 0, none⟩)]], bx b2 31 [.slice p1 (List.length y1.1) c1, .slice p2 (List.length y1.2.1) c2, .slice p3 (List.length y1.2.2) c3], bx b3 32 [.slice p4 (List.length y2) c4], bx b4 3 [vi y3], bx b5 3 [vi y4], bx b6 24 [vi y5.1, vi y5.2], bx b7 115 [.func (.func 72) #[] #[.pointer (some ⟨b2, 0, none⟩), .pointer (some ⟨b3, 0, none⟩), .pointer (some ⟨b4, 0, none⟩), .pointer (some ⟨b5, 0, none⟩)]]] w0 [bx b1 115 [.func (.func 70) #[] #[.pointer (some ⟨b2, 0, none⟩), .pointer (some ⟨b3, 0, none⟩), .pointer (some ⟨b4, 0, none⟩), .pointer (some ⟨b5, 0, none⟩), .pointer (some ⟨b6, 0, none⟩)]], bx b2 31 [.slice p1 (List.length y1.1) c1, .slice p2 (List.length y1.2.1) c2, .slice p3 (List.length y1.2.2) c3], bx b3 32 [.slice p4 (List.length y2) c4], bx b4 3 [vi y3], bx b5 3 [vi y4], bx b6 24 [vi y5.1, vi y5.2], bx b7 115 [.func (.func 72) #[] #[.pointer (some ⟨b2, 0, none⟩), .pointer (some ⟨b3, 0, none⟩), .pointer (some ⟨b4, 0, none⟩), .pointer (some ⟨b5, 0, none⟩)]]] [] w) := by
  unfold m_lift_Less_3__lift_Less_1 at hm
  refine ent Tryz.func73 rfl hO hF fun a h => ?_
  refine sp [] h fun a h => ?_
  obtain ⟨s1, hx, hm⟩ := bnd hm
  refine seq_j (fun a w => SS A [bx b1 115 [.func (.func 70) #[] #[.pointer (some ⟨b2, 0, none⟩), .pointer (some ⟨b3, 0, none⟩), .pointer (some ⟨b4, 0, none⟩), .pointer (some ⟨b5, 0, none⟩), .pointer (some ⟨b6, 0, none⟩)]], bx b2 31 [.slice p1 (List.length y1.1) c1, .slice p2 (List.length y1.2.1) c2, .slice p3 (List.length y1.2.2) c3], bx b3 32 [.slice p4 (List.length y2) c4], bx b4 3 [vi y3], bx b5 3 [vi y4], bx b6 24 [vi y5.1, vi y5.2], bx b7 115 [.func (.func 72) #[] #[.pointer (some ⟨b2, 0, none⟩), .pointer (some ⟨b3, 0, none⟩), .pointer (some ⟨b4, 0, none⟩), .pointer (some ⟨b5, 0, none⟩)]]] w0 13 [(2, vb s1)] [bx b1 115 [.func (.func 70) #[] #[.pointer (some ⟨b2, 0, none⟩), .pointer (some ⟨b3, 0, none⟩), .pointer (some ⟨b4, 0, none⟩), .pointer (some ⟨b5, 0, none⟩), .pointer (some ⟨b6, 0, none⟩)]], bx b2 31 [.slice p1 (List.length y1.1) c1, .slice p2 (List.length y1.2.1) c2, .slice p3 (List.length y1.2.2) c3], bx b3 32 [.slice p4 (List.length y2) c4], bx b4 3 [vi y3], bx b5 3 [vi y4], bx b6 24 [vi y5.1, vi y5.2], bx b7 115 [.func (.func 72) #[] #[.pointer (some ⟨b2, 0, none⟩), .pointer (some ⟨b3, 0, none⟩), .pointer (some ⟨b4, 0, none⟩), .pointer (some ⟨b5, 0, none⟩)]]] [R e_Premise p1 c1 (List.length y1.1) y1.1, R e_Rule p2 c2 (List.length y1.2.1) y1.2.1, R e_Promotion p3 c3 (List.length y1.2.2) y1.2.2, R e_Argument p4 c4 (List.length y2) y2] a w) ?_ ?_
  · replace hm := hx
    refine reg ?_
    refine sl (b_load_own 0 (.func (.func 70) #[] #[.pointer (some ⟨b2, 0, none⟩), .pointer (some ⟨b3, 0, none⟩), .pointer (some ⟨b4, 0, none⟩), .pointer (some ⟨b5, 0, none⟩), .pointer (some ⟨b6, 0, none⟩)]) h rfl rfl fun a h => ?_)
    obtain ⟨r1, h1, hm⟩ := bnd hm
    refine sl (b_call [1, 2, 3, 4, 5] [] h Tryz.call70 rfl rfl (c_lift_Less_1__lift_LastRanks (y0 := y1) (y1 := y2) (y2 := y3) (y3 := y4) (y4 := y5) (h.po [1, 2, 3, 4, 5] []) ⟨(h.pf [1, 2, 3, 4, 5] [] 0), (h.pf [1, 2, 3, 4, 5] [] 1), (h.pf [1, 2, 3, 4, 5] [] 2), (h.pf [1, 2, 3, 4, 5] [] 3), trivial⟩ h1) fun v a w hp hc => ?_)
    obtain ⟨rfl, q⟩ := hp
    have h := hc.on q [bx b1 115 [.func (.func 70) #[] #[.pointer (some ⟨b2, 0, none⟩), .pointer (some ⟨b3, 0, none⟩), .pointer (some ⟨b4, 0, none⟩), .pointer (some ⟨b5, 0, none⟩), .pointer (some ⟨b6, 0, none⟩)]], bx b2 31 [.slice p1 (List.length y1.1) c1, .slice p2 (List.length y1.2.1) c2, .slice p3 (List.length y1.2.2) c3], bx b3 32 [.slice p4 (List.length y2) c4], bx b4 3 [vi y3], bx b5 3 [vi y4], bx b6 24 [vi y5.1, vi y5.2], bx b7 115 [.func (.func 72) #[] #[.pointer (some ⟨b2, 0, none⟩), .pointer (some ⟨b3, 0, none⟩), .pointer (some ⟨b4, 0, none⟩), .pointer (some ⟨b5, 0, none⟩)]]]
    refine pr 1 [(5, vb r1)] h fun a h => ?_
    rcases Bool.eq_false_or_eq_true r1 with hb1 | hb1
    · have h := h.upd (t := 5) (vb true) rfl (congrArg Value.bool hb1)
      replace hm := ifT hb1 hm
      refine pr 8 [(2, vb true)] h fun a h => ?_
      refine ops_end ?_
      obtain rfl := Option.some.inj hm
      exact then_n (h.to 7 ⟨(h.g 0), (h.g 1), (h.g 2), (h.g 3), trivial⟩)
    · have h := h.upd (t := 5) (vb false) rfl (congrArg Value.bool hb1)
      replace hm := ifF hb1 hm
      refine sl (b_load_own 6 (.func (.func 72) #[] #[.pointer (some ⟨b2, 0, none⟩), .pointer (some ⟨b3, 0, none⟩), .pointer (some ⟨b4, 0, none⟩), .pointer (some ⟨b5, 0, none⟩)]) h rfl rfl fun a h => ?_)
      obtain ⟨r2, h2, hm⟩ := bnd hm
      refine sl (b_call [1, 2, 3, 4] [] h Tryz.call72 rfl rfl (c_lift_Less_2__lift_LastRanks (y0 := y1) (y1 := y2) (y2 := y3) (y3 := y4) (h.po [1, 2, 3, 4] []) ⟨(h.pf [1, 2, 3, 4] [] 0), (h.pf [1, 2, 3, 4] [] 1), (h.pf [1, 2, 3, 4] [] 2), (h.pf [1, 2, 3, 4] [] 3), trivial⟩ h2) fun v a w hp hc => ?_)
      obtain ⟨rfl, q⟩ := hp
      have h := hc.on q [bx b1 115 [.func (.func 70) #[] #[.pointer (some ⟨b2, 0, none⟩), .pointer (some ⟨b3, 0, none⟩), .pointer (some ⟨b4, 0, none⟩), .pointer (some ⟨b5, 0, none⟩), .pointer (some ⟨b6, 0, none⟩)]], bx b2 31 [.slice p1 (List.length y1.1) c1, .slice p2 (List.length y1.2.1) c2, .slice p3 (List.length y1.2.2) c3], bx b3 32 [.slice p4 (List.length y2) c4], bx b4 3 [vi y3], bx b5 3 [vi y4], bx b6 24 [vi y5.1, vi y5.2], bx b7 115 [.func (.func 72) #[] #[.pointer (some ⟨b2, 0, none⟩), .pointer (some ⟨b3, 0, none⟩), .pointer (some ⟨b4, 0, none⟩), .pointer (some ⟨b5, 0, none⟩)]]]
      refine pr 1 [(8, vb r2)] h fun a h => ?_
      rcases Bool.eq_false_or_eq_true r2 with hb2 | hb2
      · have h := h.upd (t := 8) (vb true) rfl (congrArg Value.bool hb2)
        replace hm := ifT hb2 hm
        refine sl (b_load_own 0 (.func (.func 70) #[] #[.pointer (some ⟨b2, 0, none⟩), .pointer (some ⟨b3, 0, none⟩), .pointer (some ⟨b4, 0, none⟩), .pointer (some ⟨b5, 0, none⟩), .pointer (some ⟨b6, 0, none⟩)]) h rfl rfl fun a h => ?_)
        obtain ⟨r3, h3, hm⟩ := bnd hm
        refine sl (b_call [1, 2, 3, 4, 5] [] h Tryz.call70 rfl rfl (c_lift_Less_1__lift_PremiseRanks (y0 := y1) (y1 := y2) (y2 := y3) (y3 := y4) (y4 := y5) (h.po [1, 2, 3, 4, 5] []) ⟨(h.pf [1, 2, 3, 4, 5] [] 0), (h.pf [1, 2, 3, 4, 5] [] 1), (h.pf [1, 2, 3, 4, 5] [] 2), (h.pf [1, 2, 3, 4, 5] [] 3), trivial⟩ h3) fun v a w hp hc => ?_)
        obtain ⟨rfl, q⟩ := hp
        have h := hc.on q [bx b1 115 [.func (.func 70) #[] #[.pointer (some ⟨b2, 0, none⟩), .pointer (some ⟨b3, 0, none⟩), .pointer (some ⟨b4, 0, none⟩), .pointer (some ⟨b5, 0, none⟩), .pointer (some ⟨b6, 0, none⟩)]], bx b2 31 [.slice p1 (List.length y1.1) c1, .slice p2 (List.length y1.2.1) c2, .slice p3 (List.length y1.2.2) c3], bx b3 32 [.slice p4 (List.length y2) c4], bx b4 3 [vi y3], bx b5 3 [vi y4], bx b6 24 [vi y5.1, vi y5.2], bx b7 115 [.func (.func 72) #[] #[.pointer (some ⟨b2, 0, none⟩), .pointer (some ⟨b3, 0, none⟩), .pointer (some ⟨b4, 0, none⟩), .pointer (some ⟨b5, 0, none⟩)]]]
        refine pr 3 [(2, vb r3)] h fun a h => ?_
        refine ops_end ?_
        obtain rfl := Option.some.inj hm
        exact then_n (h.to 7 ⟨(h.g 0), (h.g 1), (h.g 2), (h.g 3), trivial⟩)
      · have h := h.upd (t := 8) (vb false) rfl (congrArg Value.bool hb2)
        replace hm := ifF hb2 hm
        refine pr 5 [(2, vb false)] h fun a h => ?_
        refine ops_end ?_
        obtain rfl := Option.some.inj hm
        exact then_n (h.to 7 ⟨(h.g 0), (h.g 1), (h.g 2), (h.g 3), trivial⟩)
  intro a w hJ
  have h := hJ
  refine wp_ret ?_
  obtain rfl := Option.some.inj hm
  exact rt1 h rfl rfl ⟨rfl, bk_sel h [0, 1, 2, 3, 4, 5, 6] trivial⟩

theorem c_argument_Defeasible {A : List Nat} {w0 : World} {y0 : T_Base} {p1 : Option Addr} {c1 : Nat} {p2 : Option Addr} {c2 : Nat} {p3 : Option Addr} {c3 : Nat} {y1 : List T_Argument} {p4 : Option Addr} {c4 : Nat} {y2 : Int} {r : (List Int)} (hO : Own A w0 []) (hF : All [R e_Premise p1 c1 (List.length y0.1) y0.1, R e_Rule p2 c2 (List.length y0.2.1) y0.2.1, R e_Promotion p3 c3 (List.length y0.2.2) y0.2.2, R e_Argument p4 c4 (List.length y1) y1] (bl [] ++ A) w0) (hm : m_argument_Defeasible y0 y1 y2 = some r) :
    Calls Tryz.prog 109 [.agg #[.slice p1 (List.length y0.1) c1, .slice p2 (List.length y0.2.1) c2, .slice p3 (List.length y0.2.2) c3], .slice p4 (List.length y1) c4, vi y2].toArray w0 (Ret fun v w => ∃ (p5 : Option Addr) (c5 : Nat), v = .slice p5 (List.length r) c5 ∧ Bk A [] w0 [] [R (eInt .i64) p5 c5 (List.length r) r] w) := by
  unfold m_argument_Defeasible at hm
  refine ent Tryz.func109 rfl hO hF fun a h => ?_
  refine sr ?_
  refine sl (b_box h rfl fun b1 a w h e => ?_)
  refine pr 1 [] h fun a h => ?_
  refine oe ?_
  refine sr ?_
  refine pr 1 [(7, .slice none 0 0)] h fun a h => ?_
  have h := h.room (eInt .i64) 3
  refine oe ?_
  obtain ⟨s1, hx, hm⟩ := bnd hm
  refine seq_j (fun a w => ∃ (p5 : Option Addr) (c5 : Nat) (r_1 : Res), SS A [] w0 44 [(7, .slice p5 (List.length s1) c5)] [[], r_1] [Ar (eInt .i64) 3 r_1 p5 c5 (List.length s1) s1] a w) ?_ ?_
  · have hm2 := hm
    replace hm := hx
    refine sr ?_
    refine pr 2 [(12, vi y2), (11, .slice p4 (List.length y1) c4)] h fun a h => ?_
    obtain ⟨r1, h1, hm⟩ := bnd hm
    refine sl (b_call [] [] h Tryz.call32 rfl rfl (c_argument_Subs (y0 := y1) (y1 := y2) (h.po [] []) ⟨(h.pf [] [] 4), trivial⟩ h1) fun v a w hp hc => ?_)
    obtain ⟨p6, c6, rfl, q⟩ := hp
    have h := hc.on q [bx b1 31 [.slice p1 (List.length y0.1) c1, .slice p2 (List.length y0.2.1) c2, .slice p3 (List.length y0.2.2) c3], []]
    refine pr 2 [(15, vi 0), (14, vi (len r1))] h fun a h => ?_
    refine oe ?_
    refine wp_block ?_
    refine loop_m (B := (m_argument_Defeasible_L1 r1 y1 y0)) (fun (s2 : (List Int) × Int) a w => ∃ (p7 : Option Addr) (c7 : Nat) (r_2 : Res), SS A [] w0 44 [(1, .slice p4 (List.length y1) c4), (3, .pointer (some ⟨b1, 0, none⟩)), (7, .slice p7 (List.length s2.1) c7), (13, .slice p6 (List.length r1) c6), (14, vi (len r1)), (15, vi s2.2)] [bx b1 31 [.slice p1 (List.length y0.1) c1, .slice p2 (List.length y0.2.1) c2, .slice p3 (List.length y0.2.2) c3], r_2] [Ar (eInt .i64) 3 r_2 p7 c7 (List.length s2.1) s2.1, R e_Argument p4 c4 (List.length y1) y1, R (eInt .i64) p6 c6 (List.length r1) r1, R e_Premise p1 c1 (List.length y0.1) y0.1, R e_Rule p2 c2 (List.length y0.2.1) y0.2.1, R e_Promotion p3 c3 (List.length y0.2.2) y0.2.2] a w) hm ⟨none, 0, [], h.to 2 ⟨(h.g 1), (h.g 5), (h.g 0), (h.g 2), (h.g 3), (h.g 4), trivial⟩⟩ ?_
    intro s2 a w o1 hJ hm hr1
    obtain ⟨p7, c7, r_2, h⟩ := hJ
    unfold m_argument_Defeasible_L1 at hm
    refine sp [(16, vb (decide (s2.2 < (len r1))))] h fun a h => ?_
    refine wp_seq ?_
    refine cb h rfl (fun hb1 => ?_) (fun hb1 => ?_)
    · replace hm := ifT hb1 hm
      refine wp_skip ?_
      refine then_n ?_
      refine wp_seq ?_
      refine wp_block ?_
      refine sr ?_
      obtain ⟨x1, h2, hm⟩ := bnd hm
      refine sl (b_index_rd h (h.g 2) rfl rfl h2 fun b2 o2 a h => ?_)
      refine sl (b_load_pt false h (h.g 0) rfl fun ci1 hc1 v1 hv1 a h => ?_)
      replace hc1 : E.rd (eInt .i64) _ _ ci1 x1 := hc1
      obtain rfl := hc1
      obtain rfl := Option.some.inj hv1
      refine pr 1 [(9, vi x1)] h fun a h => ?_
      refine oe ?_
      refine sr ?_
      refine pr 2 [(20, vi x1), (19, .slice p4 (List.length y1) c4)] h fun a h => ?_
      obtain ⟨x2, h3, hm⟩ := bnd hm
      refine sl (b_index_rd h (h.g 2) rfl rfl h3 fun b3 o3 a h => ?_)
      refine pr 1 [(22, .pointer (some ⟨b3, (o3 + 1), none⟩))] h fun a h => ?_
      refine sl (b_load_pt false h (PtTo.fst (PtTo.snd (h.g 0))) rfl fun ci2 hc2 v2 hv2 a h => ?_)
      replace hc2 : E.rd (eInt .i64) _ _ ci2 x2.2.1 := hc2
      obtain rfl := hc2
      obtain rfl := Option.some.inj hv2
      refine pr 1 [(10, vi x2.2.1)] h fun a h => ?_
      refine oe ?_
      obtain ⟨s3, hx, hm⟩ := bnd hm
      refine seq_j (fun a w => SS A [] w0 44 [(1, .slice p4 (List.length y1) c4), (3, .pointer (some ⟨b1, 0, none⟩)), (7, .slice p7 (List.length s2.1) c7), (10, vi x2.2.1), (13, .slice p6 (List.length r1) c6), (14, vi (len r1)), (15, vi s2.2), (34, vb s3)] [bx b1 31 [.slice p1 (List.length y0.1) c1, .slice p2 (List.length y0.2.1) c2, .slice p3 (List.length y0.2.2) c3], r_2] [R e_Argument p4 c4 (List.length y1) y1, Ar (eInt .i64) 3 r_2 p7 c7 (List.length s2.1) s2.1, R (eInt .i64) p6 c6 (List.length r1) r1, R e_Premise p1 c1 (List.length y0.1) y0.1, R e_Rule p2 c2 (List.length y0.2.1) y0.2.1, R e_Promotion p3 c3 (List.length y0.2.2) y0.2.2] a w) ?_ ?_
      · replace hm := hx
        refine reg ?_
        refine pr 3 [(26, vb (decide (0 ≤ x2.2.1)))] h fun a h => ?_
        rcases Bool.eq_false_or_eq_true (decide (0 ≤ x2.2.1)) with hb2 | hb2
        · have h := h.upd (t := 26) (vb true) rfl (congrArg Value.bool hb2)
          replace hm := ifT hb2 hm
          refine pr 1 [(27, .pointer (some ⟨b1, 1, none⟩))] h fun a h => ?_
          refine sl (b_load_own 0 (.slice p2 (List.length y0.2.1) c2) h rfl rfl fun a h => ?_)
          refine pr 1 [(29, vi x2.2.1)] h fun a h => ?_
          obtain ⟨x3, h4, hm⟩ := bnd hm
          refine sl (b_index_rd h (h.g 6) rfl rfl h4 fun b4 o4 a h => ?_)
          refine pr 1 [(31, .pointer (some ⟨b4, (o4 + 1), none⟩))] h fun a h => ?_
          refine sl (b_load_pt false h (PtTo.fst (PtTo.snd (h.g 0))) rfl fun ci3 hc3 v3 hv3 a h => ?_)
          replace hc3 : E.rd eBool _ _ ci3 x3.2.1 := hc3
          obtain rfl := hc3
          obtain rfl := Option.some.inj hv3
          refine pr 2 [(34, vb (!x3.2.1))] h fun a h => ?_
          refine ops_end ?_
          obtain rfl := Option.some.inj hm
          exact then_n (h.to 2 ⟨(h.g 4), (h.g 3), (h.g 5), (h.g 6), (h.g 7), (h.g 8), trivial⟩)
        · have h := h.upd (t := 26) (vb false) rfl (congrArg Value.bool hb2)
          replace hm := ifF hb2 hm
          refine pr 8 [(34, vb false)] h fun a h => ?_
          refine ops_end ?_
          obtain rfl := Option.some.inj hm
          exact then_n (h.to 2 ⟨(h.g 3), (h.g 2), (h.g 4), (h.g 5), (h.g 6), (h.g 7), trivial⟩)
      intro a w hJ
      have h := hJ
      refine cb h rfl (fun hb3 => ?_) (fun hb3 => ?_)
      · replace hm := ifT hb3 hm
        refine reg ?_
        refine pr 2 [(36, vi x2.2.1), (35, .slice p7 (List.length s2.1) c7)] h fun a h => ?_
        refine sl (b_bs_rd (te := 3) (e := eInt .i64) [vi x2.2.1] ([x2.2.1] : List Int) h ⟨_, _, rfl, eInt.mk, rfl⟩ fun p8 c8 a w h e => ?_)
        obtain ⟨x4, h5, hm⟩ := bnd hm
        refine sl (b_append_r (te := 3) 1 h (h.g 2) (h.g 0) rfl rfl h5 fun r_3 p9 c9 a w h e => ?_)
        refine pr 1 [(7, .slice p9 (List.length x4) c9)] h fun a h => ?_
        refine ops_end ?_
        refine inb_n ?_
        refine then_n ?_
        refine reg ?_
        refine pr 2 [(15, vi (w64 (s2.2 + 1)))] h fun a h => ?_
        refine ops_end ?_
        obtain rfl := Option.some.inj hm
        exact lp_n rfl ⟨p9, c9, r_3, h.to 2 ⟨(h.g 0), (h.g 2), (h.g 4), (h.g 5), (h.g 6), (h.g 7), trivial⟩⟩
      replace hm := ifF hb3 hm
      refine wp_skip ?_
      refine inb_n ?_
      refine then_n ?_
      refine reg ?_
      refine pr 2 [(15, vi (w64 (s2.2 + 1)))] h fun a h => ?_
      refine ops_end ?_
      obtain rfl := Option.some.inj hm
      exact lp_n rfl ⟨p7, c7, r_2, h.to 2 ⟨(h.g 1), (h.g 0), (h.g 2), (h.g 3), (h.g 4), (h.g 5), trivial⟩⟩
    replace hm := ifF hb1 hm
    refine wp_exit ?_
    refine then_e (lp_e (inb_hit ?_))
    replace hm := loopR hr1 hm
    obtain rfl := Option.some.inj hm
    exact then_n ⟨p7, c7, r_2, h.tos [900, 1] ⟨(h.g 0), trivial⟩⟩
  intro a w hJ
  obtain ⟨p5, c5, r_1, h⟩ := hJ
  refine sr ?_
  refine pr 1 [(40, .slice p5 (List.length s1) c5)] h fun a h => ?_
  obtain ⟨r2, h6, hm⟩ := bnd hm
  refine sl (b_call [1] [] h Tryz.call62 rfl rfl (c_slices_Sort_int (y0 := s1) (h.po [1] []) ⟨(h.pf [1] [] 0), trivial⟩ h6) fun v a w hp hc => ?_)
  obtain ⟨r_4, rfl, q⟩ := hp
  have h := hc.on q [[], r_4]
  refine oe ?_
  refine sr ?_
  refine pr 1 [(42, .slice p5 (List.length s1) c5)] h fun a h => ?_
  have h := h.upd (t := 42) (.slice p5 (List.length r2) c5) rfl (congrArg (fun q : Nat => Value.slice p5 q c5) (Ar.ln (h.g 0)))
  have h := h.add (Ar.re (h.g 0))
  obtain ⟨r3, h7, hm⟩ := bnd hm
  refine sl (b_call [1] [] h Tryz.call63 rfl rfl (c_slices_Compact_int (y0 := r2) (h.po [1] []) ⟨(h.pf [1] [] 0), trivial⟩ h7) fun v a w hp hc => ?_)
  obtain ⟨p10, c10, rfl, q⟩ := hp
  have h := hc.on q [[], []]
  refine pr 1 [(6, .slice p10 (List.length r3) c10)] h fun a h => ?_
  refine oe ?_
  refine wp_ret ?_
  obtain rfl := Option.some.inj hm
  exact rt1 h rfl rfl ⟨p10, c10, rfl, bk_sel h [] ⟨(h.g 0), trivial⟩⟩

theorem c_lift_RuleRanks {A : List Nat} {w0 : World} {y0 : T_Base} {p1 : Option Addr} {c1 : Nat} {p2 : Option Addr} {c2 : Nat} {p3 : Option Addr} {c3 : Nat} {y1 : List T_Argument} {p4 : Option Addr} {c4 : Nat} {y2 : Int} {r : (List Int)} (hO : Own A w0 []) (hF : All [R e_Premise p1 c1 (List.length y0.1) y0.1, R e_Rule p2 c2 (List.length y0.2.1) y0.2.1, R e_Promotion p3 c3 (List.length y0.2.2) y0.2.2, R e_Argument p4 c4 (List.length y1) y1] (bl [] ++ A) w0) (hm : m_lift_RuleRanks y0 y1 y2 = some r) :
    Calls Tryz.prog 77 [.agg #[.slice p1 (List.length y0.1) c1, .slice p2 (List.length y0.2.1) c2, .slice p3 (List.length y0.2.2) c3], .slice p4 (List.length y1) c4, vi y2].toArray w0 (Ret fun v w => ∃ (p5 : Option Addr) (c5 : Nat), v = .slice p5 (List.length r) c5 ∧ Bk A [] w0 [] [R (eInt .i64) p5 c5 (List.length r) r] w) := by
  unfold m_lift_RuleRanks at hm
  refine ent Tryz.func77 rfl hO hF fun a h => ?_
  refine sr ?_
  refine sl (b_box h rfl fun b1 a w h e => ?_)
  refine pr 1 [] h fun a h => ?_
  refine oe ?_
  refine ds [] [0] h fun w h => ?_
  refine dlo 0 0 (.agg #[.slice p1 (List.length y0.1) c1, .slice p2 (List.length y0.2.1) c2, .slice p3 (List.length y0.2.2) c3]) h rfl rfl rfl fun a h => ?_
  refine dlo 1 0 (.agg #[.slice p1 (List.length y0.1) c1, .slice p2 (List.length y0.2.1) c2, .slice p3 (List.length y0.2.2) c3]) h rfl rfl rfl fun a h => ?_
  refine dp 2 (.slice p4 (List.length y1) c4) h rfl fun a h => ?_
  refine dp 3 (vi y2) h rfl fun a h => ?_
  refine d1 4 rfl ?_
  obtain ⟨r1, h1, hm⟩ := bnd hm
  refine b_call [] [] h Tryz.call109 rfl rfl (c_argument_Defeasible (y0 := y0) (y1 := y1) (y2 := y2) (h.po [] []) ⟨(h.pf [] [] 0), (h.pf [] [] 1), (h.pf [] [] 2), (h.pf [] [] 3), trivial⟩ h1) fun v a w hp hc => ?_
  obtain ⟨p5, c5, rfl, q⟩ := hp
  have e := hc.st q [bx b1 31 [.slice p1 (List.length y0.1) c1, .slice p2 (List.length y0.2.1) c2, .slice p3 (List.length y0.2.2) c3]]
  have h := hc.on q [bx b1 31 [.slice p1 (List.length y0.1) c1, .slice p2 (List.length y0.2.1) c2, .slice p3 (List.length y0.2.2) c3]]
  refine dn h e ?_
  refine d1 5 rfl ?_
  obtain ⟨r2, h2, hm⟩ := bnd hm
  refine b_call [] [] h Tryz.call107 rfl rfl (c_lift_ranks (y0 := y0) (y1 := r1) (h.po [] []) ⟨(h.pf [] [] 1), (h.pf [] [] 2), (h.pf [] [] 3), (h.pf [] [] 0), trivial⟩ h2) fun v a w hp hc => ?_
  obtain ⟨p6, c6, rfl, q⟩ := hp
  have e := hc.st q [bx b1 31 [.slice p1 (List.length y0.1) c1, .slice p2 (List.length y0.2.1) c2, .slice p3 (List.length y0.2.2) c3]]
  have h := hc.on q [bx b1 31 [.slice p1 (List.length y0.1) c1, .slice p2 (List.length y0.2.1) c2, .slice p3 (List.length y0.2.2) c3]]
  refine dn h e ?_
  refine dp 6 (.slice p6 (List.length r2) c6) h rfl fun a h => ?_
  refine de (then_n ?_)
  refine wp_ret ?_
  obtain rfl := Option.some.inj hm
  exact rt1 h rfl rfl ⟨p6, c6, rfl, bk_sel h [] ⟨(h.g 0), trivial⟩⟩

theorem c_lift_Less_1__lift_RuleRanks {A : List Nat} {w0 : World} {y0 : T_Base} {b1 : Nat} {p1 : Option Addr} {c1 : Nat} {p2 : Option Addr} {c2 : Nat} {p3 : Option Addr} {c3 : Nat} {y1 : List T_Argument} {b2 : Nat} {p4 : Option Addr} {c4 : Nat} {y2 : Int} {b3 : Nat} {y3 : Int} {b4 : Nat} {y4 : T_Ordering} {b5 : Nat} {r : Bool} (hO : Own A w0 [bx b1 31 [.slice p1 (List.length y0.1) c1, .slice p2 (List.length y0.2.1) c2, .slice p3 (List.length y0.2.2) c3], bx b2 32 [.slice p4 (List.length y1) c4], bx b3 3 [vi y2], bx b4 3 [vi y3], bx b5 24 [vi y4.1, vi y4.2]]) (hF : All [R e_Premise p1 c1 (List.length y0.1) y0.1, R e_Rule p2 c2 (List.length y0.2.1) y0.2.1, R e_Promotion p3 c3 (List.length y0.2.2) y0.2.2, R e_Argument p4 c4 (List.length y1) y1] (bl [bx b1 31 [.slice p1 (List.length y0.1) c1, .slice p2 (List.length y0.2.1) c2, .slice p3 (List.length y0.2.2) c3], bx b2 32 [.slice p4 (List.length y1) c4], bx b3 3 [vi y2], bx b4 3 [vi y3], bx b5 24 [vi y4.1, vi y4.2]] ++ A) w0) (hm : m_lift_Less_1__lift_RuleRanks y0 y1 y2 y3 y4 = some r) :
    Calls Tryz.prog 70 [.func (.func 77) #[] #[], .pointer (some ⟨b1, 0, none⟩), .pointer (some ⟨b2, 0, none⟩), .pointer (some ⟨b3, 0, none⟩), .pointer (some ⟨b4, 0, none⟩), .pointer (some ⟨b5, 0, none⟩)].toArray w0 (Ret fun v w => v = vb r ∧ Bk A [bx b1 31 [.slice p1 (List.length y0.1) c1, .slice p2 (List.length y0.2.1) c2, .slice p3 (List.length y0.2.2) c3], bx b2 32 [.slice p4 (List.length y1) c4], bx b3 3 [vi y2], bx b4 3 [vi y3], bx b5 24 [vi y4.1, vi y4.2]] w0 [bx b1 31 [.slice p1 (List.length y0.1) c1, .slice p2 (List.length y0.2.1) c2, .slice p3 (List.length y0.2.2) c3], bx b2 32 [.slice p4 (List.length y1) c4], bx b3 3 [vi y2], bx b4 3 [vi y3], bx b5 24 [vi y4.1, vi y4.2]] [] w) := by
  unfold m_lift_Less_1__lift_RuleRanks at hm
  refine ent Tryz.func70 rfl hO hF fun a h => ?_
  refine sp [] h fun a h => ?_
  refine ds [] [0, 1, 2, 3, 4] h fun w h => ?_
  refine dp 0 (.func (.func 77) #[] #[]) h rfl fun a h => ?_
  refine dlo 1 0 (.agg #[.slice p1 (List.length y0.1) c1, .slice p2 (List.length y0.2.1) c2, .slice p3 (List.length y0.2.2) c3]) h rfl rfl rfl fun a h => ?_
  refine dlo 2 1 (.slice p4 (List.length y1) c4) h rfl rfl rfl fun a h => ?_
  refine dlo 3 2 (vi y2) h rfl rfl rfl fun a h => ?_
  refine dp 5 (.func (.func 77) #[] #[]) h rfl fun a h => ?_
  refine dlo 6 0 (.agg #[.slice p1 (List.length y0.1) c1, .slice p2 (List.length y0.2.1) c2, .slice p3 (List.length y0.2.2) c3]) h rfl rfl rfl fun a h => ?_
  refine dlo 7 1 (.slice p4 (List.length y1) c4) h rfl rfl rfl fun a h => ?_
  refine dlo 8 3 (vi y3) h rfl rfl rfl fun a h => ?_
  refine dp 10 (.pointer (some ⟨b5, 1, none⟩)) h rfl fun a h => ?_
  refine dlo 11 4 (vi y4.2) h rfl rfl rfl fun a h => ?_
  refine d1 4 rfl ?_
  obtain ⟨r1, h1, hm⟩ := bnd hm
  refine b_call [] [] h Tryz.call77 rfl rfl (c_lift_RuleRanks (y0 := y0) (y1 := y1) (y2 := y2) (h.po [] []) ⟨(h.pf [] [] 0), (h.pf [] [] 1), (h.pf [] [] 2), (h.pf [] [] 3), trivial⟩ h1) fun v a w hp hc => ?_
  obtain ⟨p5, c5, rfl, q⟩ := hp
  have e := hc.st q [bx b1 31 [.slice p1 (List.length y0.1) c1, .slice p2 (List.length y0.2.1) c2, .slice p3 (List.length y0.2.2) c3], bx b2 32 [.slice p4 (List.length y1) c4], bx b3 3 [vi y2], bx b4 3 [vi y3], bx b5 24 [vi y4.1, vi y4.2]]
  have h := hc.on q [bx b1 31 [.slice p1 (List.length y0.1) c1, .slice p2 (List.length y0.2.1) c2, .slice p3 (List.length y0.2.2) c3], bx b2 32 [.slice p4 (List.length y1) c4], bx b3 3 [vi y2], bx b4 3 [vi y3], bx b5 24 [vi y4.1, vi y4.2]]
  refine dn h e ?_
  refine d1 9 rfl ?_
  obtain ⟨r2, h2, hm⟩ := bnd hm
  refine b_call [] [] h Tryz.call77 rfl rfl (c_lift_RuleRanks (y0 := y0) (y1 := y1) (y2 := y3) (h.po [] []) ⟨(h.pf [] [] 1), (h.pf [] [] 2), (h.pf [] [] 3), (h.pf [] [] 4), trivial⟩ h2) fun v a w hp hc => ?_
  obtain ⟨p6, c6, rfl, q⟩ := hp
  have e := hc.st q [bx b1 31 [.slice p1 (List.length y0.1) c1, .slice p2 (List.length y0.2.1) c2, .slice p3 (List.length y0.2.2) c3], bx b2 32 [.slice p4 (List.length y1) c4], bx b3 3 [vi y2], bx b4 3 [vi y3], bx b5 24 [vi y4.1, vi y4.2]]
  have h := hc.on q [bx b1 31 [.slice p1 (List.length y0.1) c1, .slice p2 (List.length y0.2.1) c2, .slice p3 (List.length y0.2.2) c3], bx b2 32 [.slice p4 (List.length y1) c4], bx b3 3 [vi y2], bx b4 3 [vi y3], bx b5 24 [vi y4.1, vi y4.2]]
  refine dn h e ?_
  refine d1 12 rfl ?_
  obtain ⟨r3, h3, hm⟩ := bnd hm
  refine b_call [] [] h Tryz.call71 rfl rfl (c_lift_SetLess (y0 := r1) (y1 := r2) (y2 := y4.2) (h.po [] []) ⟨(h.pf [] [] 1), (h.pf [] [] 0), trivial⟩ h3) fun v a w hp hc => ?_
  obtain ⟨rfl, q⟩ := hp
  have e := hc.st q [bx b1 31 [.slice p1 (List.length y0.1) c1, .slice p2 (List.length y0.2.1) c2, .slice p3 (List.length y0.2.2) c3], bx b2 32 [.slice p4 (List.length y1) c4], bx b3 3 [vi y2], bx b4 3 [vi y3], bx b5 24 [vi y4.1, vi y4.2]]
  have h := hc.on q [bx b1 31 [.slice p1 (List.length y0.1) c1, .slice p2 (List.length y0.2.1) c2, .slice p3 (List.length y0.2.2) c3], bx b2 32 [.slice p4 (List.length y1) c4], bx b3 3 [vi y2], bx b4 3 [vi y3], bx b5 24 [vi y4.1, vi y4.2]]
  refine dn h e ?_
  refine dp 13 (vb r3) h rfl fun a h => ?_
  refine de (then_n ?_)
  refine wp_ret ?_
  obtain rfl := Option.some.inj hm
  exact rt1 h rfl rfl ⟨rfl, bk_sel h [0, 1, 2, 3, 4] trivial⟩

theorem c_lift_Less_2__lift_PremiseRanks {A : List Nat} {w0 : World} {y0 : T_Base} {b1 : Nat} {p1 : Option Addr} {c1 : Nat} {p2 : Option Addr} {c2 : Nat} {p3 : Option Addr} {c3 : Nat} {y1 : List T_Argument} {b2 : Nat} {p4 : Option Addr} {c4 : Nat} {y2 : Int} {b3 : Nat} {y3 : Int} {b4 : Nat} {r : Bool} (hO : Own A w0 [bx b1 31 [.slice p1 (List.length y0.1) c1, .slice p2 (List.length y0.2.1) c2, .slice p3 (List.length y0.2.2) c3], bx b2 32 [.slice p4 (List.length y1) c4], bx b3 3 [vi y2], bx b4 3 [vi y3]]) (hF : All [R e_Premise p1 c1 (List.length y0.1) y0.1, R e_Rule p2 c2 (List.length y0.2.1) y0.2.1, R e_Promotion p3 c3 (List.length y0.2.2) y0.2.2, R e_Argument p4 c4 (List.length y1) y1] (bl [bx b1 31 [.slice p1 (List.length y0.1) c1, .slice p2 (List.length y0.2.1) c2, .slice p3 (List.length y0.2.2) c3], bx b2 32 [.slice p4 (List.length y1) c4], bx b3 3 [vi y2], bx b4 3 [vi y3]] ++ A) w0) (hm : m_lift_Less_2__lift_PremiseRanks y0 y1 y2 y3 = some r) :
    Calls Tryz.prog 72 [.func (.func 75) #[] #[], .pointer (some ⟨b1, 0, none⟩), .pointer (some ⟨b2, 0, none⟩), .pointer (some ⟨b3, 0, none⟩), .pointer (some ⟨b4, 0, none⟩)].toArray w0 (Ret fun v w => v = vb r ∧ Bk A [bx b1 31 [.slice p1 (List.length y0.1) c1, .slice p2 (List.length y0.2.1) c2, .slice p3 (List.length y0.2.2) c3], bx b2 32 [.slice p4 (List.length y1) c4], bx b3 3 [vi y2], bx b4 3 [vi y3]] w0 [bx b1 31 [.slice p1 (List.length y0.1) c1, .slice p2 (List.length y0.2.1) c2, .slice p3 (List.length y0.2.2) c3], bx b2 32 [.slice p4 (List.length y1) c4], bx b3 3 [vi y2], bx b4 3 [vi y3]] [] w) := by
  unfold m_lift_Less_2__lift_PremiseRanks at hm
  refine ent Tryz.func72 rfl hO hF fun a h => ?_
  refine sp [] h fun a h => ?_
  obtain ⟨s1, hx, hm⟩ := bnd hm
  refine seq_j (fun a w => SS A [bx b1 31 [.slice p1 (List.length y0.1) c1, .slice p2 (List.length y0.2.1) c2, .slice p3 (List.length y0.2.2) c3], bx b2 32 [.slice p4 (List.length y1) c4], bx b3 3 [vi y2], bx b4 3 [vi y3]] w0 23 [(6, vb s1)] [bx b1 31 [.slice p1 (List.length y0.1) c1, .slice p2 (List.length y0.2.1) c2, .slice p3 (List.length y0.2.2) c3], bx b2 32 [.slice p4 (List.length y1) c4], bx b3 3 [vi y2], bx b4 3 [vi y3]] [R e_Premise p1 c1 (List.length y0.1) y0.1, R e_Rule p2 c2 (List.length y0.2.1) y0.2.1, R e_Promotion p3 c3 (List.length y0.2.2) y0.2.2, R e_Argument p4 c4 (List.length y1) y1] a w) ?_ ?_
  · replace hm := hx
    refine reg ?_
    refine pr 1 [(7, .func (.func 75) #[] #[])] h fun a h => ?_
    refine sl (b_load_own 0 (.agg #[.slice p1 (List.length y0.1) c1, .slice p2 (List.length y0.2.1) c2, .slice p3 (List.length y0.2.2) c3]) h rfl rfl fun a h => ?_)
    refine sl (b_load_own 1 (.slice p4 (List.length y1) c4) h rfl rfl fun a h => ?_)
    refine sl (b_load_own 2 (vi y2) h rfl rfl fun a h => ?_)
    obtain ⟨r1, h1, hm⟩ := bnd hm
    refine sl (b_call [] [] h Tryz.call75 rfl rfl (c_lift_PremiseRanks (y0 := y0) (y1 := y1) (y2 := y2) (h.po [] []) ⟨(h.pf [] [] 0), (h.pf [] [] 1), (h.pf [] [] 2), (h.pf [] [] 3), trivial⟩ h1) fun v a w hp hc => ?_)
    obtain ⟨p5, c5, rfl, q⟩ := hp
    have h := hc.on q [bx b1 31 [.slice p1 (List.length y0.1) c1, .slice p2 (List.length y0.2.1) c2, .slice p3 (List.length y0.2.2) c3], bx b2 32 [.slice p4 (List.length y1) c4], bx b3 3 [vi y2], bx b4 3 [vi y3]]
    refine pr 3 [(14, vb ((len r1) == 0))] h fun a h => ?_
    rcases Bool.eq_false_or_eq_true ((len r1) == 0) with hb1 | hb1
    · have h := h.upd (t := 14) (vb true) rfl (congrArg Value.bool hb1)
      replace hm := ifT hb1 hm
      refine pr 1 [(15, .func (.func 75) #[] #[])] h fun a h => ?_
      refine sl (b_load_own 0 (.agg #[.slice p1 (List.length y0.1) c1, .slice p2 (List.length y0.2.1) c2, .slice p3 (List.length y0.2.2) c3]) h rfl rfl fun a h => ?_)
      refine sl (b_load_own 1 (.slice p4 (List.length y1) c4) h rfl rfl fun a h => ?_)
      refine sl (b_load_own 3 (vi y3) h rfl rfl fun a h => ?_)
      obtain ⟨r2, h2, hm⟩ := bnd hm
      refine sl (b_call [] [] h Tryz.call75 rfl rfl (c_lift_PremiseRanks (y0 := y0) (y1 := y1) (y2 := y3) (h.po [] []) ⟨(h.pf [] [] 1), (h.pf [] [] 2), (h.pf [] [] 3), (h.pf [] [] 4), trivial⟩ h2) fun v a w hp hc => ?_)
      obtain ⟨p6, c6, rfl, q⟩ := hp
      have h := hc.on q [bx b1 31 [.slice p1 (List.length y0.1) c1, .slice p2 (List.length y0.2.1) c2, .slice p3 (List.length y0.2.2) c3], bx b2 32 [.slice p4 (List.length y1) c4], bx b3 3 [vi y2], bx b4 3 [vi y3]]
      refine pr 4 [(6, vb ((len r2) == 0))] h fun a h => ?_
      refine ops_end ?_
      obtain rfl := Option.some.inj hm
      exact then_n (h.to 4 ⟨(h.g 2), (h.g 3), (h.g 4), (h.g 5), trivial⟩)
    · have h := h.upd (t := 14) (vb false) rfl (congrArg Value.bool hb1)
      replace hm := ifF hb1 hm
      refine pr 9 [(6, vb false)] h fun a h => ?_
      refine ops_end ?_
      obtain rfl := Option.some.inj hm
      exact then_n (h.to 4 ⟨(h.g 1), (h.g 2), (h.g 3), (h.g 4), trivial⟩)
  intro a w hJ
  have h := hJ
  refine wp_ret ?_
  obtain rfl := Option.some.inj hm
  exact rt1 h rfl rfl ⟨rfl, bk_sel h [0, 1, 2, 3] trivial⟩

theorem c_lift_Less_2__lift_RuleRanks {A : List Nat} {w0 : World} {y0 : T_Base} {b1 : Nat} {p1 : Option Addr} {c1 : Nat} {p2 : Option Addr} {c2 : Nat} {p3 : Option Addr} {c3 : Nat} {y1 : List T_Argument} {b2 : Nat} {p4 : Option Addr} {c4 : Nat} {y2 : Int} {b3 : Nat} {y3 : Int} {b4 : Nat} {r : Bool} (hO : Own A w0 [bx b1 31 [.slice p1 (List.length y0.1) c1, .slice p2 (List.length y0.2.1) c2, .slice p3 (List.length y0.2.2) c3], bx b2 32 [.slice p4 (List.length y1) c4], bx b3 3 [vi y2], bx b4 3 [vi y3]]) (hF : All [R e_Premise p1 c1 (List.length y0.1) y0.1, R e_Rule p2 c2 (List.length y0.2.1) y0.2.1, R e_Promotion p3 c3 (List.length y0.2.2) y0.2.2, R e_Argument p4 c4 (List.length y1) y1] (bl [bx b1 31 [.slice p1 (List.length y0.1) c1, .slice p2 (List.length y0.2.1) c2, .slice p3 (List.length y0.2.2) c3], bx b2 32 [.slice p4 (List.length y1) c4], bx b3 3 [vi y2], bx b4 3 [vi y3]] ++ A) w0) (hm : m_lift_Less_2__lift_RuleRanks y0 y1 y2 y3 = some r) :
    Calls Tryz.prog 72 [.func (.func 77) #[] #[], .pointer (some ⟨b1, 0, none⟩), .pointer (some ⟨b2, 0, none⟩), .pointer (some ⟨b3, 0, none⟩), .pointer (some ⟨b4, 0, none⟩)].toArray w0 (Ret fun v w => v = vb r ∧ Bk A [bx b1 31 [.slice p1 (List.length y0.1) c1, .slice p2 (List.length y0.2.1) c2, .slice p3 (List.length y0.2.2) c3], bx b2 32 [.slice p4 (List.length y1) c4], bx b3 3 [vi y2], bx b4 3 [vi y3]] w0 [bx b1 31 [.slice p1 (List.length y0.1) c1, .slice p2 (List.length y0.2.1) c2, .slice p3 (List.length y0.2.2) c3], bx b2 32 [.slice p4 (List.length y1) c4], bx b3 3 [vi y2], bx b4 3 [vi y3]] [] w) := by
  unfold m_lift_Less_2__lift_RuleRanks at hm
  refine ent Tryz.func72 rfl hO hF fun a h => ?_
  refine sp [] h fun a h => ?_
  obtain ⟨s1, hx, hm⟩ := bnd hm
  refine seq_j (fun a w => SS A [bx b1 31 [.slice p1 (List.length y0.1) c1, .slice p2 (List.length y0.2.1) c2, .slice p3 (List.length y0.2.2) c3], bx b2 32 [.slice p4 (List.length y1) c4], bx b3 3 [vi y2], bx b4 3 [vi y3]] w0 23 [(6, vb s1)] [bx b1 31 [.slice p1 (List.length y0.1) c1, .slice p2 (List.length y0.2.1) c2, .slice p3 (List.length y0.2.2) c3], bx b2 32 [.slice p4 (List.length y1) c4], bx b3 3 [vi y2], bx b4 3 [vi y3]] [R e_Premise p1 c1 (List.length y0.1) y0.1, R e_Rule p2 c2 (List.length y0.2.1) y0.2.1, R e_Promotion p3 c3 (List.length y0.2.2) y0.2.2, R e_Argument p4 c4 (List.length y1) y1] a w) ?_ ?_
  · replace hm := hx
    refine reg ?_
    refine pr 1 [(7, .func (.func 77) #[] #[])] h fun a h => ?_
    refine sl (b_load_own 0 (.agg #[.slice p1 (List.length y0.1) c1, .slice p2 (List.length y0.2.1) c2, .slice p3 (List.length y0.2.2) c3]) h rfl rfl fun a h => ?_)
    refine sl (b_load_own 1 (.slice p4 (List.length y1) c4) h rfl rfl fun a h => ?_)
    refine sl (b_load_own 2 (vi y2) h rfl rfl fun a h => ?_)
    obtain ⟨r1, h1, hm⟩ := bnd hm
    refine sl (b_call [] [] h Tryz.call77 rfl rfl (c_lift_RuleRanks (y0 := y0) (y1 := y1) (y2 := y2) (h.po [] []) ⟨(h.pf [] [] 0), (h.pf [] [] 1), (h.pf [] [] 2), (h.pf [] [] 3), trivial⟩ h1) fun v a w hp hc => ?_)
    obtain ⟨p5, c5, rfl, q⟩ := hp
    have h := hc.on q [bx b1 31 [.slice p1 (List.length y0.1) c1, .slice p2 (List.length y0.2.1) c2, .slice p3 (List.length y0.2.2) c3], bx b2 32 [.slice p4 (List.length y1) c4], bx b3 3 [vi y2], bx b4 3 [vi y3]]
    refine pr 3 [(14, vb ((len r1) == 0))] h fun a h => ?_
    rcases Bool.eq_false_or_eq_true ((len r1) == 0) with hb1 | hb1
    · have h := h.upd (t := 14) (vb true) rfl (congrArg Value.bool hb1)
      replace hm := ifT hb1 hm
      refine pr 1 [(15, .func (.func 77) #[] #[])] h fun a h => ?_
      refine sl (b_load_own 0 (.agg #[.slice p1 (List.length y0.1) c1, .slice p2 (List.length y0.2.1) c2, .slice p3 (List.length y0.2.2) c3]) h rfl rfl fun a h => ?_)
      refine sl (b_load_own 1 (.slice p4 (List.length y1) c4) h rfl rfl fun a h => ?_)
      refine sl (b_load_own 3 (vi y3) h rfl rfl fun a h => ?_)
      obtain ⟨r2, h2, hm⟩ := bnd hm
      refine sl (b_call [] [] h Tryz.call77 rfl rfl (c_lift_RuleRanks (y0 := y0) (y1 := y1) (y2 := y3) (h.po [] []) ⟨(h.pf [] [] 1), (h.pf [] [] 2), (h.pf [] [] 3), (h.pf [] [] 4), trivial⟩ h2) fun v a w hp hc => ?_)
      obtain ⟨p6, c6, rfl, q⟩ := hp
      have h := hc.on q [bx b1 31 [.slice p1 (List.length y0.1) c1, .slice p2 (List.length y0.2.1) c2, .slice p3 (List.length y0.2.2) c3], bx b2 32 [.slice p4 (List.length y1) c4], bx b3 3 [vi y2], bx b4 3 [vi y3]]
      refine pr 4 [(6, vb ((len r2) == 0))] h fun a h => ?_
      refine ops_end ?_
      obtain rfl := Option.some.inj hm
      exact then_n (h.to 4 ⟨(h.g 2), (h.g 3), (h.g 4), (h.g 5), trivial⟩)
    · have h := h.upd (t := 14) (vb false) rfl (congrArg Value.bool hb1)
      replace hm := ifF hb1 hm
      refine pr 9 [(6, vb false)] h fun a h => ?_
      refine ops_end ?_
      obtain rfl := Option.some.inj hm
      exact then_n (h.to 4 ⟨(h.g 1), (h.g 2), (h.g 3), (h.g 4), trivial⟩)
  intro a w hJ
  have h := hJ
  refine wp_ret ?_
  obtain rfl := Option.some.inj hm
  exact rt1 h rfl rfl ⟨rfl, bk_sel h [0, 1, 2, 3] trivial⟩

theorem c_lift_Less_4__lift_Less_2 {A : List Nat} {w0 : World} {b1 : Nat} {y1 : T_Base} {b2 : Nat} {p1 : Option Addr} {c1 : Nat} {p2 : Option Addr} {c2 : Nat} {p3 : Option Addr} {c3 : Nat} {y2 : List T_Argument} {b3 : Nat} {p4 : Option Addr} {c4 : Nat} {y3 : Int} {b4 : Nat} {y4 : Int} {b5 : Nat} {b6 : Nat} {y6 : T_Ordering} {b7 : Nat} {r : Bool} (hO : Own A w0 [bx b1 115 [.func (.func 72) #[] #[.pointer (some ⟨b2, 0, none⟩), .pointer (some ⟨b3, 0, none⟩), .pointer (some ⟨b4, 0, none⟩), .pointer (some ⟨b5, 0, none⟩)]], bx b2 31 [.slice p1 (List.length y1.1) c1, .slice p2 (List.length y1.2.1) c2, .slice p3 (List.length y1.2.2) c3], bx b3 32 [.slice p4 (List.length y2) c4], bx b4 3 [vi y3], bx b5 3 [vi y4], bx b6 115 [.func (.func 70) #[] #[.pointer (some ⟨b2, 0, none⟩), .pointer (some ⟨b3, 0, none⟩), .pointer (some ⟨b4, 0, none⟩), .pointer (some ⟨b5, 0, none⟩), .pointer (some ⟨b7, 0, none⟩)]], bx b7 24 [vi y6.1, vi y6.2]]) (hF : All [R e_Premise p1 c1 (List.length y1.1) y1.1, R e_Rule p2 c2 (List.length y1.2.1) y1.2.1, R e_Promotion p3 c3 (List.length y1.2.2) y1.2.2, R e_Argument p4 c4 (List.length y2) y2] (bl [bx b1 115 [.func (.func 72) #[] #[.pointer (some ⟨b2, 0, none⟩), .pointer (some ⟨b3, 0, none⟩), .pointer (some ⟨b4, 0, none⟩), .pointer (some ⟨b5, 0, none⟩)]], bx b2 31 [.slice p1 (List.length y1.1) c1, .slice p2 (List.length y1.2.1) c2, .slice p3 (List.length y1.2.2) c3], bx b3 32 [.slice p4 (List.length y2) c4], bx b4 3 [vi y3], bx b5 3 [vi y4], bx b6 115 [.func (.func 70) #[] #[.pointer (some ⟨b2, 0, none⟩), .pointer (some ⟨b3, 0, none⟩), .pointer (some ⟨b4, 0, none⟩), .pointer (some ⟨b5, 0, none⟩), .pointer (some ⟨b7, 0, none⟩)]], bx b7 24 [vi y6.1, vi y6.2]] ++ A) w0) (hm : m_lift_Less_4__lift_Less_2 y1 y2 y3 y4 y6 = some r) :
    Calls Tryz.prog 76 [.pointer (some ⟨b1, 0, none⟩), .pointer (some ⟨b6, 0, none⟩)].toArray w0 (Ret fun v w => v = vb r ∧ Bk A [bx b1 115 [.func (.func 72) #[] #[.pointer (some ⟨b2, 0, none⟩), .pointer (some ⟨b3, 0, none⟩), .pointer (some ⟨b4, 0, none⟩), .pointer (some ⟨b5, 0, none⟩)]], bx b2 31 [.slice p1 (List.length y1.1) c1, .slice p2 (List.length y1.2.1) c2, .slice p3 (List.length y1.2.2) c3], bx b3 32 [.slice p4 (List.length y2) c4], bx b4 3 [vi y3], bx b5 3 [vi y4], bx b6 115 [.func (.func 70) #[] #[.pointer (some ⟨b2, 0, none⟩), .pointer (some ⟨b3, 0, none⟩), .pointer (some ⟨b4, 0, none⟩), .pointer (some ⟨b5, 0, none⟩), .pointer (some ⟨b7, 0, none⟩)]], bx b7 24 [vi y6.1, vi y6.2]] w0 [bx b1 115 [.func (.func 72) #[] #[.pointer (some ⟨b2, 0, none⟩), .pointer (some ⟨b3, 0, none⟩), .pointer (some ⟨b4, 0, none⟩), .pointer (some ⟨b5, 0, none⟩)]], bx b2 31 [.slice p1 (List.length y1.1) c1, .slice p2 (List.length y1.2.1) c2, .slice p3 (List.length y1.2.2) c3], bx b3 32 [.slice p4 (List.length y2) c4], bx b4 3 [vi y3], bx b5 3 [vi y4], bx b6 115 [.func (.func 70) #[] #[.pointer (some ⟨b2, 0, none⟩), .pointer (some ⟨b3, 0, none⟩), .pointer (some ⟨b4, 0, none⟩), .pointer (some ⟨b5, 0, none⟩), .pointer (some ⟨b7, 0, none⟩)]], bx b7 24 [vi y6.1, vi y6.2]] [] w) := by
  unfold m_lift_Less_4__lift_Less_2 at hm
  refine ent Tryz.func76 rfl hO hF fun a h => ?_
  refine sp [] h fun a h => ?_
  refine wp_seq ?_
  refine wp_block ?_
  refine sr ?_
  refine sl (b_load_own 0 (.func (.func 72) #[] #[.pointer (some ⟨b2, 0, none⟩), .pointer (some ⟨b3, 0, none⟩), .pointer (some ⟨b4, 0, none⟩), .pointer (some ⟨b5, 0, none⟩)]) h rfl rfl fun a h => ?_)
  obtain ⟨r1, h1, hm⟩ := bnd hm
  refine sl (b_call [1, 2, 3, 4] [] h Tryz.call72 rfl rfl (c_lift_Less_2__lift_RuleRanks (y0 := y1) (y1 := y2) (y2 := y3) (y3 := y4) (h.po [1, 2, 3, 4] []) ⟨(h.pf [1, 2, 3, 4] [] 0), (h.pf [1, 2, 3, 4] [] 1), (h.pf [1, 2, 3, 4] [] 2), (h.pf [1, 2, 3, 4] [] 3), trivial⟩ h1) fun v a w hp hc => ?_)
  obtain ⟨rfl, q⟩ := hp
  have h := hc.on q [bx b1 115 [.func (.func 72) #[] #[.pointer (some ⟨b2, 0, none⟩), .pointer (some ⟨b3, 0, none⟩), .pointer (some ⟨b4, 0, none⟩), .pointer (some ⟨b5, 0, none⟩)]], bx b2 31 [.slice p1 (List.length y1.1) c1, .slice p2 (List.length y1.2.1) c2, .slice p3 (List.length y1.2.2) c3], bx b3 32 [.slice p4 (List.length y2) c4], bx b4 3 [vi y3], bx b5 3 [vi y4], bx b6 115 [.func (.func 70) #[] #[.pointer (some ⟨b2, 0, none⟩), .pointer (some ⟨b3, 0, none⟩), .pointer (some ⟨b4, 0, none⟩), .pointer (some ⟨b5, 0, none⟩), .pointer (some ⟨b7, 0, none⟩)]], bx b7 24 [vi y6.1, vi y6.2]]
  refine pr 1 [(3, vb r1)] h fun a h => ?_
  refine oe ?_
  refine cb h rfl (fun hb1 => ?_) (fun hb1 => ?_)
  · replace hm := ifT hb1 hm
    refine sr ?_
    refine sl (b_load_own 5 (.func (.func 70) #[] #[.pointer (some ⟨b2, 0, none⟩), .pointer (some ⟨b3, 0, none⟩), .pointer (some ⟨b4, 0, none⟩), .pointer (some ⟨b5, 0, none⟩), .pointer (some ⟨b7, 0, none⟩)]) h rfl rfl fun a h => ?_)
    obtain ⟨r2, h2, hm⟩ := bnd hm
    refine sl (b_call [1, 2, 3, 4, 6] [] h Tryz.call70 rfl rfl (c_lift_Less_1__lift_PremiseRanks (y0 := y1) (y1 := y2) (y2 := y3) (y3 := y4) (y4 := y6) (h.po [1, 2, 3, 4, 6] []) ⟨(h.pf [1, 2, 3, 4, 6] [] 0), (h.pf [1, 2, 3, 4, 6] [] 1), (h.pf [1, 2, 3, 4, 6] [] 2), (h.pf [1, 2, 3, 4, 6] [] 3), trivial⟩ h2) fun v a w hp hc => ?_)
    obtain ⟨rfl, q⟩ := hp
    have h := hc.on q [bx b1 115 [.func (.func 72) #[] #[.pointer (some ⟨b2, 0, none⟩), .pointer (some ⟨b3, 0, none⟩), .pointer (some ⟨b4, 0, none⟩), .pointer (some ⟨b5, 0, none⟩)]], bx b2 31 [.slice p1 (List.length y1.1) c1, .slice p2 (List.length y1.2.1) c2, .slice p3 (List.length y1.2.2) c3], bx b3 32 [.slice p4 (List.length y2) c4], bx b4 3 [vi y3], bx b5 3 [vi y4], bx b6 115 [.func (.func 70) #[] #[.pointer (some ⟨b2, 0, none⟩), .pointer (some ⟨b3, 0, none⟩), .pointer (some ⟨b4, 0, none⟩), .pointer (some ⟨b5, 0, none⟩), .pointer (some ⟨b7, 0, none⟩)]], bx b7 24 [vi y6.1, vi y6.2]]
    refine pr 1 [(2, vb r2)] h fun a h => ?_
    refine oe ?_
    refine wp_ret ?_
    refine inb_r (then_r ?_)
    obtain rfl := Option.some.inj hm
    exact rt1 h rfl rfl ⟨rfl, bk_sel h [0, 1, 2, 3, 4, 5, 6] trivial⟩
  replace hm := ifF hb1 hm
  refine sr ?_
  refine sl (b_load_own 0 (.func (.func 72) #[] #[.pointer (some ⟨b2, 0, none⟩), .pointer (some ⟨b3, 0, none⟩), .pointer (some ⟨b4, 0, none⟩), .pointer (some ⟨b5, 0, none⟩)]) h rfl rfl fun a h => ?_)
  obtain ⟨r3, h3, hm⟩ := bnd hm
  refine sl (b_call [1, 2, 3, 4] [] h Tryz.call72 rfl rfl (c_lift_Less_2__lift_PremiseRanks (y0 := y1) (y1 := y2) (y2 := y3) (y3 := y4) (h.po [1, 2, 3, 4] []) ⟨(h.pf [1, 2, 3, 4] [] 0), (h.pf [1, 2, 3, 4] [] 1), (h.pf [1, 2, 3, 4] [] 2), (h.pf [1, 2, 3, 4] [] 3), trivial⟩ h3) fun v a w hp hc => ?_)
  obtain ⟨rfl, q⟩ := hp
  have h := hc.on q [bx b1 115 [.func (.func 72) #[] #[.pointer (some ⟨b2, 0, none⟩), .pointer (some ⟨b3, 0, none⟩), .pointer (some ⟨b4, 0, none⟩), .pointer (some ⟨b5, 0, none⟩)]], bx b2 31 [.slice p1 (List.length y1.1) c1, .slice p2 (List.length y1.2.1) c2, .slice p3 (List.length y1.2.2) c3], bx b3 32 [.slice p4 (List.length y2) c4], bx b4 3 [vi y3], bx b5 3 [vi y4], bx b6 115 [.func (.func 70) #[] #[.pointer (some ⟨b2, 0, none⟩), .pointer (some ⟨b3, 0, none⟩), .pointer (some ⟨b4, 0, none⟩), .pointer (some ⟨b5, 0, none⟩), .pointer (some ⟨b7, 0, none⟩)]], bx b7 24 [vi y6.1, vi y6.2]]
  refine pr 1 [(8, vb r3)] h fun a h => ?_
  refine oe ?_
  refine cb h rfl (fun hb2 => ?_) (fun hb2 => ?_)
  · replace hm := ifT hb2 hm
    refine sr ?_
    refine sl (b_load_own 5 (.func (.func 70) #[] #[.pointer (some ⟨b2, 0, none⟩), .pointer (some ⟨b3, 0, none⟩), .pointer (some ⟨b4, 0, none⟩), .pointer (some ⟨b5, 0, none⟩), .pointer (some ⟨b7, 0, none⟩)]) h rfl rfl fun a h => ?_)
    obtain ⟨r4, h4, hm⟩ := bnd hm
    refine sl (b_call [1, 2, 3, 4, 6] [] h Tryz.call70 rfl rfl (c_lift_Less_1__lift_RuleRanks (y0 := y1) (y1 := y2) (y2 := y3) (y3 := y4) (y4 := y6) (h.po [1, 2, 3, 4, 6] []) ⟨(h.pf [1, 2, 3, 4, 6] [] 0), (h.pf [1, 2, 3, 4, 6] [] 1), (h.pf [1, 2, 3, 4, 6] [] 2), (h.pf [1, 2, 3, 4, 6] [] 3), trivial⟩ h4) fun v a w hp hc => ?_)
    obtain ⟨rfl, q⟩ := hp
    have h := hc.on q [bx b1 115 [.func (.func 72) #[] #[.pointer (some ⟨b2, 0, none⟩), .pointer (some ⟨b3, 0, none⟩), .pointer (some ⟨b4, 0, none⟩), .pointer (some ⟨b5, 0, none⟩)]], bx b2 31 [.slice p1 (List.length y1.1) c1, .slice p2 (List.length y1.2.1) c2, .slice p3 (List.length y1.2.2) c3], bx b3 32 [.slice p4 (List.length y2) c4], bx b4 3 [vi y3], bx b5 3 [vi y4], bx b6 115 [.func (.func 70) #[] #[.pointer (some ⟨b2, 0, none⟩), .pointer (some ⟨b3, 0, none⟩), .pointer (some ⟨b4, 0, none⟩), .pointer (some ⟨b5, 0, none⟩), .pointer (some ⟨b7, 0, none⟩)]], bx b7 24 [vi y6.1, vi y6.2]]
    refine pr 1 [(2, vb r4)] h fun a h => ?_
    refine oe ?_
    refine wp_ret ?_
    refine inb_r (then_r ?_)
    obtain rfl := Option.some.inj hm
    exact rt1 h rfl rfl ⟨rfl, bk_sel h [0, 1, 2, 3, 4, 5, 6] trivial⟩
  replace hm := ifF hb2 hm
  refine wp_skip ?_
  refine inb_n ?_
  refine then_n ?_
  obtain ⟨s1, hx, hm⟩ := bnd hm
  refine seq_j (fun a w => SS A [bx b1 115 [.func (.func 72) #[] #[.pointer (some ⟨b2, 0, none⟩), .pointer (some ⟨b3, 0, none⟩), .pointer (some ⟨b4, 0, none⟩), .pointer (some ⟨b5, 0, none⟩)]], bx b2 31 [.slice p1 (List.length y1.1) c1, .slice p2 (List.length y1.2.1) c2, .slice p3 (List.length y1.2.2) c3], bx b3 32 [.slice p4 (List.length y2) c4], bx b4 3 [vi y3], bx b5 3 [vi y4], bx b6 115 [.func (.func 70) #[] #[.pointer (some ⟨b2, 0, none⟩), .pointer (some ⟨b3, 0, none⟩), .pointer (some ⟨b4, 0, none⟩), .pointer (some ⟨b5, 0, none⟩), .pointer (some ⟨b7, 0, none⟩)]], bx b7 24 [vi y6.1, vi y6.2]] w0 19 [(2, vb s1)] [bx b1 115 [.func (.func 72) #[] #[.pointer (some ⟨b2, 0, none⟩), .pointer (some ⟨b3, 0, none⟩), .pointer (some ⟨b4, 0, none⟩), .pointer (some ⟨b5, 0, none⟩)]], bx b2 31 [.slice p1 (List.length y1.1) c1, .slice p2 (List.length y1.2.1) c2, .slice p3 (List.length y1.2.2) c3], bx b3 32 [.slice p4 (List.length y2) c4], bx b4 3 [vi y3], bx b5 3 [vi y4], bx b6 115 [.func (.func 70) #[] #[.pointer (some ⟨b2, 0, none⟩), .pointer (some ⟨b3, 0, none⟩), .pointer (some ⟨b4, 0, none⟩), .pointer (some ⟨b5, 0, none⟩), .pointer (some ⟨b7, 0, none⟩)]], bx b7 24 [vi y6.1, vi y6.2]] [R e_Premise p1 c1 (List.length y1.1) y1.1, R e_Rule p2 c2 (List.length y1.2.1) y1.2.1, R e_Promotion p3 c3 (List.length y1.2.2) y1.2.2, R e_Argument p4 c4 (List.length y2) y2] a w) ?_ ?_
  · replace hm := hx
    refine reg ?_
    refine sl (b_load_own 5 (.func (.func 70) #[] #[.pointer (some ⟨b2, 0, none⟩), .pointer (some ⟨b3, 0, none⟩), .pointer (some ⟨b4, 0, none⟩), .pointer (some ⟨b5, 0, none⟩), .pointer (some ⟨b7, 0, none⟩)]) h rfl rfl fun a h => ?_)
    obtain ⟨r5, h5, hm⟩ := bnd hm
    refine sl (b_call [1, 2, 3, 4, 6] [] h Tryz.call70 rfl rfl (c_lift_Less_1__lift_PremiseRanks (y0 := y1) (y1 := y2) (y2 := y3) (y3 := y4) (y4 := y6) (h.po [1, 2, 3, 4, 6] []) ⟨(h.pf [1, 2, 3, 4, 6] [] 0), (h.pf [1, 2, 3, 4, 6] [] 1), (h.pf [1, 2, 3, 4, 6] [] 2), (h.pf [1, 2, 3, 4, 6] [] 3), trivial⟩ h5) fun v a w hp hc => ?_)
    obtain ⟨rfl, q⟩ := hp
    have h := hc.on q [bx b1 115 [.func (.func 72) #[] #[.pointer (some ⟨b2, 0, none⟩), .pointer (some ⟨b3, 0, none⟩), .pointer (some ⟨b4, 0, none⟩), .pointer (some ⟨b5, 0, none⟩)]], bx b2 31 [.slice p1 (List.length y1.1) c1, .slice p2 (List.length y1.2.1) c2, .slice p3 (List.length y1.2.2) c3], bx b3 32 [.slice p4 (List.length y2) c4], bx b4 3 [vi y3], bx b5 3 [vi y4], bx b6 115 [.func (.func 70) #[] #[.pointer (some ⟨b2, 0, none⟩), .pointer (some ⟨b3, 0, none⟩), .pointer (some ⟨b4, 0, none⟩), .pointer (some ⟨b5, 0, none⟩), .pointer (some ⟨b7, 0, none⟩)]], bx b7 24 [vi y6.1, vi y6.2]]
    refine pr 1 [(15, vb r5)] h fun a h => ?_
    rcases Bool.eq_false_or_eq_true r5 with hb3 | hb3
    · have h := h.upd (t := 15) (vb true) rfl (congrArg Value.bool hb3)
      replace hm := ifT hb3 hm
      refine sl (b_load_own 5 (.func (.func 70) #[] #[.pointer (some ⟨b2, 0, none⟩), .pointer (some ⟨b3, 0, none⟩), .pointer (some ⟨b4, 0, none⟩), .pointer (some ⟨b5, 0, none⟩), .pointer (some ⟨b7, 0, none⟩)]) h rfl rfl fun a h => ?_)
      obtain ⟨r6, h6, hm⟩ := bnd hm
      refine sl (b_call [1, 2, 3, 4, 6] [] h Tryz.call70 rfl rfl (c_lift_Less_1__lift_RuleRanks (y0 := y1) (y1 := y2) (y2 := y3) (y3 := y4) (y4 := y6) (h.po [1, 2, 3, 4, 6] []) ⟨(h.pf [1, 2, 3, 4, 6] [] 0), (h.pf [1, 2, 3, 4, 6] [] 1), (h.pf [1, 2, 3, 4, 6] [] 2), (h.pf [1, 2, 3, 4, 6] [] 3), trivial⟩ h6) fun v a w hp hc => ?_)
      obtain ⟨rfl, q⟩ := hp
      have h := hc.on q [bx b1 115 [.func (.func 72) #[] #[.pointer (some ⟨b2, 0, none⟩), .pointer (some ⟨b3, 0, none⟩), .pointer (some ⟨b4, 0, none⟩), .pointer (some ⟨b5, 0, none⟩)]], bx b2 31 [.slice p1 (List.length y1.1) c1, .slice p2 (List.length y1.2.1) c2, .slice p3 (List.length y1.2.2) c3], bx b3 32 [.slice p4 (List.length y2) c4], bx b4 3 [vi y3], bx b5 3 [vi y4], bx b6 115 [.func (.func 70) #[] #[.pointer (some ⟨b2, 0, none⟩), .pointer (some ⟨b3, 0, none⟩), .pointer (some ⟨b4, 0, none⟩), .pointer (some ⟨b5, 0, none⟩), .pointer (some ⟨b7, 0, none⟩)]], bx b7 24 [vi y6.1, vi y6.2]]
      refine pr 2 [(2, vb r6)] h fun a h => ?_
      refine ops_end ?_
      obtain rfl := Option.some.inj hm
      exact then_n (h.to 7 ⟨(h.g 0), (h.g 1), (h.g 2), (h.g 3), trivial⟩)
    · have h := h.upd (t := 15) (vb false) rfl (congrArg Value.bool hb3)
      replace hm := ifF hb3 hm
      refine pr 4 [(2, vb false)] h fun a h => ?_
      refine ops_end ?_
      obtain rfl := Option.some.inj hm
      exact then_n (h.to 7 ⟨(h.g 0), (h.g 1), (h.g 2), (h.g 3), trivial⟩)
  intro a w hJ
  have h := hJ
  refine wp_ret ?_
  obtain rfl := Option.some.inj hm
  exact rt1 h rfl rfl ⟨rfl, bk_sel h [0, 1, 2, 3, 4, 5, 6] trivial⟩

theorem c_lift_Less {A : List Nat} {w0 : World} {y0 : T_Base} {p1 : Option Addr} {c1 : Nat} {p2 : Option Addr} {c2 : Nat} {p3 : Option Addr} {c3 : Nat} {y1 : List T_Argument} {p4 : Option Addr} {c4 : Nat} {y2 : Int} {y3 : Int} {y4 : T_Ordering} {r : Bool} (hO : Own A w0 []) (hF : All [R e_Premise p1 c1 (List.length y0.1) y0.1, R e_Rule p2 c2 (List.length y0.2.1) y0.2.1, R e_Promotion p3 c3 (List.length y0.2.2) y0.2.2, R e_Argument p4 c4 (List.length y1) y1] (bl [] ++ A) w0) (hm : m_lift_Less y0 y1 y2 y3 y4 = some r) :
    Calls Tryz.prog 40 [.agg #[.slice p1 (List.length y0.1) c1, .slice p2 (List.length y0.2.1) c2, .slice p3 (List.length y0.2.2) c3], .slice p4 (List.length y1) c4, vi y2, vi y3, .agg #[vi y4.1, vi y4.2]].toArray w0 (Ret fun v w => v = vb r ∧ Bk A [] w0 [] [] w) := by
  unfold m_lift_Less at hm
  refine ent Tryz.func40 rfl hO hF fun a h => ?_
  refine sr ?_
  refine sl (b_box h rfl fun b1 a w h e => ?_)
  refine sl (b_box h rfl fun b2 a w h e => ?_)
  refine sl (b_box h rfl fun b3 a w h e => ?_)
  refine sl (b_box h rfl fun b4 a w h e => ?_)
  refine sl (b_box h rfl fun b5 a w h e => ?_)
  refine pr 1 [] h fun a h => ?_
  refine oe ?_
  refine wp_seq ?_
  obtain ⟨s1, hx, hm⟩ := bnd hm
  refine seq_j (fun a w => SS A [] w0 44 [(5, .pointer (some ⟨b1, 0, none⟩)), (6, .pointer (some ⟨b2, 0, none⟩)), (7, .pointer (some ⟨b3, 0, none⟩)), (8, .pointer (some ⟨b4, 0, none⟩)), (9, .pointer (some ⟨b5, 0, none⟩)), (31, vb s1)] [bx b1 31 [.slice p1 (List.length y0.1) c1, .slice p2 (List.length y0.2.1) c2, .slice p3 (List.length y0.2.2) c3], bx b2 32 [.slice p4 (List.length y1) c4], bx b3 3 [vi y2], bx b4 3 [vi y3], bx b5 24 [vi y4.1, vi y4.2]] [R e_Premise p1 c1 (List.length y0.1) y0.1, R e_Rule p2 c2 (List.length y0.2.1) y0.2.1, R e_Promotion p3 c3 (List.length y0.2.2) y0.2.2, R e_Argument p4 c4 (List.length y1) y1] a w) ?_ ?_
  · replace hm := hx
    refine reg ?_
    refine sl (b_load_own 2 (vi y2) h rfl rfl fun a h => ?_)
    refine sl (b_load_own 3 (vi y3) h rfl rfl fun a h => ?_)
    refine pr 3 [(18, vb (decide ((if y3 < y2 then y3 else y2) < 0)))] h fun a h => ?_
    rcases Bool.eq_false_or_eq_true (decide ((if y3 < y2 then y3 else y2) < 0)) with hb1 | hb1
    · have h := h.upd (t := 18) (vb true) rfl (congrArg Value.bool hb1)
      replace hm := ifT hb1 hm
      refine pr 13 [(31, vb true)] h fun a h => ?_
      refine ops_end ?_
      obtain rfl := Option.some.inj hm
      exact then_n (h.to 5 ⟨(h.g 0), (h.g 1), (h.g 2), (h.g 3), trivial⟩)
    · have h := h.upd (t := 18) (vb false) rfl (congrArg Value.bool hb1)
      replace hm := ifF hb1 hm
      refine sl (b_load_own 2 (vi y2) h rfl rfl fun a h => ?_)
      refine sl (b_load_own 3 (vi y3) h rfl rfl fun a h => ?_)
      refine pr 1 [(21, vi (if y3 > y2 then y3 else y2))] h fun a h => ?_
      refine sl (b_load_own 1 (.slice p4 (List.length y1) c4) h rfl rfl fun a h => ?_)
      refine pr 4 [(26, vb (decide ((len y1) ≤ (if y3 > y2 then y3 else y2))))] h fun a h => ?_
      rcases Bool.eq_false_or_eq_true (decide ((len y1) ≤ (if y3 > y2 then y3 else y2))) with hb2 | hb2
      · have h := h.upd (t := 26) (vb true) rfl (congrArg Value.bool hb2)
        replace hm := ifT hb2 hm
        refine pr 5 [(31, vb true)] h fun a h => ?_
        refine ops_end ?_
        obtain rfl := Option.some.inj hm
        exact then_n (h.to 5 ⟨(h.g 0), (h.g 1), (h.g 2), (h.g 3), trivial⟩)
      · have h := h.upd (t := 26) (vb false) rfl (congrArg Value.bool hb2)
        replace hm := ifF hb2 hm
        refine sl (b_load_own 0 (.agg #[.slice p1 (List.length y0.1) c1, .slice p2 (List.length y0.2.1) c2, .slice p3 (List.length y0.2.2) c3]) h rfl rfl fun a h => ?_)
        refine sl (b_load_own 1 (.slice p4 (List.length y1) c4) h rfl rfl fun a h => ?_)
        refine sl (b_load_own 3 (vi y3) h rfl rfl fun a h => ?_)
        obtain ⟨r1, h1, hm⟩ := bnd hm
        refine sl (b_call [] [] h Tryz.call69 rfl rfl (c_lift_Assumes (y0 := y0) (y1 := y1) (y2 := y3) (h.po [] []) ⟨(h.pf [] [] 0), (h.pf [] [] 1), (h.pf [] [] 2), (h.pf [] [] 3), trivial⟩ h1) fun v a w hp hc => ?_)
        obtain ⟨rfl, q⟩ := hp
        have h := hc.on q [bx b1 31 [.slice p1 (List.length y0.1) c1, .slice p2 (List.length y0.2.1) c2, .slice p3 (List.length y0.2.2) c3], bx b2 32 [.slice p4 (List.length y1) c4], bx b3 3 [vi y2], bx b4 3 [vi y3], bx b5 24 [vi y4.1, vi y4.2]]
        refine pr 1 [(31, vb r1)] h fun a h => ?_
        refine ops_end ?_
        obtain rfl := Option.some.inj hm
        exact then_n (h.to 5 ⟨(h.g 0), (h.g 1), (h.g 2), (h.g 3), trivial⟩)
  intro a w hJ
  have h := hJ
  refine cb h rfl (fun hb3 => ?_) (fun hb3 => ?_)
  · replace hm := ifT hb3 hm
    refine sp [(10, vb false)] h fun a h => ?_
    refine wp_ret ?_
    refine then_r ?_
    obtain rfl := Option.some.inj hm
    exact rt1 h rfl rfl ⟨rfl, bk_sel h [] trivial⟩
  replace hm := ifF hb3 hm
  refine wp_skip ?_
  refine then_n ?_
  refine sr ?_
  refine pr 1 [(32, .func (.func 70) #[] #[.pointer (some ⟨b1, 0, none⟩), .pointer (some ⟨b2, 0, none⟩), .pointer (some ⟨b3, 0, none⟩), .pointer (some ⟨b4, 0, none⟩), .pointer (some ⟨b5, 0, none⟩)])] h fun a h => ?_
  refine sl (b_alloc h rfl fun b6 a w h e => ?_)
  refine sl (b_store_own 5 h rfl rfl rfl fun a w h e => ?_)
  refine oe ?_
  refine sr ?_
  refine pr 1 [(33, .func (.func 72) #[] #[.pointer (some ⟨b1, 0, none⟩), .pointer (some ⟨b2, 0, none⟩), .pointer (some ⟨b3, 0, none⟩), .pointer (some ⟨b4, 0, none⟩)])] h fun a h => ?_
  refine sl (b_alloc h rfl fun b7 a w h e => ?_)
  refine sl (b_store_own 6 h rfl rfl rfl fun a w h e => ?_)
  refine oe ?_
  refine sp [] h fun a h => ?_
  refine wp_seq ?_
  refine sr ?_
  refine pr 1 [(34, .pointer (some ⟨b5, 0, none⟩))] h fun a h => ?_
  refine sl (b_load_own 4 (vi y4.1) h rfl rfl fun a h => ?_)
  refine oe ?_
  refine wp_block ?_
  refine sp [(36, vb (y4.1 == 1))] h fun a h => ?_
  refine cb h rfl (fun hb4 => ?_) (fun hb4 => ?_)
  · replace hm := ifT hb4 hm
    refine reg ?_
    refine pr 2 [(13, .func (.func 73) #[] #[.pointer (some ⟨b6, 0, none⟩), .pointer (some ⟨b7, 0, none⟩)])] h fun a h => ?_
    refine ops_end ?_
    refine inb_n ?_
    refine then_n ?_
    refine sr ?_
    refine pr 1 [(42, .func (.func 73) #[] #[.pointer (some ⟨b6, 0, none⟩), .pointer (some ⟨b7, 0, none⟩)])] h fun a h => ?_
    obtain ⟨r2, h2, hm⟩ := bnd hm
    refine sl (b_call [5, 0, 1, 2, 3, 4, 6] [] h Tryz.call73 rfl rfl (c_lift_Less_3__lift_Less_1 (y1 := y0) (y2 := y1) (y3 := y2) (y4 := y3) (y5 := y4) (h.po [5, 0, 1, 2, 3, 4, 6] []) ⟨(h.pf [5, 0, 1, 2, 3, 4, 6] [] 0), (h.pf [5, 0, 1, 2, 3, 4, 6] [] 1), (h.pf [5, 0, 1, 2, 3, 4, 6] [] 2), (h.pf [5, 0, 1, 2, 3, 4, 6] [] 3), trivial⟩ h2) fun v a w hp hc => ?_)
    obtain ⟨rfl, q⟩ := hp
    have h := hc.on q [bx b1 31 [.slice p1 (List.length y0.1) c1, .slice p2 (List.length y0.2.1) c2, .slice p3 (List.length y0.2.2) c3], bx b2 32 [.slice p4 (List.length y1) c4], bx b3 3 [vi y2], bx b4 3 [vi y3], bx b5 24 [vi y4.1, vi y4.2], bx b6 115 [.func (.func 70) #[] #[.pointer (some ⟨b1, 0, none⟩), .pointer (some ⟨b2, 0, none⟩), .pointer (some ⟨b3, 0, none⟩), .pointer (some ⟨b4, 0, none⟩), .pointer (some ⟨b5, 0, none⟩)]], bx b7 115 [.func (.func 72) #[] #[.pointer (some ⟨b1, 0, none⟩), .pointer (some ⟨b2, 0, none⟩), .pointer (some ⟨b3, 0, none⟩), .pointer (some ⟨b4, 0, none⟩)]]]
    refine pr 1 [(10, vb r2)] h fun a h => ?_
    refine oe ?_
    refine wp_ret ?_
    obtain rfl := Option.some.inj hm
    exact rt1 h rfl rfl ⟨rfl, bk_sel h [] trivial⟩
  replace hm := ifF hb4 hm
  refine sp [(39, vb (y4.1 == 2))] h fun a h => ?_
  refine cb h rfl (fun hb5 => ?_) (fun hb5 => ?_)
  · replace hm := ifT hb5 hm
    refine reg ?_
    refine pr 2 [(13, .func (.func 76) #[] #[.pointer (some ⟨b7, 0, none⟩), .pointer (some ⟨b6, 0, none⟩)])] h fun a h => ?_
    refine ops_end ?_
    refine inb_n ?_
    refine then_n ?_
    refine sr ?_
    refine pr 1 [(42, .func (.func 76) #[] #[.pointer (some ⟨b7, 0, none⟩), .pointer (some ⟨b6, 0, none⟩)])] h fun a h => ?_
    obtain ⟨r3, h3, hm⟩ := bnd hm
    refine sl (b_call [6, 0, 1, 2, 3, 5, 4] [] h Tryz.call76 rfl rfl (c_lift_Less_4__lift_Less_2 (y1 := y0) (y2 := y1) (y3 := y2) (y4 := y3) (y6 := y4) (h.po [6, 0, 1, 2, 3, 5, 4] []) ⟨(h.pf [6, 0, 1, 2, 3, 5, 4] [] 0), (h.pf [6, 0, 1, 2, 3, 5, 4] [] 1), (h.pf [6, 0, 1, 2, 3, 5, 4] [] 2), (h.pf [6, 0, 1, 2, 3, 5, 4] [] 3), trivial⟩ h3) fun v a w hp hc => ?_)
    obtain ⟨rfl, q⟩ := hp
    have h := hc.on q [bx b1 31 [.slice p1 (List.length y0.1) c1, .slice p2 (List.length y0.2.1) c2, .slice p3 (List.length y0.2.2) c3], bx b2 32 [.slice p4 (List.length y1) c4], bx b3 3 [vi y2], bx b4 3 [vi y3], bx b5 24 [vi y4.1, vi y4.2], bx b6 115 [.func (.func 70) #[] #[.pointer (some ⟨b1, 0, none⟩), .pointer (some ⟨b2, 0, none⟩), .pointer (some ⟨b3, 0, none⟩), .pointer (some ⟨b4, 0, none⟩), .pointer (some ⟨b5, 0, none⟩)]], bx b7 115 [.func (.func 72) #[] #[.pointer (some ⟨b1, 0, none⟩), .pointer (some ⟨b2, 0, none⟩), .pointer (some ⟨b3, 0, none⟩), .pointer (some ⟨b4, 0, none⟩)]]]
    refine pr 1 [(10, vb r3)] h fun a h => ?_
    refine oe ?_
    refine wp_ret ?_
    obtain rfl := Option.some.inj hm
    exact rt1 h rfl rfl ⟨rfl, bk_sel h [] trivial⟩
  replace hm := ifF hb5 hm
  refine sp [(10, vb false)] h fun a h => ?_
  refine wp_ret ?_
  refine inb_r (then_r ?_)
  obtain rfl := Option.some.inj hm
  exact rt1 h rfl rfl ⟨rfl, bk_sel h [] trivial⟩

theorem c_attack_Defeats_1 {A : List Nat} {w0 : World} {y0 : T_Attack} {y1 : T_Base} {b1 : Nat} {p1 : Option Addr} {c1 : Nat} {p2 : Option Addr} {c2 : Nat} {p3 : Option Addr} {c3 : Nat} {y2 : List T_Argument} {b2 : Nat} {p4 : Option Addr} {c4 : Nat} {y3 : T_Ordering} {b3 : Nat} {r : Bool} (hO : Own A w0 [bx b1 31 [.slice p1 (List.length y1.1) c1, .slice p2 (List.length y1.2.1) c2, .slice p3 (List.length y1.2.2) c3], bx b2 32 [.slice p4 (List.length y2) c4], bx b3 24 [vi y3.1, vi y3.2]]) (hF : All [R e_Premise p1 c1 (List.length y1.1) y1.1, R e_Rule p2 c2 (List.length y1.2.1) y1.2.1, R e_Promotion p3 c3 (List.length y1.2.2) y1.2.2, R e_Argument p4 c4 (List.length y2) y2] (bl [bx b1 31 [.slice p1 (List.length y1.1) c1, .slice p2 (List.length y1.2.1) c2, .slice p3 (List.length y1.2.2) c3], bx b2 32 [.slice p4 (List.length y2) c4], bx b3 24 [vi y3.1, vi y3.2]] ++ A) w0) (hm : m_attack_Defeats_1 y0 y1 y2 y3 = some r) :
    Calls Tryz.prog 39 [.agg #[vi y0.1, vi y0.2.1, vi y0.2.2.1, vi y0.2.2.2], .pointer (some ⟨b1, 0, none⟩), .pointer (some ⟨b2, 0, none⟩), .pointer (some ⟨b3, 0, none⟩)].toArray w0 (Ret fun v w => v = vb r ∧ Bk A [bx b1 31 [.slice p1 (List.length y1.1) c1, .slice p2 (List.length y1.2.1) c2, .slice p3 (List.length y1.2.2) c3], bx b2 32 [.slice p4 (List.length y2) c4], bx b3 24 [vi y3.1, vi y3.2]] w0 [bx b1 31 [.slice p1 (List.length y1.1) c1, .slice p2 (List.length y1.2.1) c2, .slice p3 (List.length y1.2.2) c3], bx b2 32 [.slice p4 (List.length y2) c4], bx b3 24 [vi y3.1, vi y3.2]] [] w) := by
  unfold m_attack_Defeats_1 at hm
  refine ent Tryz.func39 rfl hO hF fun a h => ?_
  refine sr ?_
  refine sl (b_box h rfl fun b4 a w h e => ?_)
  refine pr 1 [] h fun a h => ?_
  refine oe ?_
  obtain ⟨s1, hx, hm⟩ := bnd hm
  refine seq_j (fun a w => SS A [bx b1 31 [.slice p1 (List.length y1.1) c1, .slice p2 (List.length y1.2.1) c2, .slice p3 (List.length y1.2.2) c3], bx b2 32 [.slice p4 (List.length y2) c4], bx b3 24 [vi y3.1, vi y3.2]] w0 19 [(5, vb s1)] [bx b1 31 [.slice p1 (List.length y1.1) c1, .slice p2 (List.length y1.2.1) c2, .slice p3 (List.length y1.2.2) c3], bx b2 32 [.slice p4 (List.length y2) c4], bx b3 24 [vi y3.1, vi y3.2], []] [R e_Premise p1 c1 (List.length y1.1) y1.1, R e_Rule p2 c2 (List.length y1.2.1) y1.2.1, R e_Promotion p3 c3 (List.length y1.2.2) y1.2.2, R e_Argument p4 c4 (List.length y2) y2] a w) ?_ ?_
  · replace hm := hx
    refine reg ?_
    refine pr 1 [(6, .pointer (some ⟨b4, 3, none⟩))] h fun a h => ?_
    refine sl (b_load_own 3 (vi y0.2.2.2) h rfl rfl fun a h => ?_)
    refine pr 2 [(9, vb (y0.2.2.2 != 3))] h fun a h => ?_
    rcases Bool.eq_false_or_eq_true (y0.2.2.2 != 3) with hb1 | hb1
    · have h := h.upd (t := 9) (vb true) rfl (congrArg Value.bool hb1)
      replace hm := ifT hb1 hm
      refine sl (b_load_own 0 (.agg #[.slice p1 (List.length y1.1) c1, .slice p2 (List.length y1.2.1) c2, .slice p3 (List.length y1.2.2) c3]) h rfl rfl fun a h => ?_)
      refine sl (b_load_own 1 (.slice p4 (List.length y2) c4) h rfl rfl fun a h => ?_)
      refine pr 1 [(12, .pointer (some ⟨b4, 0, none⟩))] h fun a h => ?_
      refine sl (b_load_own 3 (vi y0.1) h rfl rfl fun a h => ?_)
      refine pr 1 [(14, .pointer (some ⟨b4, 2, none⟩))] h fun a h => ?_
      refine sl (b_load_own 3 (vi y0.2.2.1) h rfl rfl fun a h => ?_)
      refine sl (b_load_own 2 (.agg #[vi y3.1, vi y3.2]) h rfl rfl fun a h => ?_)
      obtain ⟨r1, h1, hm⟩ := bnd hm
      refine sl (b_call [] [] h Tryz.call40 rfl rfl (c_lift_Less (y0 := y1) (y1 := y2) (y2 := y0.1) (y3 := y0.2.2.1) (y4 := y3) (h.po [] []) ⟨(h.pf [] [] 0), (h.pf [] [] 1), (h.pf [] [] 2), (h.pf [] [] 3), trivial⟩ h1) fun v a w hp hc => ?_)
      obtain ⟨rfl, q⟩ := hp
      have h := hc.on q [bx b1 31 [.slice p1 (List.length y1.1) c1, .slice p2 (List.length y1.2.1) c2, .slice p3 (List.length y1.2.2) c3], bx b2 32 [.slice p4 (List.length y2) c4], bx b3 24 [vi y3.1, vi y3.2], bx b4 45 [vi y0.1, vi y0.2.1, vi y0.2.2.1, vi y0.2.2.2]]
      refine pr 2 [(5, vb r1)] h fun a h => ?_
      refine ops_end ?_
      obtain rfl := Option.some.inj hm
      exact then_n (h.tos [0, 1, 2, 903] ⟨(h.g 0), (h.g 1), (h.g 2), (h.g 3), trivial⟩)
    · have h := h.upd (t := 9) (vb false) rfl (congrArg Value.bool hb1)
      replace hm := ifF hb1 hm
      refine pr 10 [(5, vb false)] h fun a h => ?_
      refine ops_end ?_
      obtain rfl := Option.some.inj hm
      exact then_n (h.tos [0, 1, 2, 903] ⟨(h.g 0), (h.g 1), (h.g 2), (h.g 3), trivial⟩)
  intro a w hJ
  have h := hJ
  refine wp_ret ?_
  obtain rfl := Option.some.inj hm
  exact rt1 h rfl rfl ⟨rfl, bk_sel h [0, 1, 2] trivial⟩

theorem c_slices_IndexFunc_Attack__attack_Defeats_1 {A : List Nat} {w0 : World} {y0 : List T_Attack} {p1 : Option Addr} {c1 : Nat} {y1 : T_Base} {b1 : Nat} {p2 : Option Addr} {c2 : Nat} {p3 : Option Addr} {c3 : Nat} {p4 : Option Addr} {c4 : Nat} {y2 : List T_Argument} {b2 : Nat} {p5 : Option Addr} {c5 : Nat} {y3 : T_Ordering} {b3 : Nat} {r : Int} (hO : Own A w0 [bx b1 31 [.slice p2 (List.length y1.1) c2, .slice p3 (List.length y1.2.1) c3, .slice p4 (List.length y1.2.2) c4], bx b2 32 [.slice p5 (List.length y2) c5], bx b3 24 [vi y3.1, vi y3.2]]) (hF : All [R e_Attack p1 c1 (List.length y0) y0, R e_Premise p2 c2 (List.length y1.1) y1.1, R e_Rule p3 c3 (List.length y1.2.1) y1.2.1, R e_Promotion p4 c4 (List.length y1.2.2) y1.2.2, R e_Argument p5 c5 (List.length y2) y2] (bl [bx b1 31 [.slice p2 (List.length y1.1) c2, .slice p3 (List.length y1.2.1) c3, .slice p4 (List.length y1.2.2) c4], bx b2 32 [.slice p5 (List.length y2) c5], bx b3 24 [vi y3.1, vi y3.2]] ++ A) w0) (hm : m_slices_IndexFunc_Attack__attack_Defeats_1 y0 y1 y2 y3 = some r) :
    Calls Tryz.prog 68 [.slice p1 (List.length y0) c1, .func (.func 39) #[] #[.pointer (some ⟨b1, 0, none⟩), .pointer (some ⟨b2, 0, none⟩), .pointer (some ⟨b3, 0, none⟩)]].toArray w0 (Ret fun v w => v = vi r ∧ Bk A [bx b1 31 [.slice p2 (List.length y1.1) c2, .slice p3 (List.length y1.2.1) c3, .slice p4 (List.length y1.2.2) c4], bx b2 32 [.slice p5 (List.length y2) c5], bx b3 24 [vi y3.1, vi y3.2]] w0 [bx b1 31 [.slice p2 (List.length y1.1) c2, .slice p3 (List.length y1.2.1) c3, .slice p4 (List.length y1.2.2) c4], bx b2 32 [.slice p5 (List.length y2) c5], bx b3 24 [vi y3.1, vi y3.2]] [] w) := by
  unfold m_slices_IndexFunc_Attack__attack_Defeats_1 at hm
  refine ent Tryz.func68 rfl hO hF fun a h => ?_
  refine sp [] h fun a h => ?_
  refine wp_seq ?_
  refine sp [(8, vi 0), (7, vi (len y0))] h fun a h => ?_
  refine wp_block ?_
  refine loop_m (B := (m_slices_IndexFunc_Attack__attack_Defeats_1_L1 y0 y1 y2 y3)) (fun (s1 : Int) a w => SS A [bx b1 31 [.slice p2 (List.length y1.1) c2, .slice p3 (List.length y1.2.1) c3, .slice p4 (List.length y1.2.2) c4], bx b2 32 [.slice p5 (List.length y2) c5], bx b3 24 [vi y3.1, vi y3.2]] w0 19 [(0, .slice p1 (List.length y0) c1), (1, .func (.func 39) #[] #[.pointer (some ⟨b1, 0, none⟩), .pointer (some ⟨b2, 0, none⟩), .pointer (some ⟨b3, 0, none⟩)]), (7, vi (len y0)), (8, vi s1)] [bx b1 31 [.slice p2 (List.length y1.1) c2, .slice p3 (List.length y1.2.1) c3, .slice p4 (List.length y1.2.2) c4], bx b2 32 [.slice p5 (List.length y2) c5], bx b3 24 [vi y3.1, vi y3.2]] [R e_Attack p1 c1 (List.length y0) y0, R e_Premise p2 c2 (List.length y1.1) y1.1, R e_Rule p3 c3 (List.length y1.2.1) y1.2.1, R e_Promotion p4 c4 (List.length y1.2.2) y1.2.2, R e_Argument p5 c5 (List.length y2) y2] a w) hm (h.to 3 ⟨(h.g 0), (h.g 1), (h.g 2), (h.g 3), (h.g 4), trivial⟩) ?_
  intro s1 a w o1 hJ hm hr1
  have h := hJ
  unfold m_slices_IndexFunc_Attack__attack_Defeats_1_L1 at hm
  refine sp [(9, vb (decide (s1 < (len y0))))] h fun a h => ?_
  refine wp_seq ?_
  refine cb h rfl (fun hb1 => ?_) (fun hb1 => ?_)
  · replace hm := ifT hb1 hm
    refine wp_skip ?_
    refine then_n ?_
    refine wp_seq ?_
    refine wp_block ?_
    refine sp [(5, vi s1)] h fun a h => ?_
    refine sr ?_
    refine pr 3 [(13, vi s1), (12, .slice p1 (List.length y0) c1), (11, .func (.func 39) #[] #[.pointer (some ⟨b1, 0, none⟩), .pointer (some ⟨b2, 0, none⟩), .pointer (some ⟨b3, 0, none⟩)])] h fun a h => ?_
    obtain ⟨x1, h1, hm⟩ := bnd hm
    refine sl (b_index_rd h (h.g 0) rfl rfl h1 fun b4 o2 a h => ?_)
    refine sl (b_load_pt true h (h.g 0) rfl fun ci1 hc1 v1 hv1 a h => ?_)
    replace hc1 : E.rd e_Attack _ _ ci1 x1 := hc1
    obtain ⟨_, _, rfl, rfl, ⟨_, _, rfl, rfl, ⟨_, _, rfl, rfl, rfl⟩⟩⟩ := hc1
    obtain rfl := Option.some.inj hv1
    have h := h.upd (t := 15) (.agg #[vi x1.1, vi x1.2.1, vi x1.2.2.1, vi x1.2.2.2]) rfl rfl
    obtain ⟨r1, h2, hm⟩ := bnd hm
    refine sl (b_call [0, 1, 2] [] h Tryz.call39 rfl rfl (c_attack_Defeats_1 (y0 := x1) (y1 := y1) (y2 := y2) (y3 := y3) (h.po [0, 1, 2] []) ⟨(h.pf [0, 1, 2] [] 2), (h.pf [0, 1, 2] [] 3), (h.pf [0, 1, 2] [] 4), (h.pf [0, 1, 2] [] 5), trivial⟩ h2) fun v a w hp hc => ?_)
    obtain ⟨rfl, q⟩ := hp
    have h := hc.on q [bx b1 31 [.slice p2 (List.length y1.1) c2, .slice p3 (List.length y1.2.1) c3, .slice p4 (List.length y1.2.2) c4], bx b2 32 [.slice p5 (List.length y2) c5], bx b3 24 [vi y3.1, vi y3.2]]
    refine oe ?_
    refine cb h rfl (fun hb2 => ?_) (fun hb2 => ?_)
    · replace hm := ifT hb2 hm
      refine sp [(4, vi s1)] h fun a h => ?_
      refine wp_ret ?_
      refine inb_r (then_r (lp_r (inb_r (then_r ?_))))
      replace hm := loopR hr1 hm
      obtain rfl := Option.some.inj hm
      exact rt1 h rfl rfl ⟨rfl, bk_sel h [0, 1, 2] trivial⟩
    replace hm := ifF hb2 hm
    refine wp_skip ?_
    refine inb_n ?_
    refine then_n ?_
    refine reg ?_
    refine pr 2 [(8, vi (w64 (s1 + 1)))] h fun a h => ?_
    refine ops_end ?_
    obtain rfl := Option.some.inj hm
    exact lp_n rfl (h.to 3 ⟨(h.g 1), (h.g 2), (h.g 3), (h.g 4), (h.g 5), trivial⟩)
  replace hm := ifF hb1 hm
  refine wp_exit ?_
  refine then_e (lp_e (inb_hit ?_))
  replace hm := loopR hr1 hm
  refine then_n ?_
  refine sp [(4, vi (-1))] h fun a h => ?_
  refine wp_ret ?_
  obtain rfl := Option.some.inj hm
  exact rt1 h rfl rfl ⟨rfl, bk_sel h [0, 1, 2] trivial⟩

theorem c_slices_DeleteFunc_Attack__attack_Defeats_1 {A : List Nat} {w0 : World} {y0 : List T_Attack} {p1 : Option Addr} {c1 : Nat} {r_1 : Res} {y1 : T_Base} {b1 : Nat} {p2 : Option Addr} {c2 : Nat} {p3 : Option Addr} {c3 : Nat} {p4 : Option Addr} {c4 : Nat} {y2 : List T_Argument} {b2 : Nat} {p5 : Option Addr} {c5 : Nat} {y3 : T_Ordering} {b3 : Nat} {r : (List T_Attack)} (hO : Own A w0 [r_1, bx b1 31 [.slice p2 (List.length y1.1) c2, .slice p3 (List.length y1.2.1) c3, .slice p4 (List.length y1.2.2) c4], bx b2 32 [.slice p5 (List.length y2) c5], bx b3 24 [vi y3.1, vi y3.2]]) (hF : All [Ar e_Attack 45 r_1 p1 c1 (List.length y0) y0, R e_Premise p2 c2 (List.length y1.1) y1.1, R e_Rule p3 c3 (List.length y1.2.1) y1.2.1, R e_Promotion p4 c4 (List.length y1.2.2) y1.2.2, R e_Argument p5 c5 (List.length y2) y2] (bl [r_1, bx b1 31 [.slice p2 (List.length y1.1) c2, .slice p3 (List.length y1.2.1) c3, .slice p4 (List.length y1.2.2) c4], bx b2 32 [.slice p5 (List.length y2) c5], bx b3 24 [vi y3.1, vi y3.2]] ++ A) w0) (hm : m_slices_DeleteFunc_Attack__attack_Defeats_1 y0 y1 y2 y3 = some r) :
    Calls Tryz.prog 38 [.slice p1 (List.length y0) c1, .func (.func 39) #[] #[.pointer (some ⟨b1, 0, none⟩), .pointer (some ⟨b2, 0, none⟩), .pointer (some ⟨b3, 0, none⟩)]].toArray w0 (Ret fun v w => ∃ (p6 : Option Addr) (c6 : Nat), v = .slice p6 (List.length r) c6 ∧ Bk A [r_1, bx b1 31 [.slice p2 (List.length y1.1) c2, .slice p3 (List.length y1.2.1) c3, .slice p4 (List.length y1.2.2) c4], bx b2 32 [.slice p5 (List.length y2) c5], bx b3 24 [vi y3.1, vi y3.2]] w0 [[], bx b1 31 [.slice p2 (List.length y1.1) c2, .slice p3 (List.length y1.2.1) c3, .slice p4 (List.length y1.2.2) c4], bx b2 32 [.slice p5 (List.length y2) c5], bx b3 24 [vi y3.1, vi y3.2]] [R e_Attack p6 c6 (List.length r) r] w) := by
  unfold m_slices_DeleteFunc_Attack__attack_Defeats_1 at hm
  refine ent Tryz.func38 rfl hO hF fun a h => ?_
  refine sp [] h fun a h => ?_
  refine sr ?_
  refine pr 2 [(9, .func (.func 39) #[] #[.pointer (some ⟨b1, 0, none⟩), .pointer (some ⟨b2, 0, none⟩), .pointer (some ⟨b3, 0, none⟩)]), (8, .slice p1 (List.length y0) c1)] h fun a h => ?_
  obtain ⟨r1, h1, hm⟩ := bnd hm
  refine sl (b_call [1, 2, 3] [0] h Tryz.call68 rfl rfl (c_slices_IndexFunc_Attack__attack_Defeats_1 (y0 := y0) (y1 := y1) (y2 := y2) (y3 := y3) (h.po [1, 2, 3] [0]) ⟨(h.pl [1, 2, 3] [0] 0 (h.g 0)), (h.pf [1, 2, 3] [0] 1), (h.pf [1, 2, 3] [0] 2), (h.pf [1, 2, 3] [0] 3), (h.pf [1, 2, 3] [0] 4), trivial⟩ h1) fun v a w hp hc => ?_)
  obtain ⟨rfl, q⟩ := hp
  have h := hc.on q [r_1, bx b1 31 [.slice p2 (List.length y1.1) c2, .slice p3 (List.length y1.2.1) c3, .slice p4 (List.length y1.2.2) c4], bx b2 32 [.slice p5 (List.length y2) c5], bx b3 24 [vi y3.1, vi y3.2]]
  refine pr 1 [(5, vi r1)] h fun a h => ?_
  refine oe ?_
  refine wp_seq ?_
  refine sp [(12, vb (r1 == (-1)))] h fun a h => ?_
  refine cb h rfl (fun hb1 => ?_) (fun hb1 => ?_)
  · replace hm := ifT hb1 hm
    refine sp [(4, .slice p1 (List.length y0) c1)] h fun a h => ?_
    refine wp_ret ?_
    refine then_r ?_
    obtain rfl := Option.some.inj hm
    have h := h.share 0 (h.g 0)
    exact rt1 h rfl rfl ⟨p1, c1, rfl, bk_sel h [900, 1, 2, 3] ⟨(h.g 0), trivial⟩⟩
  replace hm := ifF hb1 hm
  refine wp_skip ?_
  refine then_n ?_
  obtain ⟨s1, hx, hm⟩ := bnd hm
  refine seq_j (fun a w => ∃ (p6 : Option Addr) (c6 : Nat) (r_2 : Res), SS A [r_1, bx b1 31 [.slice p2 (List.length y1.1) c2, .slice p3 (List.length y1.2.1) c3, .slice p4 (List.length y1.2.2) c4], bx b2 32 [.slice p5 (List.length y2) c5], bx b3 24 [vi y3.1, vi y3.2]] w0 42 [(0, .slice p6 (List.length s1.1) c6), (5, vi s1.2)] [r_2, bx b1 31 [.slice p2 (List.length y1.1) c2, .slice p3 (List.length y1.2.1) c3, .slice p4 (List.length y1.2.2) c4], bx b2 32 [.slice p5 (List.length y2) c5], bx b3 24 [vi y3.1, vi y3.2]] [Ar e_Attack 45 r_2 p6 c6 (List.length s1.1) s1.1, R e_Premise p2 c2 (List.length y1.1) y1.1, R e_Rule p3 c3 (List.length y1.2.1) y1.2.1, R e_Promotion p4 c4 (List.length y1.2.2) y1.2.2, R e_Argument p5 c5 (List.length y2) y2] a w) ?_ ?_
  · have hm2 := hm
    replace hm := hx
    refine sp [(6, vi (w64 (r1 + 1)))] h fun a h => ?_
    refine wp_block ?_
    refine loop_m (B := (m_slices_DeleteFunc_Attack__attack_Defeats_1_L1 y0 y1 y2 y3)) (fun (s2 : (List T_Attack) × Int × Int) a w => ∃ (r_3 : Res), SS A [r_1, bx b1 31 [.slice p2 (List.length y1.1) c2, .slice p3 (List.length y1.2.1) c3, .slice p4 (List.length y1.2.2) c4], bx b2 32 [.slice p5 (List.length y2) c5], bx b3 24 [vi y3.1, vi y3.2]] w0 42 [(0, .slice p1 (List.length y0) c1), (1, .func (.func 39) #[] #[.pointer (some ⟨b1, 0, none⟩), .pointer (some ⟨b2, 0, none⟩), .pointer (some ⟨b3, 0, none⟩)]), (5, vi s2.2.1), (6, vi s2.2.2)] [r_3, bx b1 31 [.slice p2 (List.length y1.1) c2, .slice p3 (List.length y1.2.1) c3, .slice p4 (List.length y1.2.2) c4], bx b2 32 [.slice p5 (List.length y2) c5], bx b3 24 [vi y3.1, vi y3.2]] [Ar e_Attack 45 r_3 p1 c1 (List.length y0) s2.1, R e_Premise p2 c2 (List.length y1.1) y1.1, R e_Rule p3 c3 (List.length y1.2.1) y1.2.1, R e_Promotion p4 c4 (List.length y1.2.2) y1.2.2, R e_Argument p5 c5 (List.length y2) y2] a w) hm ⟨r_1, h.to 4 ⟨(h.g 0), (h.g 1), (h.g 2), (h.g 3), (h.g 4), trivial⟩⟩ ?_
    intro s2 a w o1 hJ hm hr1
    obtain ⟨r_3, h⟩ := hJ
    unfold m_slices_DeleteFunc_Attack__attack_Defeats_1_L1 at hm
    refine wp_seq ?_
    refine sp [(19, vb (decide (s2.2.2 < (len y0))))] h fun a h => ?_
    refine cb h rfl (fun hb2 => ?_) (fun hb2 => ?_)
    · replace hm := ifT hb2 hm
      refine wp_skip ?_
      refine then_n ?_
      refine wp_seq ?_
      refine wp_block ?_
      refine sr ?_
      refine pr 2 [(23, vi s2.2.2), (22, .slice p1 (List.length y0) c1)] h fun a h => ?_
      obtain ⟨x1, h2, hm⟩ := bnd hm
      refine sl (b_index_arr h (h.g 0) rfl rfl h2 fun b4 hp1 a h => ?_)
      refine sl (b_load_arr 0 ((Sub.id e_Attack)) true h (h.g 0) hp1 h2 rfl fun ci1 hc1 v1 hv1 a h => ?_)
      replace hc1 : E.rd e_Attack _ _ ci1 x1 := hc1
      obtain ⟨_, _, rfl, rfl, ⟨_, _, rfl, rfl, ⟨_, _, rfl, rfl, rfl⟩⟩⟩ := hc1
      obtain rfl := Option.some.inj hv1
      have h := h.upd (t := 25) (.agg #[vi x1.1, vi x1.2.1, vi x1.2.2.1, vi x1.2.2.2]) rfl rfl
      refine sl (b_alloc h rfl fun b5 a w h e => ?_)
      refine sl (b_store_own 4 h rfl rfl rfl fun a w h e => ?_)
      refine oe ?_
      refine sr ?_
      refine pr 1 [(26, .func (.func 39) #[] #[.pointer (some ⟨b1, 0, none⟩), .pointer (some ⟨b2, 0, none⟩), .pointer (some ⟨b3, 0, none⟩)])] h fun a h => ?_
      refine sl (b_load_own 4 (.agg #[vi x1.1, vi x1.2.1, vi x1.2.2.1, vi x1.2.2.2]) h rfl rfl fun a h => ?_)
      obtain ⟨r2, h3, hm⟩ := bnd hm
      refine sl (b_call [1, 2, 3] [] h Tryz.call39 rfl rfl (c_attack_Defeats_1 (y0 := x1) (y1 := y1) (y2 := y2) (y3 := y3) (h.po [1, 2, 3] []) ⟨(h.pf [1, 2, 3] [] 1), (h.pf [1, 2, 3] [] 2), (h.pf [1, 2, 3] [] 3), (h.pf [1, 2, 3] [] 4), trivial⟩ h3) fun v a w hp hc => ?_)
      obtain ⟨rfl, q⟩ := hp
      have h := hc.on q [r_3, bx b1 31 [.slice p2 (List.length y1.1) c2, .slice p3 (List.length y1.2.1) c3, .slice p4 (List.length y1.2.2) c4], bx b2 32 [.slice p5 (List.length y2) c5], bx b3 24 [vi y3.1, vi y3.2], bx b5 45 [vi x1.1, vi x1.2.1, vi x1.2.2.1, vi x1.2.2.2]]
      refine pr 1 [(29, vb (!r2))] h fun a h => ?_
      refine oe ?_
      refine cb h rfl (fun hb3 => ?_) (fun hb3 => ?_)
      · replace hm := ifT hb3 hm
        refine sr ?_
        refine pr 2 [(31, vi s2.2.1), (30, .slice p1 (List.length y0) c1)] h fun a h => ?_
        refine sl (b_load_own 4 (.agg #[vi x1.1, vi x1.2.1, vi x1.2.2.1, vi x1.2.2.2]) h rfl rfl fun a h => ?_)
        obtain ⟨x2, h4, hm⟩ := bnd hm
        refine sl (b_index_arr h (h.g 0) rfl rfl h4 fun b6 hp2 a h => ?_)
        refine sl (b_store_arr 0 ((Sub.id e_Attack)) (v := .agg #[vi x1.1, vi x1.2.1, vi x1.2.2.1, vi x1.2.2.2]) x1 true h (h.g 0) hp2 h4 rfl rfl (eProd.mk eInt.mk (eProd.mk eInt.mk (eProd.mk eInt.mk eInt.mk))) fun r_4 a w h e => ?_)
        refine oe ?_
        refine reg ?_
        refine pr 3 [(5, vi (w64 (s2.2.1 + 1)))] h fun a h => ?_
        refine ops_end ?_
        refine inb_n ?_
        refine then_n ?_
        refine reg ?_
        refine pr 3 [(6, vi (w64 (s2.2.2 + 1)))] h fun a h => ?_
        refine ops_end ?_
        obtain rfl := Option.some.inj hm
        exact lp_n rfl ⟨r_4, h.to 4 ⟨(h.g 0), (h.g 2), (h.g 3), (h.g 4), (h.g 5), trivial⟩⟩
      replace hm := ifF hb3 hm
      refine wp_skip ?_
      refine inb_n ?_
      refine then_n ?_
      refine reg ?_
      refine pr 3 [(6, vi (w64 (s2.2.2 + 1)))] h fun a h => ?_
      refine ops_end ?_
      obtain rfl := Option.some.inj hm
      exact lp_n rfl ⟨r_3, h.to 4 ⟨(h.g 0), (h.g 1), (h.g 2), (h.g 3), (h.g 4), trivial⟩⟩
    replace hm := ifF hb2 hm
    refine wp_exit ?_
    refine then_e (lp_e (inb_hit ?_))
    replace hm := loopR hr1 hm
    obtain rfl := Option.some.inj hm
    have h := h.upd (t := 0) (.slice p1 (List.length s2.1) c1) rfl (congrArg (fun q : Nat => Value.slice p1 q c1) (Ar.ln (h.g 0)))
    have h := h.add (Ar.re (h.g 0))
    exact then_n ⟨p1, c1, r_3, h.to 4 ⟨(h.g 0), (h.g 2), (h.g 3), (h.g 4), (h.g 5), trivial⟩⟩
  intro a w hJ
  obtain ⟨p6, c6, r_2, h⟩ := hJ
  refine sr ?_
  refine pr 2 [(37, vi s1.2), (36, .slice p6 (List.length s1.1) c6)] h fun a h => ?_
  obtain ⟨u1, h5, hm⟩ := bnd hm
  refine sl (b_slice_view h (h.g 0) rfl rfl h5 fun p7 c7 f1 a h => ?_)
  refine sl (b_clear_view 0 (zd := (0, 0, 0, 0)) (zv := .agg #[vi 0, vi 0, vi 0, vi 0]) h (h.g 0) f1 rfl rfl (eProd.mk eInt.mk (eProd.mk eInt.mk (eProd.mk eInt.mk eInt.mk))) fun r_5 a w h e => ?_)
  refine oe ?_
  refine sr ?_
  refine pr 2 [(40, vi s1.2), (39, .slice p6 (List.length s1.1) c6)] h fun a h => ?_
  obtain ⟨x3, h6, hm⟩ := bnd hm
  refine sl (b_slice_pre h (h.g 0) rfl rfl h6 fun a h => ?_)
  refine pr 1 [(4, .slice p6 (List.length x3) c6)] h fun a h => ?_
  refine oe ?_
  refine wp_ret ?_
  obtain rfl := Option.some.inj hm
  have h := h.share 0 (h.g 0)
  exact rt1 h rfl rfl ⟨p6, c6, rfl, bk_sel h [900, 1, 2, 3] ⟨(h.g 0), trivial⟩⟩

theorem c_attack_Defeats {A : List Nat} {w0 : World} {y0 : T_Base} {p1 : Option Addr} {c1 : Nat} {p2 : Option Addr} {c2 : Nat} {p3 : Option Addr} {c3 : Nat} {y1 : List T_Argument} {p4 : Option Addr} {c4 : Nat} {y2 : T_Ordering} {r : (List T_Attack)} (hO : Own A w0 []) (hF : All [R e_Premise p1 c1 (List.length y0.1) y0.1, R e_Rule p2 c2 (List.length y0.2.1) y0.2.1, R e_Promotion p3 c3 (List.length y0.2.2) y0.2.2, R e_Argument p4 c4 (List.length y1) y1] (bl [] ++ A) w0) (hm : m_attack_Defeats y0 y1 y2 = some r) :
    Calls Tryz.prog 15 [.agg #[.slice p1 (List.length y0.1) c1, .slice p2 (List.length y0.2.1) c2, .slice p3 (List.length y0.2.2) c3], .slice p4 (List.length y1) c4, .agg #[vi y2.1, vi y2.2]].toArray w0 (Ret fun v w => ∃ (p5 : Option Addr) (c5 : Nat), v = .slice p5 (List.length r) c5 ∧ Bk A [] w0 [] [R e_Attack p5 c5 (List.length r) r] w) := by
  unfold m_attack_Defeats at hm
  refine ent Tryz.func15 rfl hO hF fun a h => ?_
  refine sr ?_
  refine sl (b_box h rfl fun b1 a w h e => ?_)
  refine sl (b_box h rfl fun b2 a w h e => ?_)
  refine sl (b_box h rfl fun b3 a w h e => ?_)
  refine pr 1 [] h fun a h => ?_
  refine oe ?_
  refine sr ?_
  refine sl (b_load_own 0 (.agg #[.slice p1 (List.length y0.1) c1, .slice p2 (List.length y0.2.1) c2, .slice p3 (List.length y0.2.2) c3]) h rfl rfl fun a h => ?_)
  refine sl (b_load_own 1 (.slice p4 (List.length y1) c4) h rfl rfl fun a h => ?_)
  obtain ⟨r1, h1, hm⟩ := bnd hm
  refine sl (b_call [] [] h Tryz.call12 rfl rfl (c_attack_Attacks (y0 := y0) (y1 := y1) (h.po [] []) ⟨(h.pf [] [] 0), (h.pf [] [] 1), (h.pf [] [] 2), (h.pf [] [] 3), trivial⟩ h1) fun v a w hp hc => ?_)
  obtain ⟨p5, c5, r_1, rfl, q⟩ := hp
  have h := hc.on q [bx b1 31 [.slice p1 (List.length y0.1) c1, .slice p2 (List.length y0.2.1) c2, .slice p3 (List.length y0.2.2) c3], bx b2 32 [.slice p4 (List.length y1) c4], bx b3 24 [vi y2.1, vi y2.2], r_1]
  refine pr 1 [(10, .func (.func 39) #[] #[.pointer (some ⟨b1, 0, none⟩), .pointer (some ⟨b2, 0, none⟩), .pointer (some ⟨b3, 0, none⟩)])] h fun a h => ?_
  obtain ⟨r2, h2, hm⟩ := bnd hm
  refine sl (b_call [3, 0, 1, 2] [] h Tryz.call38 rfl rfl (c_slices_DeleteFunc_Attack__attack_Defeats_1 (y0 := r1) (y1 := y0) (y2 := y1) (y3 := y2) (h.po [3, 0, 1, 2] []) ⟨(h.pf [3, 0, 1, 2] [] 0), (h.pf [3, 0, 1, 2] [] 1), (h.pf [3, 0, 1, 2] [] 2), (h.pf [3, 0, 1, 2] [] 3), (h.pf [3, 0, 1, 2] [] 4), trivial⟩ h2) fun v a w hp hc => ?_)
  obtain ⟨p6, c6, rfl, q⟩ := hp
  have h := hc.on q [bx b1 31 [.slice p1 (List.length y0.1) c1, .slice p2 (List.length y0.2.1) c2, .slice p3 (List.length y0.2.2) c3], bx b2 32 [.slice p4 (List.length y1) c4], bx b3 24 [vi y2.1, vi y2.2], []]
  refine pr 1 [(6, .slice p6 (List.length r2) c6)] h fun a h => ?_
  refine oe ?_
  refine wp_ret ?_
  obtain rfl := Option.some.inj hm
  exact rt1 h rfl rfl ⟨p6, c6, rfl, bk_sel h [] ⟨(h.g 0), trivial⟩⟩

theorem c_keep_New {A : List Nat} {w0 : World} {y0 : List Int} {p1 : Option Addr} {c1 : Nat} {r : T_keep_Src} (hO : Own A w0 []) (hF : All [R (eInt .i64) p1 c1 (List.length y0) y0] (bl [] ++ A) w0) (hm : m_keep_New y0 = some r) :
    Calls Tryz.prog 9 [.slice p1 (List.length y0) c1].toArray w0 (Ret fun v w => ∃ (b1 : Nat) (p2 : Option Addr) (c2 : Nat), v = .pointer (some ⟨b1, 0, none⟩) ∧ Bk A [] w0 [bx b1 71 [.slice p2 (List.length r.1) c2, vi r.2]] [R (eInt .i64) p2 c2 (List.length r.1) r.1] w) := by
  unfold m_keep_New at hm
  refine ent Tryz.func9 rfl hO hF fun a h => ?_
  refine sp [] h fun a h => ?_
  refine sr ?_
  refine pr 4 [(6, vi (if 2000 < (len y0) then 2000 else len y0)), (3, .slice p1 (List.length y0) c1)] h fun a h => ?_
  obtain ⟨x1, h1, hm⟩ := bnd hm
  refine sl (b_slice_rd h (h.g 0) rfl rfl rfl (.inl ⟨rfl, rfl⟩) (.inr ⟨_, rfl⟩) h1 fun p2 c2 a h => ?_)
  refine pr 1 [(8, .agg #[.slice p2 (List.length x1) c2, vi 0])] h fun a h => ?_
  refine sl (b_box h rfl fun b1 a w h e => ?_)
  refine pr 1 [(2, .pointer (some ⟨b1, 0, none⟩))] h fun a h => ?_
  refine oe ?_
  refine wp_ret ?_
  obtain rfl := Option.some.inj hm
  exact rt1 h rfl rfl ⟨b1, p2, c2, rfl, bk_sel h [0] ⟨(h.g 0), trivial⟩⟩

theorem c_keep_Orderings {A : List Nat} {w0 : World} {r : (List T_Ordering)} (hO : Own A w0 []) (hF : All [] (bl [] ++ A) w0) (hm : m_keep_Orderings = some r) :
    Calls Tryz.prog 14 [].toArray w0 (Ret fun v w => ∃ (p1 : Option Addr) (c1 : Nat) (r_1 : Res), v = .slice p1 (List.length r) c1 ∧ Bk A [] w0 [r_1] [Ar e_Ordering 24 r_1 p1 c1 (List.length r) r] w) := by
  unfold m_keep_Orderings at hm
  refine ent Tryz.func14 rfl hO hF fun a h => ?_
  refine sp [] h fun a h => ?_
  refine sr ?_
  refine pr 4 [(4, .agg #[vi 2, vi 2]), (3, .agg #[vi 2, vi 1]), (2, .agg #[vi 1, vi 2]), (1, .agg #[vi 1, vi 1])] h fun a h => ?_
  refine sl (b_bs_own (te := 24) (e := e_Ordering) [vi 1, vi 1, vi 1, vi 2, vi 2, vi 1, vi 2, vi 2] ([(1, 1), (1, 2), (2, 1), (2, 2)] : List T_Ordering) h ⟨_, _, rfl, eProd.mk eInt.mk eInt.mk, ⟨_, _, rfl, eProd.mk eInt.mk eInt.mk, ⟨_, _, rfl, eProd.mk eInt.mk eInt.mk, ⟨_, _, rfl, eProd.mk eInt.mk eInt.mk, rfl⟩⟩⟩⟩ fun r_1 p1 c1 a w h e => ?_)
  refine pr 1 [(0, .slice p1 (List.length ([(1, 1), (1, 2), (2, 1), (2, 2)] : List T_Ordering)) c1)] h fun a h => ?_
  refine oe ?_
  refine wp_ret ?_
  obtain rfl := Option.some.inj hm
  exact rt1 h rfl rfl ⟨p1, c1, r_1, rfl, bk_sel h [0] ⟨(h.g 0), trivial⟩⟩

theorem c_slices_Compact_Pair {A : List Nat} {w0 : World} {y0 : List T_Pair} {p1 : Option Addr} {c1 : Nat} {r_1 : Res} {r : (List T_Pair)} (hO : Own A w0 [r_1]) (hF : All [Ar e_Pair 87 r_1 p1 c1 (List.length y0) y0] (bl [r_1] ++ A) w0) (hm : m_slices_Compact_Pair y0 = some r) :
    Calls Tryz.prog 46 [.slice p1 (List.length y0) c1].toArray w0 (Ret fun v w => ∃ (p2 : Option Addr) (c2 : Nat), v = .slice p2 (List.length r) c2 ∧ Bk A [r_1] w0 [[]] [R e_Pair p2 c2 (List.length r) r] w) := by
  unfold m_slices_Compact_Pair at hm
  refine ent Tryz.func46 rfl hO hF fun a h => ?_
  refine sp [] h fun a h => ?_
  refine wp_seq ?_
  refine sp [(8, vb (decide ((len y0) < 2)))] h fun a h => ?_
  refine cb h rfl (fun hb1 => ?_) (fun hb1 => ?_)
  · replace hm := ifT hb1 hm
    refine sp [(2, .slice p1 (List.length y0) c1)] h fun a h => ?_
    refine wp_ret ?_
    refine then_r ?_
    obtain rfl := Option.some.inj hm
    have h := h.share 0 (h.g 0)
    exact rt1 h rfl rfl ⟨p1, c1, rfl, bk_sel h [900] ⟨(h.g 0), trivial⟩⟩
  replace hm := ifF hb1 hm
  refine wp_skip ?_
  refine then_n ?_
  refine wp_seq ?_
  refine sp [(3, vi 1)] h fun a h => ?_
  refine wp_block ?_
  refine loop_m (B := (m_slices_Compact_Pair_L1 y0)) (fun (s1 : Int) a w => SS A [r_1] w0 61 [(0, .slice p1 (List.length y0) c1), (3, vi s1)] [r_1] [Ar e_Pair 87 r_1 p1 c1 (List.length y0) y0] a w) hm (h.to 1 ⟨(h.g 0), trivial⟩) ?_
  intro s1 a w o1 hJ hm hr1
  have h := hJ
  unfold m_slices_Compact_Pair_L1 at hm
  refine wp_seq ?_
  refine sp [(13, vb (decide (s1 < (len y0))))] h fun a h => ?_
  refine cb h rfl (fun hb2 => ?_) (fun hb2 => ?_)
  · replace hm := ifT hb2 hm
    refine wp_skip ?_
    refine then_n ?_
    refine wp_seq ?_
    refine wp_block ?_
    refine ds [] [0] h fun w h => ?_
    refine dp 0 (.slice p1 (List.length y0) c1) h rfl fun a h => ?_
    refine dp 1 (vi s1) h rfl fun a h => ?_
    obtain ⟨x1, h1, hm⟩ := bnd hm
    refine dia 2 h rfl (h.g 0) rfl rfl h1 fun b1 hp1 a h => ?_
    refine dla 3 0 ((Sub.id e_Pair)) true h rfl (h.g 0) hp1 h1 rfl fun ci1 hc1 v1 hv1 a h => ?_
    replace hc1 : E.rd e_Pair _ _ ci1 x1 := hc1
    obtain ⟨_, _, rfl, rfl, rfl⟩ := hc1
    obtain rfl := Option.some.inj hv1
    have h := h.upd (t := 19) (.agg #[vi x1.1, vi x1.2]) rfl rfl
    refine dp 4 (.slice p1 (List.length y0) c1) h rfl fun a h => ?_
    refine dp 5 (vi s1) h rfl fun a h => ?_
    refine dp 6 (vi (w64 (s1 - 1))) h rfl fun a h => ?_
    obtain ⟨x2, h2, hm⟩ := bnd hm
    refine dia 7 h rfl (h.g 0) rfl rfl h2 fun b2 hp2 a h => ?_
    refine dla 8 0 ((Sub.id e_Pair)) true h rfl (h.g 0) hp2 h2 rfl fun ci2 hc2 v2 hv2 a h => ?_
    replace hc2 : E.rd e_Pair _ _ ci2 x2 := hc2
    obtain ⟨_, _, rfl, rfl, rfl⟩ := hc2
    obtain rfl := Option.some.inj hv2
    have h := h.upd (t := 24) (.agg #[vi x2.1, vi x2.2]) rfl rfl
    refine dp 9 (vb (x1 == x2)) h rfl fun a h => ?_
    refine de (then_n ?_)
    refine cb h rfl (fun hb3 => ?_) (fun hb3 => ?_)
    · replace hm := ifT hb3 hm
      refine sr ?_
      refine pr 2 [(27, vi s1), (26, .slice p1 (List.length y0) c1)] h fun a h => ?_
      obtain ⟨u1, h3, hm⟩ := bnd hm
      refine sl (b_slice_view h (h.g 0) rfl rfl h3 fun p2 c2 f1 a h => ?_)
      refine pr 1 [(4, .slice p2 (Int.toNat (((List.length y0 : Nat) : Int) - s1)) c2)] h fun a h => ?_
      refine oe ?_
      obtain ⟨s2, hx, hm⟩ := bnd hm
      refine seq_j (fun a w => ∃ (p3 : Option Addr) (c3 : Nat) (r_2 : Res), SS A [r_1] w0 61 [(0, .slice p3 (List.length s2.1) c3), (3, vi s2.2)] [r_2] [Ar e_Pair 87 r_2 p3 c3 (List.length s2.1) s2.1] a w) ?_ ?_
      · have hm2 := hm
        replace hm := hx
        refine sp [(5, vi 1)] h fun a h => ?_
        refine wp_block ?_
        refine loop_m (B := (m_slices_Compact_Pair_L2 y0 s1)) (fun (s3 : (List T_Pair) × Int × Int) a w => ∃ (r_3 : Res), SS A [r_1] w0 61 [(0, .slice p1 (List.length y0) c1), (3, vi s3.2.1), (4, .slice p2 (Int.toNat (((List.length y0 : Nat) : Int) - s1)) c2), (5, vi s3.2.2)] [r_3] [Ar e_Pair 87 r_3 p1 c1 (List.length y0) s3.1] a w) hm ⟨r_1, h.to 1 ⟨(h.g 0), trivial⟩⟩ ?_
        intro s3 a w o2 hJ hm hr2
        obtain ⟨r_3, h⟩ := hJ
        unfold m_slices_Compact_Pair_L2 at hm
        refine wp_seq ?_
        refine sp [(32, vb (decide (s3.2.2 < ((Int.toNat (((List.length y0 : Nat) : Int) - s1) : Nat) : Int))))] h fun a h => ?_
        refine cb h rfl (fun hb4 => ?_) (fun hb4 => ?_)
        · replace hm := ifT hb4 hm
          refine wp_skip ?_
          refine then_n ?_
          refine wp_seq ?_
          refine wp_block ?_
          refine ds [] [0] h fun w h => ?_
          refine dp 0 (.slice p2 (Int.toNat (((List.length y0 : Nat) : Int) - s1)) c2) h rfl fun a h => ?_
          refine dp 1 (vi s3.2.2) h rfl fun a h => ?_
          obtain ⟨x3, h4, hm⟩ := bnd hm
          refine dindex_view 2 h rfl (h.g 0) f1 rfl rfl h4 fun b3 hp3 h5 a h => ?_
          refine dla 3 0 ((Sub.id e_Pair)) true h rfl (h.g 0) hp3 h5 rfl fun ci3 hc3 v3 hv3 a h => ?_
          replace hc3 : E.rd e_Pair _ _ ci3 x3 := hc3
          obtain ⟨_, _, rfl, rfl, rfl⟩ := hc3
          obtain rfl := Option.some.inj hv3
          have h := h.upd (t := 38) (.agg #[vi x3.1, vi x3.2]) rfl rfl
          refine dp 4 (.slice p2 (Int.toNat (((List.length y0 : Nat) : Int) - s1)) c2) h rfl fun a h => ?_
          refine dp 5 (vi s3.2.2) h rfl fun a h => ?_
          refine dp 6 (vi (w64 (s3.2.2 - 1))) h rfl fun a h => ?_
          obtain ⟨x4, h6, hm⟩ := bnd hm
          refine dindex_view 7 h rfl (h.g 0) f1 rfl rfl h6 fun b4 hp4 h7 a h => ?_
          refine dla 8 0 ((Sub.id e_Pair)) true h rfl (h.g 0) hp4 h7 rfl fun ci4 hc4 v4 hv4 a h => ?_
          replace hc4 : E.rd e_Pair _ _ ci4 x4 := hc4
          obtain ⟨_, _, rfl, rfl, rfl⟩ := hc4
          obtain rfl := Option.some.inj hv4
          have h := h.upd (t := 43) (.agg #[vi x4.1, vi x4.2]) rfl rfl
          refine dp 9 (vb (!(x3 == x4))) h rfl fun a h => ?_
          refine de (then_n ?_)
          refine cb h rfl (fun hb5 => ?_) (fun hb5 => ?_)
          · replace hm := ifT hb5 hm
            refine sr ?_
            refine pr 4 [(48, vi s3.2.2), (47, .slice p2 (Int.toNat (((List.length y0 : Nat) : Int) - s1)) c2), (46, vi s3.2.1), (45, .slice p1 (List.length y0) c1)] h fun a h => ?_
            obtain ⟨x5, h8, hm⟩ := bnd hm
            refine sl (b_index_view h (h.g 0) f1 rfl rfl h8 fun b5 hp5 h9 a h => ?_)
            refine sl (b_load_arr 0 ((Sub.id e_Pair)) true h (h.g 0) hp5 h9 rfl fun ci5 hc5 v5 hv5 a h => ?_)
            replace hc5 : E.rd e_Pair _ _ ci5 x5 := hc5
            obtain ⟨_, _, rfl, rfl, rfl⟩ := hc5
            obtain rfl := Option.some.inj hv5
            have h := h.upd (t := 50) (.agg #[vi x5.1, vi x5.2]) rfl rfl
            obtain ⟨x6, h10, hm⟩ := bnd hm
            refine sl (b_index_arr h (h.g 0) rfl rfl h10 fun b6 hp6 a h => ?_)
            refine sl (b_store_arr 0 ((Sub.id e_Pair)) (v := .agg #[vi x5.1, vi x5.2]) x5 true h (h.g 0) hp6 h10 rfl rfl (eProd.mk eInt.mk eInt.mk) fun r_4 a w h e => ?_)
            refine oe ?_
            refine reg ?_
            refine pr 3 [(3, vi (w64 (s3.2.1 + 1)))] h fun a h => ?_
            refine ops_end ?_
            refine inb_n ?_
            refine then_n ?_
            refine reg ?_
            refine pr 3 [(5, vi (w64 (s3.2.2 + 1)))] h fun a h => ?_
            refine ops_end ?_
            obtain rfl := Option.some.inj hm
            exact lp_n rfl ⟨r_4, h.to 1 ⟨(h.g 0), trivial⟩⟩
          replace hm := ifF hb5 hm
          refine wp_skip ?_
          refine inb_n ?_
          refine then_n ?_
          refine reg ?_
          refine pr 3 [(5, vi (w64 (s3.2.2 + 1)))] h fun a h => ?_
          refine ops_end ?_
          obtain rfl := Option.some.inj hm
          exact lp_n rfl ⟨r_3, h.to 1 ⟨(h.g 0), trivial⟩⟩
        replace hm := ifF hb4 hm
        refine wp_exit ?_
        refine then_e (lp_e (inb_hit ?_))
        replace hm := loopR hr2 hm
        obtain rfl := Option.some.inj hm
        have h := h.upd (t := 0) (.slice p1 (List.length s3.1) c1) rfl (congrArg (fun q : Nat => Value.slice p1 q c1) (Ar.ln (h.g 0)))
        have h := h.add (Ar.re (h.g 0))
        exact then_n ⟨p1, c1, r_3, h.to 1 ⟨(h.g 0), trivial⟩⟩
      intro a w hJ
      obtain ⟨p3, c3, r_2, h⟩ := hJ
      refine sr ?_
      refine pr 2 [(55, vi s2.2), (54, .slice p3 (List.length s2.1) c3)] h fun a h => ?_
      obtain ⟨u2, h11, hm⟩ := bnd hm
      refine sl (b_slice_view h (h.g 0) rfl rfl h11 fun p4 c4 f2 a h => ?_)
      refine sl (b_clear_view 0 (zd := (0, 0)) (zv := .agg #[vi 0, vi 0]) h (h.g 0) f2 rfl rfl (eProd.mk eInt.mk eInt.mk) fun r_5 a w h e => ?_)
      refine oe ?_
      refine sr ?_
      refine pr 2 [(58, vi s2.2), (57, .slice p3 (List.length s2.1) c3)] h fun a h => ?_
      obtain ⟨x7, h12, hm⟩ := bnd hm
      refine sl (b_slice_pre h (h.g 0) rfl rfl h12 fun a h => ?_)
      refine pr 1 [(2, .slice p3 (List.length x7) c3)] h fun a h => ?_
      refine oe ?_
      refine wp_ret ?_
      refine inb_r (then_r (lp_r (inb_r (then_r ?_))))
      replace hm := loopR hr1 hm
      obtain rfl := Option.some.inj hm
      have h := h.share 0 (h.g 0)
      exact rt1 h rfl rfl ⟨p3, c3, rfl, bk_sel h [900] ⟨(h.g 0), trivial⟩⟩
    replace hm := ifF hb3 hm
    refine wp_skip ?_
    refine inb_n ?_
    refine then_n ?_
    refine reg ?_
    refine pr 3 [(3, vi (w64 (s1 + 1)))] h fun a h => ?_
    refine ops_end ?_
    obtain rfl := Option.some.inj hm
    exact lp_n rfl (h.to 1 ⟨(h.g 0), trivial⟩)
  replace hm := ifF hb2 hm
  refine wp_exit ?_
  refine then_e (lp_e (inb_hit ?_))
  replace hm := loopR hr1 hm
  refine then_n ?_
  refine sp [(2, .slice p1 (List.length y0) c1)] h fun a h => ?_
  refine wp_ret ?_
  obtain rfl := Option.some.inj hm
  have h := h.share 0 (h.g 0)
  exact rt1 h rfl rfl ⟨p1, c1, rfl, bk_sel h [900] ⟨(h.g 0), trivial⟩⟩

theorem c_attack_Graph_1 {A : List Nat} {w0 : World} {y0 : T_Pair} {y1 : T_Pair} {r : Int} (hO : Own A w0 []) (hF : All [] (bl [] ++ A) w0) (hm : m_attack_Graph_1 y0 y1 = some r) :
    Calls Tryz.prog 45 [.agg #[vi y0.1, vi y0.2], .agg #[vi y1.1, vi y1.2]].toArray w0 (Ret fun v w => v = vi r ∧ Bk A [] w0 [] [] w) := by
  unfold m_attack_Graph_1 at hm
  refine ent Tryz.func45 rfl hO hF fun a h => ?_
  refine sr ?_
  refine sl (b_box h rfl fun b1 a w h e => ?_)
  refine sl (b_box h rfl fun b2 a w h e => ?_)
  refine pr 1 [] h fun a h => ?_
  refine oe ?_
  refine ds [] [0, 1] h fun w h => ?_
  refine dp 0 (.pointer (some ⟨b1, 0, none⟩)) h rfl fun a h => ?_
  refine dlo 1 0 (vi y0.1) h rfl rfl rfl fun a h => ?_
  refine dp 2 (.pointer (some ⟨b2, 0, none⟩)) h rfl fun a h => ?_
  refine dlo 3 1 (vi y1.1) h rfl rfl rfl fun a h => ?_
  refine dp 5 (.pointer (some ⟨b1, 1, none⟩)) h rfl fun a h => ?_
  refine dlo 6 0 (vi y0.2) h rfl rfl rfl fun a h => ?_
  refine dp 7 (.pointer (some ⟨b2, 1, none⟩)) h rfl fun a h => ?_
  refine dlo 8 1 (vi y1.2) h rfl rfl rfl fun a h => ?_
  refine d1 4 rfl ?_
  obtain ⟨r1, h1, hm⟩ := bnd hm
  refine b_call [] [] h Tryz.call36 rfl rfl (c_cmp_Compare_int (y0 := y0.1) (y1 := y1.1) (h.po [] []) trivial h1) fun v a w hp hc => ?_
  obtain ⟨rfl, q⟩ := hp
  have e := hc.st q [bx b1 87 [vi y0.1, vi y0.2], bx b2 87 [vi y1.1, vi y1.2]]
  have h := hc.on q [bx b1 87 [vi y0.1, vi y0.2], bx b2 87 [vi y1.1, vi y1.2]]
  refine dn h e ?_
  refine d1 9 rfl ?_
  obtain ⟨r2, h2, hm⟩ := bnd hm
  refine b_call [] [] h Tryz.call36 rfl rfl (c_cmp_Compare_int (y0 := y0.2) (y1 := y1.2) (h.po [] []) trivial h2) fun v a w hp hc => ?_
  obtain ⟨rfl, q⟩ := hp
  have e := hc.st q [bx b1 87 [vi y0.1, vi y0.2], bx b2 87 [vi y1.1, vi y1.2]]
  have h := hc.on q [bx b1 87 [vi y0.1, vi y0.2], bx b2 87 [vi y1.1, vi y1.2]]
  refine dn h e ?_
  refine d1 10 rfl ?_
  refine b_bs_rd (te := 3) (e := eInt .i64) [vi r1, vi r2] ([r1, r2] : List Int) h ⟨_, _, rfl, eInt.mk, ⟨_, _, rfl, eInt.mk, rfl⟩⟩ fun p1 c1 a w h e => ?_
  refine dn h e ?_
  refine d1 11 rfl ?_
  obtain ⟨r3, h3, hm⟩ := bnd hm
  refine b_call [] [] h Tryz.call35 rfl rfl (c_cmp_Or_int (y0 := ([r1, r2] : List Int)) (h.po [] []) ⟨(h.pf [] [] 0), trivial⟩ h3) fun v a w hp hc => ?_
  obtain ⟨rfl, q⟩ := hp
  have e := hc.st q [bx b1 87 [vi y0.1, vi y0.2], bx b2 87 [vi y1.1, vi y1.2]]
  have h := hc.on q [bx b1 87 [vi y0.1, vi y0.2], bx b2 87 [vi y1.1, vi y1.2]]
  refine dn h e ?_
  refine dp 12 (vi r3) h rfl fun a h => ?_
  refine de (then_n ?_)
  refine wp_ret ?_
  obtain rfl := Option.some.inj hm
  exact rt1 h rfl rfl ⟨rfl, bk_sel h [] trivial⟩

theorem c_slices_SortFunc_Pair__attack_Graph_1 {A : List Nat} {w0 : World} {y0 : List T_Pair} {p1 : Option Addr} {c1 : Nat} {r_1 : Res} {r : List T_Pair} (hO : Own A w0 [r_1]) (hF : All [Ar e_Pair 87 r_1 p1 c1 (List.length y0) y0] (bl [r_1] ++ A) w0) (hm : m_slices_SortFunc_Pair__attack_Graph_1 y0 = some r) :
    Calls Tryz.prog 44 [.slice p1 (List.length y0) c1, .func (.func 45) #[] #[]].toArray w0 (Ret fun v w => ∃ (r_2 : Res), v = .tuple #[] ∧ Bk A [r_1] w0 [r_2] [Ar e_Pair 87 r_2 p1 c1 (List.length y0) r] w) := by
  have h := sort_flat Go.Proofs.Tryz.sort44 (Flat.prod (Flat.int .i64) (Flat.int .i64)) (te := 87) Tryz.isAgg87 Tryz.sizeOf87 m_attack_Graph_1 45 (enters_of Tryz.func45 (by kernel_rfl) rfl) (fun w x y n hn => ?_) hO hF.1.1 hm
  · change Calls Tryz.prog 44 _ _ _ at h
    refine h.mono fun e w' h => ?_
    cases e with
    | returned v => obtain ⟨r', rfl, h1, h2, h3, h4⟩ := h; exact ⟨r', rfl, h1, h2, ⟨h3, h4.symm⟩, trivial⟩
    | panicked ch => exact h
    | outgrown => exact h
  · refine (c_attack_Graph_1 (A := []) (y0 := x) (y1 := y) (Own.start (by simp)) trivial hn).mono fun e w' h => ?_
    cases e with
    | returned v => obtain ⟨rfl, h⟩ := h; exact ⟨rfl, h.e⟩
    | panicked ch => exact h
    | outgrown => exact h

end Go.Proofs.YtofgcpbdgokpjaaGreat
