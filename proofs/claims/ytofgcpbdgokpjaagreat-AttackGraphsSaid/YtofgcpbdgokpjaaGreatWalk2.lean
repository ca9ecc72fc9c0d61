/- The Go functions compute their models: printed by program (gd2). Conditions: none. -/
import Derived.Test.YtofgcpbdgokpjaaGreatWalk1
namespace Go.Proofs.YtofgcpbdgokpjaaGreat
open Go Go.GD
set_option autoImplicit false
set_option maxRecDepth 100000

theorem c_attack_Graph {A : List Nat} {w0 : World} {y0 : Int} {y1 : List T_Attack} {p1 : Option Addr} {c1 : Nat} {r : T_Graph × Int} (hO : Own A w0 []) (hF : All [R e_Attack p1 c1 (List.length y1) y1] (bl [] ++ A) w0) (hm : m_attack_Graph y0 y1 = some r) :
    Calls Tryz.prog 20 [vi y0, .slice p1 (List.length y1) c1].toArray w0 (Ret fun v w => ∃ (p2 : Option Addr) (c2 : Nat), v = .tuple #[.agg #[vi r.1.1, .slice p2 (List.length r.1.2) c2], vi r.2] ∧ Bk A [] w0 [] [R e_Pair p2 c2 (List.length r.1.2) r.1.2] w) := by
  unfold m_attack_Graph at hm
  refine ent Tryz.func20 rfl hO hF fun a h => ?_
  refine sr ?_
  refine sl (b_alloc h rfl fun b1 a w h e => ?_)
  refine pr 1 [] h fun a h => ?_
  refine oe ?_
  refine wp_seq ?_
  refine seq_j (fun a w => SS A [] w0 59 [(0, vi y0), (1, .slice p1 (List.length y1) c1), (4, .pointer (some ⟨b1, 0, none⟩)), (14, vb ((decide (y0 < 0)) || (decide (40 < y0))))] [bx b1 50 [vi 0, .slice none 0 0]] [R e_Attack p1 c1 (List.length y1) y1] a w) ?_ ?_
  · refine reg ?_
    refine pr 3 [(11, vb (decide (y0 < 0)))] h fun a h => ?_
    rcases Bool.eq_false_or_eq_true (decide (y0 < 0)) with hb1 | hb1
    · have h := h.upd (t := 11) (vb true) rfl (congrArg Value.bool hb1)
      refine pr 3 [(14, vb true)] h fun a h => ?_
      refine ops_end ?_
      have h := h.upd (t := 14) (vb ((decide (y0 < 0)) || (decide (40 < y0)))) rfl (by rw [hb1]; rfl)
      exact then_n (h.to 1 ⟨(h.g 0), trivial⟩)
    · have h := h.upd (t := 11) (vb false) rfl (congrArg Value.bool hb1)
      refine pr 3 [(14, vb (decide (40 < y0)))] h fun a h => ?_
      refine ops_end ?_
      have h := h.upd (t := 14) (vb ((decide (y0 < 0)) || (decide (40 < y0)))) rfl (by rw [hb1]; rfl)
      exact then_n (h.to 1 ⟨(h.g 0), trivial⟩)
  intro a w hJ
  have h := hJ
  refine cb h rfl (fun hb2 => ?_) (fun hb2 => ?_)
  · replace hm := ifT hb2 hm
    refine sr ?_
    refine pr 1 [(15, .agg #[vi 0, .slice none 0 0])] h fun a h => ?_
    refine sl (b_store_own 0 h rfl rfl rfl fun a w h e => ?_)
    refine pr 1 [(5, vi 1)] h fun a h => ?_
    refine oe ?_
    refine wp_ret ?_
    refine then_r ?_
    obtain rfl := Option.some.inj hm
    exact rtg h rfl (vs := [.agg #[vi 0, .slice none 0 0], vi 1]) (rtc 0 h rfl rfl (resT rfl resN)) ⟨none, 0, rfl, bk_sel h [] ⟨(rnil e_Pair _ _ _ _), trivial⟩⟩
  replace hm := ifF hb2 hm
  refine wp_skip ?_
  refine then_n ?_
  refine sr ?_
  refine pr 2 [(17, .agg #[vi y0, .slice none 0 0])] h fun a h => ?_
  have h := h.room e_Pair 87
  refine sl (b_alloc h rfl fun b2 a w h e => ?_)
  refine sl (b_store_own 2 h rfl rfl rfl fun a w h e => ?_)
  refine oe ?_
  obtain ⟨os1, hx, hm⟩ := bnd hm
  refine seq_j (fun a w => ∃ s1 : (List T_Pair), os1 = .inl s1 ∧ (∃ (p2 : Option Addr) (c2 : Nat) (r_1 : Res), SS A [] w0 59 [(4, .pointer (some ⟨b1, 0, none⟩)), (6, .pointer (some ⟨b2, 0, none⟩))] [bx b1 50 [vi 0, .slice none 0 0], r_1, bx b2 50 [vi y0, .slice p2 (List.length s1) c2]] [Ar e_Pair 87 r_1 p2 c2 (List.length s1) s1] a w)) ?_ ?_
  · have hm2 := hm
    replace hm := hx
    refine sp [(20, vi 0), (19, vi (len y1)), (18, .slice p1 (List.length y1) c1)] h fun a h => ?_
    refine wp_block ?_
    refine loop_m (B := (m_attack_Graph_L1 y1 y0)) (fun (s2 : Int × (List T_Pair)) a w => ∃ (p3 : Option Addr) (c3 : Nat) (r_2 : Res), SS A [] w0 59 [(0, vi y0), (4, .pointer (some ⟨b1, 0, none⟩)), (6, .pointer (some ⟨b2, 0, none⟩)), (18, .slice p1 (List.length y1) c1), (19, vi (len y1)), (20, vi s2.1)] [bx b1 50 [vi 0, .slice none 0 0], r_2, bx b2 50 [vi y0, .slice p3 (List.length s2.2) c3]] [Ar e_Pair 87 r_2 p3 c3 (List.length s2.2) s2.2, R e_Attack p1 c1 (List.length y1) y1] a w) hm ⟨none, 0, [], h.to 3 ⟨(h.g 0), (h.g 1), trivial⟩⟩ ?_
    intro s2 a w o1 hJ hm hr1
    obtain ⟨p3, c3, r_2, h⟩ := hJ
    unfold m_attack_Graph_L1 at hm
    refine sp [(21, vb (decide (s2.1 < (len y1))))] h fun a h => ?_
    refine wp_seq ?_
    refine cb h rfl (fun hb3 => ?_) (fun hb3 => ?_)
    · replace hm := ifT hb3 hm
      refine wp_skip ?_
      refine then_n ?_
      refine wp_seq ?_
      refine wp_block ?_
      refine sr ?_
      obtain ⟨x1, h1, hm⟩ := bnd hm
      refine sl (b_index_rd h (h.g 1) rfl rfl h1 fun b3 o2 a h => ?_)
      refine sl (b_load_pt true h (h.g 0) rfl fun ci1 hc1 v1 hv1 a h => ?_)
      replace hc1 : E.rd e_Attack _ _ ci1 x1 := hc1
      obtain ⟨_, _, rfl, rfl, ⟨_, _, rfl, rfl, ⟨_, _, rfl, rfl, rfl⟩⟩⟩ := hc1
      obtain rfl := Option.some.inj hv1
      have h := h.upd (t := 23) (.agg #[vi x1.1, vi x1.2.1, vi x1.2.2.1, vi x1.2.2.2]) rfl rfl
      refine sl (b_alloc h rfl fun b4 a w h e => ?_)
      refine sl (b_store_own 3 h rfl rfl rfl fun a w h e => ?_)
      refine oe ?_
      refine wp_seq ?_
      refine seq_j (fun a w => SS A [] w0 59 [(0, vi y0), (4, .pointer (some ⟨b1, 0, none⟩)), (6, .pointer (some ⟨b2, 0, none⟩)), (8, .pointer (some ⟨b4, 0, none⟩)), (18, .slice p1 (List.length y1) c1), (19, vi (len y1)), (20, vi s2.1), (38, vb ((decide ((if x1.2.1 < x1.1 then x1.2.1 else x1.1) < 0)) || (decide (y0 ≤ (if x1.2.1 > x1.1 then x1.2.1 else x1.1)))))] [bx b1 50 [vi 0, .slice none 0 0], r_2, bx b2 50 [vi y0, .slice p3 (List.length s2.2) c3], bx b4 45 [vi x1.1, vi x1.2.1, vi x1.2.2.1, vi x1.2.2.2]] [R e_Attack p1 c1 (List.length y1) y1, Ar e_Pair 87 r_2 p3 c3 (List.length s2.2) s2.2] a w) ?_ ?_
      · refine reg ?_
        refine pr 1 [(24, .pointer (some ⟨b4, 0, none⟩))] h fun a h => ?_
        refine sl (b_load_own 3 (vi x1.1) h rfl rfl fun a h => ?_)
        refine pr 1 [(26, .pointer (some ⟨b4, 1, none⟩))] h fun a h => ?_
        refine sl (b_load_own 3 (vi x1.2.1) h rfl rfl fun a h => ?_)
        refine pr 3 [(30, vb (decide ((if x1.2.1 < x1.1 then x1.2.1 else x1.1) < 0)))] h fun a h => ?_
        rcases Bool.eq_false_or_eq_true (decide ((if x1.2.1 < x1.1 then x1.2.1 else x1.1) < 0)) with hb4 | hb4
        · have h := h.upd (t := 30) (vb true) rfl (congrArg Value.bool hb4)
          refine pr 8 [(38, vb true)] h fun a h => ?_
          refine ops_end ?_
          have h := h.upd (t := 38) (vb ((decide ((if x1.2.1 < x1.1 then x1.2.1 else x1.1) < 0)) || (decide (y0 ≤ (if x1.2.1 > x1.1 then x1.2.1 else x1.1))))) rfl (by rw [hb4]; rfl)
          exact then_n (h.to 4 ⟨(h.g 2), (h.g 1), trivial⟩)
        · have h := h.upd (t := 30) (vb false) rfl (congrArg Value.bool hb4)
          refine pr 1 [(31, .pointer (some ⟨b4, 0, none⟩))] h fun a h => ?_
          refine sl (b_load_own 3 (vi x1.1) h rfl rfl fun a h => ?_)
          refine pr 1 [(33, .pointer (some ⟨b4, 1, none⟩))] h fun a h => ?_
          refine sl (b_load_own 3 (vi x1.2.1) h rfl rfl fun a h => ?_)
          refine pr 4 [(38, vb (decide (y0 ≤ (if x1.2.1 > x1.1 then x1.2.1 else x1.1))))] h fun a h => ?_
          refine ops_end ?_
          have h := h.upd (t := 38) (vb ((decide ((if x1.2.1 < x1.1 then x1.2.1 else x1.1) < 0)) || (decide (y0 ≤ (if x1.2.1 > x1.1 then x1.2.1 else x1.1))))) rfl (by rw [hb4]; rfl)
          exact then_n (h.to 4 ⟨(h.g 2), (h.g 1), trivial⟩)
      intro a w hJ
      have h := hJ
      refine cb h rfl (fun hb5 => ?_) (fun hb5 => ?_)
      · replace hm := ifT hb5 hm
        refine sr ?_
        refine pr 1 [(39, .agg #[vi 0, .slice none 0 0])] h fun a h => ?_
        refine sl (b_store_own 0 h rfl rfl rfl fun a w h e => ?_)
        refine pr 1 [(5, vi 1)] h fun a h => ?_
        refine oe ?_
        refine wp_ret ?_
        refine then_r (inb_r (then_r (lp_r (inb_r (then_r ?_)))))
        replace hm := loopR hr1 hm
        obtain rfl := Option.some.inj hm
        replace hm := hm2
        obtain rfl := Option.some.inj hm
        exact rtg h rfl (vs := [.agg #[vi 0, .slice none 0 0], vi 1]) (rtc 0 h rfl rfl (resT rfl resN)) ⟨none, 0, rfl, bk_sel h [] ⟨(rnil e_Pair _ _ _ _), trivial⟩⟩
      replace hm := ifF hb5 hm
      refine wp_skip ?_
      refine then_n ?_
      refine reg ?_
      refine pr 1 [(40, .pointer (some ⟨b2, 1, none⟩))] h fun a h => ?_
      refine sl (b_load_own 2 (.slice p3 (List.length s2.2) c3) h rfl rfl fun a h => ?_)
      refine pr 1 [(42, .pointer (some ⟨b4, 0, none⟩))] h fun a h => ?_
      refine sl (b_load_own 3 (vi x1.1) h rfl rfl fun a h => ?_)
      refine pr 1 [(44, .pointer (some ⟨b4, 1, none⟩))] h fun a h => ?_
      refine sl (b_load_own 3 (vi x1.2.1) h rfl rfl fun a h => ?_)
      refine pr 1 [(46, .agg #[vi x1.1, vi x1.2.1])] h fun a h => ?_
      refine sl (b_bs_rd (te := 87) (e := e_Pair) [vi x1.1, vi x1.2.1] ([(x1.1, x1.2.1)] : List T_Pair) h ⟨_, _, rfl, eProd.mk eInt.mk eInt.mk, rfl⟩ fun p4 c4 a w h e => ?_)
      obtain ⟨x2, h2, hm⟩ := bnd hm
      refine sl (b_append_r (te := 87) 1 h (h.g 2) (h.g 0) rfl rfl h2 fun r_3 p5 c5 a w h e => ?_)
      refine pr 1 [(49, .pointer (some ⟨b2, 1, none⟩))] h fun a h => ?_
      refine sl (b_store_own 2 h rfl rfl rfl fun a w h e => ?_)
      refine ops_end ?_
      refine inb_n ?_
      refine then_n ?_
      refine reg ?_
      refine pr 2 [(20, vi (w64 (s2.1 + 1)))] h fun a h => ?_
      refine ops_end ?_
      obtain rfl := Option.some.inj hm
      exact lp_n rfl ⟨p5, c5, r_3, h.to 3 ⟨(h.g 0), (h.g 2), trivial⟩⟩
    replace hm := ifF hb3 hm
    refine wp_exit ?_
    refine then_e (lp_e (inb_hit ?_))
    replace hm := loopR hr1 hm
    obtain rfl := Option.some.inj hm
    exact then_n ⟨_, rfl, ⟨p3, c3, r_2, h.to 3 ⟨(h.g 0), trivial⟩⟩⟩
  intro a w hJ
  obtain ⟨s1, rfl, p2, c2, r_1, h⟩ := hJ
  refine sr ?_
  refine pr 1 [(51, .pointer (some ⟨b2, 1, none⟩))] h fun a h => ?_
  refine sl (b_load_own 2 (.slice p2 (List.length s1) c2) h rfl rfl fun a h => ?_)
  obtain ⟨r1, h3, hm⟩ := bnd hm
  refine sl (b_call [1] [] h Tryz.call44 rfl rfl (c_slices_SortFunc_Pair__attack_Graph_1 (y0 := s1) (h.po [1] []) ⟨(h.pf [1] [] 0), trivial⟩ h3) fun v a w hp hc => ?_)
  obtain ⟨r_4, rfl, q⟩ := hp
  have h := hc.on q [bx b1 50 [vi 0, .slice none 0 0], r_4, bx b2 50 [vi y0, .slice p2 (List.length s1) c2]]
  refine oe ?_
  refine sr ?_
  refine pr 1 [(54, .pointer (some ⟨b2, 1, none⟩))] h fun a h => ?_
  refine sl (b_load_own 2 (.slice p2 (List.length s1) c2) h rfl rfl fun a h => ?_)
  have h := h.upd (t := 55) (.slice p2 (List.length r1) c2) rfl (congrArg (fun q : Nat => Value.slice p2 q c2) (Ar.ln (h.g 0)))
  have h := h.add (Ar.re (h.g 0))
  obtain ⟨r2, h4, hm⟩ := bnd hm
  refine sl (b_call [1] [] h Tryz.call46 rfl rfl (c_slices_Compact_Pair (y0 := r1) (h.po [1] []) ⟨(h.pf [1] [] 0), trivial⟩ h4) fun v a w hp hc => ?_)
  obtain ⟨p6, c6, rfl, q⟩ := hp
  have h := hc.on q [bx b1 50 [vi 0, .slice none 0 0], [], bx b2 50 [vi y0, .slice p2 (List.length s1) c2]]
  refine pr 1 [(57, .pointer (some ⟨b2, 1, none⟩))] h fun a h => ?_
  refine sl (b_store_own 2 h rfl rfl rfl fun a w h e => ?_)
  refine oe ?_
  refine sr ?_
  refine sl (b_load_own 2 (.agg #[vi y0, .slice p6 (List.length r2) c6]) h rfl rfl fun a h => ?_)
  refine sl (b_store_own 0 h rfl rfl rfl fun a w h e => ?_)
  refine pr 1 [(5, vi 0)] h fun a h => ?_
  refine oe ?_
  refine wp_ret ?_
  obtain rfl := Option.some.inj hm
  exact rtg h rfl (vs := [.agg #[vi y0, .slice p6 (List.length r2) c6], vi 0]) (rtc 0 h rfl rfl (resT rfl resN)) ⟨p6, c6, rfl, bk_sel h [] ⟨(h.g 0), trivial⟩⟩

theorem c_ref01_ValidName {A : List Nat} {w0 : World} {y0 : Str} {r : Bool} (hO : Own A w0 []) (hF : All [] (bl [] ++ A) w0) (hm : m_ref01_ValidName y0 = some r) :
    Calls Tryz.prog 120 [vs y0].toArray w0 (Ret fun v w => v = vb r ∧ Bk A [] w0 [] [] w) := by
  unfold m_ref01_ValidName at hm
  refine ent Tryz.func120 rfl hO hF fun a h => ?_
  refine sp [] h fun a h => ?_
  refine wp_seq ?_
  obtain ⟨s1, hx, hm⟩ := bnd hm
  refine seq_j (fun a w => SS A [] w0 56 [(0, vs y0), (21, vb s1)] [] [] a w) ?_ ?_
  · replace hm := hx
    refine reg ?_
    refine pr 4 [(7, vb (decide ((len y0) < 1)))] h fun a h => ?_
    rcases Bool.eq_false_or_eq_true (decide ((len y0) < 1)) with hb1 | hb1
    · have h := h.upd (t := 7) (vb true) rfl (congrArg Value.bool hb1)
      replace hm := ifT hb1 hm
      refine pr 14 [(21, vb true)] h fun a h => ?_
      refine ops_end ?_
      obtain rfl := Option.some.inj hm
      exact then_n (h.to 0 trivial)
    · have h := h.upd (t := 7) (vb false) rfl (congrArg Value.bool hb1)
      replace hm := ifF hb1 hm
      refine pr 5 [(12, vb (decide (12 < (len y0))))] h fun a h => ?_
      rcases Bool.eq_false_or_eq_true (decide (12 < (len y0))) with hb2 | hb2
      · have h := h.upd (t := 12) (vb true) rfl (congrArg Value.bool hb2)
        replace hm := ifT hb2 hm
        refine pr 9 [(21, vb true)] h fun a h => ?_
        refine ops_end ?_
        obtain rfl := Option.some.inj hm
        exact then_n (h.to 0 trivial)
      · have h := h.upd (t := 12) (vb false) rfl (congrArg Value.bool hb2)
        replace hm := ifF hb2 hm
        refine pr 1 [(13, vs y0)] h fun a h => ?_
        obtain ⟨x1, h1, hm⟩ := bnd hm
        refine sl (b_val h (r_sidx h.s rfl rfl Tryz.underlying9 h1) fun a h => ?_)
        refine pr 3 [(17, vb (decide (x1 < 97)))] h fun a h => ?_
        rcases Bool.eq_false_or_eq_true (decide (x1 < 97)) with hb3 | hb3
        · have h := h.upd (t := 17) (vb true) rfl (congrArg Value.bool hb3)
          replace hm := ifT hb3 hm
          refine pr 4 [(21, vb true)] h fun a h => ?_
          refine ops_end ?_
          obtain rfl := Option.some.inj hm
          exact then_n (h.to 0 trivial)
        · have h := h.upd (t := 17) (vb false) rfl (congrArg Value.bool hb3)
          replace hm := ifF hb3 hm
          refine pr 1 [(18, vs y0)] h fun a h => ?_
          obtain ⟨x2, h2, hm⟩ := bnd hm
          refine sl (b_val h (r_sidx h.s rfl rfl Tryz.underlying9 h2) fun a h => ?_)
          refine pr 2 [(21, vb (decide (122 < x2)))] h fun a h => ?_
          refine ops_end ?_
          obtain rfl := Option.some.inj hm
          exact then_n (h.to 0 trivial)
  intro a w hJ
  have h := hJ
  refine cb h rfl (fun hb4 => ?_) (fun hb4 => ?_)
  · replace hm := ifT hb4 hm
    refine sp [(2, vb false)] h fun a h => ?_
    refine wp_ret ?_
    refine then_r ?_
    obtain rfl := Option.some.inj hm
    exact rt1 h rfl rfl ⟨rfl, bk_sel h [] trivial⟩
  replace hm := ifF hb4 hm
  refine wp_skip ?_
  refine then_n ?_
  refine wp_seq ?_
  refine sp [(3, vi 0)] h fun a h => ?_
  refine wp_block ?_
  refine loop_m (B := (m_ref01_ValidName_L1 y0)) (fun (s2 : Int) a w => SS A [] w0 56 [(0, vs y0), (3, vi s2)] [] [] a w) hm (h.to 0 trivial) ?_
  intro s2 a w o1 hJ hm hr1
  have h := hJ
  unfold m_ref01_ValidName_L1 at hm
  refine wp_seq ?_
  refine sp [(25, vb (decide (s2 < (len y0))))] h fun a h => ?_
  refine cb h rfl (fun hb5 => ?_) (fun hb5 => ?_)
  · replace hm := ifT hb5 hm
    refine wp_skip ?_
    refine then_n ?_
    refine wp_seq ?_
    refine wp_block ?_
    obtain ⟨s3, hx, hm⟩ := bnd hm
    refine seq_j (fun a w => SS A [] w0 56 [(0, vs y0), (3, vi s2), (55, vb s3)] [] [] a w) ?_ ?_
    · replace hm := hx
      refine reg ?_
      refine pr 2 [(29, vi s2), (28, vs y0)] h fun a h => ?_
      obtain ⟨x3, h3, hm⟩ := bnd hm
      refine sl (b_val h (r_sidx h.s rfl rfl Tryz.underlying9 h3) fun a h => ?_)
      refine pr 2 [(32, vb (decide (x3 < 97)))] h fun a h => ?_
      rcases Bool.eq_false_or_eq_true (decide (x3 < 97)) with hb6 | hb6
      · have h := h.upd (t := 32) (vb true) rfl (congrArg Value.bool hb6)
        replace hm := ifT hb6 hm
        refine pr 8 [(40, vi s2), (39, vs y0), (38, vb true)] h fun a h => ?_
        obtain ⟨x4, h4, hm⟩ := bnd hm
        refine sl (b_val h (r_sidx h.s rfl rfl Tryz.underlying9 h4) fun a h => ?_)
        refine pr 2 [(43, vb (decide (x4 < 48)))] h fun a h => ?_
        rcases Bool.eq_false_or_eq_true (decide (x4 < 48)) with hb7 | hb7
        · have h := h.upd (t := 43) (vb true) rfl (congrArg Value.bool hb7)
          replace hm := ifT hb7 hm
          refine pr 9 [(52, vi s2), (51, vs y0), (50, vb true)] h fun a h => ?_
          obtain ⟨x5, h5, hm⟩ := bnd hm
          refine sl (b_val h (r_sidx h.s rfl rfl Tryz.underlying9 h5) fun a h => ?_)
          refine pr 2 [(55, vb (x5 != 95))] h fun a h => ?_
          refine ops_end ?_
          obtain rfl := Option.some.inj hm
          exact then_n (h.to 0 trivial)
        · have h := h.upd (t := 43) (vb false) rfl (congrArg Value.bool hb7)
          replace hm := ifF hb7 hm
          refine pr 2 [(45, vi s2), (44, vs y0)] h fun a h => ?_
          obtain ⟨x6, h6, hm⟩ := bnd hm
          refine sl (b_val h (r_sidx h.s rfl rfl Tryz.underlying9 h6) fun a h => ?_)
          refine pr 4 [(50, vb (decide (57 < x6)))] h fun a h => ?_
          rcases Bool.eq_false_or_eq_true (decide (57 < x6)) with hb8 | hb8
          · have h := h.upd (t := 50) (vb true) rfl (congrArg Value.bool hb8)
            replace hm := ifT hb8 hm
            refine pr 2 [(52, vi s2), (51, vs y0)] h fun a h => ?_
            obtain ⟨x7, h7, hm⟩ := bnd hm
            refine sl (b_val h (r_sidx h.s rfl rfl Tryz.underlying9 h7) fun a h => ?_)
            refine pr 2 [(55, vb (x7 != 95))] h fun a h => ?_
            refine ops_end ?_
            obtain rfl := Option.some.inj hm
            exact then_n (h.to 0 trivial)
          · have h := h.upd (t := 50) (vb false) rfl (congrArg Value.bool hb8)
            replace hm := ifF hb8 hm
            refine pr 5 [(55, vb false)] h fun a h => ?_
            refine ops_end ?_
            obtain rfl := Option.some.inj hm
            exact then_n (h.to 0 trivial)
      · have h := h.upd (t := 32) (vb false) rfl (congrArg Value.bool hb6)
        replace hm := ifF hb6 hm
        refine pr 2 [(34, vi s2), (33, vs y0)] h fun a h => ?_
        obtain ⟨x8, h8, hm⟩ := bnd hm
        refine sl (b_val h (r_sidx h.s rfl rfl Tryz.underlying9 h8) fun a h => ?_)
        refine pr 3 [(38, vb (decide (122 < x8)))] h fun a h => ?_
        rcases Bool.eq_false_or_eq_true (decide (122 < x8)) with hb9 | hb9
        · have h := h.upd (t := 38) (vb true) rfl (congrArg Value.bool hb9)
          replace hm := ifT hb9 hm
          refine pr 2 [(40, vi s2), (39, vs y0)] h fun a h => ?_
          obtain ⟨x9, h9, hm⟩ := bnd hm
          refine sl (b_val h (r_sidx h.s rfl rfl Tryz.underlying9 h9) fun a h => ?_)
          refine pr 2 [(43, vb (decide (x9 < 48)))] h fun a h => ?_
          rcases Bool.eq_false_or_eq_true (decide (x9 < 48)) with hb10 | hb10
          · have h := h.upd (t := 43) (vb true) rfl (congrArg Value.bool hb10)
            replace hm := ifT hb10 hm
            refine pr 9 [(52, vi s2), (51, vs y0), (50, vb true)] h fun a h => ?_
            obtain ⟨x10, h10, hm⟩ := bnd hm
            refine sl (b_val h (r_sidx h.s rfl rfl Tryz.underlying9 h10) fun a h => ?_)
            refine pr 2 [(55, vb (x10 != 95))] h fun a h => ?_
            refine ops_end ?_
            obtain rfl := Option.some.inj hm
            exact then_n (h.to 0 trivial)
          · have h := h.upd (t := 43) (vb false) rfl (congrArg Value.bool hb10)
            replace hm := ifF hb10 hm
            refine pr 2 [(45, vi s2), (44, vs y0)] h fun a h => ?_
            obtain ⟨x11, h11, hm⟩ := bnd hm
            refine sl (b_val h (r_sidx h.s rfl rfl Tryz.underlying9 h11) fun a h => ?_)
            refine pr 4 [(50, vb (decide (57 < x11)))] h fun a h => ?_
            rcases Bool.eq_false_or_eq_true (decide (57 < x11)) with hb11 | hb11
            · have h := h.upd (t := 50) (vb true) rfl (congrArg Value.bool hb11)
              replace hm := ifT hb11 hm
              refine pr 2 [(52, vi s2), (51, vs y0)] h fun a h => ?_
              obtain ⟨x12, h12, hm⟩ := bnd hm
              refine sl (b_val h (r_sidx h.s rfl rfl Tryz.underlying9 h12) fun a h => ?_)
              refine pr 2 [(55, vb (x12 != 95))] h fun a h => ?_
              refine ops_end ?_
              obtain rfl := Option.some.inj hm
              exact then_n (h.to 0 trivial)
            · have h := h.upd (t := 50) (vb false) rfl (congrArg Value.bool hb11)
              replace hm := ifF hb11 hm
              refine pr 5 [(55, vb false)] h fun a h => ?_
              refine ops_end ?_
              obtain rfl := Option.some.inj hm
              exact then_n (h.to 0 trivial)
        · have h := h.upd (t := 38) (vb false) rfl (congrArg Value.bool hb9)
          replace hm := ifF hb9 hm
          refine pr 17 [(55, vb false)] h fun a h => ?_
          refine ops_end ?_
          obtain rfl := Option.some.inj hm
          exact then_n (h.to 0 trivial)
    intro a w hJ
    have h := hJ
    refine cb h rfl (fun hb12 => ?_) (fun hb12 => ?_)
    · replace hm := ifT hb12 hm
      refine sp [(2, vb false)] h fun a h => ?_
      refine wp_ret ?_
      refine inb_r (then_r (lp_r (inb_r (then_r ?_))))
      replace hm := loopR hr1 hm
      obtain rfl := Option.some.inj hm
      exact rt1 h rfl rfl ⟨rfl, bk_sel h [] trivial⟩
    replace hm := ifF hb12 hm
    refine wp_skip ?_
    refine inb_n ?_
    refine then_n ?_
    refine reg ?_
    refine pr 3 [(3, vi (w64 (s2 + 1)))] h fun a h => ?_
    refine ops_end ?_
    obtain rfl := Option.some.inj hm
    exact lp_n rfl (h.to 0 trivial)
  replace hm := ifF hb5 hm
  refine wp_exit ?_
  refine then_e (lp_e (inb_hit ?_))
  replace hm := loopR hr1 hm
  refine then_n ?_
  refine sp [(2, vb true)] h fun a h => ?_
  refine wp_ret ?_
  obtain rfl := Option.some.inj hm
  exact rt1 h rfl rfl ⟨rfl, bk_sel h [] trivial⟩

theorem c_ref01_Valid {A : List Nat} {w0 : World} {y0 : T_Literal} {r : Bool} (hO : Own A w0 []) (hF : All [] (bl [] ++ A) w0) (hm : m_ref01_Valid y0 = some r) :
    Calls Tryz.prog 87 [.agg #[vb y0.1, vs y0.2]].toArray w0 (Ret fun v w => v = vb r ∧ Bk A [] w0 [] [] w) := by
  unfold m_ref01_Valid at hm
  refine ent Tryz.func87 rfl hO hF fun a h => ?_
  refine sr ?_
  refine sl (b_box h rfl fun b1 a w h e => ?_)
  refine pr 1 [] h fun a h => ?_
  refine oe ?_
  refine sr ?_
  refine pr 1 [(3, .pointer (some ⟨b1, 1, none⟩))] h fun a h => ?_
  refine sl (b_load_own 0 (vs y0.2) h rfl rfl fun a h => ?_)
  obtain ⟨r1, h1, hm⟩ := bnd hm
  refine sl (b_call [] [] h Tryz.call120 rfl rfl (c_ref01_ValidName (y0 := y0.2) (h.po [] []) trivial h1) fun v a w hp hc => ?_)
  obtain ⟨rfl, q⟩ := hp
  have h := hc.on q [bx b1 61 [vb y0.1, vs y0.2]]
  refine pr 1 [(2, vb r1)] h fun a h => ?_
  refine oe ?_
  refine wp_ret ?_
  obtain rfl := Option.some.inj hm
  exact rt1 h rfl rfl ⟨rfl, bk_sel h [] trivial⟩

theorem c_ref05_Find {A : List Nat} {w0 : World} {y0 : T_Base} {p1 : Option Addr} {c1 : Nat} {p2 : Option Addr} {c2 : Nat} {p3 : Option Addr} {c3 : Nat} {y1 : Str} {r : Int} (hO : Own A w0 []) (hF : All [R e_Premise p1 c1 (List.length y0.1) y0.1, R e_Rule p2 c2 (List.length y0.2.1) y0.2.1, R e_Promotion p3 c3 (List.length y0.2.2) y0.2.2] (bl [] ++ A) w0) (hm : m_ref05_Find y0 y1 = some r) :
    Calls Tryz.prog 85 [.agg #[.slice p1 (List.length y0.1) c1, .slice p2 (List.length y0.2.1) c2, .slice p3 (List.length y0.2.2) c3], vs y1].toArray w0 (Ret fun v w => v = vi r ∧ Bk A [] w0 [] [] w) := by
  unfold m_ref05_Find at hm
  refine ent Tryz.func85 rfl hO hF fun a h => ?_
  refine sr ?_
  refine sl (b_box h rfl fun b1 a w h e => ?_)
  refine pr 1 [] h fun a h => ?_
  refine oe ?_
  refine wp_seq ?_
  refine sp [(5, vi 0)] h fun a h => ?_
  refine wp_block ?_
  refine loop_m (B := (m_ref05_Find_L1 y0 y1)) (fun (s1 : Int) a w => SS A [] w0 22 [(1, vs y1), (2, .pointer (some ⟨b1, 0, none⟩)), (5, vi s1)] [bx b1 31 [.slice p1 (List.length y0.1) c1, .slice p2 (List.length y0.2.1) c2, .slice p3 (List.length y0.2.2) c3]] [R e_Premise p1 c1 (List.length y0.1) y0.1, R e_Rule p2 c2 (List.length y0.2.1) y0.2.1, R e_Promotion p3 c3 (List.length y0.2.2) y0.2.2] a w) hm (h.to 1 ⟨(h.g 0), (h.g 1), (h.g 2), trivial⟩) ?_
  intro s1 a w o1 hJ hm hr1
  have h := hJ
  unfold m_ref05_Find_L1 at hm
  refine wp_seq ?_
  refine sr ?_
  refine pr 2 [(7, .pointer (some ⟨b1, 1, none⟩)), (6, vi s1)] h fun a h => ?_
  refine sl (b_load_own 0 (.slice p2 (List.length y0.2.1) c2) h rfl rfl fun a h => ?_)
  refine pr 2 [(10, vb (decide (s1 < (len y0.2.1))))] h fun a h => ?_
  refine oe ?_
  refine cb h rfl (fun hb1 => ?_) (fun hb1 => ?_)
  · replace hm := ifT hb1 hm
    refine wp_skip ?_
    refine then_n ?_
    refine wp_seq ?_
    refine wp_block ?_
    refine sr ?_
    refine pr 1 [(13, .pointer (some ⟨b1, 1, none⟩))] h fun a h => ?_
    refine sl (b_load_own 0 (.slice p2 (List.length y0.2.1) c2) h rfl rfl fun a h => ?_)
    refine pr 1 [(15, vi s1)] h fun a h => ?_
    obtain ⟨x1, h1, hm⟩ := bnd hm
    refine sl (b_index_rd h (h.g 1) rfl rfl h1 fun b2 o2 a h => ?_)
    refine pr 1 [(17, .pointer (some ⟨b2, o2, none⟩))] h fun a h => ?_
    refine sl (b_load_pt false h (PtTo.fst (h.g 0)) rfl fun ci1 hc1 v1 hv1 a h => ?_)
    replace hc1 : E.rd eStr _ _ ci1 x1.1 := hc1
    obtain rfl := hc1
    obtain rfl := Option.some.inj hv1
    refine pr 2 [(20, vb (x1.1 == y1))] h fun a h => ?_
    refine oe ?_
    refine cb h rfl (fun hb2 => ?_) (fun hb2 => ?_)
    · replace hm := ifT hb2 hm
      refine sp [(4, vi s1)] h fun a h => ?_
      refine wp_ret ?_
      refine inb_r (then_r (lp_r (inb_r (then_r ?_))))
      replace hm := loopR hr1 hm
      obtain rfl := Option.some.inj hm
      exact rt1 h rfl rfl ⟨rfl, bk_sel h [] trivial⟩
    replace hm := ifF hb2 hm
    refine wp_skip ?_
    refine inb_n ?_
    refine then_n ?_
    refine reg ?_
    refine pr 3 [(5, vi (w64 (s1 + 1)))] h fun a h => ?_
    refine ops_end ?_
    obtain rfl := Option.some.inj hm
    exact lp_n rfl (h.to 1 ⟨(h.g 1), (h.g 2), (h.g 3), trivial⟩)
  replace hm := ifF hb1 hm
  refine wp_exit ?_
  refine then_e (lp_e (inb_hit ?_))
  replace hm := loopR hr1 hm
  refine then_n ?_
  refine sp [(4, vi (-1))] h fun a h => ?_
  refine wp_ret ?_
  obtain rfl := Option.some.inj hm
  exact rt1 h rfl rfl ⟨rfl, bk_sel h [] trivial⟩

theorem c_ref05_Premise {A : List Nat} {w0 : World} {y0 : T_Base} {p1 : Option Addr} {c1 : Nat} {p2 : Option Addr} {c2 : Nat} {p3 : Option Addr} {c3 : Nat} {y1 : T_Literal} {r : Int} (hO : Own A w0 []) (hF : All [R e_Premise p1 c1 (List.length y0.1) y0.1, R e_Rule p2 c2 (List.length y0.2.1) y0.2.1, R e_Promotion p3 c3 (List.length y0.2.2) y0.2.2] (bl [] ++ A) w0) (hm : m_ref05_Premise y0 y1 = some r) :
    Calls Tryz.prog 83 [.agg #[.slice p1 (List.length y0.1) c1, .slice p2 (List.length y0.2.1) c2, .slice p3 (List.length y0.2.2) c3], .agg #[vb y1.1, vs y1.2]].toArray w0 (Ret fun v w => v = vi r ∧ Bk A [] w0 [] [] w) := by
  unfold m_ref05_Premise at hm
  refine ent Tryz.func83 rfl hO hF fun a h => ?_
  refine sr ?_
  refine sl (b_box h rfl fun b1 a w h e => ?_)
  refine sl (b_box h rfl fun b2 a w h e => ?_)
  refine pr 1 [] h fun a h => ?_
  refine oe ?_
  refine wp_seq ?_
  refine sp [(5, vi 0)] h fun a h => ?_
  refine wp_block ?_
  refine loop_m (B := (m_ref05_Premise_L1 y0 y1)) (fun (s1 : Int) a w => SS A [] w0 22 [(2, .pointer (some ⟨b1, 0, none⟩)), (3, .pointer (some ⟨b2, 0, none⟩)), (5, vi s1)] [bx b1 31 [.slice p1 (List.length y0.1) c1, .slice p2 (List.length y0.2.1) c2, .slice p3 (List.length y0.2.2) c3], bx b2 61 [vb y1.1, vs y1.2]] [R e_Premise p1 c1 (List.length y0.1) y0.1, R e_Rule p2 c2 (List.length y0.2.1) y0.2.1, R e_Promotion p3 c3 (List.length y0.2.2) y0.2.2] a w) hm (h.to 2 ⟨(h.g 0), (h.g 1), (h.g 2), trivial⟩) ?_
  intro s1 a w o1 hJ hm hr1
  have h := hJ
  unfold m_ref05_Premise_L1 at hm
  refine wp_seq ?_
  refine sr ?_
  refine pr 2 [(7, .pointer (some ⟨b1, 0, none⟩)), (6, vi s1)] h fun a h => ?_
  refine sl (b_load_own 0 (.slice p1 (List.length y0.1) c1) h rfl rfl fun a h => ?_)
  refine pr 2 [(10, vb (decide (s1 < (len y0.1))))] h fun a h => ?_
  refine oe ?_
  refine cb h rfl (fun hb1 => ?_) (fun hb1 => ?_)
  · replace hm := ifT hb1 hm
    refine wp_skip ?_
    refine then_n ?_
    refine wp_seq ?_
    refine wp_block ?_
    refine ds [] [0, 1] h fun w h => ?_
    refine dp 0 (.pointer (some ⟨b1, 0, none⟩)) h rfl fun a h => ?_
    refine dlo 1 0 (.slice p1 (List.length y0.1) c1) h rfl rfl rfl fun a h => ?_
    refine dp 2 (vi s1) h rfl fun a h => ?_
    obtain ⟨x1, h1, hm⟩ := bnd hm
    refine dir 3 h rfl (h.g 0) rfl rfl h1 fun b3 o2 a h => ?_
    refine dp 4 (.pointer (some ⟨b3, o2, none⟩)) h rfl fun a h => ?_
    refine dlp 5 true h rfl (PtTo.fst (h.g 0)) rfl fun ci1 hc1 v1 hv1 a h => ?_
    replace hc1 : E.rd e_Literal _ _ ci1 x1.1 := hc1
    obtain ⟨_, _, rfl, rfl, rfl⟩ := hc1
    obtain rfl := Option.some.inj hv1
    have h := h.upd (t := 18) (.agg #[vb x1.1.1, vs x1.1.2]) rfl rfl
    refine dlo 6 1 (.agg #[vb y1.1, vs y1.2]) h rfl rfl rfl fun a h => ?_
    refine dp 7 (vb (x1.1 == y1)) h rfl fun a h => ?_
    refine de (then_n ?_)
    refine cb h rfl (fun hb2 => ?_) (fun hb2 => ?_)
    · replace hm := ifT hb2 hm
      refine sp [(4, vi s1)] h fun a h => ?_
      refine wp_ret ?_
      refine inb_r (then_r (lp_r (inb_r (then_r ?_))))
      replace hm := loopR hr1 hm
      obtain rfl := Option.some.inj hm
      exact rt1 h rfl rfl ⟨rfl, bk_sel h [] trivial⟩
    replace hm := ifF hb2 hm
    refine wp_skip ?_
    refine inb_n ?_
    refine then_n ?_
    refine reg ?_
    refine pr 3 [(5, vi (w64 (s1 + 1)))] h fun a h => ?_
    refine ops_end ?_
    obtain rfl := Option.some.inj hm
    exact lp_n rfl (h.to 2 ⟨(h.g 1), (h.g 2), (h.g 3), trivial⟩)
  replace hm := ifF hb1 hm
  refine wp_exit ?_
  refine then_e (lp_e (inb_hit ?_))
  replace hm := loopR hr1 hm
  refine then_n ?_
  refine sp [(4, vi (-1))] h fun a h => ?_
  refine wp_ret ?_
  obtain rfl := Option.some.inj hm
  exact rt1 h rfl rfl ⟨rfl, bk_sel h [] trivial⟩

theorem c_ref05_rank {A : List Nat} {w0 : World} {y0 : Int} {r : Bool} (hO : Own A w0 []) (hF : All [] (bl [] ++ A) w0) (hm : m_ref05_rank y0 = some r) :
    Calls Tryz.prog 86 [vi y0].toArray w0 (Ret fun v w => v = vb r ∧ Bk A [] w0 [] [] w) := by
  unfold m_ref05_rank at hm
  refine ent Tryz.func86 rfl hO hF fun a h => ?_
  refine sp [] h fun a h => ?_
  refine seq_j (fun a w => SS A [] w0 9 [(2, vb ((decide (0 ≤ y0)) && (decide (y0 ≤ 9))))] [] [] a w) ?_ ?_
  · refine reg ?_
    refine pr 3 [(5, vb (decide (0 ≤ y0)))] h fun a h => ?_
    rcases Bool.eq_false_or_eq_true (decide (0 ≤ y0)) with hb1 | hb1
    · have h := h.upd (t := 5) (vb true) rfl (congrArg Value.bool hb1)
      refine pr 4 [(2, vb (decide (y0 ≤ 9)))] h fun a h => ?_
      refine ops_end ?_
      have h := h.upd (t := 2) (vb ((decide (0 ≤ y0)) && (decide (y0 ≤ 9)))) rfl (by rw [hb1]; rfl)
      exact then_n (h.to 0 trivial)
    · have h := h.upd (t := 5) (vb false) rfl (congrArg Value.bool hb1)
      refine pr 4 [(2, vb false)] h fun a h => ?_
      refine ops_end ?_
      have h := h.upd (t := 2) (vb ((decide (0 ≤ y0)) && (decide (y0 ≤ 9)))) rfl (by rw [hb1]; rfl)
      exact then_n (h.to 0 trivial)
  intro a w hJ
  have h := hJ
  refine wp_ret ?_
  obtain rfl := Option.some.inj hm
  exact rt1 h rfl rfl ⟨rfl, bk_sel h [] trivial⟩

theorem c_ref05_premise {A : List Nat} {w0 : World} {y0 : T_Premise} {r : Int} (hO : Own A w0 []) (hF : All [] (bl [] ++ A) w0) (hm : m_ref05_premise y0 = some r) :
    Calls Tryz.prog 82 [.agg #[vb y0.1.1, vs y0.1.2, vi y0.2.1, vi y0.2.2.1, vs y0.2.2.2]].toArray w0 (Ret fun v w => v = vi r ∧ Bk A [] w0 [] [] w) := by
  unfold m_ref05_premise at hm
  refine ent Tryz.func82 rfl hO hF fun a h => ?_
  refine sr ?_
  refine sl (b_box h rfl fun b1 a w h e => ?_)
  refine pr 1 [] h fun a h => ?_
  refine oe ?_
  refine wp_seq ?_
  refine seq_j (fun a w => SS A [] w0 42 [(1, .pointer (some ⟨b1, 0, none⟩)), (10, vb ((decide (y0.2.1 < 1)) || (decide (3 < y0.2.1))))] [bx b1 68 [vb y0.1.1, vs y0.1.2, vi y0.2.1, vi y0.2.2.1, vs y0.2.2.2]] [] a w) ?_ ?_
  · refine reg ?_
    refine pr 1 [(3, .pointer (some ⟨b1, 2, none⟩))] h fun a h => ?_
    refine sl (b_load_own 0 (vi y0.2.1) h rfl rfl fun a h => ?_)
    refine pr 2 [(6, vb (decide (y0.2.1 < 1)))] h fun a h => ?_
    rcases Bool.eq_false_or_eq_true (decide (y0.2.1 < 1)) with hb1 | hb1
    · have h := h.upd (t := 6) (vb true) rfl (congrArg Value.bool hb1)
      refine pr 4 [(10, vb true)] h fun a h => ?_
      refine ops_end ?_
      have h := h.upd (t := 10) (vb ((decide (y0.2.1 < 1)) || (decide (3 < y0.2.1)))) rfl (by rw [hb1]; rfl)
      exact then_n (h.to 1 trivial)
    · have h := h.upd (t := 6) (vb false) rfl (congrArg Value.bool hb1)
      refine pr 1 [(7, .pointer (some ⟨b1, 2, none⟩))] h fun a h => ?_
      refine sl (b_load_own 0 (vi y0.2.1) h rfl rfl fun a h => ?_)
      refine pr 2 [(10, vb (decide (3 < y0.2.1)))] h fun a h => ?_
      refine ops_end ?_
      have h := h.upd (t := 10) (vb ((decide (y0.2.1 < 1)) || (decide (3 < y0.2.1)))) rfl (by rw [hb1]; rfl)
      exact then_n (h.to 1 trivial)
  intro a w hJ
  have h := hJ
  refine cb h rfl (fun hb2 => ?_) (fun hb2 => ?_)
  · replace hm := ifT hb2 hm
    refine sp [(2, vi 4)] h fun a h => ?_
    refine wp_ret ?_
    refine then_r ?_
    obtain rfl := Option.some.inj hm
    exact rt1 h rfl rfl ⟨rfl, bk_sel h [] trivial⟩
  replace hm := ifF hb2 hm
  refine wp_skip ?_
  refine then_n ?_
  refine wp_seq ?_
  obtain ⟨s1, hx, hm⟩ := bnd hm
  refine seq_j (fun a w => SS A [] w0 42 [(41, vb s1)] [[]] [] a w) ?_ ?_
  · replace hm := hx
    refine reg ?_
    refine pr 1 [(11, .pointer (some ⟨b1, 0, none⟩))] h fun a h => ?_
    refine sl (b_load_own 0 (.agg #[vb y0.1.1, vs y0.1.2]) h rfl rfl fun a h => ?_)
    obtain ⟨r1, h1, hm⟩ := bnd hm
    refine sl (b_call [] [] h Tryz.call87 rfl rfl (c_ref01_Valid (y0 := y0.1) (h.po [] []) trivial h1) fun v a w hp hc => ?_)
    obtain ⟨rfl, q⟩ := hp
    have h := hc.on q [bx b1 68 [vb y0.1.1, vs y0.1.2, vi y0.2.1, vi y0.2.2.1, vs y0.2.2.2]]
    refine pr 2 [(15, vb (!r1))] h fun a h => ?_
    rcases Bool.eq_false_or_eq_true (!r1) with hb3 | hb3
    · have h := h.upd (t := 15) (vb true) rfl (congrArg Value.bool hb3)
      replace hm := ifT hb3 hm
      refine pr 26 [(41, vb true)] h fun a h => ?_
      refine ops_end ?_
      obtain rfl := Option.some.inj hm
      exact then_n (h.tos [900] trivial)
    · have h := h.upd (t := 15) (vb false) rfl (congrArg Value.bool hb3)
      replace hm := ifF hb3 hm
      refine pr 1 [(16, .pointer (some ⟨b1, 3, none⟩))] h fun a h => ?_
      refine sl (b_load_own 0 (vi y0.2.2.1) h rfl rfl fun a h => ?_)
      obtain ⟨r2, h2, hm⟩ := bnd hm
      refine sl (b_call [] [] h Tryz.call86 rfl rfl (c_ref05_rank (y0 := y0.2.2.1) (h.po [] []) trivial h2) fun v a w hp hc => ?_)
      obtain ⟨rfl, q⟩ := hp
      have h := hc.on q [bx b1 68 [vb y0.1.1, vs y0.1.2, vi y0.2.1, vi y0.2.2.1, vs y0.2.2.2]]
      refine pr 3 [(21, vb (!r2))] h fun a h => ?_
      rcases Bool.eq_false_or_eq_true (!r2) with hb4 | hb4
      · have h := h.upd (t := 21) (vb true) rfl (congrArg Value.bool hb4)
        replace hm := ifT hb4 hm
        refine pr 20 [(41, vb true)] h fun a h => ?_
        refine ops_end ?_
        obtain rfl := Option.some.inj hm
        exact then_n (h.tos [900] trivial)
      · have h := h.upd (t := 21) (vb false) rfl (congrArg Value.bool hb4)
        replace hm := ifF hb4 hm
        refine pr 1 [(22, .pointer (some ⟨b1, 2, none⟩))] h fun a h => ?_
        refine sl (b_load_own 0 (vi y0.2.1) h rfl rfl fun a h => ?_)
        refine pr 2 [(25, vb (y0.2.1 != 2))] h fun a h => ?_
        rcases Bool.eq_false_or_eq_true (y0.2.1 != 2) with hb5 | hb5
        · have h := h.upd (t := 25) (vb true) rfl (congrArg Value.bool hb5)
          replace hm := ifT hb5 hm
          refine pr 1 [(26, .pointer (some ⟨b1, 3, none⟩))] h fun a h => ?_
          refine sl (b_load_own 0 (vi y0.2.2.1) h rfl rfl fun a h => ?_)
          refine pr 4 [(31, vb (y0.2.2.1 != 0))] h fun a h => ?_
          rcases Bool.eq_false_or_eq_true (y0.2.2.1 != 0) with hb6 | hb6
          · have h := h.upd (t := 31) (vb true) rfl (congrArg Value.bool hb6)
            replace hm := ifT hb6 hm
            refine pr 10 [(41, vb true)] h fun a h => ?_
            refine ops_end ?_
            obtain rfl := Option.some.inj hm
            exact then_n (h.tos [900] trivial)
          · have h := h.upd (t := 31) (vb false) rfl (congrArg Value.bool hb6)
            replace hm := ifF hb6 hm
            refine pr 1 [(32, .pointer (some ⟨b1, 4, none⟩))] h fun a h => ?_
            refine sl (b_load_own 0 (vs y0.2.2.2) h rfl rfl fun a h => ?_)
            refine pr 2 [(35, vb (!(y0.2.2.2 == [])))] h fun a h => ?_
            rcases Bool.eq_false_or_eq_true (!(y0.2.2.2 == [])) with hb7 | hb7
            · have h := h.upd (t := 35) (vb true) rfl (congrArg Value.bool hb7)
              replace hm := ifT hb7 hm
              refine pr 1 [(36, .pointer (some ⟨b1, 4, none⟩))] h fun a h => ?_
              refine sl (b_load_own 0 (vs y0.2.2.2) h rfl rfl fun a h => ?_)
              obtain ⟨r3, h3, hm⟩ := bnd hm
              refine sl (b_call [] [] h Tryz.call120 rfl rfl (c_ref01_ValidName (y0 := y0.2.2.2) (h.po [] []) trivial h3) fun v a w hp hc => ?_)
              obtain ⟨rfl, q⟩ := hp
              have h := hc.on q [bx b1 68 [vb y0.1.1, vs y0.1.2, vi y0.2.1, vi y0.2.2.1, vs y0.2.2.2]]
              refine pr 3 [(41, vb (!r3))] h fun a h => ?_
              refine ops_end ?_
              obtain rfl := Option.some.inj hm
              exact then_n (h.tos [900] trivial)
            · have h := h.upd (t := 35) (vb false) rfl (congrArg Value.bool hb7)
              replace hm := ifF hb7 hm
              refine pr 6 [(41, vb false)] h fun a h => ?_
              refine ops_end ?_
              obtain rfl := Option.some.inj hm
              exact then_n (h.tos [900] trivial)
        · have h := h.upd (t := 25) (vb false) rfl (congrArg Value.bool hb5)
          replace hm := ifF hb5 hm
          refine pr 7 [(32, .pointer (some ⟨b1, 4, none⟩)), (31, vb false)] h fun a h => ?_
          refine sl (b_load_own 0 (vs y0.2.2.2) h rfl rfl fun a h => ?_)
          refine pr 2 [(35, vb (!(y0.2.2.2 == [])))] h fun a h => ?_
          rcases Bool.eq_false_or_eq_true (!(y0.2.2.2 == [])) with hb8 | hb8
          · have h := h.upd (t := 35) (vb true) rfl (congrArg Value.bool hb8)
            replace hm := ifT hb8 hm
            refine pr 1 [(36, .pointer (some ⟨b1, 4, none⟩))] h fun a h => ?_
            refine sl (b_load_own 0 (vs y0.2.2.2) h rfl rfl fun a h => ?_)
            obtain ⟨r4, h4, hm⟩ := bnd hm
            refine sl (b_call [] [] h Tryz.call120 rfl rfl (c_ref01_ValidName (y0 := y0.2.2.2) (h.po [] []) trivial h4) fun v a w hp hc => ?_)
            obtain ⟨rfl, q⟩ := hp
            have h := hc.on q [bx b1 68 [vb y0.1.1, vs y0.1.2, vi y0.2.1, vi y0.2.2.1, vs y0.2.2.2]]
            refine pr 3 [(41, vb (!r4))] h fun a h => ?_
            refine ops_end ?_
            obtain rfl := Option.some.inj hm
            exact then_n (h.tos [900] trivial)
          · have h := h.upd (t := 35) (vb false) rfl (congrArg Value.bool hb8)
            replace hm := ifF hb8 hm
            refine pr 6 [(41, vb false)] h fun a h => ?_
            refine ops_end ?_
            obtain rfl := Option.some.inj hm
            exact then_n (h.tos [900] trivial)
  intro a w hJ
  have h := hJ
  refine cb h rfl (fun hb9 => ?_) (fun hb9 => ?_)
  · replace hm := ifT hb9 hm
    refine sp [(2, vi 1)] h fun a h => ?_
    refine wp_ret ?_
    refine then_r ?_
    obtain rfl := Option.some.inj hm
    exact rt1 h rfl rfl ⟨rfl, bk_sel h [] trivial⟩
  replace hm := ifF hb9 hm
  refine wp_skip ?_
  refine then_n ?_
  refine sp [(2, vi 0)] h fun a h => ?_
  refine wp_ret ?_
  obtain rfl := Option.some.inj hm
  exact rt1 h rfl rfl ⟨rfl, bk_sel h [] trivial⟩

theorem c_ref01_Compare {A : List Nat} {w0 : World} {y0 : T_Literal} {y1 : T_Literal} {r : Int} (hO : Own A w0 []) (hF : All [] (bl [] ++ A) w0) (hm : m_ref01_Compare y0 y1 = some r) :
    Calls Tryz.prog 121 [.agg #[vb y0.1, vs y0.2], .agg #[vb y1.1, vs y1.2]].toArray w0 (Ret fun v w => v = vi r ∧ Bk A [] w0 [] [] w) := by
  unfold m_ref01_Compare at hm
  refine ent Tryz.func121 rfl hO hF fun a h => ?_
  refine sr ?_
  refine sl (b_box h rfl fun b1 a w h e => ?_)
  refine sl (b_box h rfl fun b2 a w h e => ?_)
  refine pr 1 [] h fun a h => ?_
  refine oe ?_
  refine wp_seq ?_
  refine wp_block ?_
  refine sr ?_
  refine sl (b_load_own 0 (.agg #[vb y0.1, vs y0.2]) h rfl rfl fun a h => ?_)
  refine sl (b_load_own 1 (.agg #[vb y1.1, vs y1.2]) h rfl rfl fun a h => ?_)
  refine pr 2 [(5, vb (y0 == y1))] h fun a h => ?_
  refine oe ?_
  refine cb h rfl (fun hb1 => ?_) (fun hb1 => ?_)
  · replace hm := ifT hb1 hm
    refine sp [(4, vi 0)] h fun a h => ?_
    refine wp_ret ?_
    refine inb_r (then_r ?_)
    obtain rfl := Option.some.inj hm
    exact rt1 h rfl rfl ⟨rfl, bk_sel h [] trivial⟩
  replace hm := ifF hb1 hm
  refine seq_j (fun a w => SS A [] w0 26 [(9, vb ((sless y0.2 y1.2) || ((y0.2 == y1.2) && y1.1)))] [[], []] [] a w) ?_ ?_
  · refine reg ?_
    refine pr 1 [(10, .pointer (some ⟨b1, 1, none⟩))] h fun a h => ?_
    refine sl (b_load_own 0 (vs y0.2) h rfl rfl fun a h => ?_)
    refine pr 1 [(12, .pointer (some ⟨b2, 1, none⟩))] h fun a h => ?_
    refine sl (b_load_own 1 (vs y1.2) h rfl rfl fun a h => ?_)
    refine pr 2 [(15, vb (sless y0.2 y1.2))] h fun a h => ?_
    rcases Bool.eq_false_or_eq_true (sless y0.2 y1.2) with hb2 | hb2
    · have h := h.upd (t := 15) (vb true) rfl (congrArg Value.bool hb2)
      refine pr 11 [(9, vb true)] h fun a h => ?_
      refine ops_end ?_
      have h := h.upd (t := 9) (vb ((sless y0.2 y1.2) || ((y0.2 == y1.2) && y1.1))) rfl (by rw [hb2]; rfl)
      exact then_n (h.tos [900, 901] trivial)
    · have h := h.upd (t := 15) (vb false) rfl (congrArg Value.bool hb2)
      refine pr 1 [(16, .pointer (some ⟨b1, 1, none⟩))] h fun a h => ?_
      refine sl (b_load_own 0 (vs y0.2) h rfl rfl fun a h => ?_)
      refine pr 1 [(18, .pointer (some ⟨b2, 1, none⟩))] h fun a h => ?_
      refine sl (b_load_own 1 (vs y1.2) h rfl rfl fun a h => ?_)
      refine pr 2 [(21, vb (y0.2 == y1.2))] h fun a h => ?_
      rcases Bool.eq_false_or_eq_true (y0.2 == y1.2) with hb3 | hb3
      · have h := h.upd (t := 21) (vb true) rfl (congrArg Value.bool hb3)
        refine pr 1 [(22, .pointer (some ⟨b2, 0, none⟩))] h fun a h => ?_
        refine sl (b_load_own 1 (vb y1.1) h rfl rfl fun a h => ?_)
        refine pr 3 [(9, vb y1.1)] h fun a h => ?_
        refine ops_end ?_
        have h := h.upd (t := 9) (vb ((sless y0.2 y1.2) || ((y0.2 == y1.2) && y1.1))) rfl (by rw [hb2, hb3]; rfl)
        exact then_n (h.tos [900, 901] trivial)
      · have h := h.upd (t := 21) (vb false) rfl (congrArg Value.bool hb3)
        refine pr 5 [(9, vb false)] h fun a h => ?_
        refine ops_end ?_
        have h := h.upd (t := 9) (vb ((sless y0.2 y1.2) || ((y0.2 == y1.2) && y1.1))) rfl (by rw [hb2, hb3]; rfl)
        exact then_n (h.tos [900, 901] trivial)
  intro a w hJ
  have h := hJ
  refine cb h rfl (fun hb4 => ?_) (fun hb4 => ?_)
  · replace hm := ifT hb4 hm
    refine sp [(4, vi (-1))] h fun a h => ?_
    refine wp_ret ?_
    refine inb_r (then_r ?_)
    obtain rfl := Option.some.inj hm
    exact rt1 h rfl rfl ⟨rfl, bk_sel h [] trivial⟩
  replace hm := ifF hb4 hm
  refine wp_skip ?_
  refine inb_n ?_
  refine then_n ?_
  refine sp [(4, vi 1)] h fun a h => ?_
  refine wp_ret ?_
  obtain rfl := Option.some.inj hm
  exact rt1 h rfl rfl ⟨rfl, bk_sel h [] trivial⟩

theorem c_ref05_rule {A : List Nat} {w0 : World} {y0 : T_Rule} {p1 : Option Addr} {c1 : Nat} {r : Int} (hO : Own A w0 []) (hF : All [R e_Literal p1 c1 (List.length y0.2.2.2.1) y0.2.2.2.1] (bl [] ++ A) w0) (hm : m_ref05_rule y0 = some r) :
    Calls Tryz.prog 84 [.agg #[vs y0.1, vb y0.2.1, vi y0.2.2.1, .slice p1 (List.length y0.2.2.2.1) c1, vb y0.2.2.2.2.1, vs y0.2.2.2.2.2]].toArray w0 (Ret fun v w => v = vi r ∧ Bk A [] w0 [] [] w) := by
  unfold m_ref05_rule at hm
  refine ent Tryz.func84 rfl hO hF fun a h => ?_
  refine sr ?_
  refine sl (b_box h rfl fun b1 a w h e => ?_)
  refine pr 1 [] h fun a h => ?_
  refine oe ?_
  refine wp_seq ?_
  refine sr ?_
  refine pr 1 [(6, .pointer (some ⟨b1, 3, none⟩))] h fun a h => ?_
  refine sl (b_load_own 0 (.slice p1 (List.length y0.2.2.2.1) c1) h rfl rfl fun a h => ?_)
  refine pr 2 [(9, vb (decide (4 < (len y0.2.2.2.1))))] h fun a h => ?_
  refine oe ?_
  refine cb h rfl (fun hb1 => ?_) (fun hb1 => ?_)
  · replace hm := ifT hb1 hm
    refine sp [(2, vi 2)] h fun a h => ?_
    refine wp_ret ?_
    refine then_r ?_
    obtain rfl := Option.some.inj hm
    exact rt1 h rfl rfl ⟨rfl, bk_sel h [] trivial⟩
  replace hm := ifF hb1 hm
  refine wp_skip ?_
  refine then_n ?_
  obtain ⟨s1, hx, hm⟩ := bnd hm
  refine seq_j (fun a w => SS A [] w0 71 [(1, .pointer (some ⟨b1, 0, none⟩)), (3, vb s1)] [bx b1 66 [vs y0.1, vb y0.2.1, vi y0.2.2.1, .slice p1 (List.length y0.2.2.2.1) c1, vb y0.2.2.2.2.1, vs y0.2.2.2.2.2]] [R e_Literal p1 c1 (List.length y0.2.2.2.1) y0.2.2.2.1] a w) ?_ ?_
  · replace hm := hx
    refine reg ?_
    refine pr 1 [(10, .pointer (some ⟨b1, 0, none⟩))] h fun a h => ?_
    refine sl (b_load_own 0 (vs y0.1) h rfl rfl fun a h => ?_)
    obtain ⟨r1, h1, hm⟩ := bnd hm
    refine sl (b_call [] [] h Tryz.call120 rfl rfl (c_ref01_ValidName (y0 := y0.1) (h.po [] []) trivial h1) fun v a w hp hc => ?_)
    obtain ⟨rfl, q⟩ := hp
    have h := hc.on q [bx b1 66 [vs y0.1, vb y0.2.1, vi y0.2.2.1, .slice p1 (List.length y0.2.2.2.1) c1, vb y0.2.2.2.2.1, vs y0.2.2.2.2.2]]
    refine pr 1 [(13, vb r1)] h fun a h => ?_
    rcases Bool.eq_false_or_eq_true r1 with hb2 | hb2
    · have h := h.upd (t := 13) (vb true) rfl (congrArg Value.bool hb2)
      replace hm := ifT hb2 hm
      refine pr 1 [(14, .pointer (some ⟨b1, 2, none⟩))] h fun a h => ?_
      refine sl (b_load_own 0 (vi y0.2.2.1) h rfl rfl fun a h => ?_)
      obtain ⟨r2, h2, hm⟩ := bnd hm
      refine sl (b_call [] [] h Tryz.call86 rfl rfl (c_ref05_rank (y0 := y0.2.2.1) (h.po [] []) trivial h2) fun v a w hp hc => ?_)
      obtain ⟨rfl, q⟩ := hp
      have h := hc.on q [bx b1 66 [vs y0.1, vb y0.2.1, vi y0.2.2.1, .slice p1 (List.length y0.2.2.2.1) c1, vb y0.2.2.2.2.1, vs y0.2.2.2.2.2]]
      refine pr 2 [(18, vb r2)] h fun a h => ?_
      rcases Bool.eq_false_or_eq_true r2 with hb3 | hb3
      · have h := h.upd (t := 18) (vb true) rfl (congrArg Value.bool hb3)
        replace hm := ifT hb3 hm
        refine pr 1 [(19, .pointer (some ⟨b1, 1, none⟩))] h fun a h => ?_
        refine sl (b_load_own 0 (vb y0.2.1) h rfl rfl fun a h => ?_)
        refine pr 2 [(22, vb (!y0.2.1))] h fun a h => ?_
        rcases Bool.eq_false_or_eq_true (!y0.2.1) with hb4 | hb4
        · have h := h.upd (t := 22) (vb true) rfl (congrArg Value.bool hb4)
          replace hm := ifT hb4 hm
          refine pr 7 [(29, .pointer (some ⟨b1, 4, none⟩)), (28, vb true)] h fun a h => ?_
          refine sl (b_load_own 0 (.agg #[vb y0.2.2.2.2.1, vs y0.2.2.2.2.2]) h rfl rfl fun a h => ?_)
          obtain ⟨r3, h3, hm⟩ := bnd hm
          refine sl (b_call [] [] h Tryz.call87 rfl rfl (c_ref01_Valid (y0 := y0.2.2.2.2) (h.po [] []) trivial h3) fun v a w hp hc => ?_)
          obtain ⟨rfl, q⟩ := hp
          have h := hc.on q [bx b1 66 [vs y0.1, vb y0.2.1, vi y0.2.2.1, .slice p1 (List.length y0.2.2.2.1) c1, vb y0.2.2.2.2.1, vs y0.2.2.2.2.2]]
          refine pr 2 [(3, vb r3)] h fun a h => ?_
          refine ops_end ?_
          obtain rfl := Option.some.inj hm
          exact then_n (h.to 1 ⟨(h.g 0), trivial⟩)
        · have h := h.upd (t := 22) (vb false) rfl (congrArg Value.bool hb4)
          replace hm := ifF hb4 hm
          refine pr 1 [(23, .pointer (some ⟨b1, 2, none⟩))] h fun a h => ?_
          refine sl (b_load_own 0 (vi y0.2.2.1) h rfl rfl fun a h => ?_)
          refine pr 4 [(28, vb (y0.2.2.1 == 0))] h fun a h => ?_
          rcases Bool.eq_false_or_eq_true (y0.2.2.1 == 0) with hb5 | hb5
          · have h := h.upd (t := 28) (vb true) rfl (congrArg Value.bool hb5)
            replace hm := ifT hb5 hm
            refine pr 1 [(29, .pointer (some ⟨b1, 4, none⟩))] h fun a h => ?_
            refine sl (b_load_own 0 (.agg #[vb y0.2.2.2.2.1, vs y0.2.2.2.2.2]) h rfl rfl fun a h => ?_)
            obtain ⟨r4, h4, hm⟩ := bnd hm
            refine sl (b_call [] [] h Tryz.call87 rfl rfl (c_ref01_Valid (y0 := y0.2.2.2.2) (h.po [] []) trivial h4) fun v a w hp hc => ?_)
            obtain ⟨rfl, q⟩ := hp
            have h := hc.on q [bx b1 66 [vs y0.1, vb y0.2.1, vi y0.2.2.1, .slice p1 (List.length y0.2.2.2.1) c1, vb y0.2.2.2.2.1, vs y0.2.2.2.2.2]]
            refine pr 2 [(3, vb r4)] h fun a h => ?_
            refine ops_end ?_
            obtain rfl := Option.some.inj hm
            exact then_n (h.to 1 ⟨(h.g 0), trivial⟩)
          · have h := h.upd (t := 28) (vb false) rfl (congrArg Value.bool hb5)
            replace hm := ifF hb5 hm
            refine pr 5 [(3, vb false)] h fun a h => ?_
            refine ops_end ?_
            obtain rfl := Option.some.inj hm
            exact then_n (h.to 1 ⟨(h.g 0), trivial⟩)
      · have h := h.upd (t := 18) (vb false) rfl (congrArg Value.bool hb3)
        replace hm := ifF hb3 hm
        refine pr 15 [(3, vb false)] h fun a h => ?_
        refine ops_end ?_
        obtain rfl := Option.some.inj hm
        exact then_n (h.to 1 ⟨(h.g 0), trivial⟩)
    · have h := h.upd (t := 13) (vb false) rfl (congrArg Value.bool hb2)
      replace hm := ifF hb2 hm
      refine pr 20 [(3, vb false)] h fun a h => ?_
      refine ops_end ?_
      obtain rfl := Option.some.inj hm
      exact then_n (h.to 1 ⟨(h.g 0), trivial⟩)
  intro a w hJ
  have h := hJ
  obtain ⟨s2, hx, hm⟩ := bnd hm
  refine seq_j (fun a w => SS A [] w0 71 [(1, .pointer (some ⟨b1, 0, none⟩)), (3, vb s2)] [bx b1 66 [vs y0.1, vb y0.2.1, vi y0.2.2.1, .slice p1 (List.length y0.2.2.2.1) c1, vb y0.2.2.2.2.1, vs y0.2.2.2.2.2]] [R e_Literal p1 c1 (List.length y0.2.2.2.1) y0.2.2.2.1] a w) ?_ ?_
  · have hm2 := hm
    replace hm := hx
    refine sp [(4, vi 0)] h fun a h => ?_
    refine wp_block ?_
    refine loop_m (B := (m_ref05_rule_L1 y0)) (fun (s3 : Bool × Int) a w => SS A [] w0 71 [(1, .pointer (some ⟨b1, 0, none⟩)), (3, vb s3.1), (4, vi s3.2)] [bx b1 66 [vs y0.1, vb y0.2.1, vi y0.2.2.1, .slice p1 (List.length y0.2.2.2.1) c1, vb y0.2.2.2.2.1, vs y0.2.2.2.2.2]] [R e_Literal p1 c1 (List.length y0.2.2.2.1) y0.2.2.2.1] a w) hm (h.to 1 ⟨(h.g 0), trivial⟩) ?_
    intro s3 a w o1 hJ hm hr1
    have h := hJ
    unfold m_ref05_rule_L1 at hm
    refine wp_seq ?_
    refine sr ?_
    refine pr 2 [(34, .pointer (some ⟨b1, 3, none⟩)), (33, vi s3.2)] h fun a h => ?_
    refine sl (b_load_own 0 (.slice p1 (List.length y0.2.2.2.1) c1) h rfl rfl fun a h => ?_)
    refine pr 2 [(37, vb (decide (s3.2 < (len y0.2.2.2.1))))] h fun a h => ?_
    refine oe ?_
    refine cb h rfl (fun hb6 => ?_) (fun hb6 => ?_)
    · replace hm := ifT hb6 hm
      refine wp_skip ?_
      refine then_n ?_
      refine wp_seq ?_
      refine wp_block ?_
      obtain ⟨s4, hx, hm⟩ := bnd hm
      refine code_j (fun a w => SS A [] w0 71 [(1, .pointer (some ⟨b1, 0, none⟩)), (3, vb s4), (4, vi s3.2)] [bx b1 66 [vs y0.1, vb y0.2.1, vi y0.2.2.1, .slice p1 (List.length y0.2.2.2.1) c1, vb y0.2.2.2.2.1, vs y0.2.2.2.2.2]] [R e_Literal p1 c1 (List.length y0.2.2.2.1) y0.2.2.2.1] a w) ?_ ?_
      · replace hm := hx
        refine reg ?_
        refine pr 2 [(41, vb s3.1)] h fun a h => ?_
        rcases Bool.eq_false_or_eq_true s3.1 with hb7 | hb7
        · have h := h.upd (t := 41) (vb true) rfl (congrArg Value.bool hb7)
          replace hm := ifT hb7 hm
          refine pr 1 [(42, .pointer (some ⟨b1, 3, none⟩))] h fun a h => ?_
          refine sl (b_load_own 0 (.slice p1 (List.length y0.2.2.2.1) c1) h rfl rfl fun a h => ?_)
          refine pr 1 [(44, vi s3.2)] h fun a h => ?_
          obtain ⟨x1, h5, hm⟩ := bnd hm
          refine sl (b_index_rd h (h.g 0) rfl rfl h5 fun b2 o2 a h => ?_)
          refine sl (b_load_pt true h (h.g 0) rfl fun ci1 hc1 v1 hv1 a h => ?_)
          replace hc1 : E.rd e_Literal _ _ ci1 x1 := hc1
          obtain ⟨_, _, rfl, rfl, rfl⟩ := hc1
          obtain rfl := Option.some.inj hv1
          have h := h.upd (t := 46) (.agg #[vb x1.1, vs x1.2]) rfl rfl
          obtain ⟨r5, h6, hm⟩ := bnd hm
          refine sl (b_call [] [] h Tryz.call87 rfl rfl (c_ref01_Valid (y0 := x1) (h.po [] []) trivial h6) fun v a w hp hc => ?_)
          obtain ⟨rfl, q⟩ := hp
          have h := hc.on q [bx b1 66 [vs y0.1, vb y0.2.1, vi y0.2.2.1, .slice p1 (List.length y0.2.2.2.1) c1, vb y0.2.2.2.2.1, vs y0.2.2.2.2.2]]
          refine pr 2 [(3, vb r5)] h fun a h => ?_
          refine ops_end ?_
          obtain rfl := Option.some.inj hm
          exact then_n (h.to 1 ⟨(h.g 1), trivial⟩)
        · have h := h.upd (t := 41) (vb false) rfl (congrArg Value.bool hb7)
          replace hm := ifF hb7 hm
          refine pr 8 [(3, vb false)] h fun a h => ?_
          refine ops_end ?_
          obtain rfl := Option.some.inj hm
          exact then_n (h.to 1 ⟨(h.g 0), trivial⟩)
      intro a w hJ
      have h := hJ
      refine inb_n ?_
      refine then_n ?_
      refine reg ?_
      refine pr 3 [(4, vi (w64 (s3.2 + 1)))] h fun a h => ?_
      refine ops_end ?_
      obtain rfl := Option.some.inj hm
      exact lp_n rfl (h.to 1 ⟨(h.g 0), trivial⟩)
    replace hm := ifF hb6 hm
    refine wp_exit ?_
    refine then_e (lp_e (inb_hit ?_))
    replace hm := loopR hr1 hm
    obtain rfl := Option.some.inj hm
    exact then_n (h.to 1 ⟨(h.g 0), trivial⟩)
  intro a w hJ
  have h := hJ
  refine wp_seq ?_
  refine sp [(50, vb (!s2))] h fun a h => ?_
  refine cb h rfl (fun hb8 => ?_) (fun hb8 => ?_)
  · replace hm := ifT hb8 hm
    refine sp [(2, vi 1)] h fun a h => ?_
    refine wp_ret ?_
    refine then_r ?_
    obtain rfl := Option.some.inj hm
    exact rt1 h rfl rfl ⟨rfl, bk_sel h [] trivial⟩
  replace hm := ifF hb8 hm
  refine wp_skip ?_
  refine then_n ?_
  refine wp_seq ?_
  refine sp [(5, vi 1)] h fun a h => ?_
  refine wp_block ?_
  refine loop_m (B := (m_ref05_rule_L2 y0)) (fun (s5 : Int) a w => SS A [] w0 71 [(1, .pointer (some ⟨b1, 0, none⟩)), (5, vi s5)] [bx b1 66 [vs y0.1, vb y0.2.1, vi y0.2.2.1, .slice p1 (List.length y0.2.2.2.1) c1, vb y0.2.2.2.2.1, vs y0.2.2.2.2.2]] [R e_Literal p1 c1 (List.length y0.2.2.2.1) y0.2.2.2.1] a w) hm (h.to 1 ⟨(h.g 0), trivial⟩) ?_
  intro s5 a w o3 hJ hm hr2
  have h := hJ
  unfold m_ref05_rule_L2 at hm
  refine wp_seq ?_
  refine sr ?_
  refine pr 2 [(52, .pointer (some ⟨b1, 3, none⟩)), (51, vi s5)] h fun a h => ?_
  refine sl (b_load_own 0 (.slice p1 (List.length y0.2.2.2.1) c1) h rfl rfl fun a h => ?_)
  refine pr 2 [(55, vb (decide (s5 < (len y0.2.2.2.1))))] h fun a h => ?_
  refine oe ?_
  refine cb h rfl (fun hb9 => ?_) (fun hb9 => ?_)
  · replace hm := ifT hb9 hm
    refine wp_skip ?_
    refine then_n ?_
    refine wp_seq ?_
    refine wp_block ?_
    refine ds [] [0] h fun w h => ?_
    refine dp 0 (.pointer (some ⟨b1, 3, none⟩)) h rfl fun a h => ?_
    refine dlo 1 0 (.slice p1 (List.length y0.2.2.2.1) c1) h rfl rfl rfl fun a h => ?_
    refine dp 2 (vi s5) h rfl fun a h => ?_
    refine dp 3 (vi (w64 (s5 - 1))) h rfl fun a h => ?_
    obtain ⟨x2, h7, hm⟩ := bnd hm
    refine dir 4 h rfl (h.g 0) rfl rfl h7 fun b3 o4 a h => ?_
    refine dlp 5 true h rfl (h.g 0) rfl fun ci2 hc2 v2 hv2 a h => ?_
    replace hc2 : E.rd e_Literal _ _ ci2 x2 := hc2
    obtain ⟨_, _, rfl, rfl, rfl⟩ := hc2
    obtain rfl := Option.some.inj hv2
    have h := h.upd (t := 63) (.agg #[vb x2.1, vs x2.2]) rfl rfl
    refine dp 6 (.pointer (some ⟨b1, 3, none⟩)) h rfl fun a h => ?_
    refine dlo 7 0 (.slice p1 (List.length y0.2.2.2.1) c1) h rfl rfl rfl fun a h => ?_
    refine dp 8 (vi s5) h rfl fun a h => ?_
    obtain ⟨x3, h8, hm⟩ := bnd hm
    refine dir 9 h rfl (h.g 1) rfl rfl h8 fun b4 o5 a h => ?_
    refine dlp 10 true h rfl (h.g 0) rfl fun ci3 hc3 v3 hv3 a h => ?_
    replace hc3 : E.rd e_Literal _ _ ci3 x3 := hc3
    obtain ⟨_, _, rfl, rfl, rfl⟩ := hc3
    obtain rfl := Option.some.inj hv3
    have h := h.upd (t := 68) (.agg #[vb x3.1, vs x3.2]) rfl rfl
    refine d1 11 rfl ?_
    obtain ⟨r6, h9, hm⟩ := bnd hm
    refine b_call [] [] h Tryz.call121 rfl rfl (c_ref01_Compare (y0 := x2) (y1 := x3) (h.po [] []) trivial h9) fun v a w hp hc => ?_
    obtain ⟨rfl, q⟩ := hp
    have e := hc.st q [bx b1 66 [vs y0.1, vb y0.2.1, vi y0.2.2.1, .slice p1 (List.length y0.2.2.2.1) c1, vb y0.2.2.2.2.1, vs y0.2.2.2.2.2]]
    have h := hc.on q [bx b1 66 [vs y0.1, vb y0.2.1, vi y0.2.2.1, .slice p1 (List.length y0.2.2.2.1) c1, vb y0.2.2.2.2.1, vs y0.2.2.2.2.2]]
    refine dn h e ?_
    refine dp 12 (vb (decide (0 ≤ r6))) h rfl fun a h => ?_
    refine de (then_n ?_)
    refine cb h rfl (fun hb10 => ?_) (fun hb10 => ?_)
    · replace hm := ifT hb10 hm
      refine sp [(2, vi 8)] h fun a h => ?_
      refine wp_ret ?_
      refine inb_r (then_r (lp_r (inb_r (then_r ?_))))
      replace hm := loopR hr2 hm
      obtain rfl := Option.some.inj hm
      exact rt1 h rfl rfl ⟨rfl, bk_sel h [] trivial⟩
    replace hm := ifF hb10 hm
    refine wp_skip ?_
    refine inb_n ?_
    refine then_n ?_
    refine reg ?_
    refine pr 3 [(5, vi (w64 (s5 + 1)))] h fun a h => ?_
    refine ops_end ?_
    obtain rfl := Option.some.inj hm
    exact lp_n rfl (h.to 1 ⟨(h.g 2), trivial⟩)
  replace hm := ifF hb9 hm
  refine wp_exit ?_
  refine then_e (lp_e (inb_hit ?_))
  replace hm := loopR hr2 hm
  refine then_n ?_
  refine sp [(2, vi 0)] h fun a h => ?_
  refine wp_ret ?_
  obtain rfl := Option.some.inj hm
  exact rt1 h rfl rfl ⟨rfl, bk_sel h [] trivial⟩

theorem c_ref05_Validate {A : List Nat} {w0 : World} {y0 : T_Base} {p1 : Option Addr} {c1 : Nat} {p2 : Option Addr} {c2 : Nat} {p3 : Option Addr} {c3 : Nat} {r : Int} (hO : Own A w0 []) (hF : All [R e_Premise p1 c1 (List.length y0.1) y0.1, R e_Rule p2 c2 (List.length y0.2.1) y0.2.1, R e_Promotion p3 c3 (List.length y0.2.2) y0.2.2] (bl [] ++ A) w0) (hm : m_ref05_Validate y0 = some r) :
    Calls Tryz.prog 55 [.agg #[.slice p1 (List.length y0.1) c1, .slice p2 (List.length y0.2.1) c2, .slice p3 (List.length y0.2.2) c3]].toArray w0 (Ret fun v w => v = vi r ∧ Bk A [] w0 [] [] w) := by
  unfold m_ref05_Validate at hm
  refine ent Tryz.func55 rfl hO hF fun a h => ?_
  refine sr ?_
  refine sl (b_box h rfl fun b1 a w h e => ?_)
  refine pr 1 [] h fun a h => ?_
  refine oe ?_
  refine wp_seq ?_
  refine seq_j (fun a w => SS A [] w0 112 [(1, .pointer (some ⟨b1, 0, none⟩)), (25, vb ((decide (16 < (len y0.1))) || ((decide (24 < (len y0.2.1))) || (decide (8 < (len y0.2.2))))))] [bx b1 31 [.slice p1 (List.length y0.1) c1, .slice p2 (List.length y0.2.1) c2, .slice p3 (List.length y0.2.2) c3]] [R e_Premise p1 c1 (List.length y0.1) y0.1, R e_Rule p2 c2 (List.length y0.2.1) y0.2.1, R e_Promotion p3 c3 (List.length y0.2.2) y0.2.2] a w) ?_ ?_
  · refine reg ?_
    refine pr 1 [(10, .pointer (some ⟨b1, 0, none⟩))] h fun a h => ?_
    refine sl (b_load_own 0 (.slice p1 (List.length y0.1) c1) h rfl rfl fun a h => ?_)
    refine pr 3 [(14, vb (decide (16 < (len y0.1))))] h fun a h => ?_
    rcases Bool.eq_false_or_eq_true (decide (16 < (len y0.1))) with hb1 | hb1
    · have h := h.upd (t := 14) (vb true) rfl (congrArg Value.bool hb1)
      refine pr 11 [(25, vb true)] h fun a h => ?_
      refine ops_end ?_
      have h := h.upd (t := 25) (vb ((decide (16 < (len y0.1))) || ((decide (24 < (len y0.2.1))) || (decide (8 < (len y0.2.2)))))) rfl (by rw [hb1]; rfl)
      exact then_n (h.to 1 ⟨(h.g 0), (h.g 1), (h.g 2), trivial⟩)
    · have h := h.upd (t := 14) (vb false) rfl (congrArg Value.bool hb1)
      refine pr 1 [(15, .pointer (some ⟨b1, 1, none⟩))] h fun a h => ?_
      refine sl (b_load_own 0 (.slice p2 (List.length y0.2.1) c2) h rfl rfl fun a h => ?_)
      refine pr 4 [(20, vb (decide (24 < (len y0.2.1))))] h fun a h => ?_
      rcases Bool.eq_false_or_eq_true (decide (24 < (len y0.2.1))) with hb2 | hb2
      · have h := h.upd (t := 20) (vb true) rfl (congrArg Value.bool hb2)
        refine pr 5 [(25, vb true)] h fun a h => ?_
        refine ops_end ?_
        have h := h.upd (t := 25) (vb ((decide (16 < (len y0.1))) || ((decide (24 < (len y0.2.1))) || (decide (8 < (len y0.2.2)))))) rfl (by rw [hb1, hb2]; rfl)
        exact then_n (h.to 1 ⟨(h.g 0), (h.g 1), (h.g 2), trivial⟩)
      · have h := h.upd (t := 20) (vb false) rfl (congrArg Value.bool hb2)
        refine pr 1 [(21, .pointer (some ⟨b1, 2, none⟩))] h fun a h => ?_
        refine sl (b_load_own 0 (.slice p3 (List.length y0.2.2) c3) h rfl rfl fun a h => ?_)
        refine pr 3 [(25, vb (decide (8 < (len y0.2.2))))] h fun a h => ?_
        refine ops_end ?_
        have h := h.upd (t := 25) (vb ((decide (16 < (len y0.1))) || ((decide (24 < (len y0.2.1))) || (decide (8 < (len y0.2.2)))))) rfl (by rw [hb1, hb2]; rfl)
        exact then_n (h.to 1 ⟨(h.g 0), (h.g 1), (h.g 2), trivial⟩)
  intro a w hJ
  have h := hJ
  refine cb h rfl (fun hb3 => ?_) (fun hb3 => ?_)
  · replace hm := ifT hb3 hm
    refine sp [(2, vi 2)] h fun a h => ?_
    refine wp_ret ?_
    refine then_r ?_
    obtain rfl := Option.some.inj hm
    exact rt1 h rfl rfl ⟨rfl, bk_sel h [] trivial⟩
  replace hm := ifF hb3 hm
  refine wp_skip ?_
  refine then_n ?_
  obtain ⟨os1, hx, hm⟩ := bnd hm
  refine seq_j (fun a w => ∃ s1 : Unit, os1 = .inl s1 ∧ (SS A [] w0 112 [(1, .pointer (some ⟨b1, 0, none⟩))] [bx b1 31 [.slice p1 (List.length y0.1) c1, .slice p2 (List.length y0.2.1) c2, .slice p3 (List.length y0.2.2) c3]] [R e_Premise p1 c1 (List.length y0.1) y0.1, R e_Rule p2 c2 (List.length y0.2.1) y0.2.1, R e_Promotion p3 c3 (List.length y0.2.2) y0.2.2] a w)) ?_ ?_
  · have hm2 := hm
    replace hm := hx
    refine sp [(3, vi 0)] h fun a h => ?_
    refine wp_block ?_
    refine loop_m (B := (m_ref05_Validate_L1 y0)) (fun (s2 : Int) a w => SS A [] w0 112 [(1, .pointer (some ⟨b1, 0, none⟩)), (3, vi s2)] [bx b1 31 [.slice p1 (List.length y0.1) c1, .slice p2 (List.length y0.2.1) c2, .slice p3 (List.length y0.2.2) c3]] [R e_Premise p1 c1 (List.length y0.1) y0.1, R e_Rule p2 c2 (List.length y0.2.1) y0.2.1, R e_Promotion p3 c3 (List.length y0.2.2) y0.2.2] a w) hm (h.to 1 ⟨(h.g 0), (h.g 1), (h.g 2), trivial⟩) ?_
    intro s2 a w o1 hJ hm hr1
    have h := hJ
    unfold m_ref05_Validate_L1 at hm
    refine wp_seq ?_
    refine sr ?_
    refine pr 2 [(27, .pointer (some ⟨b1, 0, none⟩)), (26, vi s2)] h fun a h => ?_
    refine sl (b_load_own 0 (.slice p1 (List.length y0.1) c1) h rfl rfl fun a h => ?_)
    refine pr 2 [(30, vb (decide (s2 < (len y0.1))))] h fun a h => ?_
    refine oe ?_
    refine cb h rfl (fun hb4 => ?_) (fun hb4 => ?_)
    · replace hm := ifT hb4 hm
      refine wp_skip ?_
      refine then_n ?_
      refine wp_seq ?_
      refine wp_block ?_
      refine wp_seq ?_
      refine sr ?_
      refine pr 1 [(33, .pointer (some ⟨b1, 0, none⟩))] h fun a h => ?_
      refine sl (b_load_own 0 (.slice p1 (List.length y0.1) c1) h rfl rfl fun a h => ?_)
      refine pr 1 [(35, vi s2)] h fun a h => ?_
      obtain ⟨x1, h1, hm⟩ := bnd hm
      refine sl (b_index_rd h (h.g 0) rfl rfl h1 fun b2 o2 a h => ?_)
      refine sl (b_load_pt true h (h.g 0) rfl fun ci1 hc1 v1 hv1 a h => ?_)
      replace hc1 : E.rd e_Premise _ _ ci1 x1 := hc1
      obtain ⟨_, _, rfl, ⟨_, _, rfl, rfl, rfl⟩, ⟨_, _, rfl, rfl, ⟨_, _, rfl, rfl, rfl⟩⟩⟩ := hc1
      obtain rfl := Option.some.inj hv1
      have h := h.upd (t := 37) (.agg #[vb x1.1.1, vs x1.1.2, vi x1.2.1, vi x1.2.2.1, vs x1.2.2.2]) rfl rfl
      obtain ⟨r1, h2, hm⟩ := bnd hm
      refine sl (b_call [] [] h Tryz.call82 rfl rfl (c_ref05_premise (y0 := x1) (h.po [] []) trivial h2) fun v a w hp hc => ?_)
      obtain ⟨rfl, q⟩ := hp
      have h := hc.on q [bx b1 31 [.slice p1 (List.length y0.1) c1, .slice p2 (List.length y0.2.1) c2, .slice p3 (List.length y0.2.2) c3]]
      refine pr 1 [(4, vi r1)] h fun a h => ?_
      refine oe ?_
      refine sp [(40, vb (r1 != 0))] h fun a h => ?_
      refine cb h rfl (fun hb5 => ?_) (fun hb5 => ?_)
      · replace hm := ifT hb5 hm
        refine sp [(2, vi r1)] h fun a h => ?_
        refine wp_ret ?_
        refine then_r (inb_r (then_r (lp_r (inb_r (then_r ?_)))))
        replace hm := loopR hr1 hm
        obtain rfl := Option.some.inj hm
        replace hm := hm2
        obtain rfl := Option.some.inj hm
        exact rt1 h rfl rfl ⟨rfl, bk_sel h [] trivial⟩
      replace hm := ifF hb5 hm
      refine wp_skip ?_
      refine then_n ?_
      refine ds [] [0] h fun w h => ?_
      refine dlo 0 0 (.agg #[.slice p1 (List.length y0.1) c1, .slice p2 (List.length y0.2.1) c2, .slice p3 (List.length y0.2.2) c3]) h rfl rfl rfl fun a h => ?_
      refine dp 1 (.pointer (some ⟨b1, 0, none⟩)) h rfl fun a h => ?_
      refine dlo 2 0 (.slice p1 (List.length y0.1) c1) h rfl rfl rfl fun a h => ?_
      refine dp 3 (vi s2) h rfl fun a h => ?_
      obtain ⟨x2, h3, hm⟩ := bnd hm
      refine dir 4 h rfl (h.g 1) rfl rfl h3 fun b3 o3 a h => ?_
      refine dp 5 (.pointer (some ⟨b3, o3, none⟩)) h rfl fun a h => ?_
      refine dlp 6 true h rfl (PtTo.fst (h.g 0)) rfl fun ci2 hc2 v2 hv2 a h => ?_
      replace hc2 : E.rd e_Literal _ _ ci2 x2.1 := hc2
      obtain ⟨_, _, rfl, rfl, rfl⟩ := hc2
      obtain rfl := Option.some.inj hv2
      have h := h.upd (t := 48) (.agg #[vb x2.1.1, vs x2.1.2]) rfl rfl
      refine dp 8 (vi s2) h rfl fun a h => ?_
      refine d1 7 rfl ?_
      obtain ⟨r2, h4, hm⟩ := bnd hm
      refine b_call [] [] h Tryz.call83 rfl rfl (c_ref05_Premise (y0 := y0) (y1 := x2.1) (h.po [] []) ⟨(h.pf [] [] 2), (h.pf [] [] 3), (h.pf [] [] 4), trivial⟩ h4) fun v a w hp hc => ?_
      obtain ⟨rfl, q⟩ := hp
      have e := hc.st q [bx b1 31 [.slice p1 (List.length y0.1) c1, .slice p2 (List.length y0.2.1) c2, .slice p3 (List.length y0.2.2) c3]]
      have h := hc.on q [bx b1 31 [.slice p1 (List.length y0.1) c1, .slice p2 (List.length y0.2.1) c2, .slice p3 (List.length y0.2.2) c3]]
      refine dn h e ?_
      refine dp 9 (vb (decide (r2 < s2))) h rfl fun a h => ?_
      refine de (then_n ?_)
      refine cb h rfl (fun hb6 => ?_) (fun hb6 => ?_)
      · replace hm := ifT hb6 hm
        refine sp [(2, vi 5)] h fun a h => ?_
        refine wp_ret ?_
        refine inb_r (then_r (lp_r (inb_r (then_r ?_))))
        replace hm := loopR hr1 hm
        obtain rfl := Option.some.inj hm
        replace hm := hm2
        obtain rfl := Option.some.inj hm
        exact rt1 h rfl rfl ⟨rfl, bk_sel h [] trivial⟩
      replace hm := ifF hb6 hm
      refine wp_skip ?_
      refine inb_n ?_
      refine then_n ?_
      refine reg ?_
      refine pr 3 [(3, vi (w64 (s2 + 1)))] h fun a h => ?_
      refine ops_end ?_
      obtain rfl := Option.some.inj hm
      exact lp_n rfl (h.to 1 ⟨(h.g 2), (h.g 3), (h.g 4), trivial⟩)
    replace hm := ifF hb4 hm
    refine wp_exit ?_
    refine then_e (lp_e (inb_hit ?_))
    replace hm := loopR hr1 hm
    obtain rfl := Option.some.inj hm
    exact then_n ⟨_, rfl, h.to 1 ⟨(h.g 0), (h.g 1), (h.g 2), trivial⟩⟩
  intro a w hJ
  obtain ⟨s1, rfl, h⟩ := hJ
  obtain ⟨os3, hx, hm⟩ := bnd hm
  refine seq_j (fun a w => ∃ s3 : Unit, os3 = .inl s3 ∧ (SS A [] w0 112 [(1, .pointer (some ⟨b1, 0, none⟩))] [bx b1 31 [.slice p1 (List.length y0.1) c1, .slice p2 (List.length y0.2.1) c2, .slice p3 (List.length y0.2.2) c3]] [R e_Premise p1 c1 (List.length y0.1) y0.1, R e_Rule p2 c2 (List.length y0.2.1) y0.2.1, R e_Promotion p3 c3 (List.length y0.2.2) y0.2.2] a w)) ?_ ?_
  · have hm2 := hm
    replace hm := hx
    refine sp [(5, vi 0)] h fun a h => ?_
    refine wp_block ?_
    refine loop_m (B := (m_ref05_Validate_L2 y0)) (fun (s4 : Int) a w => SS A [] w0 112 [(1, .pointer (some ⟨b1, 0, none⟩)), (5, vi s4)] [bx b1 31 [.slice p1 (List.length y0.1) c1, .slice p2 (List.length y0.2.1) c2, .slice p3 (List.length y0.2.2) c3]] [R e_Premise p1 c1 (List.length y0.1) y0.1, R e_Rule p2 c2 (List.length y0.2.1) y0.2.1, R e_Promotion p3 c3 (List.length y0.2.2) y0.2.2] a w) hm (h.to 1 ⟨(h.g 0), (h.g 1), (h.g 2), trivial⟩) ?_
    intro s4 a w o4 hJ hm hr2
    have h := hJ
    unfold m_ref05_Validate_L2 at hm
    refine wp_seq ?_
    refine sr ?_
    refine pr 2 [(53, .pointer (some ⟨b1, 1, none⟩)), (52, vi s4)] h fun a h => ?_
    refine sl (b_load_own 0 (.slice p2 (List.length y0.2.1) c2) h rfl rfl fun a h => ?_)
    refine pr 2 [(56, vb (decide (s4 < (len y0.2.1))))] h fun a h => ?_
    refine oe ?_
    refine cb h rfl (fun hb7 => ?_) (fun hb7 => ?_)
    · replace hm := ifT hb7 hm
      refine wp_skip ?_
      refine then_n ?_
      refine wp_seq ?_
      refine wp_block ?_
      refine wp_seq ?_
      refine sr ?_
      refine pr 1 [(59, .pointer (some ⟨b1, 1, none⟩))] h fun a h => ?_
      refine sl (b_load_own 0 (.slice p2 (List.length y0.2.1) c2) h rfl rfl fun a h => ?_)
      refine pr 1 [(61, vi s4)] h fun a h => ?_
      obtain ⟨x3, h5, hm⟩ := bnd hm
      refine sl (b_index_rd h (h.g 1) rfl rfl h5 fun b4 o5 a h => ?_)
      refine sl (b_load_pt true h (h.g 0) rfl fun ci3 hc3 v3 hv3 a h => ?_)
      replace hc3 : E.rd e_Rule _ _ ci3 x3 := hc3
      obtain ⟨_, _, rfl, rfl, ⟨_, _, rfl, rfl, ⟨_, _, rfl, rfl, ⟨_, _, rfl, ⟨p4, c4, rfl, f1⟩, ⟨_, _, rfl, rfl, rfl⟩⟩⟩⟩⟩ := hc3
      obtain rfl := Option.some.inj hv3
      have h := h.upd (t := 63) (.agg #[vs x3.1, vb x3.2.1, vi x3.2.2.1, .slice p4 (List.length x3.2.2.2.1) c4, vb x3.2.2.2.2.1, vs x3.2.2.2.2.2]) rfl rfl
      have h := h.add (R.of f1)
      obtain ⟨r3, h6, hm⟩ := bnd hm
      refine sl (b_call [] [] h Tryz.call84 rfl rfl (c_ref05_rule (y0 := x3) (h.po [] []) ⟨(h.pf [] [] 0), trivial⟩ h6) fun v a w hp hc => ?_)
      obtain ⟨rfl, q⟩ := hp
      have h := hc.on q [bx b1 31 [.slice p1 (List.length y0.1) c1, .slice p2 (List.length y0.2.1) c2, .slice p3 (List.length y0.2.2) c3]]
      refine pr 1 [(6, vi r3)] h fun a h => ?_
      refine oe ?_
      refine sp [(66, vb (r3 != 0))] h fun a h => ?_
      refine cb h rfl (fun hb8 => ?_) (fun hb8 => ?_)
      · replace hm := ifT hb8 hm
        refine sp [(2, vi r3)] h fun a h => ?_
        refine wp_ret ?_
        refine then_r (inb_r (then_r (lp_r (inb_r (then_r ?_)))))
        replace hm := loopR hr2 hm
        obtain rfl := Option.some.inj hm
        replace hm := hm2
        obtain rfl := Option.some.inj hm
        exact rt1 h rfl rfl ⟨rfl, bk_sel h [] trivial⟩
      replace hm := ifF hb8 hm
      refine wp_skip ?_
      refine then_n ?_
      refine ds [] [0] h fun w h => ?_
      refine dlo 0 0 (.agg #[.slice p1 (List.length y0.1) c1, .slice p2 (List.length y0.2.1) c2, .slice p3 (List.length y0.2.2) c3]) h rfl rfl rfl fun a h => ?_
      refine dp 1 (.pointer (some ⟨b1, 1, none⟩)) h rfl fun a h => ?_
      refine dlo 2 0 (.slice p2 (List.length y0.2.1) c2) h rfl rfl rfl fun a h => ?_
      refine dp 3 (vi s4) h rfl fun a h => ?_
      obtain ⟨x4, h7, hm⟩ := bnd hm
      refine dir 4 h rfl (h.g 3) rfl rfl h7 fun b5 o6 a h => ?_
      refine dp 5 (.pointer (some ⟨b5, o6, none⟩)) h rfl fun a h => ?_
      refine dlp 6 false h rfl (PtTo.fst (h.g 0)) rfl fun ci4 hc4 v4 hv4 a h => ?_
      replace hc4 : E.rd eStr _ _ ci4 x4.1 := hc4
      obtain rfl := hc4
      obtain rfl := Option.some.inj hv4
      refine dp 8 (vi s4) h rfl fun a h => ?_
      refine d1 7 rfl ?_
      obtain ⟨r4, h8, hm⟩ := bnd hm
      refine b_call [] [] h Tryz.call85 rfl rfl (c_ref05_Find (y0 := y0) (y1 := x4.1) (h.po [] []) ⟨(h.pf [] [] 3), (h.pf [] [] 4), (h.pf [] [] 5), trivial⟩ h8) fun v a w hp hc => ?_
      obtain ⟨rfl, q⟩ := hp
      have e := hc.st q [bx b1 31 [.slice p1 (List.length y0.1) c1, .slice p2 (List.length y0.2.1) c2, .slice p3 (List.length y0.2.2) c3]]
      have h := hc.on q [bx b1 31 [.slice p1 (List.length y0.1) c1, .slice p2 (List.length y0.2.1) c2, .slice p3 (List.length y0.2.2) c3]]
      refine dn h e ?_
      refine dp 9 (vb (decide (r4 < s4))) h rfl fun a h => ?_
      refine de (then_n ?_)
      refine cb h rfl (fun hb9 => ?_) (fun hb9 => ?_)
      · replace hm := ifT hb9 hm
        refine sp [(2, vi 5)] h fun a h => ?_
        refine wp_ret ?_
        refine inb_r (then_r (lp_r (inb_r (then_r ?_))))
        replace hm := loopR hr2 hm
        obtain rfl := Option.some.inj hm
        replace hm := hm2
        obtain rfl := Option.some.inj hm
        exact rt1 h rfl rfl ⟨rfl, bk_sel h [] trivial⟩
      replace hm := ifF hb9 hm
      refine wp_skip ?_
      refine inb_n ?_
      refine then_n ?_
      refine reg ?_
      refine pr 3 [(5, vi (w64 (s4 + 1)))] h fun a h => ?_
      refine ops_end ?_
      obtain rfl := Option.some.inj hm
      exact lp_n rfl (h.to 1 ⟨(h.g 3), (h.g 4), (h.g 5), trivial⟩)
    replace hm := ifF hb7 hm
    refine wp_exit ?_
    refine then_e (lp_e (inb_hit ?_))
    replace hm := loopR hr2 hm
    obtain rfl := Option.some.inj hm
    exact then_n ⟨_, rfl, h.to 1 ⟨(h.g 0), (h.g 1), (h.g 2), trivial⟩⟩
  intro a w hJ
  obtain ⟨s3, rfl, h⟩ := hJ
  refine wp_seq ?_
  refine sp [(7, vi 0)] h fun a h => ?_
  refine wp_block ?_
  refine loop_m (B := (m_ref05_Validate_L3 y0)) (fun (s5 : Int) a w => SS A [] w0 112 [(1, .pointer (some ⟨b1, 0, none⟩)), (7, vi s5)] [bx b1 31 [.slice p1 (List.length y0.1) c1, .slice p2 (List.length y0.2.1) c2, .slice p3 (List.length y0.2.2) c3]] [R e_Premise p1 c1 (List.length y0.1) y0.1, R e_Rule p2 c2 (List.length y0.2.1) y0.2.1, R e_Promotion p3 c3 (List.length y0.2.2) y0.2.2] a w) hm (h.to 1 ⟨(h.g 0), (h.g 1), (h.g 2), trivial⟩) ?_
  intro s5 a w o7 hJ hm hr3
  have h := hJ
  unfold m_ref05_Validate_L3 at hm
  refine wp_seq ?_
  refine sr ?_
  refine pr 2 [(79, .pointer (some ⟨b1, 2, none⟩)), (78, vi s5)] h fun a h => ?_
  refine sl (b_load_own 0 (.slice p3 (List.length y0.2.2) c3) h rfl rfl fun a h => ?_)
  refine pr 2 [(82, vb (decide (s5 < (len y0.2.2))))] h fun a h => ?_
  refine oe ?_
  refine cb h rfl (fun hb10 => ?_) (fun hb10 => ?_)
  · replace hm := ifT hb10 hm
    refine wp_skip ?_
    refine then_n ?_
    refine wp_seq ?_
    refine wp_block ?_
    refine sr ?_
    refine pr 1 [(85, .pointer (some ⟨b1, 2, none⟩))] h fun a h => ?_
    refine sl (b_load_own 0 (.slice p3 (List.length y0.2.2) c3) h rfl rfl fun a h => ?_)
    refine pr 1 [(87, vi s5)] h fun a h => ?_
    obtain ⟨x5, h9, hm⟩ := bnd hm
    refine sl (b_index_rd h (h.g 2) rfl rfl h9 fun b6 o8 a h => ?_)
    refine sl (b_load_pt true h (h.g 0) rfl fun ci5 hc5 v5 hv5 a h => ?_)
    replace hc5 : E.rd e_Promotion _ _ ci5 x5 := hc5
    obtain ⟨_, _, rfl, rfl, ⟨_, _, rfl, rfl, ⟨_, _, rfl, rfl, rfl⟩⟩⟩ := hc5
    obtain rfl := Option.some.inj hv5
    have h := h.upd (t := 89) (.agg #[vs x5.1, vi x5.2.1, vb x5.2.2.1, vs x5.2.2.2]) rfl rfl
    refine sl (b_alloc h rfl fun b7 a w h e => ?_)
    refine sl (b_store_own 1 h rfl rfl rfl fun a w h e => ?_)
    refine oe ?_
    refine wp_seq ?_
    obtain ⟨s6, hx, hm⟩ := bnd hm
    refine seq_j (fun a w => SS A [] w0 112 [(1, .pointer (some ⟨b1, 0, none⟩)), (7, vi s5), (8, .pointer (some ⟨b7, 0, none⟩)), (99, vb s6)] [bx b1 31 [.slice p1 (List.length y0.1) c1, .slice p2 (List.length y0.2.1) c2, .slice p3 (List.length y0.2.2) c3], bx b7 99 [vs x5.1, vi x5.2.1, vb x5.2.2.1, vs x5.2.2.2]] [R e_Premise p1 c1 (List.length y0.1) y0.1, R e_Rule p2 c2 (List.length y0.2.1) y0.2.1, R e_Promotion p3 c3 (List.length y0.2.2) y0.2.2] a w) ?_ ?_
    · replace hm := hx
      refine reg ?_
      refine pr 1 [(90, .pointer (some ⟨b7, 1, none⟩))] h fun a h => ?_
      refine sl (b_load_own 1 (vi x5.2.1) h rfl rfl fun a h => ?_)
      obtain ⟨r5, h10, hm⟩ := bnd hm
      refine sl (b_call [] [] h Tryz.call86 rfl rfl (c_ref05_rank (y0 := x5.2.1) (h.po [] []) trivial h10) fun v a w hp hc => ?_)
      obtain ⟨rfl, q⟩ := hp
      have h := hc.on q [bx b1 31 [.slice p1 (List.length y0.1) c1, .slice p2 (List.length y0.2.1) c2, .slice p3 (List.length y0.2.2) c3], bx b7 99 [vs x5.1, vi x5.2.1, vb x5.2.2.1, vs x5.2.2.2]]
      refine pr 2 [(94, vb (!r5))] h fun a h => ?_
      rcases Bool.eq_false_or_eq_true (!r5) with hb11 | hb11
      · have h := h.upd (t := 94) (vb true) rfl (congrArg Value.bool hb11)
        replace hm := ifT hb11 hm
        refine pr 5 [(99, vb true)] h fun a h => ?_
        refine ops_end ?_
        obtain rfl := Option.some.inj hm
        exact then_n (h.to 2 ⟨(h.g 1), (h.g 2), (h.g 3), trivial⟩)
      · have h := h.upd (t := 94) (vb false) rfl (congrArg Value.bool hb11)
        replace hm := ifF hb11 hm
        refine pr 1 [(95, .pointer (some ⟨b7, 2, none⟩))] h fun a h => ?_
        refine sl (b_load_own 1 (.agg #[vb x5.2.2.1, vs x5.2.2.2]) h rfl rfl fun a h => ?_)
        obtain ⟨r6, h11, hm⟩ := bnd hm
        refine sl (b_call [] [] h Tryz.call87 rfl rfl (c_ref01_Valid (y0 := x5.2.2) (h.po [] []) trivial h11) fun v a w hp hc => ?_)
        obtain ⟨rfl, q⟩ := hp
        have h := hc.on q [bx b1 31 [.slice p1 (List.length y0.1) c1, .slice p2 (List.length y0.2.1) c2, .slice p3 (List.length y0.2.2) c3], bx b7 99 [vs x5.1, vi x5.2.1, vb x5.2.2.1, vs x5.2.2.2]]
        refine pr 2 [(99, vb (!r6))] h fun a h => ?_
        refine ops_end ?_
        obtain rfl := Option.some.inj hm
        exact then_n (h.to 2 ⟨(h.g 1), (h.g 2), (h.g 3), trivial⟩)
    intro a w hJ
    have h := hJ
    refine cb h rfl (fun hb12 => ?_) (fun hb12 => ?_)
    · replace hm := ifT hb12 hm
      refine sp [(2, vi 1)] h fun a h => ?_
      refine wp_ret ?_
      refine then_r (inb_r (then_r (lp_r (inb_r (then_r ?_)))))
      replace hm := loopR hr3 hm
      obtain rfl := Option.some.inj hm
      exact rt1 h rfl rfl ⟨rfl, bk_sel h [] trivial⟩
    replace hm := ifF hb12 hm
    refine wp_skip ?_
    refine then_n ?_
    refine sr ?_
    refine sl (b_load_own 0 (.agg #[.slice p1 (List.length y0.1) c1, .slice p2 (List.length y0.2.1) c2, .slice p3 (List.length y0.2.2) c3]) h rfl rfl fun a h => ?_)
    refine pr 1 [(101, .pointer (some ⟨b7, 0, none⟩))] h fun a h => ?_
    refine sl (b_load_own 1 (vs x5.1) h rfl rfl fun a h => ?_)
    obtain ⟨r7, h12, hm⟩ := bnd hm
    refine sl (b_call [] [] h Tryz.call85 rfl rfl (c_ref05_Find (y0 := y0) (y1 := x5.1) (h.po [] []) ⟨(h.pf [] [] 0), (h.pf [] [] 1), (h.pf [] [] 2), trivial⟩ h12) fun v a w hp hc => ?_)
    obtain ⟨rfl, q⟩ := hp
    have h := hc.on q [bx b1 31 [.slice p1 (List.length y0.1) c1, .slice p2 (List.length y0.2.1) c2, .slice p3 (List.length y0.2.2) c3], bx b7 99 [vs x5.1, vi x5.2.1, vb x5.2.2.1, vs x5.2.2.2]]
    refine pr 1 [(9, vi r7)] h fun a h => ?_
    refine oe ?_
    refine wp_seq ?_
    refine sp [(105, vb (decide (r7 < 0)))] h fun a h => ?_
    refine cb h rfl (fun hb13 => ?_) (fun hb13 => ?_)
    · replace hm := ifT hb13 hm
      refine sp [(2, vi 6)] h fun a h => ?_
      refine wp_ret ?_
      refine then_r (inb_r (then_r (lp_r (inb_r (then_r ?_)))))
      replace hm := loopR hr3 hm
      obtain rfl := Option.some.inj hm
      exact rt1 h rfl rfl ⟨rfl, bk_sel h [] trivial⟩
    replace hm := ifF hb13 hm
    refine wp_skip ?_
    refine then_n ?_
    refine sr ?_
    refine pr 1 [(106, .pointer (some ⟨b1, 1, none⟩))] h fun a h => ?_
    refine sl (b_load_own 0 (.slice p2 (List.length y0.2.1) c2) h rfl rfl fun a h => ?_)
    refine pr 1 [(108, vi r7)] h fun a h => ?_
    obtain ⟨x6, h13, hm⟩ := bnd hm
    refine sl (b_index_rd h (h.g 1) rfl rfl h13 fun b8 o9 a h => ?_)
    refine pr 1 [(110, .pointer (some ⟨b8, (o9 + 1), none⟩))] h fun a h => ?_
    refine sl (b_load_pt false h (PtTo.fst (PtTo.snd (h.g 0))) rfl fun ci6 hc6 v6 hv6 a h => ?_)
    replace hc6 : E.rd eBool _ _ ci6 x6.2.1 := hc6
    obtain rfl := hc6
    obtain rfl := Option.some.inj hv6
    refine oe ?_
    refine cb h rfl (fun hb14 => ?_) (fun hb14 => ?_)
    · replace hm := ifT hb14 hm
      refine sp [(2, vi 4)] h fun a h => ?_
      refine wp_ret ?_
      refine inb_r (then_r (lp_r (inb_r (then_r ?_))))
      replace hm := loopR hr3 hm
      obtain rfl := Option.some.inj hm
      exact rt1 h rfl rfl ⟨rfl, bk_sel h [] trivial⟩
    replace hm := ifF hb14 hm
    refine wp_skip ?_
    refine inb_n ?_
    refine then_n ?_
    refine reg ?_
    refine pr 3 [(7, vi (w64 (s5 + 1)))] h fun a h => ?_
    refine ops_end ?_
    obtain rfl := Option.some.inj hm
    exact lp_n rfl (h.to 1 ⟨(h.g 1), (h.g 2), (h.g 3), trivial⟩)
  replace hm := ifF hb10 hm
  refine wp_exit ?_
  refine then_e (lp_e (inb_hit ?_))
  replace hm := loopR hr3 hm
  refine then_n ?_
  refine sp [(2, vi 0)] h fun a h => ?_
  refine wp_ret ?_
  obtain rfl := Option.some.inj hm
  exact rt1 h rfl rfl ⟨rfl, bk_sel h [] trivial⟩

theorem c_ref01_Has {A : List Nat} {w0 : World} {y0 : List T_Literal} {p1 : Option Addr} {c1 : Nat} {y1 : T_Literal} {r : Bool} (hO : Own A w0 []) (hF : All [R e_Literal p1 c1 (List.length y0) y0] (bl [] ++ A) w0) (hm : m_ref01_Has y0 y1 = some r) :
    Calls Tryz.prog 88 [.slice p1 (List.length y0) c1, .agg #[vb y1.1, vs y1.2]].toArray w0 (Ret fun v w => v = vb r ∧ Bk A [] w0 [] [] w) := by
  unfold m_ref01_Has at hm
  refine ent Tryz.func88 rfl hO hF fun a h => ?_
  refine sr ?_
  refine sl (b_box h rfl fun b1 a w h e => ?_)
  refine pr 1 [] h fun a h => ?_
  refine oe ?_
  refine wp_seq ?_
  refine sp [(5, vi 0)] h fun a h => ?_
  refine wp_block ?_
  refine loop_m (B := (m_ref01_Has_L1 y0 y1)) (fun (s1 : Int) a w => SS A [] w0 18 [(0, .slice p1 (List.length y0) c1), (3, .pointer (some ⟨b1, 0, none⟩)), (5, vi s1)] [bx b1 61 [vb y1.1, vs y1.2]] [R e_Literal p1 c1 (List.length y0) y0] a w) hm (h.to 1 ⟨(h.g 0), trivial⟩) ?_
  intro s1 a w o1 hJ hm hr1
  have h := hJ
  unfold m_ref01_Has_L1 at hm
  refine wp_seq ?_
  refine sp [(9, vb (decide (s1 < (len y0))))] h fun a h => ?_
  refine cb h rfl (fun hb1 => ?_) (fun hb1 => ?_)
  · replace hm := ifT hb1 hm
    refine wp_skip ?_
    refine then_n ?_
    refine wp_seq ?_
    refine wp_block ?_
    refine ds [] [0] h fun w h => ?_
    refine dp 0 (.slice p1 (List.length y0) c1) h rfl fun a h => ?_
    refine dp 1 (vi s1) h rfl fun a h => ?_
    obtain ⟨x1, h1, hm⟩ := bnd hm
    refine dir 2 h rfl (h.g 0) rfl rfl h1 fun b2 o2 a h => ?_
    refine dlp 3 true h rfl (h.g 0) rfl fun ci1 hc1 v1 hv1 a h => ?_
    replace hc1 : E.rd e_Literal _ _ ci1 x1 := hc1
    obtain ⟨_, _, rfl, rfl, rfl⟩ := hc1
    obtain rfl := Option.some.inj hv1
    have h := h.upd (t := 15) (.agg #[vb x1.1, vs x1.2]) rfl rfl
    refine dlo 4 0 (.agg #[vb y1.1, vs y1.2]) h rfl rfl rfl fun a h => ?_
    refine dp 5 (vb (x1 == y1)) h rfl fun a h => ?_
    refine de (then_n ?_)
    refine cb h rfl (fun hb2 => ?_) (fun hb2 => ?_)
    · replace hm := ifT hb2 hm
      refine sp [(4, vb true)] h fun a h => ?_
      refine wp_ret ?_
      refine inb_r (then_r (lp_r (inb_r (then_r ?_))))
      replace hm := loopR hr1 hm
      obtain rfl := Option.some.inj hm
      exact rt1 h rfl rfl ⟨rfl, bk_sel h [] trivial⟩
    replace hm := ifF hb2 hm
    refine wp_skip ?_
    refine inb_n ?_
    refine then_n ?_
    refine reg ?_
    refine pr 3 [(5, vi (w64 (s1 + 1)))] h fun a h => ?_
    refine ops_end ?_
    obtain rfl := Option.some.inj hm
    exact lp_n rfl (h.to 1 ⟨(h.g 1), trivial⟩)
  replace hm := ifF hb1 hm
  refine wp_exit ?_
  refine then_e (lp_e (inb_hit ?_))
  replace hm := loopR hr1 hm
  refine then_n ?_
  refine sp [(4, vb false)] h fun a h => ?_
  refine wp_ret ?_
  obtain rfl := Option.some.inj hm
  exact rt1 h rfl rfl ⟨rfl, bk_sel h [] trivial⟩

theorem c_ref07_insert {A : List Nat} {w0 : World} {y0 : List Int} {p1 : Option Addr} {c1 : Nat} {y1 : Int} {r : (List Int)} (hO : Own A w0 []) (hF : All [R (eInt .i64) p1 c1 (List.length y0) y0] (bl [] ++ A) w0) (hm : m_ref07_insert y0 y1 = some r) :
    Calls Tryz.prog 81 [.slice p1 (List.length y0) c1, vi y1].toArray w0 (Ret fun v w => ∃ (p2 : Option Addr) (c2 : Nat), v = .slice p2 (List.length r) c2 ∧ Bk A [] w0 [] [R (eInt .i64) p2 c2 (List.length r) r] w) := by
  unfold m_ref07_insert at hm
  refine ent Tryz.func81 rfl hO hF fun a h => ?_
  refine sp [] h fun a h => ?_
  refine sp [(5, vi 0)] h fun a h => ?_
  obtain ⟨s1, hx, hm⟩ := bnd hm
  refine seq_j (fun a w => SS A [] w0 47 [(0, .slice p1 (List.length y0) c1), (1, vi y1), (5, vi s1)] [] [R (eInt .i64) p1 c1 (List.length y0) y0] a w) ?_ ?_
  · have hm2 := hm
    replace hm := hx
    refine wp_block ?_
    refine loop_m (B := (m_ref07_insert_L1 y0 y1)) (fun (s2 : Int) a w => SS A [] w0 47 [(0, .slice p1 (List.length y0) c1), (1, vi y1), (5, vi s2)] [] [R (eInt .i64) p1 c1 (List.length y0) y0] a w) hm (h.to 0 ⟨(h.g 0), trivial⟩) ?_
    intro s2 a w o1 hJ hm hr1
    have h := hJ
    unfold m_ref07_insert_L1 at hm
    refine wp_seq ?_
    obtain ⟨s3, hx, hm⟩ := bnd hm
    refine seq_j (fun a w => SS A [] w0 47 [(0, .slice p1 (List.length y0) c1), (1, vi y1), (5, vi s2), (18, vb s3)] [] [R (eInt .i64) p1 c1 (List.length y0) y0] a w) ?_ ?_
    · replace hm := hx
      refine reg ?_
      refine pr 5 [(11, vb (decide (s2 < (len y0))))] h fun a h => ?_
      rcases Bool.eq_false_or_eq_true (decide (s2 < (len y0))) with hb1 | hb1
      · have h := h.upd (t := 11) (vb true) rfl (congrArg Value.bool hb1)
        replace hm := ifT hb1 hm
        refine pr 2 [(13, vi s2), (12, .slice p1 (List.length y0) c1)] h fun a h => ?_
        obtain ⟨x1, h1, hm⟩ := bnd hm
        refine sl (b_index_rd h (h.g 0) rfl rfl h1 fun b1 o2 a h => ?_)
        refine sl (b_load_pt false h (h.g 0) rfl fun ci1 hc1 v1 hv1 a h => ?_)
        replace hc1 : E.rd (eInt .i64) _ _ ci1 x1 := hc1
        obtain rfl := hc1
        obtain rfl := Option.some.inj hv1
        refine pr 3 [(18, vb (decide (x1 < y1)))] h fun a h => ?_
        refine ops_end ?_
        obtain rfl := Option.some.inj hm
        exact then_n (h.to 0 ⟨(h.g 1), trivial⟩)
      · have h := h.upd (t := 11) (vb false) rfl (congrArg Value.bool hb1)
        replace hm := ifF hb1 hm
        refine pr 7 [(18, vb false)] h fun a h => ?_
        refine ops_end ?_
        obtain rfl := Option.some.inj hm
        exact then_n (h.to 0 ⟨(h.g 0), trivial⟩)
    intro a w hJ
    have h := hJ
    refine cb h rfl (fun hb2 => ?_) (fun hb2 => ?_)
    · replace hm := ifT hb2 hm
      refine wp_skip ?_
      refine then_n ?_
      refine wp_block ?_
      refine reg ?_
      refine pr 3 [(5, vi (w64 (s2 + 1)))] h fun a h => ?_
      refine ops_end ?_
      refine inb_n ?_
      obtain rfl := Option.some.inj hm
      exact lp_n rfl (h.to 0 ⟨(h.g 0), trivial⟩)
    replace hm := ifF hb2 hm
    refine wp_exit ?_
    refine then_e (lp_e (inb_hit ?_))
    replace hm := loopR hr1 hm
    obtain rfl := Option.some.inj hm
    exact then_n (h.to 0 ⟨(h.g 0), trivial⟩)
  intro a w hJ
  have h := hJ
  refine wp_seq ?_
  obtain ⟨s4, hx, hm⟩ := bnd hm
  refine seq_j (fun a w => SS A [] w0 47 [(0, .slice p1 (List.length y0) c1), (1, vi y1), (5, vi s1), (32, vb s4)] [] [R (eInt .i64) p1 c1 (List.length y0) y0] a w) ?_ ?_
  · replace hm := hx
    refine reg ?_
    refine pr 5 [(25, vb (decide (s1 < (len y0))))] h fun a h => ?_
    rcases Bool.eq_false_or_eq_true (decide (s1 < (len y0))) with hb3 | hb3
    · have h := h.upd (t := 25) (vb true) rfl (congrArg Value.bool hb3)
      replace hm := ifT hb3 hm
      refine pr 2 [(27, vi s1), (26, .slice p1 (List.length y0) c1)] h fun a h => ?_
      obtain ⟨x2, h2, hm⟩ := bnd hm
      refine sl (b_index_rd h (h.g 0) rfl rfl h2 fun b2 o3 a h => ?_)
      refine sl (b_load_pt false h (h.g 0) rfl fun ci2 hc2 v2 hv2 a h => ?_)
      replace hc2 : E.rd (eInt .i64) _ _ ci2 x2 := hc2
      obtain rfl := hc2
      obtain rfl := Option.some.inj hv2
      refine pr 3 [(32, vb (x2 == y1))] h fun a h => ?_
      refine ops_end ?_
      obtain rfl := Option.some.inj hm
      exact then_n (h.to 0 ⟨(h.g 1), trivial⟩)
    · have h := h.upd (t := 25) (vb false) rfl (congrArg Value.bool hb3)
      replace hm := ifF hb3 hm
      refine pr 7 [(32, vb false)] h fun a h => ?_
      refine ops_end ?_
      obtain rfl := Option.some.inj hm
      exact then_n (h.to 0 ⟨(h.g 0), trivial⟩)
  intro a w hJ
  have h := hJ
  refine cb h rfl (fun hb4 => ?_) (fun hb4 => ?_)
  · replace hm := ifT hb4 hm
    refine sp [(4, .slice p1 (List.length y0) c1)] h fun a h => ?_
    refine wp_ret ?_
    refine then_r ?_
    obtain rfl := Option.some.inj hm
    exact rt1 h rfl rfl ⟨p1, c1, rfl, bk_sel h [] ⟨(h.g 0), trivial⟩⟩
  replace hm := ifF hb4 hm
  refine wp_skip ?_
  refine then_n ?_
  refine sr ?_
  refine sl (b_bs_own (te := 3) (e := eInt .i64) [] ([] : List Int) h rfl fun r_1 p2 c2 a w h e => ?_)
  refine pr 2 [(36, vi s1), (35, .slice p1 (List.length y0) c1)] h fun a h => ?_
  obtain ⟨x3, h3, hm⟩ := bnd hm
  refine sl (b_slice_rd h (h.g 1) rfl rfl rfl (.inl ⟨rfl, rfl⟩) (.inr ⟨_, rfl⟩) h3 fun p3 c3 a h => ?_)
  obtain ⟨x4, h4, hm⟩ := bnd hm
  refine sl (b_append_r (te := 3) 0 h (h.g 1) (h.g 0) rfl rfl h4 fun r_2 p4 c4 a w h e => ?_)
  refine pr 1 [(6, .slice p4 (List.length x4) c4)] h fun a h => ?_
  refine oe ?_
  refine ds [] [] h fun w h => ?_
  refine dp 0 (.slice p4 (List.length x4) c4) h rfl fun a h => ?_
  refine dp 1 (vi y1) h rfl fun a h => ?_
  refine dp 4 (.slice p1 (List.length y0) c1) h rfl fun a h => ?_
  refine dp 5 (vi s1) h rfl fun a h => ?_
  obtain ⟨x5, h5, hm⟩ := bnd hm
  refine dslice_rd 6 h rfl (h.g 3) rfl rfl rfl (.inr ⟨_, rfl⟩) (.inl ⟨rfl, rfl⟩) h5 fun p5 c5 a h => ?_
  refine d1 2 rfl ?_
  refine b_bs_rd (te := 3) (e := eInt .i64) [vi y1] ([y1] : List Int) h ⟨_, _, rfl, eInt.mk, rfl⟩ fun p6 c6 a w h e => ?_
  refine dn h e ?_
  refine d1 3 rfl ?_
  obtain ⟨x6, h6, hm⟩ := bnd hm
  refine b_append_r (te := 3) 0 h (h.g 2) (h.g 0) rfl rfl h6 fun r_3 p7 c7 a w h e => ?_
  refine dn h e ?_
  refine d1 7 rfl ?_
  obtain ⟨x7, h7, hm⟩ := bnd hm
  refine b_append_r (te := 3) 0 h (h.g 0) (h.g 2) rfl rfl h7 fun r_4 p8 c8 a w h e => ?_
  refine dn h e ?_
  refine dp 8 (.slice p8 (List.length x7) c8) h rfl fun a h => ?_
  refine de (then_n ?_)
  refine wp_ret ?_
  obtain rfl := Option.some.inj hm
  have h := h.share 0 (h.g 0)
  exact rt1 h rfl rfl ⟨p8, c8, rfl, bk_sel h [] ⟨(h.g 0), trivial⟩⟩

theorem c_ref07_union {A : List Nat} {w0 : World} {y0 : List Int} {p1 : Option Addr} {c1 : Nat} {y1 : List Int} {p2 : Option Addr} {c2 : Nat} {r : (List Int)} (hO : Own A w0 []) (hF : All [R (eInt .i64) p1 c1 (List.length y0) y0, R (eInt .i64) p2 c2 (List.length y1) y1] (bl [] ++ A) w0) (hm : m_ref07_union y0 y1 = some r) :
    Calls Tryz.prog 47 [.slice p1 (List.length y0) c1, .slice p2 (List.length y1) c2].toArray w0 (Ret fun v w => ∃ (p3 : Option Addr) (c3 : Nat), v = .slice p3 (List.length r) c3 ∧ Bk A [] w0 [] [R (eInt .i64) p3 c3 (List.length r) r] w) := by
  unfold m_ref07_union at hm
  refine ent Tryz.func47 rfl hO hF fun a h => ?_
  refine sp [] h fun a h => ?_
  refine wp_seq ?_
  refine sp [(5, vi 0)] h fun a h => ?_
  refine wp_block ?_
  refine loop_m (B := (m_ref07_union_L1 y1)) (fun (s1 : (List Int) × Int) a w => ∃ (p3 : Option Addr) (c3 : Nat), SS A [] w0 19 [(0, .slice p3 (List.length s1.1) c3), (1, .slice p2 (List.length y1) c2), (5, vi s1.2)] [] [R (eInt .i64) p3 c3 (List.length s1.1) s1.1, R (eInt .i64) p2 c2 (List.length y1) y1] a w) hm ⟨p1, c1, h.to 0 ⟨(h.g 0), (h.g 1), trivial⟩⟩ ?_
  intro s1 a w o1 hJ hm hr1
  obtain ⟨p3, c3, h⟩ := hJ
  unfold m_ref07_union_L1 at hm
  refine wp_seq ?_
  refine sp [(9, vb (decide (s1.2 < (len y1))))] h fun a h => ?_
  refine cb h rfl (fun hb1 => ?_) (fun hb1 => ?_)
  · replace hm := ifT hb1 hm
    refine wp_skip ?_
    refine then_n ?_
    refine wp_seq ?_
    refine wp_block ?_
    refine reg ?_
    refine pr 3 [(14, vi s1.2), (13, .slice p2 (List.length y1) c2), (12, .slice p3 (List.length s1.1) c3)] h fun a h => ?_
    obtain ⟨x1, h1, hm⟩ := bnd hm
    refine sl (b_index_rd h (h.g 1) rfl rfl h1 fun b1 o2 a h => ?_)
    refine sl (b_load_pt false h (h.g 0) rfl fun ci1 hc1 v1 hv1 a h => ?_)
    replace hc1 : E.rd (eInt .i64) _ _ ci1 x1 := hc1
    obtain rfl := hc1
    obtain rfl := Option.some.inj hv1
    obtain ⟨r1, h2, hm⟩ := bnd hm
    refine sl (b_call [] [] h Tryz.call81 rfl rfl (c_ref07_insert (y0 := s1.1) (y1 := x1) (h.po [] []) ⟨(h.pf [] [] 1), trivial⟩ h2) fun v a w hp hc => ?_)
    obtain ⟨p4, c4, rfl, q⟩ := hp
    have h := hc.on q []
    refine pr 1 [(0, .slice p4 (List.length r1) c4)] h fun a h => ?_
    refine ops_end ?_
    refine inb_n ?_
    refine then_n ?_
    refine reg ?_
    refine pr 3 [(5, vi (w64 (s1.2 + 1)))] h fun a h => ?_
    refine ops_end ?_
    obtain rfl := Option.some.inj hm
    exact lp_n rfl ⟨p4, c4, h.to 0 ⟨(h.g 0), (h.g 3), trivial⟩⟩
  replace hm := ifF hb1 hm
  refine wp_exit ?_
  refine then_e (lp_e (inb_hit ?_))
  replace hm := loopR hr1 hm
  refine then_n ?_
  refine sp [(4, .slice p3 (List.length s1.1) c3)] h fun a h => ?_
  refine wp_ret ?_
  obtain rfl := Option.some.inj hm
  exact rt1 h rfl rfl ⟨p3, c3, rfl, bk_sel h [] ⟨(h.g 0), trivial⟩⟩

theorem k_ref07_Subs_all (k : Nat) :
    (∀ {A : List Nat} {w0 : World} {y0 : List T_Argument} {p1 : Option Addr} {c1 : Nat} {y1 : Int} {r : (List Int)} (_hO : Own A w0 []) (_hF : All [R e_Argument p1 c1 (List.length y0) y0] (bl [] ++ A) w0) (_hm : k_ref07_Subs k y0 y1 = some r),
    Calls Tryz.prog 23 [.slice p1 (List.length y0) c1, vi y1].toArray w0 (Ret fun v w => ∃ (p2 : Option Addr) (c2 : Nat), v = .slice p2 (List.length r) c2 ∧ Bk A [] w0 [] [R (eInt .i64) p2 c2 (List.length r) r] w)) := by
  induction k with
  | zero => intros; rename_i hm; cases hm
  | succ k ih =>
    have ih_ref07_Subs := @ih
    generalize hr_ref07_Subs : k_ref07_Subs k = rec_ref07_Subs at ih_ref07_Subs
    intro A w0 y0 p1 c1 y1 r hO hF hm
    replace hm : F_ref07_Subs rec_ref07_Subs y0 y1 = some r := by rw [← hr_ref07_Subs]; exact hm
    unfold F_ref07_Subs at hm
    refine ent Tryz.func23 rfl hO hF fun a h => ?_
    refine sp [] h fun a h => ?_
    refine wp_seq ?_
    refine seq_j (fun a w => SS A [] w0 40 [(0, .slice p1 (List.length y0) c1), (1, vi y1), (14, vb ((decide (y1 < 0)) || (decide ((len y0) ≤ y1))))] [] [R e_Argument p1 c1 (List.length y0) y0] a w) ?_ ?_
    · refine reg ?_
      refine pr 3 [(9, vb (decide (y1 < 0)))] h fun a h => ?_
      rcases Bool.eq_false_or_eq_true (decide (y1 < 0)) with hb1 | hb1
      · have h := h.upd (t := 9) (vb true) rfl (congrArg Value.bool hb1)
        refine pr 5 [(14, vb true)] h fun a h => ?_
        refine ops_end ?_
        have h := h.upd (t := 14) (vb ((decide (y1 < 0)) || (decide ((len y0) ≤ y1)))) rfl (by rw [hb1]; rfl)
        exact then_n (h.to 0 ⟨(h.g 0), trivial⟩)
      · have h := h.upd (t := 9) (vb false) rfl (congrArg Value.bool hb1)
        refine pr 5 [(14, vb (decide ((len y0) ≤ y1)))] h fun a h => ?_
        refine ops_end ?_
        have h := h.upd (t := 14) (vb ((decide (y1 < 0)) || (decide ((len y0) ≤ y1)))) rfl (by rw [hb1]; rfl)
        exact then_n (h.to 0 ⟨(h.g 0), trivial⟩)
    intro a w hJ
    have h := hJ
    refine cb h rfl (fun hb2 => ?_) (fun hb2 => ?_)
    · replace hm := ifT hb2 hm
      refine sp [(4, .slice none 0 0)] h fun a h => ?_
      refine wp_ret ?_
      refine then_r ?_
      obtain rfl := Option.some.inj hm
      exact rt1 h rfl rfl ⟨none, 0, rfl, bk_sel h [] ⟨(rnil (eInt .i64) _ _ _ _), trivial⟩⟩
    replace hm := ifF hb2 hm
    refine wp_skip ?_
    refine then_n ?_
    refine sr ?_
    refine pr 1 [(15, vi y1)] h fun a h => ?_
    refine sl (b_bs_rd (te := 3) (e := eInt .i64) [vi y1] ([y1] : List Int) h ⟨_, _, rfl, eInt.mk, rfl⟩ fun p2 c2 a w h e => ?_)
    refine pr 1 [(5, .slice p2 (List.length ([y1] : List Int)) c2)] h fun a h => ?_
    refine oe ?_
    refine wp_seq ?_
    refine sp [(6, vi 0)] h fun a h => ?_
    refine wp_block ?_
    refine loop_m (B := (m_ref07_Subs_L1 y0 y1 rec_ref07_Subs)) (fun (s1 : (List Int) × Int) a w => ∃ (p3 : Option Addr) (c3 : Nat), SS A [] w0 40 [(0, .slice p1 (List.length y0) c1), (1, vi y1), (5, .slice p3 (List.length s1.1) c3), (6, vi s1.2)] [] [R (eInt .i64) p3 c3 (List.length s1.1) s1.1, R e_Argument p1 c1 (List.length y0) y0] a w) hm ⟨p2, c2, h.to 0 ⟨(h.g 0), (h.g 1), trivial⟩⟩ ?_
    intro s1 a w o1 hJ hm hr1
    obtain ⟨p3, c3, h⟩ := hJ
    unfold m_ref07_Subs_L1 at hm
    refine wp_seq ?_
    refine sr ?_
    refine pr 3 [(19, vi y1), (18, .slice p1 (List.length y0) c1), (17, vi s1.2)] h fun a h => ?_
    obtain ⟨x1, h1, hm⟩ := bnd hm
    refine sl (b_index_rd h (h.g 1) rfl rfl h1 fun b1 o2 a h => ?_)
    refine pr 1 [(21, .pointer (some ⟨b1, (o2 + 2), none⟩))] h fun a h => ?_
    refine sl (b_load_pt false h (PtTo.fst (PtTo.snd (PtTo.snd (h.g 0)))) rfl fun ci1 hc1 v1 hv1 a h => ?_)
    replace hc1 : E.rd (eSlice (eInt .i64)) _ _ ci1 x1.2.2.1 := hc1
    obtain ⟨p4, c4, rfl, f1⟩ := hc1
    obtain rfl := Option.some.inj hv1
    have h := h.upd (t := 22) (.slice p4 (List.length x1.2.2.1) c4) rfl rfl
    have h := h.add (R.of f1)
    refine pr 2 [(24, vb (decide (s1.2 < (len x1.2.2.1))))] h fun a h => ?_
    refine oe ?_
    refine cb h rfl (fun hb3 => ?_) (fun hb3 => ?_)
    · replace hm := ifT hb3 hm
      refine wp_skip ?_
      refine then_n ?_
      refine wp_seq ?_
      refine wp_block ?_
      refine reg ?_
      refine pr 4 [(30, vi y1), (29, .slice p1 (List.length y0) c1), (28, .slice p1 (List.length y0) c1), (27, .slice p3 (List.length s1.1) c3)] h fun a h => ?_
      obtain ⟨x2, h2, hm⟩ := bnd hm
      refine sl (b_index_rd h (h.g 3) rfl rfl h2 fun b2 o3 a h => ?_)
      refine pr 1 [(32, .pointer (some ⟨b2, (o3 + 2), none⟩))] h fun a h => ?_
      refine sl (b_load_pt false h (PtTo.fst (PtTo.snd (PtTo.snd (h.g 0)))) rfl fun ci2 hc2 v2 hv2 a h => ?_)
      replace hc2 : E.rd (eSlice (eInt .i64)) _ _ ci2 x2.2.2.1 := hc2
      obtain ⟨p5, c5, rfl, f2⟩ := hc2
      obtain rfl := Option.some.inj hv2
      have h := h.upd (t := 33) (.slice p5 (List.length x2.2.2.1) c5) rfl rfl
      have h := h.add (R.of f2)
      refine pr 1 [(34, vi s1.2)] h fun a h => ?_
      obtain ⟨x3, h3, hm⟩ := bnd hm
      refine sl (b_index_rd h (h.g 0) rfl rfl h3 fun b3 o4 a h => ?_)
      refine sl (b_load_pt false h (h.g 0) rfl fun ci3 hc3 v3 hv3 a h => ?_)
      replace hc3 : E.rd (eInt .i64) _ _ ci3 x3 := hc3
      obtain rfl := hc3
      obtain rfl := Option.some.inj hv3
      obtain ⟨r1, h4, hm⟩ := bnd hm
      refine sl (b_call [] [] h Tryz.call23 rfl rfl (ih_ref07_Subs (y0 := y0) (y1 := x3) (h.po [] []) ⟨(h.pf [] [] 6), trivial⟩ h4) fun v a w hp hc => ?_)
      obtain ⟨p6, c6, rfl, q⟩ := hp
      have h := hc.on q []
      obtain ⟨r2, h5, hm⟩ := bnd hm
      refine sl (b_call [] [] h Tryz.call47 rfl rfl (c_ref07_union (y0 := s1.1) (y1 := r1) (h.po [] []) ⟨(h.pf [] [] 6), (h.pf [] [] 0), trivial⟩ h5) fun v a w hp hc => ?_)
      obtain ⟨p7, c7, rfl, q⟩ := hp
      have h := hc.on q []
      refine pr 1 [(5, .slice p7 (List.length r2) c7)] h fun a h => ?_
      refine ops_end ?_
      refine inb_n ?_
      refine then_n ?_
      refine reg ?_
      refine pr 3 [(6, vi (w64 (s1.2 + 1)))] h fun a h => ?_
      refine ops_end ?_
      obtain rfl := Option.some.inj hm
      exact lp_n rfl ⟨p7, c7, h.to 0 ⟨(h.g 0), (h.g 8), trivial⟩⟩
    replace hm := ifF hb3 hm
    refine wp_exit ?_
    refine then_e (lp_e (inb_hit ?_))
    replace hm := loopR hr1 hm
    refine then_n ?_
    refine sp [(4, .slice p3 (List.length s1.1) c3)] h fun a h => ?_
    refine wp_ret ?_
    obtain rfl := Option.some.inj hm
    exact rt1 h rfl rfl ⟨p3, c3, rfl, bk_sel h [] ⟨(h.g 2), trivial⟩⟩

theorem c_ref07_Subs {A : List Nat} {w0 : World} {y0 : List T_Argument} {p1 : Option Addr} {c1 : Nat} {y1 : Int} {r : (List Int)} (hO : Own A w0 []) (hF : All [R e_Argument p1 c1 (List.length y0) y0] (bl [] ++ A) w0) (hm : m_ref07_Subs y0 y1 = some r) :
    Calls Tryz.prog 23 [.slice p1 (List.length y0) c1, vi y1].toArray w0 (Ret fun v w => ∃ (p2 : Option Addr) (c2 : Nat), v = .slice p2 (List.length r) c2 ∧ Bk A [] w0 [] [R (eInt .i64) p2 c2 (List.length r) r] w) := by
  obtain ⟨k, hk⟩ := limM_some hm
  exact (k_ref07_Subs_all k) hO hF hk

theorem c_ref07_Defeasible {A : List Nat} {w0 : World} {y0 : T_Base} {p1 : Option Addr} {c1 : Nat} {p2 : Option Addr} {c2 : Nat} {p3 : Option Addr} {c3 : Nat} {y1 : List T_Argument} {p4 : Option Addr} {c4 : Nat} {y2 : Int} {r : (List Int)} (hO : Own A w0 []) (hF : All [R e_Premise p1 c1 (List.length y0.1) y0.1, R e_Rule p2 c2 (List.length y0.2.1) y0.2.1, R e_Promotion p3 c3 (List.length y0.2.2) y0.2.2, R e_Argument p4 c4 (List.length y1) y1] (bl [] ++ A) w0) (hm : m_ref07_Defeasible y0 y1 y2 = some r) :
    Calls Tryz.prog 49 [.agg #[.slice p1 (List.length y0.1) c1, .slice p2 (List.length y0.2.1) c2, .slice p3 (List.length y0.2.2) c3], .slice p4 (List.length y1) c4, vi y2].toArray w0 (Ret fun v w => ∃ (p5 : Option Addr) (c5 : Nat), v = .slice p5 (List.length r) c5 ∧ Bk A [] w0 [] [R (eInt .i64) p5 c5 (List.length r) r] w) := by
  unfold m_ref07_Defeasible at hm
  refine ent Tryz.func49 rfl hO hF fun a h => ?_
  refine sr ?_
  refine sl (b_box h rfl fun b1 a w h e => ?_)
  refine pr 1 [] h fun a h => ?_
  refine oe ?_
  refine sp [(7, .slice none 0 0)] h fun a h => ?_
  refine wp_seq ?_
  refine sr ?_
  refine pr 2 [(11, vi y2), (10, .slice p4 (List.length y1) c4)] h fun a h => ?_
  obtain ⟨r1, h1, hm⟩ := bnd hm
  refine sl (b_call [] [] h Tryz.call23 rfl rfl (c_ref07_Subs (y0 := y1) (y1 := y2) (h.po [] []) ⟨(h.pf [] [] 3), trivial⟩ h1) fun v a w hp hc => ?_)
  obtain ⟨p5, c5, rfl, q⟩ := hp
  have h := hc.on q [bx b1 31 [.slice p1 (List.length y0.1) c1, .slice p2 (List.length y0.2.1) c2, .slice p3 (List.length y0.2.2) c3]]
  refine pr 2 [(14, vi 0), (13, vi (len r1))] h fun a h => ?_
  refine oe ?_
  refine wp_block ?_
  refine loop_m (B := (m_ref07_Defeasible_L1 r1 y1 y0)) (fun (s1 : (List Int) × Int) a w => ∃ (p6 : Option Addr) (c6 : Nat), SS A [] w0 46 [(1, .slice p4 (List.length y1) c4), (3, .pointer (some ⟨b1, 0, none⟩)), (7, .slice p6 (List.length s1.1) c6), (12, .slice p5 (List.length r1) c5), (13, vi (len r1)), (14, vi s1.2)] [bx b1 31 [.slice p1 (List.length y0.1) c1, .slice p2 (List.length y0.2.1) c2, .slice p3 (List.length y0.2.2) c3]] [R (eInt .i64) p6 c6 (List.length s1.1) s1.1, R e_Argument p4 c4 (List.length y1) y1, R (eInt .i64) p5 c5 (List.length r1) r1, R e_Premise p1 c1 (List.length y0.1) y0.1, R e_Rule p2 c2 (List.length y0.2.1) y0.2.1, R e_Promotion p3 c3 (List.length y0.2.2) y0.2.2] a w) hm ⟨none, 0, h.to 1 ⟨(rnil (eInt .i64) _ _ _ _), (h.g 4), (h.g 0), (h.g 1), (h.g 2), (h.g 3), trivial⟩⟩ ?_
  intro s1 a w o1 hJ hm hr1
  obtain ⟨p6, c6, h⟩ := hJ
  unfold m_ref07_Defeasible_L1 at hm
  refine sp [(15, vb (decide (s1.2 < (len r1))))] h fun a h => ?_
  refine wp_seq ?_
  refine cb h rfl (fun hb1 => ?_) (fun hb1 => ?_)
  · replace hm := ifT hb1 hm
    refine wp_skip ?_
    refine then_n ?_
    refine wp_seq ?_
    refine wp_block ?_
    refine sr ?_
    obtain ⟨x1, h2, hm⟩ := bnd hm
    refine sl (b_index_rd h (h.g 2) rfl rfl h2 fun b2 o2 a h => ?_)
    refine sl (b_load_pt false h (h.g 0) rfl fun ci1 hc1 v1 hv1 a h => ?_)
    replace hc1 : E.rd (eInt .i64) _ _ ci1 x1 := hc1
    obtain rfl := hc1
    obtain rfl := Option.some.inj hv1
    refine pr 1 [(9, vi x1)] h fun a h => ?_
    refine oe ?_
    obtain ⟨s2, hx, hm⟩ := bnd hm
    refine seq_j (fun a w => SS A [] w0 46 [(1, .slice p4 (List.length y1) c4), (3, .pointer (some ⟨b1, 0, none⟩)), (7, .slice p6 (List.length s1.1) c6), (9, vi x1), (12, .slice p5 (List.length r1) c5), (13, vi (len r1)), (14, vi s1.2), (36, vb s2)] [bx b1 31 [.slice p1 (List.length y0.1) c1, .slice p2 (List.length y0.2.1) c2, .slice p3 (List.length y0.2.2) c3]] [R e_Argument p4 c4 (List.length y1) y1, R (eInt .i64) p6 c6 (List.length s1.1) s1.1, R (eInt .i64) p5 c5 (List.length r1) r1, R e_Premise p1 c1 (List.length y0.1) y0.1, R e_Rule p2 c2 (List.length y0.2.1) y0.2.1, R e_Promotion p3 c3 (List.length y0.2.2) y0.2.2] a w) ?_ ?_
    · replace hm := hx
      refine ds' [] [0] h fun w h => ?_
      refine dp 0 (.slice p4 (List.length y1) c4) h rfl fun a h => ?_
      refine dp 1 (vi x1) h rfl fun a h => ?_
      obtain ⟨x2, h3, hm⟩ := bnd hm
      refine dir 2 h rfl (h.g 2) rfl rfl h3 fun b3 o3 a h => ?_
      refine dp 3 (.pointer (some ⟨b3, (o3 + 1), none⟩)) h rfl fun a h => ?_
      refine dlp 4 false h rfl (PtTo.fst (PtTo.snd (h.g 0))) rfl fun ci2 hc2 v2 hv2 a h => ?_
      replace hc2 : E.rd (eInt .i64) _ _ ci2 x2.2.1 := hc2
      obtain rfl := hc2
      obtain rfl := Option.some.inj hv2
      refine dp 5 (vb (decide (0 ≤ x2.2.1))) h rfl fun a h => ?_
      refine dp 6 (vb (decide (0 ≤ x2.2.1))) h rfl fun a h => ?_
      rcases Bool.eq_false_or_eq_true (decide (0 ≤ x2.2.1)) with hb2 | hb2
      · have h := h.upd (t := 24) (vb true) rfl (congrArg Value.bool hb2)
        replace hm := ifT hb2 hm
        refine dp 7 (.pointer (some ⟨b1, 1, none⟩)) h rfl fun a h => ?_
        refine dlo 8 0 (.slice p2 (List.length y0.2.1) c2) h rfl rfl rfl fun a h => ?_
        refine dp 9 (.slice p4 (List.length y1) c4) h rfl fun a h => ?_
        refine dp 10 (vi x1) h rfl fun a h => ?_
        obtain ⟨x3, h4, hm⟩ := bnd hm
        refine dir 11 h rfl (h.g 3) rfl rfl h4 fun b4 o4 a h => ?_
        refine dp 12 (.pointer (some ⟨b4, (o4 + 1), none⟩)) h rfl fun a h => ?_
        refine dlp 13 false h rfl (PtTo.fst (PtTo.snd (h.g 0))) rfl fun ci3 hc3 v3 hv3 a h => ?_
        replace hc3 : E.rd (eInt .i64) _ _ ci3 x3.2.1 := hc3
        obtain rfl := hc3
        obtain rfl := Option.some.inj hv3
        obtain ⟨x4, h5, hm⟩ := bnd hm
        refine dir 14 h rfl (h.g 7) rfl rfl h5 fun b5 o5 a h => ?_
        refine dp 15 (.pointer (some ⟨b5, (o5 + 1), none⟩)) h rfl fun a h => ?_
        refine dlp 16 false h rfl (PtTo.fst (PtTo.snd (h.g 0))) rfl fun ci4 hc4 v4 hv4 a h => ?_
        replace hc4 : E.rd eBool _ _ ci4 x4.2.1 := hc4
        obtain rfl := hc4
        obtain rfl := Option.some.inj hv4
        refine dp 17 (vb (!x4.2.1)) h rfl fun a h => ?_
        refine dp 18 (vb (!x4.2.1)) h rfl fun a h => ?_
        refine de ?_
        obtain rfl := Option.some.inj hm
        exact then_n (h.to 1 ⟨(h.g 5), (h.g 4), (h.g 6), (h.g 7), (h.g 8), (h.g 9), trivial⟩)
      · have h := h.upd (t := 24) (vb false) rfl (congrArg Value.bool hb2)
        replace hm := ifF hb2 hm
        refine dk 7 h rfl fun a h => ?_
        refine dk 8 h rfl fun a h => ?_
        refine dk 9 h rfl fun a h => ?_
        refine dk 10 h rfl fun a h => ?_
        refine dk 11 h rfl fun a h => ?_
        refine dk 12 h rfl fun a h => ?_
        refine dk 13 h rfl fun a h => ?_
        refine dk 14 h rfl fun a h => ?_
        refine dk 15 h rfl fun a h => ?_
        refine dk 16 h rfl fun a h => ?_
        refine dk 17 h rfl fun a h => ?_
        refine dp 18 (vb false) h rfl fun a h => ?_
        refine de ?_
        obtain rfl := Option.some.inj hm
        exact then_n (h.to 1 ⟨(h.g 3), (h.g 2), (h.g 4), (h.g 5), (h.g 6), (h.g 7), trivial⟩)
    intro a w hJ
    have h := hJ
    refine cb h rfl (fun hb3 => ?_) (fun hb3 => ?_)
    · replace hm := ifT hb3 hm
      refine reg ?_
      refine pr 3 [(39, vi x1), (38, .slice p4 (List.length y1) c4), (37, .slice p6 (List.length s1.1) c6)] h fun a h => ?_
      obtain ⟨x5, h6, hm⟩ := bnd hm
      refine sl (b_index_rd h (h.g 0) rfl rfl h6 fun b6 o6 a h => ?_)
      refine pr 1 [(41, .pointer (some ⟨b6, (o6 + 1), none⟩))] h fun a h => ?_
      refine sl (b_load_pt false h (PtTo.fst (PtTo.snd (h.g 0))) rfl fun ci5 hc5 v5 hv5 a h => ?_)
      replace hc5 : E.rd (eInt .i64) _ _ ci5 x5.2.1 := hc5
      obtain rfl := hc5
      obtain rfl := Option.some.inj hv5
      obtain ⟨r2, h7, hm⟩ := bnd hm
      refine sl (b_call [] [] h Tryz.call81 rfl rfl (c_ref07_insert (y0 := s1.1) (y1 := x5.2.1) (h.po [] []) ⟨(h.pf [] [] 2), trivial⟩ h7) fun v a w hp hc => ?_)
      obtain ⟨p7, c7, rfl, q⟩ := hp
      have h := hc.on q [bx b1 31 [.slice p1 (List.length y0.1) c1, .slice p2 (List.length y0.2.1) c2, .slice p3 (List.length y0.2.2) c3]]
      refine pr 1 [(7, .slice p7 (List.length r2) c7)] h fun a h => ?_
      refine ops_end ?_
      refine inb_n ?_
      refine then_n ?_
      refine reg ?_
      refine pr 2 [(14, vi (w64 (s1.2 + 1)))] h fun a h => ?_
      refine ops_end ?_
      obtain rfl := Option.some.inj hm
      exact lp_n rfl ⟨p7, c7, h.to 1 ⟨(h.g 0), (h.g 2), (h.g 4), (h.g 5), (h.g 6), (h.g 7), trivial⟩⟩
    replace hm := ifF hb3 hm
    refine wp_skip ?_
    refine inb_n ?_
    refine then_n ?_
    refine reg ?_
    refine pr 2 [(14, vi (w64 (s1.2 + 1)))] h fun a h => ?_
    refine ops_end ?_
    obtain rfl := Option.some.inj hm
    exact lp_n rfl ⟨p6, c6, h.to 1 ⟨(h.g 1), (h.g 0), (h.g 2), (h.g 3), (h.g 4), (h.g 5), trivial⟩⟩
  replace hm := ifF hb1 hm
  refine wp_exit ?_
  refine then_e (lp_e (inb_hit ?_))
  replace hm := loopR hr1 hm
  refine then_n ?_
  refine sp [(6, .slice p6 (List.length s1.1) c6)] h fun a h => ?_
  refine wp_ret ?_
  obtain rfl := Option.some.inj hm
  exact rt1 h rfl rfl ⟨p6, c6, rfl, bk_sel h [] ⟨(h.g 0), trivial⟩⟩

theorem k_ref07_Run_all (k : Nat) :
    (∀ {A : List Nat} {w0 : World} {y0 : T_Base} {p1 : Option Addr} {c1 : Nat} {p2 : Option Addr} {c2 : Nat} {p3 : Option Addr} {c3 : Nat} {y1 : List T_Argument} {p4 : Option Addr} {c4 : Nat} {y2 : Int} {r : (List T_Literal)} (_hO : Own A w0 []) (_hF : All [R e_Premise p1 c1 (List.length y0.1) y0.1, R e_Rule p2 c2 (List.length y0.2.1) y0.2.1, R e_Promotion p3 c3 (List.length y0.2.2) y0.2.2, R e_Argument p4 c4 (List.length y1) y1] (bl [] ++ A) w0) (_hm : k_ref07_Run k y0 y1 y2 = some r),
    Calls Tryz.prog 89 [.agg #[.slice p1 (List.length y0.1) c1, .slice p2 (List.length y0.2.1) c2, .slice p3 (List.length y0.2.2) c3], .slice p4 (List.length y1) c4, vi y2].toArray w0 (Ret fun v w => ∃ (p5 : Option Addr) (c5 : Nat), v = .slice p5 (List.length r) c5 ∧ Bk A [] w0 [] [R e_Literal p5 c5 (List.length r) r] w)) := by
  induction k with
  | zero => intros; rename_i hm; cases hm
  | succ k ih =>
    have ih_ref07_Run := @ih
    generalize hr_ref07_Run : k_ref07_Run k = rec_ref07_Run at ih_ref07_Run
    intro A w0 y0 p1 c1 p2 c2 p3 c3 y1 p4 c4 y2 r hO hF hm
    replace hm : F_ref07_Run rec_ref07_Run y0 y1 y2 = some r := by rw [← hr_ref07_Run]; exact hm
    unfold F_ref07_Run at hm
    refine ent Tryz.func89 rfl hO hF fun a h => ?_
    refine sr ?_
    refine sl (b_box h rfl fun b1 a w h e => ?_)
    refine pr 1 [] h fun a h => ?_
    refine oe ?_
    refine sr ?_
    refine pr 2 [(10, vi y2), (9, .slice p4 (List.length y1) c4)] h fun a h => ?_
    obtain ⟨x1, h1, hm⟩ := bnd hm
    refine sl (b_index_rd h (h.g 3) rfl rfl h1 fun b2 o1 a h => ?_)
    refine pr 1 [(12, .pointer (some ⟨b2, (o1 + 3), none⟩))] h fun a h => ?_
    refine sl (b_load_pt true h (PtTo.snd (PtTo.snd (PtTo.snd (h.g 0)))) rfl fun ci1 hc1 v1 hv1 a h => ?_)
    replace hc1 : E.rd e_Literal _ _ ci1 x1.2.2.2 := hc1
    obtain ⟨_, _, rfl, rfl, rfl⟩ := hc1
    obtain rfl := Option.some.inj hv1
    have h := h.upd (t := 13) (.agg #[vb x1.2.2.2.1, vs x1.2.2.2.2]) rfl rfl
    refine sl (b_bs_own (te := 61) (e := e_Literal) [vb x1.2.2.2.1, vs x1.2.2.2.2] ([x1.2.2.2] : List T_Literal) h ⟨_, _, rfl, eProd.mk eBool.mk eStr.mk, rfl⟩ fun r_1 p5 c5 a w h e => ?_)
    refine pr 1 [(7, .slice p5 (List.length ([x1.2.2.2] : List T_Literal)) c5)] h fun a h => ?_
    refine oe ?_
    refine wp_seq ?_
    obtain ⟨s1, hx, hm⟩ := bnd hm
    refine seq_j (fun a w => SS A [] w0 57 [(1, .slice p4 (List.length y1) c4), (2, vi y2), (3, .pointer (some ⟨b1, 0, none⟩)), (7, .slice p5 (List.length ([x1.2.2.2] : List T_Literal)) c5), (32, vb s1)] [bx b1 31 [.slice p1 (List.length y0.1) c1, .slice p2 (List.length y0.2.1) c2, .slice p3 (List.length y0.2.2) c3], r_1] [R e_Argument p4 c4 (List.length y1) y1, Ar e_Literal 61 r_1 p5 c5 (List.length ([x1.2.2.2] : List T_Literal)) ([x1.2.2.2] : List T_Literal), R e_Premise p1 c1 (List.length y0.1) y0.1, R e_Rule p2 c2 (List.length y0.2.1) y0.2.1, R e_Promotion p3 c3 (List.length y0.2.2) y0.2.2] a w) ?_ ?_
    · replace hm := hx
      refine ds' [] [0] h fun w h => ?_
      refine dp 0 (.slice p4 (List.length y1) c4) h rfl fun a h => ?_
      refine dp 1 (vi y2) h rfl fun a h => ?_
      obtain ⟨x2, h2, hm⟩ := bnd hm
      refine dir 2 h rfl (h.g 5) rfl rfl h2 fun b3 o2 a h => ?_
      refine dp 3 (.pointer (some ⟨b3, (o2 + 1), none⟩)) h rfl fun a h => ?_
      refine dlp 4 false h rfl (PtTo.fst (PtTo.snd (h.g 0))) rfl fun ci2 hc2 v2 hv2 a h => ?_
      replace hc2 : E.rd (eInt .i64) _ _ ci2 x2.2.1 := hc2
      obtain rfl := hc2
      obtain rfl := Option.some.inj hv2
      refine dp 5 (vb (decide (0 ≤ x2.2.1))) h rfl fun a h => ?_
      refine dp 6 (vb (decide (0 ≤ x2.2.1))) h rfl fun a h => ?_
      rcases Bool.eq_false_or_eq_true (decide (0 ≤ x2.2.1)) with hb1 | hb1
      · have h := h.upd (t := 21) (vb true) rfl (congrArg Value.bool hb1)
        replace hm := ifT hb1 hm
        refine dp 7 (.pointer (some ⟨b1, 1, none⟩)) h rfl fun a h => ?_
        refine dlo 8 0 (.slice p2 (List.length y0.2.1) c2) h rfl rfl rfl fun a h => ?_
        refine dp 9 (.slice p4 (List.length y1) c4) h rfl fun a h => ?_
        refine dp 10 (vi y2) h rfl fun a h => ?_
        obtain ⟨x3, h3, hm⟩ := bnd hm
        refine dir 11 h rfl (h.g 6) rfl rfl h3 fun b4 o3 a h => ?_
        refine dp 12 (.pointer (some ⟨b4, (o3 + 1), none⟩)) h rfl fun a h => ?_
        refine dlp 13 false h rfl (PtTo.fst (PtTo.snd (h.g 0))) rfl fun ci3 hc3 v3 hv3 a h => ?_
        replace hc3 : E.rd (eInt .i64) _ _ ci3 x3.2.1 := hc3
        obtain rfl := hc3
        obtain rfl := Option.some.inj hv3
        obtain ⟨x4, h4, hm⟩ := bnd hm
        refine dir 14 h rfl (h.g 5) rfl rfl h4 fun b5 o4 a h => ?_
        refine dp 15 (.pointer (some ⟨b5, (o4 + 1), none⟩)) h rfl fun a h => ?_
        refine dlp 16 false h rfl (PtTo.fst (PtTo.snd (h.g 0))) rfl fun ci4 hc4 v4 hv4 a h => ?_
        replace hc4 : E.rd eBool _ _ ci4 x4.2.1 := hc4
        obtain rfl := hc4
        obtain rfl := Option.some.inj hv4
        refine dp 17 (vb x4.2.1) h rfl fun a h => ?_
        refine de ?_
        obtain rfl := Option.some.inj hm
        exact then_n (h.to 2 ⟨(h.g 8), (h.g 3), (h.g 5), (h.g 6), (h.g 7), trivial⟩)
      · have h := h.upd (t := 21) (vb false) rfl (congrArg Value.bool hb1)
        replace hm := ifF hb1 hm
        refine dk 7 h rfl fun a h => ?_
        refine dk 8 h rfl fun a h => ?_
        refine dk 9 h rfl fun a h => ?_
        refine dk 10 h rfl fun a h => ?_
        refine dk 11 h rfl fun a h => ?_
        refine dk 12 h rfl fun a h => ?_
        refine dk 13 h rfl fun a h => ?_
        refine dk 14 h rfl fun a h => ?_
        refine dk 15 h rfl fun a h => ?_
        refine dk 16 h rfl fun a h => ?_
        refine dp 17 (vb false) h rfl fun a h => ?_
        refine de ?_
        obtain rfl := Option.some.inj hm
        exact then_n (h.to 2 ⟨(h.g 6), (h.g 1), (h.g 3), (h.g 4), (h.g 5), trivial⟩)
    intro a w hJ
    have h := hJ
    refine cb h rfl (fun hb2 => ?_) (fun hb2 => ?_)
    · replace hm := ifT hb2 hm
      refine sp [(8, vi 0)] h fun a h => ?_
      refine wp_block ?_
      refine loop_m (B := (m_ref07_Run_L1 y1 y2 rec_ref07_Run y0)) (fun (s2 : (List T_Literal) × Int) a w => ∃ (p6 : Option Addr) (c6 : Nat) (r_2 : Res), SS A [] w0 57 [(1, .slice p4 (List.length y1) c4), (2, vi y2), (3, .pointer (some ⟨b1, 0, none⟩)), (7, .slice p6 (List.length s2.1) c6), (8, vi s2.2)] [bx b1 31 [.slice p1 (List.length y0.1) c1, .slice p2 (List.length y0.2.1) c2, .slice p3 (List.length y0.2.2) c3], r_2] [Ar e_Literal 61 r_2 p6 c6 (List.length s2.1) s2.1, R e_Argument p4 c4 (List.length y1) y1, R e_Premise p1 c1 (List.length y0.1) y0.1, R e_Rule p2 c2 (List.length y0.2.1) y0.2.1, R e_Promotion p3 c3 (List.length y0.2.2) y0.2.2] a w) hm ⟨p5, c5, r_1, h.to 2 ⟨(h.g 1), (h.g 0), (h.g 2), (h.g 3), (h.g 4), trivial⟩⟩ ?_
      intro s2 a w o5 hJ hm hr1
      obtain ⟨p6, c6, r_2, h⟩ := hJ
      unfold m_ref07_Run_L1 at hm
      refine wp_seq ?_
      refine sr ?_
      refine pr 3 [(35, vi y2), (34, .slice p4 (List.length y1) c4), (33, vi s2.2)] h fun a h => ?_
      obtain ⟨x5, h5, hm⟩ := bnd hm
      refine sl (b_index_rd h (h.g 1) rfl rfl h5 fun b6 o6 a h => ?_)
      refine pr 1 [(37, .pointer (some ⟨b6, (o6 + 2), none⟩))] h fun a h => ?_
      refine sl (b_load_pt false h (PtTo.fst (PtTo.snd (PtTo.snd (h.g 0)))) rfl fun ci5 hc5 v5 hv5 a h => ?_)
      replace hc5 : E.rd (eSlice (eInt .i64)) _ _ ci5 x5.2.2.1 := hc5
      obtain ⟨p7, c7, rfl, f1⟩ := hc5
      obtain rfl := Option.some.inj hv5
      have h := h.upd (t := 38) (.slice p7 (List.length x5.2.2.1) c7) rfl rfl
      have h := h.add (R.of f1)
      refine pr 2 [(40, vb (decide (s2.2 < (len x5.2.2.1))))] h fun a h => ?_
      refine oe ?_
      refine cb h rfl (fun hb3 => ?_) (fun hb3 => ?_)
      · replace hm := ifT hb3 hm
        refine wp_skip ?_
        refine then_n ?_
        refine wp_seq ?_
        refine wp_block ?_
        refine ds' [] [0] h fun w h => ?_
        refine dp 0 (.slice p6 (List.length s2.1) c6) h rfl fun a h => ?_
        refine dlo 1 0 (.agg #[.slice p1 (List.length y0.1) c1, .slice p2 (List.length y0.2.1) c2, .slice p3 (List.length y0.2.2) c3]) h rfl rfl rfl fun a h => ?_
        refine dp 2 (.slice p4 (List.length y1) c4) h rfl fun a h => ?_
        refine dp 3 (.slice p4 (List.length y1) c4) h rfl fun a h => ?_
        refine dp 4 (vi y2) h rfl fun a h => ?_
        obtain ⟨x6, h6, hm⟩ := bnd hm
        refine dir 5 h rfl (h.g 3) rfl rfl h6 fun b7 o7 a h => ?_
        refine dp 6 (.pointer (some ⟨b7, (o7 + 2), none⟩)) h rfl fun a h => ?_
        refine dlp 7 false h rfl (PtTo.fst (PtTo.snd (PtTo.snd (h.g 0)))) rfl fun ci6 hc6 v6 hv6 a h => ?_
        replace hc6 : E.rd (eSlice (eInt .i64)) _ _ ci6 x6.2.2.1 := hc6
        obtain ⟨p8, c8, rfl, f2⟩ := hc6
        obtain rfl := Option.some.inj hv6
        have h := h.upd (t := 50) (.slice p8 (List.length x6.2.2.1) c8) rfl rfl
        have h := h.add (R.of f2)
        refine dp 8 (vi s2.2) h rfl fun a h => ?_
        obtain ⟨x7, h7, hm⟩ := bnd hm
        refine dir 9 h rfl (h.g 0) rfl rfl h7 fun b8 o8 a h => ?_
        refine dlp 10 false h rfl (h.g 0) rfl fun ci7 hc7 v7 hv7 a h => ?_
        replace hc7 : E.rd (eInt .i64) _ _ ci7 x7 := hc7
        obtain rfl := hc7
        obtain rfl := Option.some.inj hv7
        refine d1 11 rfl ?_
        obtain ⟨r1, h8, hm⟩ := bnd hm
        refine b_call [] [] h Tryz.call89 rfl rfl (ih_ref07_Run (y0 := y0) (y1 := y1) (y2 := x7) (h.po [] []) ⟨(h.pf [] [] 7), (h.pf [] [] 8), (h.pf [] [] 9), (h.pf [] [] 6), trivial⟩ h8) fun v a w hp hc => ?_
        obtain ⟨p9, c9, rfl, q⟩ := hp
        have e := hc.st q [bx b1 31 [.slice p1 (List.length y0.1) c1, .slice p2 (List.length y0.2.1) c2, .slice p3 (List.length y0.2.2) c3], r_2]
        have h := hc.on q [bx b1 31 [.slice p1 (List.length y0.1) c1, .slice p2 (List.length y0.2.1) c2, .slice p3 (List.length y0.2.2) c3], r_2]
        refine dn h e ?_
        refine d1 12 rfl ?_
        obtain ⟨x8, h9, hm⟩ := bnd hm
        refine b_append_r (te := 61) 1 h (h.g 6) (h.g 0) rfl rfl h9 fun r_3 p10 c10 a w h e => ?_
        refine dn h e ?_
        refine dp 13 (.slice p10 (List.length x8) c10) h rfl fun a h => ?_
        refine de ?_
        refine inb_n ?_
        refine then_n ?_
        refine reg ?_
        refine pr 3 [(8, vi (w64 (s2.2 + 1)))] h fun a h => ?_
        refine ops_end ?_
        obtain rfl := Option.some.inj hm
        exact lp_n rfl ⟨p10, c10, r_3, h.to 2 ⟨(h.g 0), (h.g 8), (h.g 9), (h.g 10), (h.g 11), trivial⟩⟩
      replace hm := ifF hb3 hm
      refine wp_exit ?_
      refine then_e (lp_e (inb_hit ?_))
      replace hm := loopR hr1 hm
      refine then_n ?_
      refine sp [(6, .slice p6 (List.length s2.1) c6)] h fun a h => ?_
      refine wp_ret ?_
      obtain rfl := Option.some.inj hm
      have h := h.share 1 (h.g 2)
      exact rt1 h rfl rfl ⟨p6, c6, rfl, bk_sel h [] ⟨(h.g 0), trivial⟩⟩
    replace hm := ifF hb2 hm
    refine wp_skip ?_
    refine then_n ?_
    refine sp [(6, .slice p5 (List.length ([x1.2.2.2] : List T_Literal)) c5)] h fun a h => ?_
    refine wp_ret ?_
    obtain rfl := Option.some.inj hm
    have h := h.share 1 (h.g 1)
    exact rt1 h rfl rfl ⟨p5, c5, rfl, bk_sel h [] ⟨(h.g 0), trivial⟩⟩

theorem c_ref07_Run {A : List Nat} {w0 : World} {y0 : T_Base} {p1 : Option Addr} {c1 : Nat} {p2 : Option Addr} {c2 : Nat} {p3 : Option Addr} {c3 : Nat} {y1 : List T_Argument} {p4 : Option Addr} {c4 : Nat} {y2 : Int} {r : (List T_Literal)} (hO : Own A w0 []) (hF : All [R e_Premise p1 c1 (List.length y0.1) y0.1, R e_Rule p2 c2 (List.length y0.2.1) y0.2.1, R e_Promotion p3 c3 (List.length y0.2.2) y0.2.2, R e_Argument p4 c4 (List.length y1) y1] (bl [] ++ A) w0) (hm : m_ref07_Run y0 y1 y2 = some r) :
    Calls Tryz.prog 89 [.agg #[.slice p1 (List.length y0.1) c1, .slice p2 (List.length y0.2.1) c2, .slice p3 (List.length y0.2.2) c3], .slice p4 (List.length y1) c4, vi y2].toArray w0 (Ret fun v w => ∃ (p5 : Option Addr) (c5 : Nat), v = .slice p5 (List.length r) c5 ∧ Bk A [] w0 [] [R e_Literal p5 c5 (List.length r) r] w) := by
  obtain ⟨k, hk⟩ := limM_some hm
  exact (k_ref07_Run_all k) hO hF hk

theorem c_ref07_in {A : List Nat} {w0 : World} {y0 : List Int} {p1 : Option Addr} {c1 : Nat} {y1 : Int} {r : Bool} (hO : Own A w0 []) (hF : All [R (eInt .i64) p1 c1 (List.length y0) y0] (bl [] ++ A) w0) (hm : m_ref07_in y0 y1 = some r) :
    Calls Tryz.prog 90 [.slice p1 (List.length y0) c1, vi y1].toArray w0 (Ret fun v w => v = vb r ∧ Bk A [] w0 [] [] w) := by
  unfold m_ref07_in at hm
  refine ent Tryz.func90 rfl hO hF fun a h => ?_
  refine sp [] h fun a h => ?_
  refine wp_seq ?_
  refine sp [(5, vi 0)] h fun a h => ?_
  refine wp_block ?_
  refine loop_m (B := (m_ref07_in_L1 y0 y1)) (fun (s1 : Int) a w => SS A [] w0 18 [(0, .slice p1 (List.length y0) c1), (1, vi y1), (5, vi s1)] [] [R (eInt .i64) p1 c1 (List.length y0) y0] a w) hm (h.to 0 ⟨(h.g 0), trivial⟩) ?_
  intro s1 a w o1 hJ hm hr1
  have h := hJ
  unfold m_ref07_in_L1 at hm
  refine wp_seq ?_
  refine sp [(9, vb (decide (s1 < (len y0))))] h fun a h => ?_
  refine cb h rfl (fun hb1 => ?_) (fun hb1 => ?_)
  · replace hm := ifT hb1 hm
    refine wp_skip ?_
    refine then_n ?_
    refine wp_seq ?_
    refine wp_block ?_
    refine sr ?_
    refine pr 2 [(13, vi s1), (12, .slice p1 (List.length y0) c1)] h fun a h => ?_
    obtain ⟨x1, h1, hm⟩ := bnd hm
    refine sl (b_index_rd h (h.g 0) rfl rfl h1 fun b1 o2 a h => ?_)
    refine sl (b_load_pt false h (h.g 0) rfl fun ci1 hc1 v1 hv1 a h => ?_)
    replace hc1 : E.rd (eInt .i64) _ _ ci1 x1 := hc1
    obtain rfl := hc1
    obtain rfl := Option.some.inj hv1
    refine pr 2 [(17, vb (x1 == y1))] h fun a h => ?_
    refine oe ?_
    refine cb h rfl (fun hb2 => ?_) (fun hb2 => ?_)
    · replace hm := ifT hb2 hm
      refine sp [(4, vb true)] h fun a h => ?_
      refine wp_ret ?_
      refine inb_r (then_r (lp_r (inb_r (then_r ?_))))
      replace hm := loopR hr1 hm
      obtain rfl := Option.some.inj hm
      exact rt1 h rfl rfl ⟨rfl, bk_sel h [] trivial⟩
    replace hm := ifF hb2 hm
    refine wp_skip ?_
    refine inb_n ?_
    refine then_n ?_
    refine reg ?_
    refine pr 3 [(5, vi (w64 (s1 + 1)))] h fun a h => ?_
    refine ops_end ?_
    obtain rfl := Option.some.inj hm
    exact lp_n rfl (h.to 0 ⟨(h.g 1), trivial⟩)
  replace hm := ifF hb1 hm
  refine wp_exit ?_
  refine then_e (lp_e (inb_hit ?_))
  replace hm := loopR hr1 hm
  refine then_n ?_
  refine sp [(4, vb false)] h fun a h => ?_
  refine wp_ret ?_
  obtain rfl := Option.some.inj hm
  exact rt1 h rfl rfl ⟨rfl, bk_sel h [] trivial⟩

theorem c_ref07_Within {A : List Nat} {w0 : World} {y0 : T_Base} {p1 : Option Addr} {c1 : Nat} {p2 : Option Addr} {c2 : Nat} {p3 : Option Addr} {c3 : Nat} {y1 : List T_Argument} {p4 : Option Addr} {c4 : Nat} {y2 : Int} {y3 : List Int} {p5 : Option Addr} {c5 : Nat} {r : Bool} (hO : Own A w0 []) (hF : All [R e_Premise p1 c1 (List.length y0.1) y0.1, R e_Rule p2 c2 (List.length y0.2.1) y0.2.1, R e_Promotion p3 c3 (List.length y0.2.2) y0.2.2, R e_Argument p4 c4 (List.length y1) y1, R (eInt .i64) p5 c5 (List.length y3) y3] (bl [] ++ A) w0) (hm : m_ref07_Within y0 y1 y2 y3 = some r) :
    Calls Tryz.prog 58 [.agg #[.slice p1 (List.length y0.1) c1, .slice p2 (List.length y0.2.1) c2, .slice p3 (List.length y0.2.2) c3], .slice p4 (List.length y1) c4, vi y2, .slice p5 (List.length y3) c5].toArray w0 (Ret fun v w => v = vb r ∧ Bk A [] w0 [] [] w) := by
  unfold m_ref07_Within at hm
  refine ent Tryz.func58 rfl hO hF fun a h => ?_
  refine sr ?_
  refine sl (b_box h rfl fun b1 a w h e => ?_)
  refine pr 1 [] h fun a h => ?_
  refine oe ?_
  refine sr ?_
  refine pr 1 [(11, .pointer (some ⟨b1, 1, none⟩))] h fun a h => ?_
  refine sl (b_load_own 0 (.slice p2 (List.length y0.2.1) c2) h rfl rfl fun a h => ?_)
  refine pr 1 [(13, vi y2)] h fun a h => ?_
  obtain ⟨x1, h1, hm⟩ := bnd hm
  refine sl (b_index_rd h (h.g 1) rfl rfl h1 fun b2 o1 a h => ?_)
  refine sl (b_load_pt true h (h.g 0) rfl fun ci1 hc1 v1 hv1 a h => ?_)
  replace hc1 : E.rd e_Rule _ _ ci1 x1 := hc1
  obtain ⟨_, _, rfl, rfl, ⟨_, _, rfl, rfl, ⟨_, _, rfl, rfl, ⟨_, _, rfl, ⟨p6, c6, rfl, f1⟩, ⟨_, _, rfl, rfl, rfl⟩⟩⟩⟩⟩ := hc1
  obtain rfl := Option.some.inj hv1
  have h := h.upd (t := 15) (.agg #[vs x1.1, vb x1.2.1, vi x1.2.2.1, .slice p6 (List.length x1.2.2.2.1) c6, vb x1.2.2.2.2.1, vs x1.2.2.2.2.2]) rfl rfl
  have h := h.add (R.of f1)
  refine sl (b_alloc h rfl fun b3 a w h e => ?_)
  refine sl (b_store_own 1 h rfl rfl rfl fun a w h e => ?_)
  refine oe ?_
  refine wp_seq ?_
  refine sp [(10, vi 0)] h fun a h => ?_
  refine wp_block ?_
  refine loop_m (B := (m_ref07_Within_L1 y3 x1 y0 y1 y2)) (fun (s1 : Int) a w => SS A [] w0 52 [(1, .slice p4 (List.length y1) c4), (2, vi y2), (3, .slice p5 (List.length y3) c5), (4, .pointer (some ⟨b1, 0, none⟩)), (9, .pointer (some ⟨b3, 0, none⟩)), (10, vi s1)] [bx b1 31 [.slice p1 (List.length y0.1) c1, .slice p2 (List.length y0.2.1) c2, .slice p3 (List.length y0.2.2) c3], bx b3 66 [vs x1.1, vb x1.2.1, vi x1.2.2.1, .slice p6 (List.length x1.2.2.2.1) c6, vb x1.2.2.2.2.1, vs x1.2.2.2.2.2]] [R e_Argument p4 c4 (List.length y1) y1, R (eInt .i64) p5 c5 (List.length y3) y3, R e_Premise p1 c1 (List.length y0.1) y0.1, R e_Rule p2 c2 (List.length y0.2.1) y0.2.1, R e_Promotion p3 c3 (List.length y0.2.2) y0.2.2, R e_Literal p6 c6 (List.length x1.2.2.2.1) x1.2.2.2.1] a w) hm (h.to 2 ⟨(h.g 5), (h.g 6), (h.g 2), (h.g 3), (h.g 4), (h.g 0), trivial⟩) ?_
  intro s1 a w o2 hJ hm hr1
  have h := hJ
  unfold m_ref07_Within_L1 at hm
  refine wp_seq ?_
  refine sp [(19, vb (decide (s1 < (len y3))))] h fun a h => ?_
  refine cb h rfl (fun hb1 => ?_) (fun hb1 => ?_)
  · replace hm := ifT hb1 hm
    refine wp_skip ?_
    refine then_n ?_
    refine wp_seq ?_
    refine wp_block ?_
    obtain ⟨s2, hx, hm⟩ := bnd hm
    refine seq_j (fun a w => SS A [] w0 52 [(1, .slice p4 (List.length y1) c4), (2, vi y2), (3, .slice p5 (List.length y3) c5), (4, .pointer (some ⟨b1, 0, none⟩)), (9, .pointer (some ⟨b3, 0, none⟩)), (10, vi s1), (51, vb s2)] [bx b1 31 [.slice p1 (List.length y0.1) c1, .slice p2 (List.length y0.2.1) c2, .slice p3 (List.length y0.2.2) c3], bx b3 66 [vs x1.1, vb x1.2.1, vi x1.2.2.1, .slice p6 (List.length x1.2.2.2.1) c6, vb x1.2.2.2.2.1, vs x1.2.2.2.2.2]] [R e_Argument p4 c4 (List.length y1) y1, R (eInt .i64) p5 c5 (List.length y3) y3, R e_Premise p1 c1 (List.length y0.1) y0.1, R e_Rule p2 c2 (List.length y0.2.1) y0.2.1, R e_Promotion p3 c3 (List.length y0.2.2) y0.2.2, R e_Literal p6 c6 (List.length x1.2.2.2.1) x1.2.2.2.1] a w) ?_ ?_
    · replace hm := hx
      refine ds' [] [0, 1] h fun w h => ?_
      refine dp 0 (.pointer (some ⟨b3, 1, none⟩)) h rfl fun a h => ?_
      refine dlo 1 1 (vb x1.2.1) h rfl rfl rfl fun a h => ?_
      refine dp 2 (vb x1.2.1) h rfl fun a h => ?_
      rcases Bool.eq_false_or_eq_true x1.2.1 with hb2 | hb2
      · have h := h.upd (t := 24) (vb true) rfl (congrArg Value.bool hb2)
        replace hm := ifT hb2 hm
        refine dlo 3 0 (.agg #[.slice p1 (List.length y0.1) c1, .slice p2 (List.length y0.2.1) c2, .slice p3 (List.length y0.2.2) c3]) h rfl rfl rfl fun a h => ?_
        refine dp 4 (.slice p4 (List.length y1) c4) h rfl fun a h => ?_
        refine dp 5 (.slice p5 (List.length y3) c5) h rfl fun a h => ?_
        refine dp 6 (vi s1) h rfl fun a h => ?_
        obtain ⟨x2, h2, hm⟩ := bnd hm
        refine dir 7 h rfl (h.g 1) rfl rfl h2 fun b4 o3 a h => ?_
        refine dlp 8 false h rfl (h.g 0) rfl fun ci2 hc2 v2 hv2 a h => ?_
        replace hc2 : E.rd (eInt .i64) _ _ ci2 x2 := hc2
        obtain rfl := hc2
        obtain rfl := Option.some.inj hv2
        refine dp 10 (.pointer (some ⟨b3, 4, none⟩)) h rfl fun a h => ?_
        refine dlo 11 1 (.agg #[vb x1.2.2.2.2.1, vs x1.2.2.2.2.2]) h rfl rfl rfl fun a h => ?_
        refine d1 9 rfl ?_
        obtain ⟨r1, h3, hm⟩ := bnd hm
        refine b_call [] [] h Tryz.call89 rfl rfl (c_ref07_Run (y0 := y0) (y1 := y1) (y2 := x2) (h.po [] []) ⟨(h.pf [] [] 3), (h.pf [] [] 4), (h.pf [] [] 5), (h.pf [] [] 1), trivial⟩ h3) fun v a w hp hc => ?_
        obtain ⟨p7, c7, rfl, q⟩ := hp
        have e := hc.st q [bx b1 31 [.slice p1 (List.length y0.1) c1, .slice p2 (List.length y0.2.1) c2, .slice p3 (List.length y0.2.2) c3], bx b3 66 [vs x1.1, vb x1.2.1, vi x1.2.2.1, .slice p6 (List.length x1.2.2.2.1) c6, vb x1.2.2.2.2.1, vs x1.2.2.2.2.2]]
        have h := hc.on q [bx b1 31 [.slice p1 (List.length y0.1) c1, .slice p2 (List.length y0.2.1) c2, .slice p3 (List.length y0.2.2) c3], bx b3 66 [vs x1.1, vb x1.2.1, vi x1.2.2.1, .slice p6 (List.length x1.2.2.2.1) c6, vb x1.2.2.2.2.1, vs x1.2.2.2.2.2]]
        refine dn h e ?_
        refine d1 12 rfl ?_
        obtain ⟨r2, h4, hm⟩ := bnd hm
        refine b_call [] [] h Tryz.call88 rfl rfl (c_ref01_Has (y0 := r1) (y1 := x1.2.2.2.2) (h.po [] []) ⟨(h.pf [] [] 0), trivial⟩ h4) fun v a w hp hc => ?_
        obtain ⟨rfl, q⟩ := hp
        have e := hc.st q [bx b1 31 [.slice p1 (List.length y0.1) c1, .slice p2 (List.length y0.2.1) c2, .slice p3 (List.length y0.2.2) c3], bx b3 66 [vs x1.1, vb x1.2.1, vi x1.2.2.1, .slice p6 (List.length x1.2.2.2.1) c6, vb x1.2.2.2.2.1, vs x1.2.2.2.2.2]]
        have h := hc.on q [bx b1 31 [.slice p1 (List.length y0.1) c1, .slice p2 (List.length y0.2.1) c2, .slice p3 (List.length y0.2.2) c3], bx b3 66 [vs x1.1, vb x1.2.1, vi x1.2.2.1, .slice p6 (List.length x1.2.2.2.1) c6, vb x1.2.2.2.2.1, vs x1.2.2.2.2.2]]
        refine dn h e ?_
        refine dp 13 (vb r2) h rfl fun a h => ?_
        refine dp 14 (vb r2) h rfl fun a h => ?_
        rcases Bool.eq_false_or_eq_true r2 with hb3 | hb3
        · have h := h.upd (t := 36) (vb true) rfl (congrArg Value.bool hb3)
          replace hm := ifT hb3 hm
          refine dk 15 h rfl fun a h => ?_
          refine dk 16 h rfl fun a h => ?_
          refine dk 17 h rfl fun a h => ?_
          refine dk 18 h rfl fun a h => ?_
          refine dk 19 h rfl fun a h => ?_
          refine dk 20 h rfl fun a h => ?_
          refine dk 21 h rfl fun a h => ?_
          refine dk 22 h rfl fun a h => ?_
          refine dk 23 h rfl fun a h => ?_
          refine dk 24 h rfl fun a h => ?_
          refine dk 25 h rfl fun a h => ?_
          refine dk 26 h rfl fun a h => ?_
          refine dk 27 h rfl fun a h => ?_
          refine dk 28 h rfl fun a h => ?_
          refine dp 29 (vb true) h rfl fun a h => ?_
          refine de ?_
          obtain rfl := Option.some.inj hm
          exact then_n (h.to 2 ⟨(h.g 2), (h.g 3), (h.g 4), (h.g 5), (h.g 6), (h.g 7), trivial⟩)
        · have h := h.upd (t := 36) (vb false) rfl (congrArg Value.bool hb3)
          replace hm := ifF hb3 hm
          refine dp 15 (.pointer (some ⟨b3, 1, none⟩)) h rfl fun a h => ?_
          refine dlo 16 1 (vb x1.2.1) h rfl rfl rfl fun a h => ?_
          refine dp 17 (vb (!x1.2.1)) h rfl fun a h => ?_
          refine dp 18 (vb (!x1.2.1)) h rfl fun a h => ?_
          rcases Bool.eq_false_or_eq_true (!x1.2.1) with hb4 | hb4
          · have h := h.upd (t := 40) (vb true) rfl (congrArg Value.bool hb4)
            replace hm := ifT hb4 hm
            refine dlo 19 0 (.agg #[.slice p1 (List.length y0.1) c1, .slice p2 (List.length y0.2.1) c2, .slice p3 (List.length y0.2.2) c3]) h rfl rfl rfl fun a h => ?_
            refine dp 20 (.slice p4 (List.length y1) c4) h rfl fun a h => ?_
            refine dp 21 (.slice p5 (List.length y3) c5) h rfl fun a h => ?_
            refine dp 22 (vi s1) h rfl fun a h => ?_
            obtain ⟨x3, h5, hm⟩ := bnd hm
            refine dir 23 h rfl (h.g 3) rfl rfl h5 fun b5 o4 a h => ?_
            refine dlp 24 false h rfl (h.g 0) rfl fun ci3 hc3 v3 hv3 a h => ?_
            replace hc3 : E.rd (eInt .i64) _ _ ci3 x3 := hc3
            obtain rfl := hc3
            obtain rfl := Option.some.inj hv3
            refine dp 26 (vi y2) h rfl fun a h => ?_
            refine d1 25 rfl ?_
            obtain ⟨r3, h6, hm⟩ := bnd hm
            refine b_call [] [] h Tryz.call49 rfl rfl (c_ref07_Defeasible (y0 := y0) (y1 := y1) (y2 := x3) (h.po [] []) ⟨(h.pf [] [] 5), (h.pf [] [] 6), (h.pf [] [] 7), (h.pf [] [] 3), trivial⟩ h6) fun v a w hp hc => ?_
            obtain ⟨p8, c8, rfl, q⟩ := hp
            have e := hc.st q [bx b1 31 [.slice p1 (List.length y0.1) c1, .slice p2 (List.length y0.2.1) c2, .slice p3 (List.length y0.2.2) c3], bx b3 66 [vs x1.1, vb x1.2.1, vi x1.2.2.1, .slice p6 (List.length x1.2.2.2.1) c6, vb x1.2.2.2.2.1, vs x1.2.2.2.2.2]]
            have h := hc.on q [bx b1 31 [.slice p1 (List.length y0.1) c1, .slice p2 (List.length y0.2.1) c2, .slice p3 (List.length y0.2.2) c3], bx b3 66 [vs x1.1, vb x1.2.1, vi x1.2.2.1, .slice p6 (List.length x1.2.2.2.1) c6, vb x1.2.2.2.2.1, vs x1.2.2.2.2.2]]
            refine dn h e ?_
            refine d1 27 rfl ?_
            obtain ⟨r4, h7, hm⟩ := bnd hm
            refine b_call [] [] h Tryz.call90 rfl rfl (c_ref07_in (y0 := r3) (y1 := y2) (h.po [] []) ⟨(h.pf [] [] 0), trivial⟩ h7) fun v a w hp hc => ?_
            obtain ⟨rfl, q⟩ := hp
            have e := hc.st q [bx b1 31 [.slice p1 (List.length y0.1) c1, .slice p2 (List.length y0.2.1) c2, .slice p3 (List.length y0.2.2) c3], bx b3 66 [vs x1.1, vb x1.2.1, vi x1.2.2.1, .slice p6 (List.length x1.2.2.2.1) c6, vb x1.2.2.2.2.1, vs x1.2.2.2.2.2]]
            have h := hc.on q [bx b1 31 [.slice p1 (List.length y0.1) c1, .slice p2 (List.length y0.2.1) c2, .slice p3 (List.length y0.2.2) c3], bx b3 66 [vs x1.1, vb x1.2.1, vi x1.2.2.1, .slice p6 (List.length x1.2.2.2.1) c6, vb x1.2.2.2.2.1, vs x1.2.2.2.2.2]]
            refine dn h e ?_
            refine dp 28 (vb r4) h rfl fun a h => ?_
            refine dp 29 (vb r4) h rfl fun a h => ?_
            refine de ?_
            obtain rfl := Option.some.inj hm
            exact then_n (h.to 2 ⟨(h.g 4), (h.g 5), (h.g 6), (h.g 7), (h.g 8), (h.g 9), trivial⟩)
          · have h := h.upd (t := 40) (vb false) rfl (congrArg Value.bool hb4)
            replace hm := ifF hb4 hm
            refine dk 19 h rfl fun a h => ?_
            refine dk 20 h rfl fun a h => ?_
            refine dk 21 h rfl fun a h => ?_
            refine dk 22 h rfl fun a h => ?_
            refine dk 23 h rfl fun a h => ?_
            refine dk 24 h rfl fun a h => ?_
            refine dk 25 h rfl fun a h => ?_
            refine dk 26 h rfl fun a h => ?_
            refine dk 27 h rfl fun a h => ?_
            refine dp 28 (vb false) h rfl fun a h => ?_
            refine dp 29 (vb false) h rfl fun a h => ?_
            refine de ?_
            obtain rfl := Option.some.inj hm
            exact then_n (h.to 2 ⟨(h.g 2), (h.g 3), (h.g 4), (h.g 5), (h.g 6), (h.g 7), trivial⟩)
      · have h := h.upd (t := 24) (vb false) rfl (congrArg Value.bool hb2)
        replace hm := ifF hb2 hm
        refine dk 3 h rfl fun a h => ?_
        refine dk 4 h rfl fun a h => ?_
        refine dk 5 h rfl fun a h => ?_
        refine dk 6 h rfl fun a h => ?_
        refine dk 7 h rfl fun a h => ?_
        refine dk 8 h rfl fun a h => ?_
        refine dk 9 h rfl fun a h => ?_
        refine dk 10 h rfl fun a h => ?_
        refine dk 11 h rfl fun a h => ?_
        refine dk 12 h rfl fun a h => ?_
        refine dp 13 (vb false) h rfl fun a h => ?_
        refine dp 14 (vb false) h rfl fun a h => ?_
        refine dp 15 (.pointer (some ⟨b3, 1, none⟩)) h rfl fun a h => ?_
        refine dlo 16 1 (vb x1.2.1) h rfl rfl rfl fun a h => ?_
        refine dp 17 (vb (!x1.2.1)) h rfl fun a h => ?_
        refine dp 18 (vb (!x1.2.1)) h rfl fun a h => ?_
        rcases Bool.eq_false_or_eq_true (!x1.2.1) with hb5 | hb5
        · have h := h.upd (t := 40) (vb true) rfl (congrArg Value.bool hb5)
          replace hm := ifT hb5 hm
          refine dlo 19 0 (.agg #[.slice p1 (List.length y0.1) c1, .slice p2 (List.length y0.2.1) c2, .slice p3 (List.length y0.2.2) c3]) h rfl rfl rfl fun a h => ?_
          refine dp 20 (.slice p4 (List.length y1) c4) h rfl fun a h => ?_
          refine dp 21 (.slice p5 (List.length y3) c5) h rfl fun a h => ?_
          refine dp 22 (vi s1) h rfl fun a h => ?_
          obtain ⟨x4, h8, hm⟩ := bnd hm
          refine dir 23 h rfl (h.g 1) rfl rfl h8 fun b6 o5 a h => ?_
          refine dlp 24 false h rfl (h.g 0) rfl fun ci4 hc4 v4 hv4 a h => ?_
          replace hc4 : E.rd (eInt .i64) _ _ ci4 x4 := hc4
          obtain rfl := hc4
          obtain rfl := Option.some.inj hv4
          refine dp 26 (vi y2) h rfl fun a h => ?_
          refine d1 25 rfl ?_
          obtain ⟨r5, h9, hm⟩ := bnd hm
          refine b_call [] [] h Tryz.call49 rfl rfl (c_ref07_Defeasible (y0 := y0) (y1 := y1) (y2 := x4) (h.po [] []) ⟨(h.pf [] [] 3), (h.pf [] [] 4), (h.pf [] [] 5), (h.pf [] [] 1), trivial⟩ h9) fun v a w hp hc => ?_
          obtain ⟨p9, c9, rfl, q⟩ := hp
          have e := hc.st q [bx b1 31 [.slice p1 (List.length y0.1) c1, .slice p2 (List.length y0.2.1) c2, .slice p3 (List.length y0.2.2) c3], bx b3 66 [vs x1.1, vb x1.2.1, vi x1.2.2.1, .slice p6 (List.length x1.2.2.2.1) c6, vb x1.2.2.2.2.1, vs x1.2.2.2.2.2]]
          have h := hc.on q [bx b1 31 [.slice p1 (List.length y0.1) c1, .slice p2 (List.length y0.2.1) c2, .slice p3 (List.length y0.2.2) c3], bx b3 66 [vs x1.1, vb x1.2.1, vi x1.2.2.1, .slice p6 (List.length x1.2.2.2.1) c6, vb x1.2.2.2.2.1, vs x1.2.2.2.2.2]]
          refine dn h e ?_
          refine d1 27 rfl ?_
          obtain ⟨r6, h10, hm⟩ := bnd hm
          refine b_call [] [] h Tryz.call90 rfl rfl (c_ref07_in (y0 := r5) (y1 := y2) (h.po [] []) ⟨(h.pf [] [] 0), trivial⟩ h10) fun v a w hp hc => ?_
          obtain ⟨rfl, q⟩ := hp
          have e := hc.st q [bx b1 31 [.slice p1 (List.length y0.1) c1, .slice p2 (List.length y0.2.1) c2, .slice p3 (List.length y0.2.2) c3], bx b3 66 [vs x1.1, vb x1.2.1, vi x1.2.2.1, .slice p6 (List.length x1.2.2.2.1) c6, vb x1.2.2.2.2.1, vs x1.2.2.2.2.2]]
          have h := hc.on q [bx b1 31 [.slice p1 (List.length y0.1) c1, .slice p2 (List.length y0.2.1) c2, .slice p3 (List.length y0.2.2) c3], bx b3 66 [vs x1.1, vb x1.2.1, vi x1.2.2.1, .slice p6 (List.length x1.2.2.2.1) c6, vb x1.2.2.2.2.1, vs x1.2.2.2.2.2]]
          refine dn h e ?_
          refine dp 28 (vb r6) h rfl fun a h => ?_
          refine dp 29 (vb r6) h rfl fun a h => ?_
          refine de ?_
          obtain rfl := Option.some.inj hm
          exact then_n (h.to 2 ⟨(h.g 2), (h.g 3), (h.g 4), (h.g 5), (h.g 6), (h.g 7), trivial⟩)
        · have h := h.upd (t := 40) (vb false) rfl (congrArg Value.bool hb5)
          replace hm := ifF hb5 hm
          refine dk 19 h rfl fun a h => ?_
          refine dk 20 h rfl fun a h => ?_
          refine dk 21 h rfl fun a h => ?_
          refine dk 22 h rfl fun a h => ?_
          refine dk 23 h rfl fun a h => ?_
          refine dk 24 h rfl fun a h => ?_
          refine dk 25 h rfl fun a h => ?_
          refine dk 26 h rfl fun a h => ?_
          refine dk 27 h rfl fun a h => ?_
          refine dp 28 (vb false) h rfl fun a h => ?_
          refine dp 29 (vb false) h rfl fun a h => ?_
          refine de ?_
          obtain rfl := Option.some.inj hm
          exact then_n (h.to 2 ⟨(h.g 0), (h.g 1), (h.g 2), (h.g 3), (h.g 4), (h.g 5), trivial⟩)
    intro a w hJ
    have h := hJ
    refine cb h rfl (fun hb6 => ?_) (fun hb6 => ?_)
    · replace hm := ifT hb6 hm
      refine sp [(8, vb false)] h fun a h => ?_
      refine wp_ret ?_
      refine inb_r (then_r (lp_r (inb_r (then_r ?_))))
      replace hm := loopR hr1 hm
      obtain rfl := Option.some.inj hm
      exact rt1 h rfl rfl ⟨rfl, bk_sel h [] trivial⟩
    replace hm := ifF hb6 hm
    refine wp_skip ?_
    refine inb_n ?_
    refine then_n ?_
    refine reg ?_
    refine pr 3 [(10, vi (w64 (s1 + 1)))] h fun a h => ?_
    refine ops_end ?_
    obtain rfl := Option.some.inj hm
    exact lp_n rfl (h.to 2 ⟨(h.g 0), (h.g 1), (h.g 2), (h.g 3), (h.g 4), (h.g 5), trivial⟩)
  replace hm := ifF hb1 hm
  refine wp_exit ?_
  refine then_e (lp_e (inb_hit ?_))
  replace hm := loopR hr1 hm
  refine then_n ?_
  refine sp [(8, vb true)] h fun a h => ?_
  refine wp_ret ?_
  obtain rfl := Option.some.inj hm
  exact rt1 h rfl rfl ⟨rfl, bk_sel h [] trivial⟩

theorem k_ref07_choices_2_all (k : Nat) :
    (∀ {A : List Nat} {w0 : World} {y0 : List T_Argument} {p1 : Option Addr} {c1 : Nat} {r_1 : Res} {y1 : Int} {y2 : List T_Literal} {p2 : Option Addr} {c2 : Nat} {y3 : List Int} {p3 : Option Addr} {c3 : Nat} {r : (List (List Int))} (_hO : Own A w0 [r_1]) (_hF : All [Ar e_Argument 63 r_1 p1 c1 (List.length y0) y0, R e_Literal p2 c2 (List.length y2) y2, R (eInt .i64) p3 c3 (List.length y3) y3] (bl [r_1] ++ A) w0) (_hm : k_ref07_choices_2 k y0 y1 y2 y3 = some r),
    Calls Tryz.prog 56 [.slice p1 (List.length y0) c1, vi y1, .slice p2 (List.length y2) c2, .slice p3 (List.length y3) c3].toArray w0 (Ret fun v w => ∃ (p4 : Option Addr) (c4 : Nat), v = .slice p4 (List.length r) c4 ∧ Bk A [r_1] w0 [r_1] [R (eSlice (eInt .i64)) p4 c4 (List.length r) r] w)) := by
  induction k with
  | zero => intros; rename_i hm; cases hm
  | succ k ih =>
    have ih_ref07_choices_2 := @ih
    generalize hr_ref07_choices_2 : k_ref07_choices_2 k = rec_ref07_choices_2 at ih_ref07_choices_2
    intro A w0 y0 p1 c1 r_1 y1 y2 p2 c2 y3 p3 c3 r hO hF hm
    replace hm : F_ref07_choices_2 rec_ref07_choices_2 y0 y1 y2 y3 = some r := by rw [← hr_ref07_choices_2]; exact hm
    unfold F_ref07_choices_2 at hm
    refine ent Tryz.func56 rfl hO hF fun a h => ?_
    refine sp [] h fun a h => ?_
    refine wp_seq ?_
    refine sp [(15, vb ((len y3) == (len y2)))] h fun a h => ?_
    refine cb h rfl (fun hb1 => ?_) (fun hb1 => ?_)
    · replace hm := ifT hb1 hm
      refine sr ?_
      refine sl (b_bs_own (te := 3) (e := eInt .i64) [] ([] : List Int) h rfl fun r_2 p4 c4 a w h e => ?_)
      refine pr 1 [(17, .slice p3 (List.length y3) c3)] h fun a h => ?_
      obtain ⟨x1, h1, hm⟩ := bnd hm
      refine sl (b_append_r (te := 3) 1 h (h.g 0) (h.g 3) rfl rfl h1 fun r_3 p5 c5 a w h e => ?_)
      have h := h.share 1 (h.g 0)
      refine sl (b_bs_rd (te := 22) (e := eSlice (eInt .i64)) [.slice p5 (List.length x1) c5] ([x1] : List (List Int)) h ⟨_, _, rfl, R.cell (h.g 0), rfl⟩ fun p6 c6 a w h e => ?_)
      refine pr 1 [(8, .slice p6 (List.length ([x1] : List (List Int))) c6)] h fun a h => ?_
      refine oe ?_
      refine wp_ret ?_
      refine then_r ?_
      obtain rfl := Option.some.inj hm
      exact rt1 h rfl rfl ⟨p6, c6, rfl, bk_sel h [0] ⟨(h.g 0), trivial⟩⟩
    replace hm := ifF hb1 hm
    refine wp_skip ?_
    refine then_n ?_
    refine sr ?_
    refine pr 1 [(9, .slice none 0 0)] h fun a h => ?_
    have h := h.room (eSlice (eInt .i64)) 22
    refine oe ?_
    refine wp_seq ?_
    refine sp [(10, vi 0)] h fun a h => ?_
    refine wp_block ?_
    refine loop_m (B := (m_ref07_choices_2_L1 y1 y0 y2 y3 rec_ref07_choices_2)) (fun (s1 : (List (List Int)) × Int) a w => ∃ (p7 : Option Addr) (c7 : Nat) (r_4 : Res), SS A [r_1] w0 52 [(0, .slice p1 (List.length y0) c1), (1, vi y1), (2, .slice p2 (List.length y2) c2), (3, .slice p3 (List.length y3) c3), (9, .slice p7 (List.length s1.1) c7), (10, vi s1.2)] [r_1, r_4] [Ar (eSlice (eInt .i64)) 22 r_4 p7 c7 (List.length s1.1) s1.1, Ar e_Argument 63 r_1 p1 c1 (List.length y0) y0, R e_Literal p2 c2 (List.length y2) y2, R (eInt .i64) p3 c3 (List.length y3) y3] a w) hm ⟨none, 0, [], h.to 2 ⟨(h.g 0), (h.g 1), (h.g 2), (h.g 3), trivial⟩⟩ ?_
    intro s1 a w o1 hJ hm hr1
    obtain ⟨p7, c7, r_4, h⟩ := hJ
    unfold m_ref07_choices_2_L1 at hm
    refine wp_seq ?_
    refine sp [(22, vb (decide (s1.2 < y1)))] h fun a h => ?_
    refine cb h rfl (fun hb2 => ?_) (fun hb2 => ?_)
    · replace hm := ifT hb2 hm
      refine wp_skip ?_
      refine then_n ?_
      refine wp_seq ?_
      refine wp_block ?_
      refine ds [] [0] h fun w h => ?_
      refine dp 0 (.slice p1 (List.length y0) c1) h rfl fun a h => ?_
      refine dp 1 (vi s1.2) h rfl fun a h => ?_
      obtain ⟨x2, h2, hm⟩ := bnd hm
      refine dia 2 h rfl (h.g 1) rfl rfl h2 fun b1 hp1 a h => ?_
      refine dp 3 (.pointer (some ⟨b1, Int.toNat s1.2 * 5 + 3, none⟩)) h rfl fun a h => ?_
      refine dla 4 0 ((Sub.id e_Argument).snd.snd.snd) true h rfl (h.g 1) hp1 h2 rfl fun ci1 hc1 v1 hv1 a h => ?_
      replace hc1 : E.rd e_Literal _ _ ci1 x2.2.2.2 := hc1
      obtain ⟨_, _, rfl, rfl, rfl⟩ := hc1
      obtain rfl := Option.some.inj hv1
      have h := h.upd (t := 29) (.agg #[vb x2.2.2.2.1, vs x2.2.2.2.2]) rfl rfl
      refine dp 5 (.slice p2 (List.length y2) c2) h rfl fun a h => ?_
      refine dp 6 (.slice p3 (List.length y3) c3) h rfl fun a h => ?_
      refine dp 7 (vi (len y3)) h rfl fun a h => ?_
      obtain ⟨x3, h3, hm⟩ := bnd hm
      refine dir 8 h rfl (h.g 2) rfl rfl h3 fun b2 o2 a h => ?_
      refine dlp 9 true h rfl (h.g 0) rfl fun ci2 hc2 v2 hv2 a h => ?_
      replace hc2 : E.rd e_Literal _ _ ci2 x3 := hc2
      obtain ⟨_, _, rfl, rfl, rfl⟩ := hc2
      obtain rfl := Option.some.inj hv2
      have h := h.upd (t := 34) (.agg #[vb x3.1, vs x3.2]) rfl rfl
      refine dp 10 (vb (x2.2.2.2 == x3)) h rfl fun a h => ?_
      refine de (then_n ?_)
      refine cb h rfl (fun hb3 => ?_) (fun hb3 => ?_)
      · replace hm := ifT hb3 hm
        refine reg ?_
        refine pr 9 [(44, vi (len y3)), (42, vi (len y3)), (40, .slice p3 (List.length y3) c3), (39, .slice p2 (List.length y2) c2), (38, vi y1), (37, .slice p1 (List.length y0) c1), (36, .slice p7 (List.length s1.1) c7)] h fun a h => ?_
        obtain ⟨x4, h4, hm⟩ := bnd hm
        refine sl (b_slice_full h (h.g 4) rfl rfl rfl rfl (.inl ⟨rfl, rfl⟩) h4 fun p8 a h => ?_)
        refine pr 1 [(46, vi s1.2)] h fun a h => ?_
        refine sl (b_bs_rd (te := 3) (e := eInt .i64) [vi s1.2] ([s1.2] : List Int) h ⟨_, _, rfl, eInt.mk, rfl⟩ fun p9 c8 a w h e => ?_)
        obtain ⟨x5, h5, hm⟩ := bnd hm
        refine sl (b_append_f (te := 3) h (h.g 1) (h.g 0) rfl rfl h5 fun p10 c9 a w h e => ?_)
        obtain ⟨r1, h6, hm⟩ := bnd hm
        refine sl (b_call [0] [] h Tryz.call56 rfl rfl (ih_ref07_choices_2 (y0 := y0) (y1 := y1) (y2 := y2) (y3 := x5) (h.po [0] []) ⟨(h.pf [0] [] 5), (h.pf [0] [] 6), (h.pf [0] [] 0), trivial⟩ h6) fun v a w hp hc => ?_)
        obtain ⟨p11, c10, rfl, q⟩ := hp
        have h := hc.on q [r_1, r_4]
        obtain ⟨x6, h7, hm⟩ := bnd hm
        refine sl (b_append_r (te := 22) 1 h (h.g 5) (h.g 0) rfl rfl h7 fun r_5 p12 c11 a w h e => ?_)
        refine pr 1 [(9, .slice p12 (List.length x6) c11)] h fun a h => ?_
        refine ops_end ?_
        refine inb_n ?_
        refine then_n ?_
        refine reg ?_
        refine pr 3 [(10, vi (w64 (s1.2 + 1)))] h fun a h => ?_
        refine ops_end ?_
        obtain rfl := Option.some.inj hm
        exact lp_n rfl ⟨p12, c11, r_5, h.to 2 ⟨(h.g 0), (h.g 7), (h.g 8), (h.g 9), trivial⟩⟩
      replace hm := ifF hb3 hm
      refine wp_skip ?_
      refine inb_n ?_
      refine then_n ?_
      refine reg ?_
      refine pr 3 [(10, vi (w64 (s1.2 + 1)))] h fun a h => ?_
      refine ops_end ?_
      obtain rfl := Option.some.inj hm
      exact lp_n rfl ⟨p7, c7, r_4, h.to 2 ⟨(h.g 1), (h.g 2), (h.g 3), (h.g 4), trivial⟩⟩
    replace hm := ifF hb2 hm
    refine wp_exit ?_
    refine then_e (lp_e (inb_hit ?_))
    replace hm := loopR hr1 hm
    refine then_n ?_
    refine sp [(8, .slice p7 (List.length s1.1) c7)] h fun a h => ?_
    refine wp_ret ?_
    obtain rfl := Option.some.inj hm
    have h := h.share 1 (h.g 0)
    exact rt1 h rfl rfl ⟨p7, c7, rfl, bk_sel h [0] ⟨(h.g 0), trivial⟩⟩

theorem c_ref07_choices_2 {A : List Nat} {w0 : World} {y0 : List T_Argument} {p1 : Option Addr} {c1 : Nat} {r_1 : Res} {y1 : Int} {y2 : List T_Literal} {p2 : Option Addr} {c2 : Nat} {y3 : List Int} {p3 : Option Addr} {c3 : Nat} {r : (List (List Int))} (hO : Own A w0 [r_1]) (hF : All [Ar e_Argument 63 r_1 p1 c1 (List.length y0) y0, R e_Literal p2 c2 (List.length y2) y2, R (eInt .i64) p3 c3 (List.length y3) y3] (bl [r_1] ++ A) w0) (hm : m_ref07_choices_2 y0 y1 y2 y3 = some r) :
    Calls Tryz.prog 56 [.slice p1 (List.length y0) c1, vi y1, .slice p2 (List.length y2) c2, .slice p3 (List.length y3) c3].toArray w0 (Ret fun v w => ∃ (p4 : Option Addr) (c4 : Nat), v = .slice p4 (List.length r) c4 ∧ Bk A [r_1] w0 [r_1] [R (eSlice (eInt .i64)) p4 c4 (List.length r) r] w) := by
  obtain ⟨k, hk⟩ := limM_some hm
  exact (k_ref07_choices_2_all k) hO hF hk

theorem c_ref07_recent {A : List Nat} {w0 : World} {y0 : List Int} {p1 : Option Addr} {c1 : Nat} {y1 : Int} {r : Bool} (hO : Own A w0 []) (hF : All [R (eInt .i64) p1 c1 (List.length y0) y0] (bl [] ++ A) w0) (hm : m_ref07_recent y0 y1 = some r) :
    Calls Tryz.prog 57 [.slice p1 (List.length y0) c1, vi y1].toArray w0 (Ret fun v w => v = vb r ∧ Bk A [] w0 [] [] w) := by
  unfold m_ref07_recent at hm
  refine ent Tryz.func57 rfl hO hF fun a h => ?_
  refine sp [] h fun a h => ?_
  refine wp_seq ?_
  refine sp [(5, vi 0)] h fun a h => ?_
  refine wp_block ?_
  refine loop_m (B := (m_ref07_recent_L1 y0 y1)) (fun (s1 : Int) a w => SS A [] w0 18 [(0, .slice p1 (List.length y0) c1), (1, vi y1), (5, vi s1)] [] [R (eInt .i64) p1 c1 (List.length y0) y0] a w) hm (h.to 0 ⟨(h.g 0), trivial⟩) ?_
  intro s1 a w o1 hJ hm hr1
  have h := hJ
  unfold m_ref07_recent_L1 at hm
  refine wp_seq ?_
  refine sp [(9, vb (decide (s1 < (len y0))))] h fun a h => ?_
  refine cb h rfl (fun hb1 => ?_) (fun hb1 => ?_)
  · replace hm := ifT hb1 hm
    refine wp_skip ?_
    refine then_n ?_
    refine wp_seq ?_
    refine wp_block ?_
    refine sr ?_
    refine pr 2 [(13, vi s1), (12, .slice p1 (List.length y0) c1)] h fun a h => ?_
    obtain ⟨x1, h1, hm⟩ := bnd hm
    refine sl (b_index_rd h (h.g 0) rfl rfl h1 fun b1 o2 a h => ?_)
    refine sl (b_load_pt false h (h.g 0) rfl fun ci1 hc1 v1 hv1 a h => ?_)
    replace hc1 : E.rd (eInt .i64) _ _ ci1 x1 := hc1
    obtain rfl := hc1
    obtain rfl := Option.some.inj hv1
    refine pr 2 [(17, vb (decide (y1 ≤ x1)))] h fun a h => ?_
    refine oe ?_
    refine cb h rfl (fun hb2 => ?_) (fun hb2 => ?_)
    · replace hm := ifT hb2 hm
      refine sp [(4, vb true)] h fun a h => ?_
      refine wp_ret ?_
      refine inb_r (then_r (lp_r (inb_r (then_r ?_))))
      replace hm := loopR hr1 hm
      obtain rfl := Option.some.inj hm
      exact rt1 h rfl rfl ⟨rfl, bk_sel h [] trivial⟩
    replace hm := ifF hb2 hm
    refine wp_skip ?_
    refine inb_n ?_
    refine then_n ?_
    refine reg ?_
    refine pr 3 [(5, vi (w64 (s1 + 1)))] h fun a h => ?_
    refine ops_end ?_
    obtain rfl := Option.some.inj hm
    exact lp_n rfl (h.to 0 ⟨(h.g 1), trivial⟩)
  replace hm := ifF hb1 hm
  refine wp_exit ?_
  refine then_e (lp_e (inb_hit ?_))
  replace hm := loopR hr1 hm
  refine then_n ?_
  refine sp [(4, vb false)] h fun a h => ?_
  refine wp_ret ?_
  obtain rfl := Option.some.inj hm
  exact rt1 h rfl rfl ⟨rfl, bk_sel h [] trivial⟩

theorem c_ref07_Build {A : List Nat} {w0 : World} {y0 : T_Base} {p1 : Option Addr} {c1 : Nat} {p2 : Option Addr} {c2 : Nat} {p3 : Option Addr} {c3 : Nat} {r : (List T_Argument) × Int} (hO : Own A w0 []) (hF : All [R e_Premise p1 c1 (List.length y0.1) y0.1, R e_Rule p2 c2 (List.length y0.2.1) y0.2.1, R e_Promotion p3 c3 (List.length y0.2.2) y0.2.2] (bl [] ++ A) w0) (hm : m_ref07_Build y0 = some r) :
    Calls Tryz.prog 29 [.agg #[.slice p1 (List.length y0.1) c1, .slice p2 (List.length y0.2.1) c2, .slice p3 (List.length y0.2.2) c3]].toArray w0 (Ret fun v w => ∃ (p4 : Option Addr) (c4 : Nat), v = .tuple #[.slice p4 (List.length r.1) c4, vi r.2] ∧ Bk A [] w0 [] [R e_Argument p4 c4 (List.length r.1) r.1] w) := by
  unfold m_ref07_Build at hm
  refine ent Tryz.func29 rfl hO hF fun a h => ?_
  refine sr ?_
  refine sl (b_box h rfl fun b1 a w h e => ?_)
  refine pr 2 [] h fun a h => ?_
  refine oe ?_
  refine wp_seq ?_
  refine sr ?_
  refine sl (b_load_own 0 (.agg #[.slice p1 (List.length y0.1) c1, .slice p2 (List.length y0.2.1) c2, .slice p3 (List.length y0.2.2) c3]) h rfl rfl fun a h => ?_)
  obtain ⟨r1, h1, hm⟩ := bnd hm
  refine sl (b_call [] [] h Tryz.call55 rfl rfl (c_ref05_Validate (y0 := y0) (h.po [] []) ⟨(h.pf [] [] 0), (h.pf [] [] 1), (h.pf [] [] 2), trivial⟩ h1) fun v a w hp hc => ?_)
  obtain ⟨rfl, q⟩ := hp
  have h := hc.on q [bx b1 31 [.slice p1 (List.length y0.1) c1, .slice p2 (List.length y0.2.1) c2, .slice p3 (List.length y0.2.2) c3]]
  refine pr 1 [(4, vi r1)] h fun a h => ?_
  refine oe ?_
  refine sp [(16, vb (r1 != 0))] h fun a h => ?_
  refine cb h rfl (fun hb1 => ?_) (fun hb1 => ?_)
  · replace hm := ifT hb1 hm
    refine sp [(3, vi r1), (2, .slice none 0 0)] h fun a h => ?_
    refine wp_ret ?_
    refine then_r ?_
    obtain rfl := Option.some.inj hm
    exact rtg h rfl (vs := [.slice none 0 0, vi r1]) (resT rfl (resT rfl resN)) ⟨none, 0, rfl, bk_sel h [] ⟨(rnil e_Argument _ _ _ _), trivial⟩⟩
  replace hm := ifF hb1 hm
  refine wp_skip ?_
  refine then_n ?_
  refine sr ?_
  refine pr 1 [(5, .slice none 0 0)] h fun a h => ?_
  have h := h.room e_Argument 63
  refine oe ?_
  obtain ⟨s1, hx, hm⟩ := bnd hm
  refine seq_j (fun a w => ∃ (p4 : Option Addr) (c4 : Nat) (r_1 : Res), SS A [] w0 108 [(1, .pointer (some ⟨b1, 0, none⟩)), (5, .slice p4 (List.length s1) c4)] [bx b1 31 [.slice p1 (List.length y0.1) c1, .slice p2 (List.length y0.2.1) c2, .slice p3 (List.length y0.2.2) c3], r_1] [Ar e_Argument 63 r_1 p4 c4 (List.length s1) s1, R e_Premise p1 c1 (List.length y0.1) y0.1, R e_Rule p2 c2 (List.length y0.2.1) y0.2.1, R e_Promotion p3 c3 (List.length y0.2.2) y0.2.2] a w) ?_ ?_
  · have hm2 := hm
    replace hm := hx
    refine sp [(6, vi 0)] h fun a h => ?_
    refine wp_block ?_
    refine loop_m (B := (m_ref07_Build_L1 y0)) (fun (s2 : (List T_Argument) × Int) a w => ∃ (p5 : Option Addr) (c5 : Nat) (r_2 : Res), SS A [] w0 108 [(1, .pointer (some ⟨b1, 0, none⟩)), (5, .slice p5 (List.length s2.1) c5), (6, vi s2.2)] [bx b1 31 [.slice p1 (List.length y0.1) c1, .slice p2 (List.length y0.2.1) c2, .slice p3 (List.length y0.2.2) c3], r_2] [Ar e_Argument 63 r_2 p5 c5 (List.length s2.1) s2.1, R e_Premise p1 c1 (List.length y0.1) y0.1, R e_Rule p2 c2 (List.length y0.2.1) y0.2.1, R e_Promotion p3 c3 (List.length y0.2.2) y0.2.2] a w) hm ⟨none, 0, [], h.to 2 ⟨(h.g 0), (h.g 1), (h.g 2), (h.g 3), trivial⟩⟩ ?_
    intro s2 a w o1 hJ hm hr1
    obtain ⟨p5, c5, r_2, h⟩ := hJ
    unfold m_ref07_Build_L1 at hm
    refine wp_seq ?_
    refine sr ?_
    refine pr 2 [(19, .pointer (some ⟨b1, 0, none⟩)), (18, vi s2.2)] h fun a h => ?_
    refine sl (b_load_own 0 (.slice p1 (List.length y0.1) c1) h rfl rfl fun a h => ?_)
    refine pr 2 [(22, vb (decide (s2.2 < (len y0.1))))] h fun a h => ?_
    refine oe ?_
    refine cb h rfl (fun hb2 => ?_) (fun hb2 => ?_)
    · replace hm := ifT hb2 hm
      refine wp_skip ?_
      refine then_n ?_
      refine wp_seq ?_
      refine wp_block ?_
      refine reg ?_
      refine pr 3 [(27, .pointer (some ⟨b1, 0, none⟩)), (26, vi s2.2), (25, .slice p5 (List.length s2.1) c5)] h fun a h => ?_
      refine sl (b_load_own 0 (.slice p1 (List.length y0.1) c1) h rfl rfl fun a h => ?_)
      refine pr 1 [(29, vi s2.2)] h fun a h => ?_
      obtain ⟨x1, h2, hm⟩ := bnd hm
      refine sl (b_index_rd h (h.g 1) rfl rfl h2 fun b2 o2 a h => ?_)
      refine pr 1 [(31, .pointer (some ⟨b2, o2, none⟩))] h fun a h => ?_
      refine sl (b_load_pt true h (PtTo.fst (h.g 0)) rfl fun ci1 hc1 v1 hv1 a h => ?_)
      replace hc1 : E.rd e_Literal _ _ ci1 x1.1 := hc1
      obtain ⟨_, _, rfl, rfl, rfl⟩ := hc1
      obtain rfl := Option.some.inj hv1
      have h := h.upd (t := 32) (.agg #[vb x1.1.1, vs x1.1.2]) rfl rfl
      refine pr 1 [(33, .agg #[vi s2.2, vi (-1), .slice none 0 0, vb x1.1.1, vs x1.1.2])] h fun a h => ?_
      refine sl (b_bs_rd (te := 63) (e := e_Argument) [vi s2.2, vi (-1), .slice none 0 0, vb x1.1.1, vs x1.1.2] ([(s2.2, (-1), ([] : List Int), x1.1)] : List T_Argument) h ⟨_, _, rfl, eProd.mk eInt.mk (eProd.mk eInt.mk (eProd.mk (R.cell (rnil (eInt .i64) _ _ _ _)) (eProd.mk eBool.mk eStr.mk))), rfl⟩ fun p6 c6 a w h e => ?_)
      obtain ⟨x2, h3, hm⟩ := bnd hm
      refine sl (b_append_r (te := 63) 1 h (h.g 2) (h.g 0) rfl rfl h3 fun r_3 p7 c7 a w h e => ?_)
      refine pr 1 [(5, .slice p7 (List.length x2) c7)] h fun a h => ?_
      refine ops_end ?_
      refine inb_n ?_
      refine then_n ?_
      refine reg ?_
      refine pr 3 [(6, vi (w64 (s2.2 + 1)))] h fun a h => ?_
      refine ops_end ?_
      obtain rfl := Option.some.inj hm
      exact lp_n rfl ⟨p7, c7, r_3, h.to 2 ⟨(h.g 0), (h.g 4), (h.g 5), (h.g 6), trivial⟩⟩
    replace hm := ifF hb2 hm
    refine wp_exit ?_
    refine then_e (lp_e (inb_hit ?_))
    replace hm := loopR hr1 hm
    obtain rfl := Option.some.inj hm
    exact then_n ⟨p5, c5, r_2, h.to 2 ⟨(h.g 0), (h.g 1), (h.g 2), (h.g 3), trivial⟩⟩
  intro a w hJ
  obtain ⟨p4, c4, r_1, h⟩ := hJ
  refine sp [(7, vi 0)] h fun a h => ?_
  refine wp_seq ?_
  refine sp [(8, vi 1)] h fun a h => ?_
  refine wp_block ?_
  refine loop_m (B := (m_ref07_Build_L2 y0)) (fun (s3 : (List T_Argument) × Int × Int) a w => ∃ (p8 : Option Addr) (c8 : Nat) (r_4 : Res), SS A [] w0 108 [(1, .pointer (some ⟨b1, 0, none⟩)), (5, .slice p8 (List.length s3.1) c8), (7, vi s3.2.1), (8, vi s3.2.2)] [bx b1 31 [.slice p1 (List.length y0.1) c1, .slice p2 (List.length y0.2.1) c2, .slice p3 (List.length y0.2.2) c3], r_4] [Ar e_Argument 63 r_4 p8 c8 (List.length s3.1) s3.1, R e_Premise p1 c1 (List.length y0.1) y0.1, R e_Rule p2 c2 (List.length y0.2.1) y0.2.1, R e_Promotion p3 c3 (List.length y0.2.2) y0.2.2] a w) hm ⟨p4, c4, r_1, h.to 2 ⟨(h.g 0), (h.g 1), (h.g 2), (h.g 3), trivial⟩⟩ ?_
  intro s3 a w o3 hJ hm hr2
  obtain ⟨p8, c8, r_4, h⟩ := hJ
  unfold m_ref07_Build_L2 at hm
  refine wp_seq ?_
  refine seq_j (fun a w => SS A [] w0 108 [(1, .pointer (some ⟨b1, 0, none⟩)), (5, .slice p8 (List.length s3.1) c8), (7, vi s3.2.1), (8, vi s3.2.2), (43, vb ((s3.2.2 == 1) || (decide (s3.2.1 < (len s3.1)))))] [bx b1 31 [.slice p1 (List.length y0.1) c1, .slice p2 (List.length y0.2.1) c2, .slice p3 (List.length y0.2.2) c3], r_4] [Ar e_Argument 63 r_4 p8 c8 (List.length s3.1) s3.1, R e_Premise p1 c1 (List.length y0.1) y0.1, R e_Rule p2 c2 (List.length y0.2.1) y0.2.1, R e_Promotion p3 c3 (List.length y0.2.2) y0.2.2] a w) ?_ ?_
  · refine reg ?_
    refine pr 3 [(38, vb (s3.2.2 == 1))] h fun a h => ?_
    rcases Bool.eq_false_or_eq_true (s3.2.2 == 1) with hb3 | hb3
    · have h := h.upd (t := 38) (vb true) rfl (congrArg Value.bool hb3)
      refine pr 5 [(43, vb true)] h fun a h => ?_
      refine ops_end ?_
      have h := h.upd (t := 43) (vb ((s3.2.2 == 1) || (decide (s3.2.1 < (len s3.1))))) rfl (by rw [hb3]; rfl)
      exact then_n (h.to 2 ⟨(h.g 0), (h.g 1), (h.g 2), (h.g 3), trivial⟩)
    · have h := h.upd (t := 38) (vb false) rfl (congrArg Value.bool hb3)
      refine pr 5 [(43, vb (decide (s3.2.1 < (len s3.1))))] h fun a h => ?_
      refine ops_end ?_
      have h := h.upd (t := 43) (vb ((s3.2.2 == 1) || (decide (s3.2.1 < (len s3.1))))) rfl (by rw [hb3]; rfl)
      exact then_n (h.to 2 ⟨(h.g 0), (h.g 1), (h.g 2), (h.g 3), trivial⟩)
  intro a w hJ
  have h := hJ
  refine cb h rfl (fun hb4 => ?_) (fun hb4 => ?_)
  · replace hm := ifT hb4 hm
    refine wp_skip ?_
    refine then_n ?_
    refine wp_seq ?_
    refine wp_block ?_
    refine sp [(9, vi (len s3.1))] h fun a h => ?_
    refine wp_seq ?_
    refine sp [(10, vi 0)] h fun a h => ?_
    refine wp_block ?_
    refine loop_m (B := (m_ref07_Build_L3 y0 s3)) (fun (s4 : (List T_Argument) × Int) a w => ∃ (p9 : Option Addr) (c9 : Nat) (r_5 : Res), SS A [] w0 108 [(1, .pointer (some ⟨b1, 0, none⟩)), (5, .slice p9 (List.length s4.1) c9), (7, vi s3.2.1), (8, vi s3.2.2), (9, vi (len s3.1)), (10, vi s4.2)] [bx b1 31 [.slice p1 (List.length y0.1) c1, .slice p2 (List.length y0.2.1) c2, .slice p3 (List.length y0.2.2) c3], r_5] [Ar e_Argument 63 r_5 p9 c9 (List.length s4.1) s4.1, R e_Premise p1 c1 (List.length y0.1) y0.1, R e_Rule p2 c2 (List.length y0.2.1) y0.2.1, R e_Promotion p3 c3 (List.length y0.2.2) y0.2.2] a w) hm ⟨p8, c8, r_4, h.to 2 ⟨(h.g 0), (h.g 1), (h.g 2), (h.g 3), trivial⟩⟩ ?_
    intro s4 a w o4 hJ hm hr3
    obtain ⟨p9, c9, r_5, h⟩ := hJ
    unfold m_ref07_Build_L3 at hm
    refine wp_seq ?_
    refine sr ?_
    refine pr 2 [(49, .pointer (some ⟨b1, 1, none⟩)), (48, vi s4.2)] h fun a h => ?_
    refine sl (b_load_own 0 (.slice p2 (List.length y0.2.1) c2) h rfl rfl fun a h => ?_)
    refine pr 2 [(52, vb (decide (s4.2 < (len y0.2.1))))] h fun a h => ?_
    refine oe ?_
    refine cb h rfl (fun hb5 => ?_) (fun hb5 => ?_)
    · replace hm := ifT hb5 hm
      refine wp_skip ?_
      refine then_n ?_
      refine wp_seq ?_
      refine wp_block ?_
      refine sr ?_
      refine pr 3 [(57, .pointer (some ⟨b1, 1, none⟩)), (56, vi (len s3.1)), (55, .slice p9 (List.length s4.1) c9)] h fun a h => ?_
      refine sl (b_load_own 0 (.slice p2 (List.length y0.2.1) c2) h rfl rfl fun a h => ?_)
      refine pr 1 [(59, vi s4.2)] h fun a h => ?_
      obtain ⟨x3, h4, hm⟩ := bnd hm
      refine sl (b_index_rd h (h.g 2) rfl rfl h4 fun b3 o5 a h => ?_)
      refine pr 1 [(61, .pointer (some ⟨b3, (o5 + 3), none⟩))] h fun a h => ?_
      refine sl (b_load_pt false h (PtTo.fst (PtTo.snd (PtTo.snd (PtTo.snd (h.g 0))))) rfl fun ci2 hc2 v2 hv2 a h => ?_)
      replace hc2 : E.rd (eSlice e_Literal) _ _ ci2 x3.2.2.2.1 := hc2
      obtain ⟨p10, c10, rfl, f1⟩ := hc2
      obtain rfl := Option.some.inj hv2
      have h := h.upd (t := 62) (.slice p10 (List.length x3.2.2.2.1) c10) rfl rfl
      have h := h.add (R.of f1)
      obtain ⟨r2, h5, hm⟩ := bnd hm
      refine sl (b_call [1] [] h Tryz.call56 rfl rfl (c_ref07_choices_2 (y0 := s4.1) (y1 := len s3.1) (y2 := x3.2.2.2.1) (y3 := ([] : List Int)) (h.po [1] []) ⟨(h.pf [1] [] 2), (h.pf [1] [] 0), (rnil _ _ _ _ _), trivial⟩ h5) fun v a w hp hc => ?_)
      obtain ⟨p11, c11, rfl, q⟩ := hp
      have h := hc.on q [bx b1 31 [.slice p1 (List.length y0.1) c1, .slice p2 (List.length y0.2.1) c2, .slice p3 (List.length y0.2.2) c3], r_5]
      refine pr 2 [(65, vi 0), (64, vi (len r2))] h fun a h => ?_
      refine oe ?_
      refine wp_block ?_
      refine loop_m (B := (m_ref07_Build_L4 r2 s3 y0 s4)) (fun (s5 : (List T_Argument) × Int) a w => ∃ (p12 : Option Addr) (c12 : Nat) (r_6 : Res), SS A [] w0 108 [(1, .pointer (some ⟨b1, 0, none⟩)), (5, .slice p12 (List.length s5.1) c12), (7, vi s3.2.1), (8, vi s3.2.2), (9, vi (len s3.1)), (10, vi s4.2), (63, .slice p11 (List.length r2) c11), (64, vi (len r2)), (65, vi s5.2)] [bx b1 31 [.slice p1 (List.length y0.1) c1, .slice p2 (List.length y0.2.1) c2, .slice p3 (List.length y0.2.2) c3], r_6] [Ar e_Argument 63 r_6 p12 c12 (List.length s5.1) s5.1, R (eSlice (eInt .i64)) p11 c11 (List.length r2) r2, R e_Premise p1 c1 (List.length y0.1) y0.1, R e_Rule p2 c2 (List.length y0.2.1) y0.2.1, R e_Promotion p3 c3 (List.length y0.2.2) y0.2.2] a w) hm ⟨p9, c9, r_5, h.to 2 ⟨(h.g 3), (h.g 0), (h.g 4), (h.g 5), (h.g 6), trivial⟩⟩ ?_
      intro s5 a w o6 hJ hm hr4
      obtain ⟨p12, c12, r_6, h⟩ := hJ
      unfold m_ref07_Build_L4 at hm
      refine sp [(66, vb (decide (s5.2 < (len r2))))] h fun a h => ?_
      refine wp_seq ?_
      refine cb h rfl (fun hb6 => ?_) (fun hb6 => ?_)
      · replace hm := ifT hb6 hm
        refine wp_skip ?_
        refine then_n ?_
        refine wp_seq ?_
        refine wp_block ?_
        refine sr ?_
        obtain ⟨x4, h6, hm⟩ := bnd hm
        refine sl (b_index_rd h (h.g 1) rfl rfl h6 fun b4 o7 a h => ?_)
        refine sl (b_load_pt false h (h.g 0) rfl fun ci3 hc3 v3 hv3 a h => ?_)
        replace hc3 : E.rd (eSlice (eInt .i64)) _ _ ci3 x4 := hc3
        obtain ⟨p13, c13, rfl, f2⟩ := hc3
        obtain rfl := Option.some.inj hv3
        have h := h.upd (t := 68) (.slice p13 (List.length x4) c13) rfl rfl
        have h := h.add (R.of f2)
        refine pr 1 [(12, .slice p13 (List.length x4) c13)] h fun a h => ?_
        refine oe ?_
        refine wp_seq ?_
        obtain ⟨s6, hx, hm⟩ := bnd hm
        refine seq_j (fun a w => SS A [] w0 108 [(1, .pointer (some ⟨b1, 0, none⟩)), (5, .slice p12 (List.length s5.1) c12), (7, vi s3.2.1), (8, vi s3.2.2), (9, vi (len s3.1)), (10, vi s4.2), (12, .slice p13 (List.length x4) c13), (63, .slice p11 (List.length r2) c11), (64, vi (len r2)), (65, vi s5.2), (89, vb s6)] [bx b1 31 [.slice p1 (List.length y0.1) c1, .slice p2 (List.length y0.2.1) c2, .slice p3 (List.length y0.2.2) c3], r_6] [Ar e_Argument 63 r_6 p12 c12 (List.length s5.1) s5.1, R (eSlice (eInt .i64)) p11 c11 (List.length r2) r2, R (eInt .i64) p13 c13 (List.length x4) x4, R e_Premise p1 c1 (List.length y0.1) y0.1, R e_Rule p2 c2 (List.length y0.2.1) y0.2.1, R e_Promotion p3 c3 (List.length y0.2.2) y0.2.2] a w) ?_ ?_
        · replace hm := hx
          refine reg ?_
          refine pr 2 [(70, vi s3.2.1), (69, .slice p13 (List.length x4) c13)] h fun a h => ?_
          obtain ⟨r3, h7, hm⟩ := bnd hm
          refine sl (b_call [] [] h Tryz.call57 rfl rfl (c_ref07_recent (y0 := x4) (y1 := s3.2.1) (h.po [] []) ⟨(h.pf [] [] 0), trivial⟩ h7) fun v a w hp hc => ?_)
          obtain ⟨rfl, q⟩ := hp
          have h := hc.on q [bx b1 31 [.slice p1 (List.length y0.1) c1, .slice p2 (List.length y0.2.1) c2, .slice p3 (List.length y0.2.2) c3], r_6]
          refine pr 2 [(73, vb (!r3))] h fun a h => ?_
          rcases Bool.eq_false_or_eq_true (!r3) with hb7 | hb7
          · have h := h.upd (t := 73) (vb true) rfl (congrArg Value.bool hb7)
            replace hm := ifT hb7 hm
            refine pr 3 [(76, vb (decide (1 < s3.2.2)))] h fun a h => ?_
            rcases Bool.eq_false_or_eq_true (decide (1 < s3.2.2)) with hb8 | hb8
            · have h := h.upd (t := 76) (vb true) rfl (congrArg Value.bool hb8)
              replace hm := ifT hb8 hm
              refine pr 13 [(89, vb true)] h fun a h => ?_
              refine ops_end ?_
              obtain rfl := Option.some.inj hm
              exact then_n (h.to 2 ⟨(h.g 2), (h.g 3), (h.g 0), (h.g 4), (h.g 5), (h.g 6), trivial⟩)
            · have h := h.upd (t := 76) (vb false) rfl (congrArg Value.bool hb8)
              replace hm := ifF hb8 hm
              refine pr 6 [(82, vb (decide (0 < (len x4))))] h fun a h => ?_
              rcases Bool.eq_false_or_eq_true (decide (0 < (len x4))) with hb9 | hb9
              · have h := h.upd (t := 82) (vb true) rfl (congrArg Value.bool hb9)
                replace hm := ifT hb9 hm
                refine pr 7 [(89, vb true)] h fun a h => ?_
                refine ops_end ?_
                obtain rfl := Option.some.inj hm
                exact then_n (h.to 2 ⟨(h.g 2), (h.g 3), (h.g 0), (h.g 4), (h.g 5), (h.g 6), trivial⟩)
              · have h := h.upd (t := 82) (vb false) rfl (congrArg Value.bool hb9)
                replace hm := ifF hb9 hm
                refine sl (b_load_own 0 (.agg #[.slice p1 (List.length y0.1) c1, .slice p2 (List.length y0.2.1) c2, .slice p3 (List.length y0.2.2) c3]) h rfl rfl fun a h => ?_)
                refine pr 3 [(86, .slice p13 (List.length x4) c13), (85, vi s4.2), (84, .slice p12 (List.length s5.1) c12)] h fun a h => ?_
                obtain ⟨r4, h8, hm⟩ := bnd hm
                refine sl (b_call [] [1] h Tryz.call58 rfl rfl (c_ref07_Within (y0 := y0) (y1 := s5.1) (y2 := s4.2) (y3 := x4) (h.po [] [1]) ⟨(h.pf [] [1] 4), (h.pf [] [1] 5), (h.pf [] [1] 6), (h.pl [] [1] 1 (h.g 2)), (h.pf [] [1] 0), trivial⟩ h8) fun v a w hp hc => ?_)
                obtain ⟨rfl, q⟩ := hp
                have h := hc.on q [bx b1 31 [.slice p1 (List.length y0.1) c1, .slice p2 (List.length y0.2.1) c2, .slice p3 (List.length y0.2.2) c3], r_6]
                refine pr 2 [(89, vb (!r4))] h fun a h => ?_
                refine ops_end ?_
                obtain rfl := Option.some.inj hm
                exact then_n (h.to 2 ⟨(h.g 2), (h.g 3), (h.g 0), (h.g 4), (h.g 5), (h.g 6), trivial⟩)
          · have h := h.upd (t := 73) (vb false) rfl (congrArg Value.bool hb7)
            replace hm := ifF hb7 hm
            refine pr 9 [(82, vb false)] h fun a h => ?_
            refine sl (b_load_own 0 (.agg #[.slice p1 (List.length y0.1) c1, .slice p2 (List.length y0.2.1) c2, .slice p3 (List.length y0.2.2) c3]) h rfl rfl fun a h => ?_)
            refine pr 3 [(86, .slice p13 (List.length x4) c13), (85, vi s4.2), (84, .slice p12 (List.length s5.1) c12)] h fun a h => ?_
            obtain ⟨r5, h9, hm⟩ := bnd hm
            refine sl (b_call [] [1] h Tryz.call58 rfl rfl (c_ref07_Within (y0 := y0) (y1 := s5.1) (y2 := s4.2) (y3 := x4) (h.po [] [1]) ⟨(h.pf [] [1] 4), (h.pf [] [1] 5), (h.pf [] [1] 6), (h.pl [] [1] 1 (h.g 2)), (h.pf [] [1] 0), trivial⟩ h9) fun v a w hp hc => ?_)
            obtain ⟨rfl, q⟩ := hp
            have h := hc.on q [bx b1 31 [.slice p1 (List.length y0.1) c1, .slice p2 (List.length y0.2.1) c2, .slice p3 (List.length y0.2.2) c3], r_6]
            refine pr 2 [(89, vb (!r5))] h fun a h => ?_
            refine ops_end ?_
            obtain rfl := Option.some.inj hm
            exact then_n (h.to 2 ⟨(h.g 2), (h.g 3), (h.g 0), (h.g 4), (h.g 5), (h.g 6), trivial⟩)
        intro a w hJ
        have h := hJ
        refine cb h rfl (fun hb10 => ?_) (fun hb10 => ?_)
        · replace hm := ifT hb10 hm
          refine wp_exit ?_
          refine then_e (inb_hit ?_)
          refine then_n ?_
          refine reg ?_
          refine pr 2 [(65, vi (w64 (s5.2 + 1)))] h fun a h => ?_
          refine ops_end ?_
          obtain rfl := Option.some.inj hm
          exact lp_n rfl ⟨p12, c12, r_6, h.to 2 ⟨(h.g 0), (h.g 1), (h.g 3), (h.g 4), (h.g 5), trivial⟩⟩
        replace hm := ifF hb10 hm
        refine wp_skip ?_
        refine then_n ?_
        refine sr ?_
        refine pr 4 [(93, .pointer (some ⟨b1, 1, none⟩)), (92, .slice p13 (List.length x4) c13), (91, vi s4.2), (90, .slice p12 (List.length s5.1) c12)] h fun a h => ?_
        refine sl (b_load_own 0 (.slice p2 (List.length y0.2.1) c2) h rfl rfl fun a h => ?_)
        refine pr 1 [(95, vi s4.2)] h fun a h => ?_
        obtain ⟨x5, h10, hm⟩ := bnd hm
        refine sl (b_index_rd h (h.g 4) rfl rfl h10 fun b5 o8 a h => ?_)
        refine pr 1 [(97, .pointer (some ⟨b5, (o8 + 4), none⟩))] h fun a h => ?_
        refine sl (b_load_pt true h (PtTo.snd (PtTo.snd (PtTo.snd (PtTo.snd (h.g 0))))) rfl fun ci4 hc4 v4 hv4 a h => ?_)
        replace hc4 : E.rd e_Literal _ _ ci4 x5.2.2.2.2 := hc4
        obtain ⟨_, _, rfl, rfl, rfl⟩ := hc4
        obtain rfl := Option.some.inj hv4
        have h := h.upd (t := 98) (.agg #[vb x5.2.2.2.2.1, vs x5.2.2.2.2.2]) rfl rfl
        refine pr 1 [(99, .agg #[vi (-1), vi s4.2, .slice p13 (List.length x4) c13, vb x5.2.2.2.2.1, vs x5.2.2.2.2.2])] h fun a h => ?_
        refine sl (b_bs_rd (te := 63) (e := e_Argument) [vi (-1), vi s4.2, .slice p13 (List.length x4) c13, vb x5.2.2.2.2.1, vs x5.2.2.2.2.2] ([((-1), s4.2, x4, x5.2.2.2.2)] : List T_Argument) h ⟨_, _, rfl, eProd.mk eInt.mk (eProd.mk eInt.mk (eProd.mk (R.cell (h.g 3)) (eProd.mk eBool.mk eStr.mk))), rfl⟩ fun p14 c14 a w h e => ?_)
        obtain ⟨x6, h11, hm⟩ := bnd hm
        refine sl (b_append_r (te := 63) 1 h (h.g 2) (h.g 0) rfl rfl h11 fun r_7 p15 c15 a w h e => ?_)
        refine pr 1 [(5, .slice p15 (List.length x6) c15)] h fun a h => ?_
        refine oe ?_
        refine sp [(104, vb (decide (40 < (len x6))))] h fun a h => ?_
        refine cb h rfl (fun hb11 => ?_) (fun hb11 => ?_)
        · replace hm := ifT hb11 hm
          refine sp [(3, vi 2), (2, .slice none 0 0)] h fun a h => ?_
          refine wp_ret ?_
          refine inb_r (then_r (lp_r (inb_r (inb_r (then_r (lp_r (inb_r (then_r (inb_r (then_r (lp_r (inb_r (then_r ?_)))))))))))))
          replace hm := loopR hr4 hm
          replace hm := loopR hr3 hm
          replace hm := loopR hr2 hm
          obtain rfl := Option.some.inj hm
          exact rtg h rfl (vs := [.slice none 0 0, vi 2]) (resT rfl (resT rfl resN)) ⟨none, 0, rfl, bk_sel h [] ⟨(rnil e_Argument _ _ _ _), trivial⟩⟩
        replace hm := ifF hb11 hm
        refine wp_skip ?_
        refine inb_n ?_
        refine then_n ?_
        refine reg ?_
        refine pr 2 [(65, vi (w64 (s5.2 + 1)))] h fun a h => ?_
        refine ops_end ?_
        obtain rfl := Option.some.inj hm
        exact lp_n rfl ⟨p15, c15, r_7, h.to 2 ⟨(h.g 0), (h.g 4), (h.g 6), (h.g 7), (h.g 8), trivial⟩⟩
      replace hm := ifF hb6 hm
      refine wp_exit ?_
      refine then_e (lp_e (inb_hit ?_))
      replace hm := loopR hr4 hm
      refine inb_n ?_
      refine then_n ?_
      refine reg ?_
      refine pr 3 [(10, vi (w64 (s4.2 + 1)))] h fun a h => ?_
      refine ops_end ?_
      obtain rfl := Option.some.inj hm
      exact lp_n rfl ⟨p12, c12, r_6, h.to 2 ⟨(h.g 0), (h.g 2), (h.g 3), (h.g 4), trivial⟩⟩
    replace hm := ifF hb5 hm
    refine wp_exit ?_
    refine then_e (lp_e (inb_hit ?_))
    replace hm := loopR hr3 hm
    refine then_n ?_
    refine reg ?_
    refine pr 2 [(7, vi (len s3.1))] h fun a h => ?_
    refine ops_end ?_
    refine inb_n ?_
    refine then_n ?_
    refine reg ?_
    refine pr 3 [(8, vi (w64 (s3.2.2 + 1)))] h fun a h => ?_
    refine ops_end ?_
    obtain rfl := Option.some.inj hm
    exact lp_n rfl ⟨p9, c9, r_5, h.to 2 ⟨(h.g 0), (h.g 1), (h.g 2), (h.g 3), trivial⟩⟩
  replace hm := ifF hb4 hm
  refine wp_exit ?_
  refine then_e (lp_e (inb_hit ?_))
  replace hm := loopR hr2 hm
  refine then_n ?_
  refine sp [(3, vi 0), (2, .slice p8 (List.length s3.1) c8)] h fun a h => ?_
  refine wp_ret ?_
  obtain rfl := Option.some.inj hm
  have h := h.share 1 (h.g 0)
  exact rtg h rfl (vs := [.slice p8 (List.length s3.1) c8, vi 0]) (resT rfl (resT rfl resN)) ⟨p8, c8, rfl, bk_sel h [] ⟨(h.g 0), trivial⟩⟩

theorem c_law09_awake {A : List Nat} {w0 : World} {r : Bool} (hO : Own A w0 []) (hF : All [] (bl [] ++ A) w0) (hm : m_law09_awake = some r) :
    Calls Tryz.prog 17 [].toArray w0 (Ret fun v w => v = vb r ∧ Bk A [] w0 [] [] w) := by
  unfold m_law09_awake at hm
  refine ent Tryz.func17 rfl hO hF fun a h => ?_
  refine sp [] h fun a h => ?_
  refine sr ?_
  refine pr 2 [(11, .agg #[vb true, vs [112]]), (10, .agg #[vb false, vs [112]])] h fun a h => ?_
  refine sl (b_alloc h rfl fun b1 a w h e => ?_)
  refine sl (b_alloc h rfl fun b2 a w h e => ?_)
  refine sl (b_store_own 0 h rfl rfl rfl fun a w h e => ?_)
  refine sl (b_store_own 1 h rfl rfl rfl fun a w h e => ?_)
  refine oe ?_
  refine sr ?_
  refine sl (b_load_own 0 (.agg #[vb false, vs [112]]) h rfl rfl fun a h => ?_)
  refine pr 1 [(13, .agg #[vb false, vs [112], vi 2, vi 1, vs []])] h fun a h => ?_
  refine sl (b_load_own 1 (.agg #[vb true, vs [112]]) h rfl rfl fun a h => ?_)
  refine pr 1 [(15, .agg #[vb true, vs [112], vi 2, vi 2, vs []])] h fun a h => ?_
  refine sl (b_bs_rd (te := 68) (e := e_Premise) [vb false, vs [112], vi 2, vi 1, vs [], vb true, vs [112], vi 2, vi 2, vs []] ([((false, [112]), 2, 1, []), ((true, [112]), 2, 2, [])] : List T_Premise) h ⟨_, _, rfl, eProd.mk (eProd.mk eBool.mk eStr.mk) (eProd.mk eInt.mk (eProd.mk eInt.mk eStr.mk)), ⟨_, _, rfl, eProd.mk (eProd.mk eBool.mk eStr.mk) (eProd.mk eInt.mk (eProd.mk eInt.mk eStr.mk)), rfl⟩⟩ fun p1 c1 a w h e => ?_)
  refine pr 1 [(17, .agg #[.slice p1 (List.length ([((false, [112]), 2, 1, []), ((true, [112]), 2, 2, [])] : List T_Premise)) c1, .slice none 0 0, .slice none 0 0])] h fun a h => ?_
  refine sl (b_alloc h rfl fun b3 a w h e => ?_)
  refine sl (b_store_own 2 h rfl rfl rfl fun a w h e => ?_)
  refine oe ?_
  refine sr ?_
  refine sl (b_load_own 2 (.agg #[.slice p1 (List.length ([((false, [112]), 2, 1, []), ((true, [112]), 2, 2, [])] : List T_Premise)) c1, .slice none 0 0, .slice none 0 0]) h rfl rfl fun a h => ?_)
  obtain ⟨r1, h1, hm⟩ := bnd hm
  refine sl (b_call [] [] h Tryz.call29 rfl rfl (c_ref07_Build (y0 := (([((false, [112]), 2, 1, []), ((true, [112]), 2, 2, [])] : List T_Premise), ([] : List T_Rule), ([] : List T_Promotion))) (h.po [] []) ⟨(h.pf [] [] 0), (rnil _ _ _ _ _), (rnil _ _ _ _ _), trivial⟩ h1) fun v a w hp hc => ?_)
  obtain ⟨p2, c2, rfl, q⟩ := hp
  have h := hc.on q [bx b1 61 [vb false, vs [112]], bx b2 61 [vb true, vs [112]], bx b3 31 [.slice p1 (List.length ([((false, [112]), 2, 1, []), ((true, [112]), 2, 2, [])] : List T_Premise)) c1, .slice none 0 0, .slice none 0 0]]
  refine pr 5 [(5, vi r1.2), (4, .slice p2 (List.length r1.1) c2)] h fun a h => ?_
  refine oe ?_
  refine sr ?_
  refine sl (b_load_own 2 (.agg #[.slice p1 (List.length ([((false, [112]), 2, 1, []), ((true, [112]), 2, 2, [])] : List T_Premise)) c1, .slice none 0 0, .slice none 0 0]) h rfl rfl fun a h => ?_)
  refine pr 1 [(24, .slice p2 (List.length r1.1) c2)] h fun a h => ?_
  obtain ⟨r2, h2, hm⟩ := bnd hm
  refine sl (b_call [] [] h Tryz.call12 rfl rfl (c_attack_Attacks (y0 := (([((false, [112]), 2, 1, []), ((true, [112]), 2, 2, [])] : List T_Premise), ([] : List T_Rule), ([] : List T_Promotion))) (y1 := r1.1) (h.po [] []) ⟨(h.pf [] [] 1), (rnil _ _ _ _ _), (rnil _ _ _ _ _), (h.pf [] [] 0), trivial⟩ h2) fun v a w hp hc => ?_)
  obtain ⟨p3, c3, r_1, rfl, q⟩ := hp
  have h := hc.on q [bx b1 61 [vb false, vs [112]], bx b2 61 [vb true, vs [112]], bx b3 31 [.slice p1 (List.length ([((false, [112]), 2, 1, []), ((true, [112]), 2, 2, [])] : List T_Premise)) c1, .slice none 0 0, .slice none 0 0], r_1]
  refine pr 1 [(6, .slice p3 (List.length r2) c3)] h fun a h => ?_
  refine oe ?_
  refine sr ?_
  refine sl (b_load_own 2 (.agg #[.slice p1 (List.length ([((false, [112]), 2, 1, []), ((true, [112]), 2, 2, [])] : List T_Premise)) c1, .slice none 0 0, .slice none 0 0]) h rfl rfl fun a h => ?_)
  refine pr 2 [(28, .agg #[vi 1, vi 1]), (27, .slice p2 (List.length r1.1) c2)] h fun a h => ?_
  obtain ⟨r3, h3, hm⟩ := bnd hm
  refine sl (b_call [] [] h Tryz.call15 rfl rfl (c_attack_Defeats (y0 := (([((false, [112]), 2, 1, []), ((true, [112]), 2, 2, [])] : List T_Premise), ([] : List T_Rule), ([] : List T_Promotion))) (y1 := r1.1) (y2 := (1, 1)) (h.po [] []) ⟨(h.pf [] [] 2), (rnil _ _ _ _ _), (rnil _ _ _ _ _), (h.pf [] [] 1), trivial⟩ h3) fun v a w hp hc => ?_)
  obtain ⟨p4, c4, rfl, q⟩ := hp
  have h := hc.on q [bx b1 61 [vb false, vs [112]], bx b2 61 [vb true, vs [112]], bx b3 31 [.slice p1 (List.length ([((false, [112]), 2, 1, []), ((true, [112]), 2, 2, [])] : List T_Premise)) c1, .slice none 0 0, .slice none 0 0], r_1]
  refine pr 1 [(7, .slice p4 (List.length r3) c4)] h fun a h => ?_
  refine oe ?_
  refine sr ?_
  refine pr 1 [(31, .slice p4 (List.length r3) c4)] h fun a h => ?_
  obtain ⟨r4, h4, hm⟩ := bnd hm
  refine sl (b_call [] [] h Tryz.call20 rfl rfl (c_attack_Graph (y0 := 2) (y1 := r3) (h.po [] []) ⟨(h.pf [] [] 0), trivial⟩ h4) fun v a w hp hc => ?_)
  obtain ⟨p5, c5, rfl, q⟩ := hp
  have h := hc.on q [bx b1 61 [vb false, vs [112]], bx b2 61 [vb true, vs [112]], bx b3 31 [.slice p1 (List.length ([((false, [112]), 2, 1, []), ((true, [112]), 2, 2, [])] : List T_Premise)) c1, .slice none 0 0, .slice none 0 0], r_1]
  refine pr 3 [(34, vi r4.2), (33, .agg #[vi r4.1.1, .slice p5 (List.length r4.1.2) c5])] h fun a h => ?_
  refine sl (b_alloc h rfl fun b4 a w h e => ?_)
  refine sl (b_store_own 4 h rfl rfl rfl fun a w h e => ?_)
  refine pr 1 [(9, vi r4.2)] h fun a h => ?_
  refine oe ?_
  obtain ⟨s1, hx, hm⟩ := bnd hm
  refine seq_j (fun a w => SS A [] w0 69 [(0, vb s1)] [[], [], [], [], []] [] a w) ?_ ?_
  · replace hm := hx
    refine reg ?_
    refine pr 3 [(37, vb (r1.2 == 0))] h fun a h => ?_
    rcases Bool.eq_false_or_eq_true (r1.2 == 0) with hb1 | hb1
    · have h := h.upd (t := 37) (vb true) rfl (congrArg Value.bool hb1)
      replace hm := ifT hb1 hm
      refine pr 5 [(42, vb ((len r2) == 2))] h fun a h => ?_
      rcases Bool.eq_false_or_eq_true ((len r2) == 2) with hb2 | hb2
      · have h := h.upd (t := 42) (vb true) rfl (congrArg Value.bool hb2)
        replace hm := ifT hb2 hm
        refine pr 5 [(47, vb ((len r3) == 1))] h fun a h => ?_
        rcases Bool.eq_false_or_eq_true ((len r3) == 1) with hb3 | hb3
        · have h := h.upd (t := 47) (vb true) rfl (congrArg Value.bool hb3)
          replace hm := ifT hb3 hm
          refine pr 1 [(48, .slice p4 (List.length r3) c4)] h fun a h => ?_
          obtain ⟨x1, h5, hm⟩ := bnd hm
          refine sl (b_index_rd h (h.g 1) rfl rfl h5 fun b5 o1 a h => ?_)
          refine sl (b_load_pt true h (h.g 0) rfl fun ci1 hc1 v1 hv1 a h => ?_)
          replace hc1 : E.rd e_Attack _ _ ci1 x1 := hc1
          obtain ⟨_, _, rfl, rfl, ⟨_, _, rfl, rfl, ⟨_, _, rfl, rfl, rfl⟩⟩⟩ := hc1
          obtain rfl := Option.some.inj hv1
          have h := h.upd (t := 50) (.agg #[vi x1.1, vi x1.2.1, vi x1.2.2.1, vi x1.2.2.2]) rfl rfl
          refine pr 4 [(54, vb (x1 == (1, 0, 0, 1)))] h fun a h => ?_
          rcases Bool.eq_false_or_eq_true (x1 == (1, 0, 0, 1)) with hb4 | hb4
          · have h := h.upd (t := 54) (vb true) rfl (congrArg Value.bool hb4)
            replace hm := ifT hb4 hm
            refine pr 4 [(58, vb (r4.2 == 0))] h fun a h => ?_
            rcases Bool.eq_false_or_eq_true (r4.2 == 0) with hb5 | hb5
            · have h := h.upd (t := 58) (vb true) rfl (congrArg Value.bool hb5)
              replace hm := ifT hb5 hm
              refine pr 1 [(59, .pointer (some ⟨b4, 0, none⟩))] h fun a h => ?_
              refine sl (b_load_own 4 (vi r4.1.1) h rfl rfl fun a h => ?_)
              refine pr 3 [(63, vb (r4.1.1 == 2))] h fun a h => ?_
              rcases Bool.eq_false_or_eq_true (r4.1.1 == 2) with hb6 | hb6
              · have h := h.upd (t := 63) (vb true) rfl (congrArg Value.bool hb6)
                replace hm := ifT hb6 hm
                refine pr 1 [(64, .pointer (some ⟨b4, 1, none⟩))] h fun a h => ?_
                refine sl (b_load_own 4 (.slice p5 (List.length r4.1.2) c5) h rfl rfl fun a h => ?_)
                refine pr 4 [(0, vb ((len r4.1.2) == 1))] h fun a h => ?_
                refine ops_end ?_
                obtain rfl := Option.some.inj hm
                exact then_n (h.tos [900, 901, 902, 903, 904] trivial)
              · have h := h.upd (t := 63) (vb false) rfl (congrArg Value.bool hb6)
                replace hm := ifF hb6 hm
                refine pr 6 [(0, vb false)] h fun a h => ?_
                refine ops_end ?_
                obtain rfl := Option.some.inj hm
                exact then_n (h.tos [900, 901, 902, 903, 904] trivial)
            · have h := h.upd (t := 58) (vb false) rfl (congrArg Value.bool hb5)
              replace hm := ifF hb5 hm
              refine pr 11 [(0, vb false)] h fun a h => ?_
              refine ops_end ?_
              obtain rfl := Option.some.inj hm
              exact then_n (h.tos [900, 901, 902, 903, 904] trivial)
          · have h := h.upd (t := 54) (vb false) rfl (congrArg Value.bool hb4)
            replace hm := ifF hb4 hm
            refine pr 15 [(0, vb false)] h fun a h => ?_
            refine ops_end ?_
            obtain rfl := Option.some.inj hm
            exact then_n (h.tos [900, 901, 902, 903, 904] trivial)
        · have h := h.upd (t := 47) (vb false) rfl (congrArg Value.bool hb3)
          replace hm := ifF hb3 hm
          refine pr 22 [(0, vb false)] h fun a h => ?_
          refine ops_end ?_
          obtain rfl := Option.some.inj hm
          exact then_n (h.tos [900, 901, 902, 903, 904] trivial)
      · have h := h.upd (t := 42) (vb false) rfl (congrArg Value.bool hb2)
        replace hm := ifF hb2 hm
        refine pr 27 [(0, vb false)] h fun a h => ?_
        refine ops_end ?_
        obtain rfl := Option.some.inj hm
        exact then_n (h.tos [900, 901, 902, 903, 904] trivial)
    · have h := h.upd (t := 37) (vb false) rfl (congrArg Value.bool hb1)
      replace hm := ifF hb1 hm
      refine pr 32 [(0, vb false)] h fun a h => ?_
      refine ops_end ?_
      obtain rfl := Option.some.inj hm
      exact then_n (h.tos [900, 901, 902, 903, 904] trivial)
  intro a w hJ
  have h := hJ
  refine wp_ret ?_
  obtain rfl := Option.some.inj hm
  exact rt1 h rfl rfl ⟨rfl, bk_sel h [] trivial⟩

theorem c_keep_Mod {A : List Nat} {w0 : World} {y0 : Int} {y1 : Int} {r : Int} (hO : Own A w0 []) (hF : All [] (bl [] ++ A) w0) (hm : m_keep_Mod y0 y1 = some r) :
    Calls Tryz.prog 42 [vi y0, vi y1].toArray w0 (Ret fun v w => v = vi r ∧ Bk A [] w0 [] [] w) := by
  unfold m_keep_Mod at hm
  refine ent Tryz.func42 rfl hO hF fun a h => ?_
  refine sp [] h fun a h => ?_
  refine wp_seq ?_
  refine sp [(6, vb (decide (y1 < 1)))] h fun a h => ?_
  refine cb h rfl (fun hb1 => ?_) (fun hb1 => ?_)
  · replace hm := ifT hb1 hm
    refine sp [(4, vi 0)] h fun a h => ?_
    refine wp_ret ?_
    refine then_r ?_
    obtain rfl := Option.some.inj hm
    exact rt1 h rfl rfl ⟨rfl, bk_sel h [] trivial⟩
  replace hm := ifF hb1 hm
  refine wp_skip ?_
  refine then_n ?_
  refine sr ?_
  refine pr 2 [(8, vi y1), (7, vi y0)] h fun a h => ?_
  obtain ⟨x1, h1, hm⟩ := bnd hm
  refine sl (b_val h (r_remK h.s rfl rfl h1) fun a h => ?_)
  refine pr 1 [(0, vi x1)] h fun a h => ?_
  refine oe ?_
  refine wp_seq ?_
  refine sp [(11, vb (decide (x1 < 0)))] h fun a h => ?_
  refine cb h rfl (fun hb2 => ?_) (fun hb2 => ?_)
  · replace hm := ifT hb2 hm
    refine reg ?_
    refine pr 4 [(0, vi (w64 (x1 + y1)))] h fun a h => ?_
    refine ops_end ?_
    refine then_n ?_
    refine sp [(4, vi (w64 (x1 + y1)))] h fun a h => ?_
    refine wp_ret ?_
    obtain rfl := Option.some.inj hm
    exact rt1 h rfl rfl ⟨rfl, bk_sel h [] trivial⟩
  replace hm := ifF hb2 hm
  refine wp_skip ?_
  refine then_n ?_
  refine sp [(4, vi x1)] h fun a h => ?_
  refine wp_ret ?_
  obtain rfl := Option.some.inj hm
  exact rt1 h rfl rfl ⟨rfl, bk_sel h [] trivial⟩

theorem c_keep_RuleName {A : List Nat} {w0 : World} {y0 : Int} {r : Str} (hO : Own A w0 []) (hF : All [] (bl [] ++ A) w0) (hm : m_keep_RuleName y0 = some r) :
    Calls Tryz.prog 52 [vi y0].toArray w0 (Ret fun v w => v = vs r ∧ Bk A [] w0 [] [] w) := by
  unfold m_keep_RuleName at hm
  refine ent Tryz.func52 rfl hO hF fun a h => ?_
  refine sp [] h fun a h => ?_
  refine sr ?_
  refine pr 1 [(3, vi y0)] h fun a h => ?_
  obtain ⟨r1, h1, hm⟩ := bnd hm
  refine sl (b_call [] [] h Tryz.call42 rfl rfl (c_keep_Mod (y0 := y0) (y1 := 26) (h.po [] []) trivial h1) fun v a w hp hc => ?_)
  obtain ⟨rfl, q⟩ := hp
  have h := hc.on q []
  refine pr 2 [(6, .int .u8 (IntKind.u8.wrap (w64 (97 + r1))))] h fun a h => ?_
  refine sl (b_bs_rd (te := 5) (e := eInt .u8) [.int .u8 (IntKind.u8.wrap (w64 (97 + r1)))] ([IntKind.u8.wrap (w64 (97 + r1))] : List Int) h ⟨_, _, rfl, eInt.mk, rfl⟩ fun p1 c1 a w h e => ?_)
  refine sl (b_strOf h (h.g 0) rfl Tryz.underlying118 Tryz.underlying5 Tryz.underlying9 fun a h => ?_)
  obtain ⟨x1, h2, hm⟩ := bnd hm
  refine sl (b_val h (r_cat h.s rfl rfl h2) fun a h => ?_)
  refine pr 1 [(2, vs x1)] h fun a h => ?_
  refine oe ?_
  refine wp_ret ?_
  obtain rfl := Option.some.inj hm
  exact rt1 h rfl rfl ⟨rfl, bk_sel h [] trivial⟩

theorem c_keep_Src_Raw {A : List Nat} {w0 : World} {y0 : T_keep_Src} {b1 : Nat} {p1 : Option Addr} {c1 : Nat} {r : Int × Int} (hO : Own A w0 [bx b1 71 [.slice p1 (List.length y0.1) c1, vi y0.2]]) (hF : All [R (eInt .i64) p1 c1 (List.length y0.1) y0.1] (bl [bx b1 71 [.slice p1 (List.length y0.1) c1, vi y0.2]] ++ A) w0) (hm : m_keep_Src_Raw y0 = some r) :
    Calls Tryz.prog 43 [.pointer (some ⟨b1, 0, none⟩)].toArray w0 (Ret fun v w => v = vi r.1 ∧ Bk A [bx b1 71 [.slice p1 (List.length y0.1) c1, vi y0.2]] w0 [bx b1 71 [.slice p1 (List.length y0.1) c1, vi r.2]] [] w) := by
  unfold m_keep_Src_Raw at hm
  refine ent Tryz.func43 rfl hO hF fun a h => ?_
  refine sp [] h fun a h => ?_
  refine wp_seq ?_
  refine ds [] [0] h fun w h => ?_
  refine dp 0 (.pointer (some ⟨b1, 0, none⟩)) h rfl fun a h => ?_
  refine dp 1 (.pointer (some ⟨b1, 0, none⟩)) h rfl fun a h => ?_
  refine dp 2 (.pointer (some ⟨b1, 1, none⟩)) h rfl fun a h => ?_
  refine dlo 3 0 (vi y0.2) h rfl rfl rfl fun a h => ?_
  refine dp 4 (.pointer (some ⟨b1, 0, none⟩)) h rfl fun a h => ?_
  refine dp 5 (.pointer (some ⟨b1, 0, none⟩)) h rfl fun a h => ?_
  refine dp 6 (.pointer (some ⟨b1, 0, none⟩)) h rfl fun a h => ?_
  refine dlo 7 0 (.slice p1 (List.length y0.1) c1) h rfl rfl rfl fun a h => ?_
  refine dp 8 (vi (len y0.1)) h rfl fun a h => ?_
  refine dp 9 (vb (decide ((len y0.1) ≤ y0.2))) h rfl fun a h => ?_
  refine de (then_n ?_)
  refine cb h rfl (fun hb1 => ?_) (fun hb1 => ?_)
  · replace hm := ifT hb1 hm
    refine sp [(2, vi 0)] h fun a h => ?_
    refine wp_ret ?_
    refine then_r ?_
    obtain rfl := Option.some.inj hm
    exact rt1 h rfl rfl ⟨rfl, bk_sel h [0] trivial⟩
  replace hm := ifF hb1 hm
  refine wp_skip ?_
  refine then_n ?_
  refine sr ?_
  refine pr 3 [(15, .pointer (some ⟨b1, 1, none⟩)), (13, .pointer (some ⟨b1, 0, none⟩))] h fun a h => ?_
  refine sl (b_load_own 0 (vi y0.2) h rfl rfl fun a h => ?_)
  refine pr 3 [(19, .pointer (some ⟨b1, 1, none⟩)), (17, vi (w64 (y0.2 + 1)))] h fun a h => ?_
  refine sl (b_store_own 0 h rfl rfl rfl fun a w h e => ?_)
  refine oe ?_
  refine ds [] [0] h fun w h => ?_
  refine dp 0 (.pointer (some ⟨b1, 0, none⟩)) h rfl fun a h => ?_
  refine dp 1 (.pointer (some ⟨b1, 0, none⟩)) h rfl fun a h => ?_
  refine dp 2 (.pointer (some ⟨b1, 0, none⟩)) h rfl fun a h => ?_
  refine dlo 3 0 (.slice p1 (List.length y0.1) c1) h rfl rfl rfl fun a h => ?_
  refine dp 4 (.pointer (some ⟨b1, 0, none⟩)) h rfl fun a h => ?_
  refine dp 5 (.pointer (some ⟨b1, 0, none⟩)) h rfl fun a h => ?_
  refine dp 6 (.pointer (some ⟨b1, 1, none⟩)) h rfl fun a h => ?_
  refine dlo 7 0 (vi (w64 (y0.2 + 1))) h rfl rfl rfl fun a h => ?_
  refine dp 8 (vi (w64 ((w64 (y0.2 + 1)) - 1))) h rfl fun a h => ?_
  obtain ⟨x1, h1, hm⟩ := bnd hm
  refine dir 9 h rfl (h.g 0) rfl rfl h1 fun b2 o1 a h => ?_
  refine dlp 10 false h rfl (h.g 0) rfl fun ci1 hc1 v1 hv1 a h => ?_
  replace hc1 : E.rd (eInt .i64) _ _ ci1 x1 := hc1
  obtain rfl := hc1
  obtain rfl := Option.some.inj hv1
  refine dp 11 (vi x1) h rfl fun a h => ?_
  refine de (then_n ?_)
  refine wp_ret ?_
  obtain rfl := Option.some.inj hm
  exact rt1 h rfl rfl ⟨rfl, bk_sel h [0] trivial⟩

theorem c_keep_Src_N {A : List Nat} {w0 : World} {y0 : T_keep_Src} {b1 : Nat} {p1 : Option Addr} {c1 : Nat} {y1 : Int} {r : Int × Int} (hO : Own A w0 [bx b1 71 [.slice p1 (List.length y0.1) c1, vi y0.2]]) (hF : All [R (eInt .i64) p1 c1 (List.length y0.1) y0.1] (bl [bx b1 71 [.slice p1 (List.length y0.1) c1, vi y0.2]] ++ A) w0) (hm : m_keep_Src_N y0 y1 = some r) :
    Calls Tryz.prog 18 [.pointer (some ⟨b1, 0, none⟩), vi y1].toArray w0 (Ret fun v w => v = vi r.1 ∧ Bk A [bx b1 71 [.slice p1 (List.length y0.1) c1, vi y0.2]] w0 [bx b1 71 [.slice p1 (List.length y0.1) c1, vi r.2]] [] w) := by
  unfold m_keep_Src_N at hm
  refine ent Tryz.func18 rfl hO hF fun a h => ?_
  refine sp [] h fun a h => ?_
  refine sr ?_
  refine pr 1 [(5, .pointer (some ⟨b1, 0, none⟩))] h fun a h => ?_
  obtain ⟨r1, h1, hm⟩ := bnd hm
  refine sl (b_call [0] [] h Tryz.call43 rfl rfl (c_keep_Src_Raw (y0 := y0) (h.po [0] []) ⟨(h.pf [0] [] 0), trivial⟩ h1) fun v a w hp hc => ?_)
  obtain ⟨rfl, q⟩ := hp
  have h := hc.on q [bx b1 71 [.slice p1 (List.length y0.1) c1, vi r1.2]]
  refine pr 1 [(7, vi y1)] h fun a h => ?_
  obtain ⟨r2, h2, hm⟩ := bnd hm
  refine sl (b_call [] [] h Tryz.call42 rfl rfl (c_keep_Mod (y0 := r1.1) (y1 := y1) (h.po [] []) trivial h2) fun v a w hp hc => ?_)
  obtain ⟨rfl, q⟩ := hp
  have h := hc.on q [bx b1 71 [.slice p1 (List.length y0.1) c1, vi r1.2]]
  refine pr 1 [(4, vi r2)] h fun a h => ?_
  refine oe ?_
  refine wp_ret ?_
  obtain rfl := Option.some.inj hm
  exact rt1 h rfl rfl ⟨rfl, bk_sel h [0] trivial⟩

theorem c_keep_Src_Literal {A : List Nat} {w0 : World} {y0 : T_keep_Src} {b1 : Nat} {p1 : Option Addr} {c1 : Nat} {y1 : Int} {r : T_Literal × Int} (hO : Own A w0 [bx b1 71 [.slice p1 (List.length y0.1) c1, vi y0.2]]) (hF : All [R (eInt .i64) p1 c1 (List.length y0.1) y0.1] (bl [bx b1 71 [.slice p1 (List.length y0.1) c1, vi y0.2]] ++ A) w0) (hm : m_keep_Src_Literal y0 y1 = some r) :
    Calls Tryz.prog 50 [.pointer (some ⟨b1, 0, none⟩), vi y1].toArray w0 (Ret fun v w => v = .agg #[vb r.1.1, vs r.1.2] ∧ Bk A [bx b1 71 [.slice p1 (List.length y0.1) c1, vi y0.2]] w0 [bx b1 71 [.slice p1 (List.length y0.1) c1, vi r.2]] [] w) := by
  unfold m_keep_Src_Literal at hm
  refine ent Tryz.func50 rfl hO hF fun a h => ?_
  refine sr ?_
  refine sl (b_alloc h rfl fun b2 a w h e => ?_)
  refine oe ?_
  refine sr ?_
  refine pr 3 [(8, vi (w64 (2 * y1))), (6, .pointer (some ⟨b1, 0, none⟩))] h fun a h => ?_
  obtain ⟨r1, h1, hm⟩ := bnd hm
  refine sl (b_call [0] [] h Tryz.call18 rfl rfl (c_keep_Src_N (y0 := y0) (y1 := w64 (2 * y1)) (h.po [0] []) ⟨(h.pf [0] [] 0), trivial⟩ h1) fun v a w hp hc => ?_)
  obtain ⟨rfl, q⟩ := hp
  have h := hc.on q [bx b1 71 [.slice p1 (List.length y0.1) c1, vi r1.2], bx b2 61 [vb false, vs []]]
  refine pr 1 [(5, vi r1.1)] h fun a h => ?_
  refine oe ?_
  refine sr ?_
  refine pr 4 [(13, vi r1.1), (12, vb ((band .i64 r1.1 1) == 1))] h fun a h => ?_
  obtain ⟨x1, h2, hm⟩ := bnd hm
  refine sl (b_val h (r_quoK h.s rfl rfl h2) fun a h => ?_)
  refine pr 2 [(16, .int .u8 (IntKind.u8.wrap (w64 (97 + x1))))] h fun a h => ?_
  refine sl (b_bs_rd (te := 5) (e := eInt .u8) [.int .u8 (IntKind.u8.wrap (w64 (97 + x1)))] ([IntKind.u8.wrap (w64 (97 + x1))] : List Int) h ⟨_, _, rfl, eInt.mk, rfl⟩ fun p2 c2 a w h e => ?_)
  refine sl (b_strOf h (h.g 0) rfl Tryz.underlying118 Tryz.underlying5 Tryz.underlying9 fun a h => ?_)
  refine pr 1 [(19, .agg #[vb ((band .i64 r1.1 1) == 1), vs (strOf ([IntKind.u8.wrap (w64 (97 + x1))] : List Int))])] h fun a h => ?_
  refine sl (b_store_own 1 h rfl rfl rfl fun a w h e => ?_)
  refine oe ?_
  refine wp_ret ?_
  obtain rfl := Option.some.inj hm
  exact rtg h rfl (vs := [.agg #[vb ((band .i64 r1.1 1) == 1), vs (strOf ([IntKind.u8.wrap (w64 (97 + x1))] : List Int))]]) (rtc 1 h rfl rfl resN) ⟨rfl, bk_sel h [0] trivial⟩

theorem c_keep_Src_Literals {A : List Nat} {w0 : World} {y0 : T_keep_Src} {b1 : Nat} {p1 : Option Addr} {c1 : Nat} {y1 : Int} {y2 : Int} {r : (List T_Literal) × Int} (hO : Own A w0 [bx b1 71 [.slice p1 (List.length y0.1) c1, vi y0.2]]) (hF : All [R (eInt .i64) p1 c1 (List.length y0.1) y0.1] (bl [bx b1 71 [.slice p1 (List.length y0.1) c1, vi y0.2]] ++ A) w0) (hm : m_keep_Src_Literals y0 y1 y2 = some r) :
    Calls Tryz.prog 54 [.pointer (some ⟨b1, 0, none⟩), vi y1, vi y2].toArray w0 (Ret fun v w => ∃ (p2 : Option Addr) (c2 : Nat), v = .slice p2 (List.length r.1) c2 ∧ Bk A [bx b1 71 [.slice p1 (List.length y0.1) c1, vi y0.2]] w0 [bx b1 71 [.slice p1 (List.length y0.1) c1, vi r.2]] [R e_Literal p2 c2 (List.length r.1) r.1] w) := by
  unfold m_keep_Src_Literals at hm
  refine ent Tryz.func54 rfl hO hF fun a h => ?_
  refine sp [] h fun a h => ?_
  refine sr ?_
  refine pr 1 [(7, .slice none 0 0)] h fun a h => ?_
  have h := h.room e_Literal 61
  refine oe ?_
  refine wp_seq ?_
  refine sr ?_
  refine pr 3 [(11, vi (w64 (y1 + 1))), (9, .pointer (some ⟨b1, 0, none⟩))] h fun a h => ?_
  obtain ⟨r1, h1, hm⟩ := bnd hm
  refine sl (b_call [0] [] h Tryz.call18 rfl rfl (c_keep_Src_N (y0 := y0) (y1 := w64 (y1 + 1)) (h.po [0] []) ⟨(h.pf [0] [] 1), trivial⟩ h1) fun v a w hp hc => ?_)
  obtain ⟨rfl, q⟩ := hp
  have h := hc.on q [bx b1 71 [.slice p1 (List.length y0.1) c1, vi r1.2], []]
  refine pr 1 [(8, vi r1.1)] h fun a h => ?_
  refine oe ?_
  refine wp_block ?_
  refine loop_m (B := (m_keep_Src_Literals_L1 y0 y2)) (fun (s1 : (List T_Literal) × Int × Int) a w => ∃ (p2 : Option Addr) (c2 : Nat) (r_1 : Res), SS A [bx b1 71 [.slice p1 (List.length y0.1) c1, vi y0.2]] w0 24 [(0, .pointer (some ⟨b1, 0, none⟩)), (2, vi y2), (7, .slice p2 (List.length s1.1) c2), (8, vi s1.2.1)] [bx b1 71 [.slice p1 (List.length y0.1) c1, vi s1.2.2], r_1] [Ar e_Literal 61 r_1 p2 c2 (List.length s1.1) s1.1, R (eInt .i64) p1 c1 (List.length y0.1) y0.1] a w) hm ⟨none, 0, [], h.to 2 ⟨(h.g 0), (h.g 1), trivial⟩⟩ ?_
  intro s1 a w o1 hJ hm hr1
  obtain ⟨p2, c2, r_1, h⟩ := hJ
  unfold m_keep_Src_Literals_L1 at hm
  refine wp_seq ?_
  refine sp [(14, vb (decide (0 < s1.2.1)))] h fun a h => ?_
  refine cb h rfl (fun hb1 => ?_) (fun hb1 => ?_)
  · replace hm := ifT hb1 hm
    refine wp_skip ?_
    refine then_n ?_
    refine wp_seq ?_
    refine wp_block ?_
    refine reg ?_
    refine pr 3 [(19, vi y2), (18, .pointer (some ⟨b1, 0, none⟩)), (17, .slice p2 (List.length s1.1) c2)] h fun a h => ?_
    obtain ⟨r2, h2, hm⟩ := bnd hm
    refine sl (b_call [0] [] h Tryz.call50 rfl rfl (c_keep_Src_Literal (y0 := (y0.1, s1.2.2)) (y1 := y2) (h.po [0] []) ⟨(h.pf [0] [] 1), trivial⟩ h2) fun v a w hp hc => ?_)
    obtain ⟨rfl, q⟩ := hp
    have h := hc.on q [bx b1 71 [.slice p1 (List.length y0.1) c1, vi r2.2], r_1]
    refine sl (b_bs_rd (te := 61) (e := e_Literal) [vb r2.1.1, vs r2.1.2] ([r2.1] : List T_Literal) h ⟨_, _, rfl, eProd.mk eBool.mk eStr.mk, rfl⟩ fun p3 c3 a w h e => ?_)
    obtain ⟨x1, h3, hm⟩ := bnd hm
    refine sl (b_append_r (te := 61) 1 h (h.g 1) (h.g 0) rfl rfl h3 fun r_2 p4 c4 a w h e => ?_)
    refine pr 1 [(7, .slice p4 (List.length x1) c4)] h fun a h => ?_
    refine ops_end ?_
    refine inb_n ?_
    refine then_n ?_
    refine reg ?_
    refine pr 3 [(8, vi (w64 (s1.2.1 - 1)))] h fun a h => ?_
    refine ops_end ?_
    obtain rfl := Option.some.inj hm
    exact lp_n rfl ⟨p4, c4, r_2, h.to 2 ⟨(h.g 0), (h.g 3), trivial⟩⟩
  replace hm := ifF hb1 hm
  refine wp_exit ?_
  refine then_e (lp_e (inb_hit ?_))
  replace hm := loopR hr1 hm
  refine then_n ?_
  refine sp [(6, .slice p2 (List.length s1.1) c2)] h fun a h => ?_
  refine wp_ret ?_
  obtain rfl := Option.some.inj hm
  have h := h.share 1 (h.g 0)
  exact rt1 h rfl rfl ⟨p2, c2, rfl, bk_sel h [0] ⟨(h.g 0), trivial⟩⟩

theorem c_keep_Src_Pick {A : List Nat} {w0 : World} {y0 : T_keep_Src} {b1 : Nat} {p1 : Option Addr} {c1 : Nat} {y1 : List Int} {p2 : Option Addr} {c2 : Nat} {r : Int × Int} (hO : Own A w0 [bx b1 71 [.slice p1 (List.length y0.1) c1, vi y0.2]]) (hF : All [R (eInt .i64) p1 c1 (List.length y0.1) y0.1, R (eInt .i64) p2 c2 (List.length y1) y1] (bl [bx b1 71 [.slice p1 (List.length y0.1) c1, vi y0.2]] ++ A) w0) (hm : m_keep_Src_Pick y0 y1 = some r) :
    Calls Tryz.prog 19 [.pointer (some ⟨b1, 0, none⟩), .slice p2 (List.length y1) c2].toArray w0 (Ret fun v w => v = vi r.1 ∧ Bk A [bx b1 71 [.slice p1 (List.length y0.1) c1, vi y0.2]] w0 [bx b1 71 [.slice p1 (List.length y0.1) c1, vi r.2]] [] w) := by
  unfold m_keep_Src_Pick at hm
  refine ent Tryz.func19 rfl hO hF fun a h => ?_
  refine sp [] h fun a h => ?_
  refine sr ?_
  refine pr 4 [(8, vi (len y1)), (6, .pointer (some ⟨b1, 0, none⟩)), (5, .slice p2 (List.length y1) c2)] h fun a h => ?_
  obtain ⟨r1, h1, hm⟩ := bnd hm
  refine sl (b_call [0] [] h Tryz.call18 rfl rfl (c_keep_Src_N (y0 := y0) (y1 := len y1) (h.po [0] []) ⟨(h.pf [0] [] 0), trivial⟩ h1) fun v a w hp hc => ?_)
  obtain ⟨rfl, q⟩ := hp
  have h := hc.on q [bx b1 71 [.slice p1 (List.length y0.1) c1, vi r1.2]]
  obtain ⟨x1, h2, hm⟩ := bnd hm
  refine sl (b_index_rd h (h.g 1) rfl rfl h2 fun b2 o1 a h => ?_)
  refine sl (b_load_pt false h (h.g 0) rfl fun ci1 hc1 v1 hv1 a h => ?_)
  replace hc1 : E.rd (eInt .i64) _ _ ci1 x1 := hc1
  obtain rfl := hc1
  obtain rfl := Option.some.inj hv1
  refine pr 1 [(4, vi x1)] h fun a h => ?_
  refine oe ?_
  refine wp_ret ?_
  obtain rfl := Option.some.inj hm
  exact rt1 h rfl rfl ⟨rfl, bk_sel h [0] trivial⟩

theorem c_keep_Src_Text {A : List Nat} {w0 : World} {y0 : T_keep_Src} {b1 : Nat} {p1 : Option Addr} {c1 : Nat} {y1 : List Str} {p2 : Option Addr} {c2 : Nat} {r : Str × Int} (hO : Own A w0 [bx b1 71 [.slice p1 (List.length y0.1) c1, vi y0.2]]) (hF : All [R (eInt .i64) p1 c1 (List.length y0.1) y0.1, R eStr p2 c2 (List.length y1) y1] (bl [bx b1 71 [.slice p1 (List.length y0.1) c1, vi y0.2]] ++ A) w0) (hm : m_keep_Src_Text y0 y1 = some r) :
    Calls Tryz.prog 51 [.pointer (some ⟨b1, 0, none⟩), .slice p2 (List.length y1) c2].toArray w0 (Ret fun v w => v = vs r.1 ∧ Bk A [bx b1 71 [.slice p1 (List.length y0.1) c1, vi y0.2]] w0 [bx b1 71 [.slice p1 (List.length y0.1) c1, vi r.2]] [] w) := by
  unfold m_keep_Src_Text at hm
  refine ent Tryz.func51 rfl hO hF fun a h => ?_
  refine sp [] h fun a h => ?_
  refine sr ?_
  refine pr 4 [(8, vi (len y1)), (6, .pointer (some ⟨b1, 0, none⟩)), (5, .slice p2 (List.length y1) c2)] h fun a h => ?_
  obtain ⟨r1, h1, hm⟩ := bnd hm
  refine sl (b_call [0] [] h Tryz.call18 rfl rfl (c_keep_Src_N (y0 := y0) (y1 := len y1) (h.po [0] []) ⟨(h.pf [0] [] 0), trivial⟩ h1) fun v a w hp hc => ?_)
  obtain ⟨rfl, q⟩ := hp
  have h := hc.on q [bx b1 71 [.slice p1 (List.length y0.1) c1, vi r1.2]]
  obtain ⟨x1, h2, hm⟩ := bnd hm
  refine sl (b_index_rd h (h.g 1) rfl rfl h2 fun b2 o1 a h => ?_)
  refine sl (b_load_pt false h (h.g 0) rfl fun ci1 hc1 v1 hv1 a h => ?_)
  replace hc1 : E.rd eStr _ _ ci1 x1 := hc1
  obtain rfl := hc1
  obtain rfl := Option.some.inj hv1
  refine pr 1 [(4, vs x1)] h fun a h => ?_
  refine oe ?_
  refine wp_ret ?_
  obtain rfl := Option.some.inj hm
  exact rt1 h rfl rfl ⟨rfl, bk_sel h [0] trivial⟩

theorem c_keep_sorted {A : List Nat} {w0 : World} {y0 : List T_Literal} {p1 : Option Addr} {c1 : Nat} {r : (List T_Literal)} (hO : Own A w0 []) (hF : All [R e_Literal p1 c1 (List.length y0) y0] (bl [] ++ A) w0) (hm : m_keep_sorted y0 = some r) :
    Calls Tryz.prog 53 [.slice p1 (List.length y0) c1].toArray w0 (Ret fun v w => ∃ (p2 : Option Addr) (c2 : Nat), v = .slice p2 (List.length r) c2 ∧ Bk A [] w0 [] [R e_Literal p2 c2 (List.length r) r] w) := by
  unfold m_keep_sorted at hm
  refine ent Tryz.func53 rfl hO hF fun a h => ?_
  refine sp [] h fun a h => ?_
  refine sr ?_
  refine pr 1 [(3, .slice none 0 0)] h fun a h => ?_
  have h := h.room e_Literal 61
  refine oe ?_
  refine wp_seq ?_
  refine sp [(9, vi 0), (8, vi (len y0)), (7, .slice p1 (List.length y0) c1)] h fun a h => ?_
  refine wp_block ?_
  refine loop_m (B := (m_keep_sorted_L1 y0)) (fun (s1 : (List T_Literal) × Int) a w => ∃ (p2 : Option Addr) (c2 : Nat) (r_1 : Res), SS A [] w0 81 [(3, .slice p2 (List.length s1.1) c2), (7, .slice p1 (List.length y0) c1), (8, vi (len y0)), (9, vi s1.2)] [r_1] [Ar e_Literal 61 r_1 p2 c2 (List.length s1.1) s1.1, R e_Literal p1 c1 (List.length y0) y0] a w) hm ⟨none, 0, [], h.to 1 ⟨(h.g 0), (h.g 1), trivial⟩⟩ ?_
  intro s1 a w o1 hJ hm hr1
  obtain ⟨p2, c2, r_1, h⟩ := hJ
  unfold m_keep_sorted_L1 at hm
  refine sp [(10, vb (decide (s1.2 < (len y0))))] h fun a h => ?_
  refine wp_seq ?_
  refine cb h rfl (fun hb1 => ?_) (fun hb1 => ?_)
  · replace hm := ifT hb1 hm
    refine wp_skip ?_
    refine then_n ?_
    refine wp_seq ?_
    refine wp_block ?_
    refine sr ?_
    obtain ⟨x1, h1, hm⟩ := bnd hm
    refine sl (b_index_rd h (h.g 1) rfl rfl h1 fun b1 o2 a h => ?_)
    refine sl (b_load_pt true h (h.g 0) rfl fun ci1 hc1 v1 hv1 a h => ?_)
    replace hc1 : E.rd e_Literal _ _ ci1 x1 := hc1
    obtain ⟨_, _, rfl, rfl, rfl⟩ := hc1
    obtain rfl := Option.some.inj hv1
    have h := h.upd (t := 12) (.agg #[vb x1.1, vs x1.2]) rfl rfl
    refine sl (b_alloc h rfl fun b2 a w h e => ?_)
    refine sl (b_store_own 1 h rfl rfl rfl fun a w h e => ?_)
    refine oe ?_
    refine sp [(6, vi 0)] h fun a h => ?_
    obtain ⟨s2, hx, hm⟩ := bnd hm
    refine seq_j (fun a w => SS A [] w0 81 [(3, .slice p2 (List.length s1.1) c2), (5, .pointer (some ⟨b2, 0, none⟩)), (6, vi s2), (7, .slice p1 (List.length y0) c1), (8, vi (len y0)), (9, vi s1.2)] [r_1, bx b2 61 [vb x1.1, vs x1.2]] [Ar e_Literal 61 r_1 p2 c2 (List.length s1.1) s1.1, R e_Literal p1 c1 (List.length y0) y0] a w) ?_ ?_
    · have hm2 := hm
      replace hm := hx
      refine wp_block ?_
      refine loop_m (B := (m_keep_sorted_L2 s1 x1)) (fun (s3 : Int) a w => SS A [] w0 81 [(3, .slice p2 (List.length s1.1) c2), (5, .pointer (some ⟨b2, 0, none⟩)), (6, vi s3), (7, .slice p1 (List.length y0) c1), (8, vi (len y0)), (9, vi s1.2)] [r_1, bx b2 61 [vb x1.1, vs x1.2]] [Ar e_Literal 61 r_1 p2 c2 (List.length s1.1) s1.1, R e_Literal p1 c1 (List.length y0) y0] a w) hm (h.to 2 ⟨(h.g 1), (h.g 2), trivial⟩) ?_
      intro s3 a w o3 hJ hm hr2
      have h := hJ
      unfold m_keep_sorted_L2 at hm
      refine wp_seq ?_
      obtain ⟨s4, hx, hm⟩ := bnd hm
      refine seq_j (fun a w => SS A [] w0 81 [(3, .slice p2 (List.length s1.1) c2), (5, .pointer (some ⟨b2, 0, none⟩)), (6, vi s3), (7, .slice p1 (List.length y0) c1), (8, vi (len y0)), (9, vi s1.2), (48, vb s4)] [r_1, bx b2 61 [vb x1.1, vs x1.2]] [Ar e_Literal 61 r_1 p2 c2 (List.length s1.1) s1.1, R e_Literal p1 c1 (List.length y0) y0] a w) ?_ ?_
      · replace hm := hx
        refine ds' [] [0, 1] h fun w h => ?_
        refine dp 0 (vi s3) h rfl fun a h => ?_
        refine dp 1 (.slice p2 (List.length s1.1) c2) h rfl fun a h => ?_
        refine dp 2 (vi (len s1.1)) h rfl fun a h => ?_
        refine dp 3 (vb (decide (s3 < (len s1.1)))) h rfl fun a h => ?_
        refine dp 4 (vb (decide (s3 < (len s1.1)))) h rfl fun a h => ?_
        rcases Bool.eq_false_or_eq_true (decide (s3 < (len s1.1))) with hb2 | hb2
        · have h := h.upd (t := 17) (vb true) rfl (congrArg Value.bool hb2)
          replace hm := ifT hb2 hm
          refine dp 5 (.slice p2 (List.length s1.1) c2) h rfl fun a h => ?_
          refine dp 6 (vi s3) h rfl fun a h => ?_
          obtain ⟨x2, h2, hm⟩ := bnd hm
          refine dia 7 h rfl (h.g 0) rfl rfl h2 fun b3 hp1 a h => ?_
          refine dp 8 (.pointer (some ⟨b3, Int.toNat s3 * 2 + 1, none⟩)) h rfl fun a h => ?_
          refine dla 9 0 ((Sub.id e_Literal).snd) false h rfl (h.g 0) hp1 h2 rfl fun ci2 hc2 v2 hv2 a h => ?_
          replace hc2 : E.rd eStr _ _ ci2 x2.2 := hc2
          obtain rfl := hc2
          obtain rfl := Option.some.inj hv2
          refine dp 10 (.pointer (some ⟨b2, 1, none⟩)) h rfl fun a h => ?_
          refine dlo 11 1 (vs x1.2) h rfl rfl rfl fun a h => ?_
          refine dp 12 (vb (sless x2.2 x1.2)) h rfl fun a h => ?_
          refine dp 13 (vb (sless x2.2 x1.2)) h rfl fun a h => ?_
          rcases Bool.eq_false_or_eq_true (sless x2.2 x1.2) with hb3 | hb3
          · have h := h.upd (t := 26) (vb true) rfl (congrArg Value.bool hb3)
            replace hm := ifT hb3 hm
            refine dk 14 h rfl fun a h => ?_
            refine dk 15 h rfl fun a h => ?_
            refine dk 16 h rfl fun a h => ?_
            refine dk 17 h rfl fun a h => ?_
            refine dk 18 h rfl fun a h => ?_
            refine dk 19 h rfl fun a h => ?_
            refine dk 20 h rfl fun a h => ?_
            refine dk 21 h rfl fun a h => ?_
            refine dk 22 h rfl fun a h => ?_
            refine dk 23 h rfl fun a h => ?_
            refine dk 24 h rfl fun a h => ?_
            refine dk 25 h rfl fun a h => ?_
            refine dk 26 h rfl fun a h => ?_
            refine dk 27 h rfl fun a h => ?_
            refine dk 28 h rfl fun a h => ?_
            refine dk 29 h rfl fun a h => ?_
            refine dk 30 h rfl fun a h => ?_
            refine dk 31 h rfl fun a h => ?_
            refine dk 32 h rfl fun a h => ?_
            refine dk 33 h rfl fun a h => ?_
            refine dp 34 (vb true) h rfl fun a h => ?_
            refine dp 35 (vb true) h rfl fun a h => ?_
            refine de ?_
            obtain rfl := Option.some.inj hm
            exact then_n (h.to 2 ⟨(h.g 0), (h.g 1), trivial⟩)
          · have h := h.upd (t := 26) (vb false) rfl (congrArg Value.bool hb3)
            replace hm := ifF hb3 hm
            refine dp 14 (.slice p2 (List.length s1.1) c2) h rfl fun a h => ?_
            refine dp 15 (vi s3) h rfl fun a h => ?_
            obtain ⟨x3, h3, hm⟩ := bnd hm
            refine dia 16 h rfl (h.g 0) rfl rfl h3 fun b4 hp2 a h => ?_
            refine dp 17 (.pointer (some ⟨b4, Int.toNat s3 * 2 + 1, none⟩)) h rfl fun a h => ?_
            refine dla 18 0 ((Sub.id e_Literal).snd) false h rfl (h.g 0) hp2 h3 rfl fun ci3 hc3 v3 hv3 a h => ?_
            replace hc3 : E.rd eStr _ _ ci3 x3.2 := hc3
            obtain rfl := hc3
            obtain rfl := Option.some.inj hv3
            refine dp 19 (.pointer (some ⟨b2, 1, none⟩)) h rfl fun a h => ?_
            refine dlo 20 1 (vs x1.2) h rfl rfl rfl fun a h => ?_
            refine dp 21 (vb (x3.2 == x1.2)) h rfl fun a h => ?_
            refine dp 22 (vb (x3.2 == x1.2)) h rfl fun a h => ?_
            rcases Bool.eq_false_or_eq_true (x3.2 == x1.2) with hb4 | hb4
            · have h := h.upd (t := 35) (vb true) rfl (congrArg Value.bool hb4)
              replace hm := ifT hb4 hm
              refine dp 23 (.slice p2 (List.length s1.1) c2) h rfl fun a h => ?_
              refine dp 24 (vi s3) h rfl fun a h => ?_
              obtain ⟨x4, h4, hm⟩ := bnd hm
              refine dia 25 h rfl (h.g 0) rfl rfl h4 fun b5 hp3 a h => ?_
              refine dp 26 (.pointer (some ⟨b5, Int.toNat s3 * 2, none⟩)) h rfl fun a h => ?_
              refine dla 27 0 ((Sub.id e_Literal).fst) false h rfl (h.g 0) hp3 h4 rfl fun ci4 hc4 v4 hv4 a h => ?_
              replace hc4 : E.rd eBool _ _ ci4 x4.1 := hc4
              obtain rfl := hc4
              obtain rfl := Option.some.inj hv4
              refine dp 28 (vb (!x4.1)) h rfl fun a h => ?_
              refine dp 29 (vb (!x4.1)) h rfl fun a h => ?_
              refine dp 30 (vb (!x4.1)) h rfl fun a h => ?_
              rcases Bool.eq_false_or_eq_true (!x4.1) with hb5 | hb5
              · have h := h.upd (t := 43) (vb true) rfl (congrArg Value.bool hb5)
                replace hm := ifT hb5 hm
                refine dp 31 (.pointer (some ⟨b2, 0, none⟩)) h rfl fun a h => ?_
                refine dlo 32 1 (vb x1.1) h rfl rfl rfl fun a h => ?_
                refine dp 33 (vb x1.1) h rfl fun a h => ?_
                refine dp 34 (vb x1.1) h rfl fun a h => ?_
                refine dp 35 (vb x1.1) h rfl fun a h => ?_
                refine de ?_
                obtain rfl := Option.some.inj hm
                exact then_n (h.to 2 ⟨(h.g 0), (h.g 1), trivial⟩)
              · have h := h.upd (t := 43) (vb false) rfl (congrArg Value.bool hb5)
                replace hm := ifF hb5 hm
                refine dk 31 h rfl fun a h => ?_
                refine dk 32 h rfl fun a h => ?_
                refine dp 33 (vb false) h rfl fun a h => ?_
                refine dp 34 (vb false) h rfl fun a h => ?_
                refine dp 35 (vb false) h rfl fun a h => ?_
                refine de ?_
                obtain rfl := Option.some.inj hm
                exact then_n (h.to 2 ⟨(h.g 0), (h.g 1), trivial⟩)
            · have h := h.upd (t := 35) (vb false) rfl (congrArg Value.bool hb4)
              replace hm := ifF hb4 hm
              refine dk 23 h rfl fun a h => ?_
              refine dk 24 h rfl fun a h => ?_
              refine dk 25 h rfl fun a h => ?_
              refine dk 26 h rfl fun a h => ?_
              refine dk 27 h rfl fun a h => ?_
              refine dk 28 h rfl fun a h => ?_
              refine dp 29 (vb false) h rfl fun a h => ?_
              refine dp 30 (vb false) h rfl fun a h => ?_
              refine dk 31 h rfl fun a h => ?_
              refine dk 32 h rfl fun a h => ?_
              refine dp 33 (vb false) h rfl fun a h => ?_
              refine dp 34 (vb false) h rfl fun a h => ?_
              refine dp 35 (vb false) h rfl fun a h => ?_
              refine de ?_
              obtain rfl := Option.some.inj hm
              exact then_n (h.to 2 ⟨(h.g 0), (h.g 1), trivial⟩)
        · have h := h.upd (t := 17) (vb false) rfl (congrArg Value.bool hb2)
          replace hm := ifF hb2 hm
          refine dk 5 h rfl fun a h => ?_
          refine dk 6 h rfl fun a h => ?_
          refine dk 7 h rfl fun a h => ?_
          refine dk 8 h rfl fun a h => ?_
          refine dk 9 h rfl fun a h => ?_
          refine dk 10 h rfl fun a h => ?_
          refine dk 11 h rfl fun a h => ?_
          refine dk 12 h rfl fun a h => ?_
          refine dk 13 h rfl fun a h => ?_
          refine dk 14 h rfl fun a h => ?_
          refine dk 15 h rfl fun a h => ?_
          refine dk 16 h rfl fun a h => ?_
          refine dk 17 h rfl fun a h => ?_
          refine dk 18 h rfl fun a h => ?_
          refine dk 19 h rfl fun a h => ?_
          refine dk 20 h rfl fun a h => ?_
          refine dk 21 h rfl fun a h => ?_
          refine dk 22 h rfl fun a h => ?_
          refine dk 23 h rfl fun a h => ?_
          refine dk 24 h rfl fun a h => ?_
          refine dk 25 h rfl fun a h => ?_
          refine dk 26 h rfl fun a h => ?_
          refine dk 27 h rfl fun a h => ?_
          refine dk 28 h rfl fun a h => ?_
          refine dk 29 h rfl fun a h => ?_
          refine dk 30 h rfl fun a h => ?_
          refine dk 31 h rfl fun a h => ?_
          refine dk 32 h rfl fun a h => ?_
          refine dk 33 h rfl fun a h => ?_
          refine dk 34 h rfl fun a h => ?_
          refine dp 35 (vb false) h rfl fun a h => ?_
          refine de ?_
          obtain rfl := Option.some.inj hm
          exact then_n (h.to 2 ⟨(h.g 0), (h.g 1), trivial⟩)
      intro a w hJ
      have h := hJ
      refine cb h rfl (fun hb6 => ?_) (fun hb6 => ?_)
      · replace hm := ifT hb6 hm
        refine wp_skip ?_
        refine then_n ?_
        refine wp_block ?_
        refine reg ?_
        refine pr 3 [(6, vi (w64 (s3 + 1)))] h fun a h => ?_
        refine ops_end ?_
        refine inb_n ?_
        obtain rfl := Option.some.inj hm
        exact lp_n rfl (h.to 2 ⟨(h.g 0), (h.g 1), trivial⟩)
      replace hm := ifF hb6 hm
      refine wp_exit ?_
      refine then_e (lp_e (inb_hit ?_))
      replace hm := loopR hr2 hm
      obtain rfl := Option.some.inj hm
      exact then_n (h.to 2 ⟨(h.g 0), (h.g 1), trivial⟩)
    intro a w hJ
    have h := hJ
    refine wp_seq ?_
    obtain ⟨s5, hx, hm⟩ := bnd hm
    refine seq_j (fun a w => SS A [] w0 81 [(3, .slice p2 (List.length s1.1) c2), (5, .pointer (some ⟨b2, 0, none⟩)), (6, vi s2), (7, .slice p1 (List.length y0) c1), (8, vi (len y0)), (9, vi s1.2), (62, vb s5)] [r_1, bx b2 61 [vb x1.1, vs x1.2]] [Ar e_Literal 61 r_1 p2 c2 (List.length s1.1) s1.1, R e_Literal p1 c1 (List.length y0) y0] a w) ?_ ?_
    · replace hm := hx
      refine ds' [] [0, 1] h fun w h => ?_
      refine dp 0 (vi s2) h rfl fun a h => ?_
      refine dp 1 (.slice p2 (List.length s1.1) c2) h rfl fun a h => ?_
      refine dp 2 (vi (len s1.1)) h rfl fun a h => ?_
      refine dp 3 (vb (decide (s2 < (len s1.1)))) h rfl fun a h => ?_
      refine dp 4 (vb (decide (s2 < (len s1.1)))) h rfl fun a h => ?_
      rcases Bool.eq_false_or_eq_true (decide (s2 < (len s1.1))) with hb7 | hb7
      · have h := h.upd (t := 55) (vb true) rfl (congrArg Value.bool hb7)
        replace hm := ifT hb7 hm
        refine dp 5 (.slice p2 (List.length s1.1) c2) h rfl fun a h => ?_
        refine dp 6 (vi s2) h rfl fun a h => ?_
        obtain ⟨x5, h5, hm⟩ := bnd hm
        refine dia 7 h rfl (h.g 0) rfl rfl h5 fun b6 hp4 a h => ?_
        refine dla 8 0 ((Sub.id e_Literal)) true h rfl (h.g 0) hp4 h5 rfl fun ci5 hc5 v5 hv5 a h => ?_
        replace hc5 : E.rd e_Literal _ _ ci5 x5 := hc5
        obtain ⟨_, _, rfl, rfl, rfl⟩ := hc5
        obtain rfl := Option.some.inj hv5
        have h := h.upd (t := 59) (.agg #[vb x5.1, vs x5.2]) rfl rfl
        refine dlo 9 1 (.agg #[vb x1.1, vs x1.2]) h rfl rfl rfl fun a h => ?_
        refine dp 10 (vb (x5 == x1)) h rfl fun a h => ?_
        refine dp 11 (vb (x5 == x1)) h rfl fun a h => ?_
        refine de ?_
        obtain rfl := Option.some.inj hm
        exact then_n (h.to 2 ⟨(h.g 0), (h.g 1), trivial⟩)
      · have h := h.upd (t := 55) (vb false) rfl (congrArg Value.bool hb7)
        replace hm := ifF hb7 hm
        refine dk 5 h rfl fun a h => ?_
        refine dk 6 h rfl fun a h => ?_
        refine dk 7 h rfl fun a h => ?_
        refine dk 8 h rfl fun a h => ?_
        refine dk 9 h rfl fun a h => ?_
        refine dk 10 h rfl fun a h => ?_
        refine dp 11 (vb false) h rfl fun a h => ?_
        refine de ?_
        obtain rfl := Option.some.inj hm
        exact then_n (h.to 2 ⟨(h.g 0), (h.g 1), trivial⟩)
    intro a w hJ
    have h := hJ
    refine cb h rfl (fun hb8 => ?_) (fun hb8 => ?_)
    · replace hm := ifT hb8 hm
      refine wp_exit ?_
      refine then_e (inb_hit ?_)
      refine then_n ?_
      refine reg ?_
      refine pr 2 [(9, vi (w64 (s1.2 + 1)))] h fun a h => ?_
      refine ops_end ?_
      obtain rfl := Option.some.inj hm
      exact lp_n rfl ⟨p2, c2, r_1, h.to 1 ⟨(h.g 0), (h.g 1), trivial⟩⟩
    replace hm := ifF hb8 hm
    refine wp_skip ?_
    refine then_n ?_
    refine sr ?_
    refine pr 2 [(64, .agg #[vb false, vs []]), (63, .slice p2 (List.length s1.1) c2)] h fun a h => ?_
    refine sl (b_bs_rd (te := 61) (e := e_Literal) [vb false, vs []] ([(false, [])] : List T_Literal) h ⟨_, _, rfl, eProd.mk eBool.mk eStr.mk, rfl⟩ fun p3 c3 a w h e => ?_)
    obtain ⟨x6, h6, hm⟩ := bnd hm
    refine sl (b_append_r (te := 61) 0 h (h.g 1) (h.g 0) rfl rfl h6 fun r_2 p4 c4 a w h e => ?_)
    refine pr 1 [(3, .slice p4 (List.length x6) c4)] h fun a h => ?_
    refine oe ?_
    refine ds [] [] h fun w h => ?_
    refine dp 0 (.slice p4 (List.length x6) c4) h rfl fun a h => ?_
    refine dp 1 (vi s2) h rfl fun a h => ?_
    refine dp 2 (vi (w64 (s2 + 1))) h rfl fun a h => ?_
    obtain ⟨u1, h7, hm⟩ := bnd hm
    refine dslice_view 3 h rfl (h.g 0) rfl rfl h7 fun p5 c5 f1 a h => ?_
    refine dp 4 (.slice p4 (List.length x6) c4) h rfl fun a h => ?_
    refine dp 5 (vi s2) h rfl fun a h => ?_
    obtain ⟨u2, h8, hm⟩ := bnd hm
    refine dslice_view 6 h rfl (h.g 0) rfl rfl h8 fun p6 c6 f2 a h => ?_
    refine d1 7 rfl ?_
    refine b_copy_view (te := 61) 0 (k := (w64 (s2 + 1))) h (h.g 0) f1 (Vw.src f2 (h.g 0).1 (h.g 0).2.symm h.o (i := 0) rfl) rfl rfl fun r_3 a w h e => ?_
    refine dn h e ?_
    refine de (then_n ?_)
    refine reg ?_
    refine pr 2 [(76, vi s2), (75, .slice p4 (List.length x6) c4)] h fun a h => ?_
    refine sl (b_load_own 1 (.agg #[vb x1.1, vs x1.2]) h rfl rfl fun a h => ?_)
    obtain ⟨x7, h9, hm⟩ := bnd hm
    refine sl (b_index_arr h (h.g 0) rfl rfl h9 fun b7 hp5 a h => ?_)
    refine sl (b_store_arr 0 ((Sub.id e_Literal)) (v := .agg #[vb x1.1, vs x1.2]) x1 true h (h.g 0) hp5 h9 rfl rfl (eProd.mk eBool.mk eStr.mk) fun r_4 a w h e => ?_)
    refine ops_end ?_
    refine inb_n ?_
    refine then_n ?_
    refine reg ?_
    refine pr 2 [(9, vi (w64 (s1.2 + 1)))] h fun a h => ?_
    refine ops_end ?_
    obtain rfl := Option.some.inj hm
    have h := h.upd (t := 3) (.slice p4 (List.length (List.set (copyAt x6 (w64 (s2 + 1)) (List.drop (Int.toNat s2) x6)) (Int.toNat s2) x1)) c4) rfl (congrArg (fun q : Nat => Value.slice p4 q c4) (Ar.ln (h.g 0)))
    have h := h.add (Ar.re (h.g 0))
    exact lp_n rfl ⟨p4, c4, r_4, h.to 1 ⟨(h.g 0), (h.g 6), trivial⟩⟩
  replace hm := ifF hb1 hm
  refine wp_exit ?_
  refine then_e (lp_e (inb_hit ?_))
  replace hm := loopR hr1 hm
  refine then_n ?_
  refine sp [(2, .slice p2 (List.length s1.1) c2)] h fun a h => ?_
  refine wp_ret ?_
  obtain rfl := Option.some.inj hm
  have h := h.share 0 (h.g 0)
  exact rt1 h rfl rfl ⟨p2, c2, rfl, bk_sel h [] ⟨(h.g 0), trivial⟩⟩

end Go.Proofs.YtofgcpbdgokpjaaGreat
