/- The Go functions compute their models: printed by program (gd2). Conditions: none. -/
import Derived.Test.YtofgcpbdgokpjaaGreatWalk3
namespace Go.Proofs.YtofgcpbdgokpjaaGreat
open Go Go.GD
set_option autoImplicit false
set_option maxRecDepth 100000

theorem c_law09_AttackWhole {A : List Nat} {w0 : World} {y0 : List Int} {p1 : Option Addr} {c1 : Nat} {r : Bool} (hO : Own A w0 []) (hF : All [R (eInt .i64) p1 c1 (List.length y0) y0] (bl [] ++ A) w0) (hm : m_law09_AttackWhole y0 = some r) :
    Calls Tryz.prog 5 [.slice p1 (List.length y0) c1].toArray w0 (Ret fun v w => v = vb r ∧ Bk A [] w0 [] [] w) := by
  unfold m_law09_AttackWhole at hm
  refine ent Tryz.func5 rfl hO hF fun a h => ?_
  refine sp [] h fun a h => ?_
  refine sr ?_
  refine pr 1 [(14, .slice p1 (List.length y0) c1)] h fun a h => ?_
  obtain ⟨r1, h1, hm⟩ := bnd hm
  refine sl (b_call [] [] h Tryz.call9 rfl rfl (c_keep_New (y0 := y0) (h.po [] []) ⟨(h.pf [] [] 0), trivial⟩ h1) fun v a w hp hc => ?_)
  obtain ⟨b1, p2, c2, rfl, q⟩ := hp
  have h := hc.on q [bx b1 71 [.slice p2 (List.length r1.1) c2, vi r1.2]]
  refine pr 1 [(3, .pointer (some ⟨b1, 0, none⟩))] h fun a h => ?_
  refine oe ?_
  refine sr ?_
  refine pr 1 [(17, .pointer (some ⟨b1, 0, none⟩))] h fun a h => ?_
  obtain ⟨r2, h2, hm⟩ := bnd hm
  refine sl (b_call [0] [] h Tryz.call10 rfl rfl (c_law09_built (y0 := r1) (h.po [0] []) ⟨(h.pf [0] [] 0), trivial⟩ h2) fun v a w hp hc => ?_)
  obtain ⟨p3, c3, p4, c4, p5, c5, p6, c6, rfl, q⟩ := hp
  have h := hc.on q [bx b1 71 [.slice p2 (List.length r1.1) c2, vi r2.2.2]]
  refine pr 3 [(20, .slice p6 (List.length r2.2.1) c6), (19, .agg #[.slice p3 (List.length r2.1.1) c3, .slice p4 (List.length r2.1.2.1) c4, .slice p5 (List.length r2.1.2.2) c5])] h fun a h => ?_
  refine sl (b_alloc h rfl fun b2 a w h e => ?_)
  refine sl (b_store_own 1 h rfl rfl rfl fun a w h e => ?_)
  refine pr 1 [(5, .slice p6 (List.length r2.2.1) c6)] h fun a h => ?_
  refine oe ?_
  refine sr ?_
  refine sl (b_load_own 1 (.agg #[.slice p3 (List.length r2.1.1) c3, .slice p4 (List.length r2.1.2.1) c4, .slice p5 (List.length r2.1.2.2) c5]) h rfl rfl fun a h => ?_)
  refine pr 1 [(22, .slice p6 (List.length r2.2.1) c6)] h fun a h => ?_
  obtain ⟨r3, h3, hm⟩ := bnd hm
  refine sl (b_call [] [] h Tryz.call12 rfl rfl (c_attack_Attacks (y0 := r2.1) (y1 := r2.2.1) (h.po [] []) ⟨(h.pf [] [] 0), (h.pf [] [] 1), (h.pf [] [] 2), (h.pf [] [] 3), trivial⟩ h3) fun v a w hp hc => ?_)
  obtain ⟨p7, c7, r_1, rfl, q⟩ := hp
  have h := hc.on q [bx b1 71 [.slice p2 (List.length r1.1) c2, vi r2.2.2], bx b2 31 [.slice p3 (List.length r2.1.1) c3, .slice p4 (List.length r2.1.2.1) c4, .slice p5 (List.length r2.1.2.2) c5], r_1]
  refine pr 1 [(6, .slice p7 (List.length r3) c7)] h fun a h => ?_
  refine oe ?_
  obtain ⟨os1, hx, hm⟩ := bnd hm
  refine seq_j (fun a w => ∃ s1 : Unit, os1 = .inl s1 ∧ (SS A [] w0 81 [] [[], [], []] [] a w)) ?_ ?_
  · have hm2 := hm
    replace hm := hx
    refine sr ?_
    obtain ⟨r4, h4, hm⟩ := bnd hm
    refine sl (b_call [] [] h Tryz.call14 rfl rfl (c_keep_Orderings (h.po [] []) trivial h4) fun v a w hp hc => ?_)
    obtain ⟨p8, c8, r_2, rfl, q⟩ := hp
    have h := hc.on q [bx b1 71 [.slice p2 (List.length r1.1) c2, vi r2.2.2], bx b2 31 [.slice p3 (List.length r2.1.1) c3, .slice p4 (List.length r2.1.2.1) c4, .slice p5 (List.length r2.1.2.2) c5], r_1, r_2]
    refine pr 2 [(26, vi 0), (25, vi (len r4))] h fun a h => ?_
    refine oe ?_
    refine wp_block ?_
    refine loop_m (B := (m_law09_AttackWhole_L1 r4 r2 r3)) (fun (s2 : Int) a w => SS A [] w0 81 [(4, .pointer (some ⟨b2, 0, none⟩)), (5, .slice p6 (List.length r2.2.1) c6), (6, .slice p7 (List.length r3) c7), (24, .slice p8 (List.length r4) c8), (25, vi (len r4)), (26, vi s2)] [[], bx b2 31 [.slice p3 (List.length r2.1.1) c3, .slice p4 (List.length r2.1.2.1) c4, .slice p5 (List.length r2.1.2.2) c5], r_1, r_2] [R e_Argument p6 c6 (List.length r2.2.1) r2.2.1, Ar e_Attack 45 r_1 p7 c7 (List.length r3) r3, Ar e_Ordering 24 r_2 p8 c8 (List.length r4) r4, R e_Premise p3 c3 (List.length r2.1.1) r2.1.1, R e_Rule p4 c4 (List.length r2.1.2.1) r2.1.2.1, R e_Promotion p5 c5 (List.length r2.1.2.2) r2.1.2.2] a w) hm (h.tos [900, 1, 2, 3] ⟨(h.g 5), (h.g 1), (h.g 0), (h.g 2), (h.g 3), (h.g 4), trivial⟩) ?_
    intro s2 a w o1 hJ hm hr1
    have h := hJ
    unfold m_law09_AttackWhole_L1 at hm
    refine sp [(27, vb (decide (s2 < (len r4))))] h fun a h => ?_
    refine wp_seq ?_
    refine cb h rfl (fun hb1 => ?_) (fun hb1 => ?_)
    · replace hm := ifT hb1 hm
      refine wp_skip ?_
      refine then_n ?_
      refine wp_seq ?_
      refine wp_block ?_
      refine sr ?_
      obtain ⟨x1, h5, hm⟩ := bnd hm
      refine sl (b_index_arr h (h.g 2) rfl rfl h5 fun b3 hp1 a h => ?_)
      refine sl (b_load_arr 3 ((Sub.id e_Ordering)) true h (h.g 2) hp1 h5 rfl fun ci1 hc1 v1 hv1 a h => ?_)
      replace hc1 : E.rd e_Ordering _ _ ci1 x1 := hc1
      obtain ⟨_, _, rfl, rfl, rfl⟩ := hc1
      obtain rfl := Option.some.inj hv1
      have h := h.upd (t := 29) (.agg #[vi x1.1, vi x1.2]) rfl rfl
      refine sl (b_alloc h rfl fun b4 a w h e => ?_)
      refine sl (b_store_own 4 h rfl rfl rfl fun a w h e => ?_)
      refine oe ?_
      refine sr ?_
      refine sl (b_load_own 1 (.agg #[.slice p3 (List.length r2.1.1) c3, .slice p4 (List.length r2.1.2.1) c4, .slice p5 (List.length r2.1.2.2) c5]) h rfl rfl fun a h => ?_)
      refine pr 1 [(31, .slice p6 (List.length r2.2.1) c6)] h fun a h => ?_
      refine sl (b_load_own 4 (.agg #[vi x1.1, vi x1.2]) h rfl rfl fun a h => ?_)
      obtain ⟨r5, h6, hm⟩ := bnd hm
      refine sl (b_call [] [] h Tryz.call15 rfl rfl (c_attack_Defeats (y0 := r2.1) (y1 := r2.2.1) (y2 := x1) (h.po [] []) ⟨(h.pf [] [] 3), (h.pf [] [] 4), (h.pf [] [] 5), (h.pf [] [] 0), trivial⟩ h6) fun v a w hp hc => ?_)
      obtain ⟨p9, c9, rfl, q⟩ := hp
      have h := hc.on q [[], bx b2 31 [.slice p3 (List.length r2.1.1) c3, .slice p4 (List.length r2.1.2.1) c4, .slice p5 (List.length r2.1.2.2) c5], r_1, r_2, bx b4 24 [vi x1.1, vi x1.2]]
      refine pr 1 [(9, .slice p9 (List.length r5) c9)] h fun a h => ?_
      refine oe ?_
      refine sp [(36, vi 0), (35, vi (len r2.2.1))] h fun a h => ?_
      refine wp_block ?_
      refine loop_m (B := (m_law09_AttackWhole_L2 r2 r3 r5 s2)) (fun (s3 : Int) a w => SS A [] w0 81 [(4, .pointer (some ⟨b2, 0, none⟩)), (5, .slice p6 (List.length r2.2.1) c6), (6, .slice p7 (List.length r3) c7), (9, .slice p9 (List.length r5) c9), (24, .slice p8 (List.length r4) c8), (25, vi (len r4)), (26, vi s2), (35, vi (len r2.2.1)), (36, vi s3)] [[], bx b2 31 [.slice p3 (List.length r2.1.1) c3, .slice p4 (List.length r2.1.2.1) c4, .slice p5 (List.length r2.1.2.2) c5], r_1, r_2, []] [R e_Argument p6 c6 (List.length r2.2.1) r2.2.1, Ar e_Attack 45 r_1 p7 c7 (List.length r3) r3, Ar e_Ordering 24 r_2 p8 c8 (List.length r4) r4, R e_Attack p9 c9 (List.length r5) r5, R e_Premise p3 c3 (List.length r2.1.1) r2.1.1, R e_Rule p4 c4 (List.length r2.1.2.1) r2.1.2.1, R e_Promotion p5 c5 (List.length r2.1.2.2) r2.1.2.2] a w) hm (h.tos [900, 1, 2, 3, 904] ⟨(h.g 1), (h.g 2), (h.g 3), (h.g 0), (h.g 4), (h.g 5), (h.g 6), trivial⟩) ?_
      intro s3 a w o2 hJ hm hr2
      have h := hJ
      unfold m_law09_AttackWhole_L2 at hm
      refine sp [(37, vb (decide (s3 < (len r2.2.1))))] h fun a h => ?_
      refine wp_seq ?_
      refine cb h rfl (fun hb2 => ?_) (fun hb2 => ?_)
      · replace hm := ifT hb2 hm
        refine wp_skip ?_
        refine then_n ?_
        refine wp_seq ?_
        refine wp_block ?_
        refine sp [(10, vi s3)] h fun a h => ?_
        refine sr ?_
        refine pr 2 [(40, vi s3), (39, .slice p6 (List.length r2.2.1) c6)] h fun a h => ?_
        obtain ⟨r6, h7, hm⟩ := bnd hm
        refine sl (b_call [] [] h Tryz.call23 rfl rfl (c_ref07_Subs (y0 := r2.2.1) (y1 := s3) (h.po [] []) ⟨(h.pf [] [] 0), trivial⟩ h7) fun v a w hp hc => ?_)
        obtain ⟨p10, c10, rfl, q⟩ := hp
        have h := hc.on q [[], bx b2 31 [.slice p3 (List.length r2.1.1) c3, .slice p4 (List.length r2.1.2.1) c4, .slice p5 (List.length r2.1.2.2) c5], r_1, r_2, []]
        refine pr 2 [(43, vi 0), (42, vi (len r6))] h fun a h => ?_
        refine oe ?_
        refine wp_block ?_
        refine loop_m (B := (m_law09_AttackWhole_L3 r6 r2 r3 s3 r5)) (fun (s4 : Int) a w => SS A [] w0 81 [(4, .pointer (some ⟨b2, 0, none⟩)), (5, .slice p6 (List.length r2.2.1) c6), (6, .slice p7 (List.length r3) c7), (9, .slice p9 (List.length r5) c9), (10, vi s3), (24, .slice p8 (List.length r4) c8), (25, vi (len r4)), (26, vi s2), (35, vi (len r2.2.1)), (36, vi s3), (41, .slice p10 (List.length r6) c10), (42, vi (len r6)), (43, vi s4)] [[], bx b2 31 [.slice p3 (List.length r2.1.1) c3, .slice p4 (List.length r2.1.2.1) c4, .slice p5 (List.length r2.1.2.2) c5], r_1, r_2, []] [R e_Argument p6 c6 (List.length r2.2.1) r2.2.1, Ar e_Attack 45 r_1 p7 c7 (List.length r3) r3, Ar e_Ordering 24 r_2 p8 c8 (List.length r4) r4, R e_Attack p9 c9 (List.length r5) r5, R (eInt .i64) p10 c10 (List.length r6) r6, R e_Premise p3 c3 (List.length r2.1.1) r2.1.1, R e_Rule p4 c4 (List.length r2.1.2.1) r2.1.2.1, R e_Promotion p5 c5 (List.length r2.1.2.2) r2.1.2.2] a w) hm (h.tos [900, 1, 2, 3, 904] ⟨(h.g 1), (h.g 2), (h.g 3), (h.g 4), (h.g 0), (h.g 5), (h.g 6), (h.g 7), trivial⟩) ?_
        intro s4 a w o3 hJ hm hr3
        have h := hJ
        unfold m_law09_AttackWhole_L3 at hm
        refine sp [(44, vb (decide (s4 < (len r6))))] h fun a h => ?_
        refine wp_seq ?_
        refine cb h rfl (fun hb3 => ?_) (fun hb3 => ?_)
        · replace hm := ifT hb3 hm
          refine wp_skip ?_
          refine then_n ?_
          refine wp_seq ?_
          refine wp_block ?_
          refine sr ?_
          obtain ⟨x2, h8, hm⟩ := bnd hm
          refine sl (b_index_rd h (h.g 4) rfl rfl h8 fun b5 o4 a h => ?_)
          refine sl (b_load_pt false h (h.g 0) rfl fun ci2 hc2 v2 hv2 a h => ?_)
          replace hc2 : E.rd (eInt .i64) _ _ ci2 x2 := hc2
          obtain rfl := hc2
          obtain rfl := Option.some.inj hv2
          refine pr 1 [(12, vi x2)] h fun a h => ?_
          refine oe ?_
          refine sp [(49, vi 0), (48, vi (len r2.2.1))] h fun a h => ?_
          refine wp_block ?_
          refine loop_m (B := (m_law09_AttackWhole_L4 r2 r3 x2 s3 r5 s4)) (fun (s5 : Int) a w => SS A [] w0 81 [(4, .pointer (some ⟨b2, 0, none⟩)), (5, .slice p6 (List.length r2.2.1) c6), (6, .slice p7 (List.length r3) c7), (9, .slice p9 (List.length r5) c9), (10, vi s3), (12, vi x2), (24, .slice p8 (List.length r4) c8), (25, vi (len r4)), (26, vi s2), (35, vi (len r2.2.1)), (36, vi s3), (41, .slice p10 (List.length r6) c10), (42, vi (len r6)), (43, vi s4), (48, vi (len r2.2.1)), (49, vi s5)] [[], bx b2 31 [.slice p3 (List.length r2.1.1) c3, .slice p4 (List.length r2.1.2.1) c4, .slice p5 (List.length r2.1.2.2) c5], r_1, r_2, []] [R e_Argument p6 c6 (List.length r2.2.1) r2.2.1, Ar e_Attack 45 r_1 p7 c7 (List.length r3) r3, Ar e_Ordering 24 r_2 p8 c8 (List.length r4) r4, R e_Attack p9 c9 (List.length r5) r5, R (eInt .i64) p10 c10 (List.length r6) r6, R e_Premise p3 c3 (List.length r2.1.1) r2.1.1, R e_Rule p4 c4 (List.length r2.1.2.1) r2.1.2.1, R e_Promotion p5 c5 (List.length r2.1.2.2) r2.1.2.2] a w) hm (h.tos [900, 1, 2, 3, 904] ⟨(h.g 1), (h.g 2), (h.g 3), (h.g 4), (h.g 5), (h.g 6), (h.g 7), (h.g 8), trivial⟩) ?_
          intro s5 a w o5 hJ hm hr4
          have h := hJ
          unfold m_law09_AttackWhole_L4 at hm
          refine sp [(50, vb (decide (s5 < (len r2.2.1))))] h fun a h => ?_
          refine wp_seq ?_
          refine cb h rfl (fun hb4 => ?_) (fun hb4 => ?_)
          · replace hm := ifT hb4 hm
            refine wp_skip ?_
            refine then_n ?_
            refine wp_seq ?_
            refine wp_block ?_
            refine sp [(13, vi s5)] h fun a h => ?_
            obtain ⟨s6, hx, hm⟩ := bnd hm
            refine seq_j (fun a w => SS A [] w0 81 [(4, .pointer (some ⟨b2, 0, none⟩)), (5, .slice p6 (List.length r2.2.1) c6), (6, .slice p7 (List.length r3) c7), (9, .slice p9 (List.length r5) c9), (10, vi s3), (12, vi x2), (24, .slice p8 (List.length r4) c8), (25, vi (len r4)), (26, vi s2), (35, vi (len r2.2.1)), (36, vi s3), (41, .slice p10 (List.length r6) c10), (42, vi (len r6)), (43, vi s4), (48, vi (len r2.2.1)), (49, vi s5), (75, vb s6)] [[], bx b2 31 [.slice p3 (List.length r2.1.1) c3, .slice p4 (List.length r2.1.2.1) c4, .slice p5 (List.length r2.1.2.2) c5], r_1, r_2, []] [R e_Argument p6 c6 (List.length r2.2.1) r2.2.1, Ar e_Attack 45 r_1 p7 c7 (List.length r3) r3, Ar e_Ordering 24 r_2 p8 c8 (List.length r4) r4, R e_Attack p9 c9 (List.length r5) r5, R (eInt .i64) p10 c10 (List.length r6) r6, R e_Premise p3 c3 (List.length r2.1.1) r2.1.1, R e_Rule p4 c4 (List.length r2.1.2.1) r2.1.2.1, R e_Promotion p5 c5 (List.length r2.1.2.2) r2.1.2.2] a w) ?_ ?_
            · replace hm := hx
              refine reg ?_
              refine pr 4 [(55, vi x2), (54, vi x2), (53, vi s5), (52, .slice p7 (List.length r3) c7)] h fun a h => ?_
              obtain ⟨r7, h9, hm⟩ := bnd hm
              refine sl (b_call [] [2] h Tryz.call24 rfl rfl (c_law09_has (y0 := r3) (y1 := s5) (y2 := x2) (y3 := x2) (h.po [] [2]) ⟨(h.pl [] [2] 2 (h.g 1)), trivial⟩ h9) fun v a w hp hc => ?_)
              obtain ⟨rfl, q⟩ := hp
              have h := hc.on q [[], bx b2 31 [.slice p3 (List.length r2.1.1) c3, .slice p4 (List.length r2.1.2.1) c4, .slice p5 (List.length r2.1.2.2) c5], r_1, r_2, []]
              refine pr 4 [(60, vi x2), (59, vi s3), (58, vi s5), (57, .slice p7 (List.length r3) c7)] h fun a h => ?_
              obtain ⟨r8, h10, hm⟩ := bnd hm
              refine sl (b_call [] [2] h Tryz.call24 rfl rfl (c_law09_has (y0 := r3) (y1 := s5) (y2 := s3) (y3 := x2) (h.po [] [2]) ⟨(h.pl [] [2] 2 (h.g 1)), trivial⟩ h10) fun v a w hp hc => ?_)
              obtain ⟨rfl, q⟩ := hp
              have h := hc.on q [[], bx b2 31 [.slice p3 (List.length r2.1.1) c3, .slice p4 (List.length r2.1.2.1) c4, .slice p5 (List.length r2.1.2.2) c5], r_1, r_2, []]
              refine pr 2 [(63, vb (!(r7 == r8)))] h fun a h => ?_
              rcases Bool.eq_false_or_eq_true (!(r7 == r8)) with hb5 | hb5
              · have h := h.upd (t := 63) (vb true) rfl (congrArg Value.bool hb5)
                replace hm := ifT hb5 hm
                refine pr 12 [(75, vb true)] h fun a h => ?_
                refine ops_end ?_
                obtain rfl := Option.some.inj hm
                exact then_n (h.tos [900, 1, 2, 3, 904] ⟨(h.g 0), (h.g 1), (h.g 2), (h.g 3), (h.g 4), (h.g 5), (h.g 6), (h.g 7), trivial⟩)
              · have h := h.upd (t := 63) (vb false) rfl (congrArg Value.bool hb5)
                replace hm := ifF hb5 hm
                refine pr 4 [(67, vi x2), (66, vi x2), (65, vi s5), (64, .slice p9 (List.length r5) c9)] h fun a h => ?_
                obtain ⟨r9, h11, hm⟩ := bnd hm
                refine sl (b_call [] [] h Tryz.call24 rfl rfl (c_law09_has (y0 := r5) (y1 := s5) (y2 := x2) (y3 := x2) (h.po [] []) ⟨(h.pf [] [] 3), trivial⟩ h11) fun v a w hp hc => ?_)
                obtain ⟨rfl, q⟩ := hp
                have h := hc.on q [[], bx b2 31 [.slice p3 (List.length r2.1.1) c3, .slice p4 (List.length r2.1.2.1) c4, .slice p5 (List.length r2.1.2.2) c5], r_1, r_2, []]
                refine pr 4 [(72, vi x2), (71, vi s3), (70, vi s5), (69, .slice p9 (List.length r5) c9)] h fun a h => ?_
                obtain ⟨r10, h12, hm⟩ := bnd hm
                refine sl (b_call [] [] h Tryz.call24 rfl rfl (c_law09_has (y0 := r5) (y1 := s5) (y2 := s3) (y3 := x2) (h.po [] []) ⟨(h.pf [] [] 3), trivial⟩ h12) fun v a w hp hc => ?_)
                obtain ⟨rfl, q⟩ := hp
                have h := hc.on q [[], bx b2 31 [.slice p3 (List.length r2.1.1) c3, .slice p4 (List.length r2.1.2.1) c4, .slice p5 (List.length r2.1.2.2) c5], r_1, r_2, []]
                refine pr 2 [(75, vb (!(r9 == r10)))] h fun a h => ?_
                refine ops_end ?_
                obtain rfl := Option.some.inj hm
                exact then_n (h.tos [900, 1, 2, 3, 904] ⟨(h.g 0), (h.g 1), (h.g 2), (h.g 3), (h.g 4), (h.g 5), (h.g 6), (h.g 7), trivial⟩)
            intro a w hJ
            have h := hJ
            refine cb h rfl (fun hb6 => ?_) (fun hb6 => ?_)
            · replace hm := ifT hb6 hm
              refine sp [(2, vb false)] h fun a h => ?_
              refine wp_ret ?_
              refine inb_r (then_r (lp_r (inb_r (inb_r (then_r (lp_r (inb_r (inb_r (then_r (lp_r (inb_r (inb_r (then_r (lp_r (inb_r (then_r ?_))))))))))))))))
              replace hm := loopR hr4 hm
              replace hm := loopR hr3 hm
              replace hm := loopR hr2 hm
              replace hm := loopR hr1 hm
              obtain rfl := Option.some.inj hm
              replace hm := hm2
              obtain rfl := Option.some.inj hm
              exact rt1 h rfl rfl ⟨rfl, bk_sel h [] trivial⟩
            replace hm := ifF hb6 hm
            refine wp_skip ?_
            refine inb_n ?_
            refine then_n ?_
            refine reg ?_
            refine pr 2 [(49, vi (w64 (s5 + 1)))] h fun a h => ?_
            refine ops_end ?_
            obtain rfl := Option.some.inj hm
            exact lp_n rfl (h.tos [900, 1, 2, 3, 904] ⟨(h.g 0), (h.g 1), (h.g 2), (h.g 3), (h.g 4), (h.g 5), (h.g 6), (h.g 7), trivial⟩)
          replace hm := ifF hb4 hm
          refine wp_exit ?_
          refine then_e (lp_e (inb_hit ?_))
          replace hm := loopR hr4 hm
          refine inb_n ?_
          refine then_n ?_
          refine reg ?_
          refine pr 2 [(43, vi (w64 (s4 + 1)))] h fun a h => ?_
          refine ops_end ?_
          obtain rfl := Option.some.inj hm
          exact lp_n rfl (h.tos [900, 1, 2, 3, 904] ⟨(h.g 0), (h.g 1), (h.g 2), (h.g 3), (h.g 4), (h.g 5), (h.g 6), (h.g 7), trivial⟩)
        replace hm := ifF hb3 hm
        refine wp_exit ?_
        refine then_e (lp_e (inb_hit ?_))
        replace hm := loopR hr3 hm
        refine inb_n ?_
        refine then_n ?_
        refine reg ?_
        refine pr 2 [(36, vi (w64 (s3 + 1)))] h fun a h => ?_
        refine ops_end ?_
        obtain rfl := Option.some.inj hm
        exact lp_n rfl (h.tos [900, 1, 2, 3, 904] ⟨(h.g 0), (h.g 1), (h.g 2), (h.g 3), (h.g 5), (h.g 6), (h.g 7), trivial⟩)
      replace hm := ifF hb2 hm
      refine wp_exit ?_
      refine then_e (lp_e (inb_hit ?_))
      replace hm := loopR hr2 hm
      refine inb_n ?_
      refine then_n ?_
      refine reg ?_
      refine pr 2 [(26, vi (w64 (s2 + 1)))] h fun a h => ?_
      refine ops_end ?_
      obtain rfl := Option.some.inj hm
      exact lp_n rfl (h.tos [900, 1, 2, 3] ⟨(h.g 0), (h.g 1), (h.g 2), (h.g 4), (h.g 5), (h.g 6), trivial⟩)
    replace hm := ifF hb1 hm
    refine wp_exit ?_
    refine then_e (lp_e (inb_hit ?_))
    replace hm := loopR hr1 hm
    obtain rfl := Option.some.inj hm
    exact then_n ⟨_, rfl, h.tos [900, 901, 902] trivial⟩
  intro a w hJ
  obtain ⟨s1, rfl, h⟩ := hJ
  refine sr ?_
  obtain ⟨r11, h13, hm⟩ := bnd hm
  refine sl (b_call [] [] h Tryz.call17 rfl rfl (c_law09_awake (h.po [] []) trivial h13) fun v a w hp hc => ?_)
  obtain ⟨rfl, q⟩ := hp
  have h := hc.on q [[], [], []]
  refine pr 1 [(2, vb r11)] h fun a h => ?_
  refine oe ?_
  refine wp_ret ?_
  obtain rfl := Option.some.inj hm
  exact rt1 h rfl rfl ⟨rfl, bk_sel h [] trivial⟩

theorem c_law09_AttackFirm {A : List Nat} {w0 : World} {y0 : List Int} {p1 : Option Addr} {c1 : Nat} {r : Bool} (hO : Own A w0 []) (hF : All [R (eInt .i64) p1 c1 (List.length y0) y0] (bl [] ++ A) w0) (hm : m_law09_AttackFirm y0 = some r) :
    Calls Tryz.prog 6 [.slice p1 (List.length y0) c1].toArray w0 (Ret fun v w => v = vb r ∧ Bk A [] w0 [] [] w) := by
  unfold m_law09_AttackFirm at hm
  refine ent Tryz.func6 rfl hO hF fun a h => ?_
  refine sp [] h fun a h => ?_
  refine sr ?_
  refine pr 1 [(8, .slice p1 (List.length y0) c1)] h fun a h => ?_
  obtain ⟨r1, h1, hm⟩ := bnd hm
  refine sl (b_call [] [] h Tryz.call9 rfl rfl (c_keep_New (y0 := y0) (h.po [] []) ⟨(h.pf [] [] 0), trivial⟩ h1) fun v a w hp hc => ?_)
  obtain ⟨b1, p2, c2, rfl, q⟩ := hp
  have h := hc.on q [bx b1 71 [.slice p2 (List.length r1.1) c2, vi r1.2]]
  refine pr 1 [(3, .pointer (some ⟨b1, 0, none⟩))] h fun a h => ?_
  refine oe ?_
  refine sr ?_
  refine pr 1 [(11, .pointer (some ⟨b1, 0, none⟩))] h fun a h => ?_
  obtain ⟨r2, h2, hm⟩ := bnd hm
  refine sl (b_call [0] [] h Tryz.call10 rfl rfl (c_law09_built (y0 := r1) (h.po [0] []) ⟨(h.pf [0] [] 0), trivial⟩ h2) fun v a w hp hc => ?_)
  obtain ⟨p3, c3, p4, c4, p5, c5, p6, c6, rfl, q⟩ := hp
  have h := hc.on q [bx b1 71 [.slice p2 (List.length r1.1) c2, vi r2.2.2]]
  refine pr 3 [(14, .slice p6 (List.length r2.2.1) c6), (13, .agg #[.slice p3 (List.length r2.1.1) c3, .slice p4 (List.length r2.1.2.1) c4, .slice p5 (List.length r2.1.2.2) c5])] h fun a h => ?_
  refine sl (b_alloc h rfl fun b2 a w h e => ?_)
  refine sl (b_store_own 1 h rfl rfl rfl fun a w h e => ?_)
  refine pr 1 [(5, .slice p6 (List.length r2.2.1) c6)] h fun a h => ?_
  refine oe ?_
  obtain ⟨os1, hx, hm⟩ := bnd hm
  refine seq_j (fun a w => ∃ s1 : Unit, os1 = .inl s1 ∧ (SS A [] w0 53 [] [[], []] [] a w)) ?_ ?_
  · have hm2 := hm
    replace hm := hx
    refine sr ?_
    refine sl (b_load_own 1 (.agg #[.slice p3 (List.length r2.1.1) c3, .slice p4 (List.length r2.1.2.1) c4, .slice p5 (List.length r2.1.2.2) c5]) h rfl rfl fun a h => ?_)
    refine pr 1 [(16, .slice p6 (List.length r2.2.1) c6)] h fun a h => ?_
    obtain ⟨r3, h3, hm⟩ := bnd hm
    refine sl (b_call [] [] h Tryz.call12 rfl rfl (c_attack_Attacks (y0 := r2.1) (y1 := r2.2.1) (h.po [] []) ⟨(h.pf [] [] 0), (h.pf [] [] 1), (h.pf [] [] 2), (h.pf [] [] 3), trivial⟩ h3) fun v a w hp hc => ?_)
    obtain ⟨p7, c7, r_1, rfl, q⟩ := hp
    have h := hc.on q [bx b1 71 [.slice p2 (List.length r1.1) c2, vi r2.2.2], bx b2 31 [.slice p3 (List.length r2.1.1) c3, .slice p4 (List.length r2.1.2.1) c4, .slice p5 (List.length r2.1.2.2) c5], r_1]
    refine pr 2 [(19, vi 0), (18, vi (len r3))] h fun a h => ?_
    refine oe ?_
    refine wp_block ?_
    refine loop_m (B := (m_law09_AttackFirm_L1 r3 r2)) (fun (s2 : Int) a w => SS A [] w0 53 [(4, .pointer (some ⟨b2, 0, none⟩)), (5, .slice p6 (List.length r2.2.1) c6), (17, .slice p7 (List.length r3) c7), (18, vi (len r3)), (19, vi s2)] [[], bx b2 31 [.slice p3 (List.length r2.1.1) c3, .slice p4 (List.length r2.1.2.1) c4, .slice p5 (List.length r2.1.2.2) c5], r_1] [R e_Argument p6 c6 (List.length r2.2.1) r2.2.1, Ar e_Attack 45 r_1 p7 c7 (List.length r3) r3, R e_Premise p3 c3 (List.length r2.1.1) r2.1.1, R e_Rule p4 c4 (List.length r2.1.2.1) r2.1.2.1, R e_Promotion p5 c5 (List.length r2.1.2.2) r2.1.2.2] a w) hm (h.tos [900, 1, 2] ⟨(h.g 4), (h.g 0), (h.g 1), (h.g 2), (h.g 3), trivial⟩) ?_
    intro s2 a w o1 hJ hm hr1
    have h := hJ
    unfold m_law09_AttackFirm_L1 at hm
    refine sp [(20, vb (decide (s2 < (len r3))))] h fun a h => ?_
    refine wp_seq ?_
    refine cb h rfl (fun hb1 => ?_) (fun hb1 => ?_)
    · replace hm := ifT hb1 hm
      refine wp_skip ?_
      refine then_n ?_
      refine wp_seq ?_
      refine wp_block ?_
      refine sr ?_
      obtain ⟨x1, h4, hm⟩ := bnd hm
      refine sl (b_index_arr h (h.g 1) rfl rfl h4 fun b3 hp1 a h => ?_)
      refine sl (b_load_arr 2 ((Sub.id e_Attack)) true h (h.g 1) hp1 h4 rfl fun ci1 hc1 v1 hv1 a h => ?_)
      replace hc1 : E.rd e_Attack _ _ ci1 x1 := hc1
      obtain ⟨_, _, rfl, rfl, ⟨_, _, rfl, rfl, ⟨_, _, rfl, rfl, rfl⟩⟩⟩ := hc1
      obtain rfl := Option.some.inj hv1
      have h := h.upd (t := 22) (.agg #[vi x1.1, vi x1.2.1, vi x1.2.2.1, vi x1.2.2.2]) rfl rfl
      refine sl (b_alloc h rfl fun b4 a w h e => ?_)
      refine sl (b_store_own 3 h rfl rfl rfl fun a w h e => ?_)
      refine oe ?_
      obtain ⟨s3, hx, hm⟩ := bnd hm
      refine seq_j (fun a w => SS A [] w0 53 [(4, .pointer (some ⟨b2, 0, none⟩)), (5, .slice p6 (List.length r2.2.1) c6), (17, .slice p7 (List.length r3) c7), (18, vi (len r3)), (19, vi s2), (50, vb s3)] [[], bx b2 31 [.slice p3 (List.length r2.1.1) c3, .slice p4 (List.length r2.1.2.1) c4, .slice p5 (List.length r2.1.2.2) c5], r_1, []] [R e_Argument p6 c6 (List.length r2.2.1) r2.2.1, Ar e_Attack 45 r_1 p7 c7 (List.length r3) r3, R e_Premise p3 c3 (List.length r2.1.1) r2.1.1, R e_Rule p4 c4 (List.length r2.1.2.1) r2.1.2.1, R e_Promotion p5 c5 (List.length r2.1.2.2) r2.1.2.2] a w) ?_ ?_
      · replace hm := hx
        refine reg ?_
        refine pr 1 [(23, .pointer (some ⟨b4, 1, none⟩))] h fun a h => ?_
        refine sl (b_load_own 3 (vi x1.2.1) h rfl rfl fun a h => ?_)
        refine pr 2 [(26, vb (decide (x1.2.1 < 0)))] h fun a h => ?_
        rcases Bool.eq_false_or_eq_true (decide (x1.2.1 < 0)) with hb2 | hb2
        · have h := h.upd (t := 26) (vb true) rfl (congrArg Value.bool hb2)
          replace hm := ifT hb2 hm
          refine pr 24 [(50, vb true)] h fun a h => ?_
          refine ops_end ?_
          obtain rfl := Option.some.inj hm
          exact then_n (h.tos [900, 1, 2, 903] ⟨(h.g 0), (h.g 1), (h.g 2), (h.g 3), (h.g 4), trivial⟩)
        · have h := h.upd (t := 26) (vb false) rfl (congrArg Value.bool hb2)
          replace hm := ifF hb2 hm
          refine pr 1 [(27, .pointer (some ⟨b4, 1, none⟩))] h fun a h => ?_
          refine sl (b_load_own 3 (vi x1.2.1) h rfl rfl fun a h => ?_)
          refine pr 5 [(33, vb (decide ((len r2.2.1) ≤ x1.2.1)))] h fun a h => ?_
          rcases Bool.eq_false_or_eq_true (decide ((len r2.2.1) ≤ x1.2.1)) with hb3 | hb3
          · have h := h.upd (t := 33) (vb true) rfl (congrArg Value.bool hb3)
            replace hm := ifT hb3 hm
            refine pr 17 [(50, vb true)] h fun a h => ?_
            refine ops_end ?_
            obtain rfl := Option.some.inj hm
            exact then_n (h.tos [900, 1, 2, 903] ⟨(h.g 0), (h.g 1), (h.g 2), (h.g 3), (h.g 4), trivial⟩)
          · have h := h.upd (t := 33) (vb false) rfl (congrArg Value.bool hb3)
            replace hm := ifF hb3 hm
            refine sl (b_load_own 1 (.agg #[.slice p3 (List.length r2.1.1) c3, .slice p4 (List.length r2.1.2.1) c4, .slice p5 (List.length r2.1.2.2) c5]) h rfl rfl fun a h => ?_)
            refine pr 2 [(36, .pointer (some ⟨b4, 1, none⟩)), (35, .slice p6 (List.length r2.2.1) c6)] h fun a h => ?_
            refine sl (b_load_own 3 (vi x1.2.1) h rfl rfl fun a h => ?_)
            obtain ⟨r4, h5, hm⟩ := bnd hm
            refine sl (b_call [] [] h Tryz.call25 rfl rfl (c_ref08_PremiseRanks (y0 := r2.1) (y1 := r2.2.1) (y2 := x1.2.1) (h.po [] []) ⟨(h.pf [] [] 2), (h.pf [] [] 3), (h.pf [] [] 4), (h.pf [] [] 0), trivial⟩ h5) fun v a w hp hc => ?_)
            obtain ⟨p8, c8, rfl, q⟩ := hp
            have h := hc.on q [[], bx b2 31 [.slice p3 (List.length r2.1.1) c3, .slice p4 (List.length r2.1.2.1) c4, .slice p5 (List.length r2.1.2.2) c5], r_1, bx b4 45 [vi x1.1, vi x1.2.1, vi x1.2.2.1, vi x1.2.2.2]]
            refine pr 3 [(41, vb ((len r4) == 0))] h fun a h => ?_
            rcases Bool.eq_false_or_eq_true ((len r4) == 0) with hb4 | hb4
            · have h := h.upd (t := 41) (vb true) rfl (congrArg Value.bool hb4)
              replace hm := ifT hb4 hm
              refine sl (b_load_own 1 (.agg #[.slice p3 (List.length r2.1.1) c3, .slice p4 (List.length r2.1.2.1) c4, .slice p5 (List.length r2.1.2.2) c5]) h rfl rfl fun a h => ?_)
              refine pr 2 [(44, .pointer (some ⟨b4, 1, none⟩)), (43, .slice p6 (List.length r2.2.1) c6)] h fun a h => ?_
              refine sl (b_load_own 3 (vi x1.2.1) h rfl rfl fun a h => ?_)
              obtain ⟨r5, h6, hm⟩ := bnd hm
              refine sl (b_call [] [] h Tryz.call26 rfl rfl (c_ref08_RuleRanks (y0 := r2.1) (y1 := r2.2.1) (y2 := x1.2.1) (h.po [] []) ⟨(h.pf [] [] 3), (h.pf [] [] 4), (h.pf [] [] 5), (h.pf [] [] 1), trivial⟩ h6) fun v a w hp hc => ?_)
              obtain ⟨p9, c9, rfl, q⟩ := hp
              have h := hc.on q [[], bx b2 31 [.slice p3 (List.length r2.1.1) c3, .slice p4 (List.length r2.1.2.1) c4, .slice p5 (List.length r2.1.2.2) c5], r_1, bx b4 45 [vi x1.1, vi x1.2.1, vi x1.2.2.1, vi x1.2.2.2]]
              refine pr 4 [(50, vb ((len r5) == 0))] h fun a h => ?_
              refine ops_end ?_
              obtain rfl := Option.some.inj hm
              exact then_n (h.tos [900, 1, 2, 903] ⟨(h.g 2), (h.g 3), (h.g 4), (h.g 5), (h.g 6), trivial⟩)
            · have h := h.upd (t := 41) (vb false) rfl (congrArg Value.bool hb4)
              replace hm := ifF hb4 hm
              refine pr 9 [(50, vb false)] h fun a h => ?_
              refine ops_end ?_
              obtain rfl := Option.some.inj hm
              exact then_n (h.tos [900, 1, 2, 903] ⟨(h.g 1), (h.g 2), (h.g 3), (h.g 4), (h.g 5), trivial⟩)
      intro a w hJ
      have h := hJ
      refine cb h rfl (fun hb5 => ?_) (fun hb5 => ?_)
      · replace hm := ifT hb5 hm
        refine sp [(2, vb false)] h fun a h => ?_
        refine wp_ret ?_
        refine inb_r (then_r (lp_r (inb_r (then_r ?_))))
        replace hm := loopR hr1 hm
        obtain rfl := Option.some.inj hm
        replace hm := hm2
        obtain rfl := Option.some.inj hm
        exact rt1 h rfl rfl ⟨rfl, bk_sel h [] trivial⟩
      replace hm := ifF hb5 hm
      refine wp_skip ?_
      refine inb_n ?_
      refine then_n ?_
      refine reg ?_
      refine pr 2 [(19, vi (w64 (s2 + 1)))] h fun a h => ?_
      refine ops_end ?_
      obtain rfl := Option.some.inj hm
      exact lp_n rfl (h.tos [900, 1, 2] ⟨(h.g 0), (h.g 1), (h.g 2), (h.g 3), (h.g 4), trivial⟩)
    replace hm := ifF hb1 hm
    refine wp_exit ?_
    refine then_e (lp_e (inb_hit ?_))
    replace hm := loopR hr1 hm
    obtain rfl := Option.some.inj hm
    exact then_n ⟨_, rfl, h.tos [900, 901] trivial⟩
  intro a w hJ
  obtain ⟨s1, rfl, h⟩ := hJ
  refine sr ?_
  obtain ⟨r6, h7, hm⟩ := bnd hm
  refine sl (b_call [] [] h Tryz.call17 rfl rfl (c_law09_awake (h.po [] []) trivial h7) fun v a w hp hc => ?_)
  obtain ⟨rfl, q⟩ := hp
  have h := hc.on q [[], []]
  refine pr 1 [(2, vb r6)] h fun a h => ?_
  refine oe ?_
  refine wp_ret ?_
  obtain rfl := Option.some.inj hm
  exact rt1 h rfl rfl ⟨rfl, bk_sel h [] trivial⟩

theorem c_law09_AttackBack {A : List Nat} {w0 : World} {y0 : List Int} {p1 : Option Addr} {c1 : Nat} {r : Bool} (hO : Own A w0 []) (hF : All [R (eInt .i64) p1 c1 (List.length y0) y0] (bl [] ++ A) w0) (hm : m_law09_AttackBack y0 = some r) :
    Calls Tryz.prog 7 [.slice p1 (List.length y0) c1].toArray w0 (Ret fun v w => v = vb r ∧ Bk A [] w0 [] [] w) := by
  unfold m_law09_AttackBack at hm
  refine ent Tryz.func7 rfl hO hF fun a h => ?_
  refine sp [] h fun a h => ?_
  refine sr ?_
  refine pr 1 [(14, .slice p1 (List.length y0) c1)] h fun a h => ?_
  obtain ⟨r1, h1, hm⟩ := bnd hm
  refine sl (b_call [] [] h Tryz.call9 rfl rfl (c_keep_New (y0 := y0) (h.po [] []) ⟨(h.pf [] [] 0), trivial⟩ h1) fun v a w hp hc => ?_)
  obtain ⟨b1, p2, c2, rfl, q⟩ := hp
  have h := hc.on q [bx b1 71 [.slice p2 (List.length r1.1) c2, vi r1.2]]
  refine pr 1 [(3, .pointer (some ⟨b1, 0, none⟩))] h fun a h => ?_
  refine oe ?_
  refine sr ?_
  refine pr 1 [(17, .pointer (some ⟨b1, 0, none⟩))] h fun a h => ?_
  obtain ⟨r2, h2, hm⟩ := bnd hm
  refine sl (b_call [0] [] h Tryz.call10 rfl rfl (c_law09_built (y0 := r1) (h.po [0] []) ⟨(h.pf [0] [] 0), trivial⟩ h2) fun v a w hp hc => ?_)
  obtain ⟨p3, c3, p4, c4, p5, c5, p6, c6, rfl, q⟩ := hp
  have h := hc.on q [bx b1 71 [.slice p2 (List.length r1.1) c2, vi r2.2.2]]
  refine pr 3 [(20, .slice p6 (List.length r2.2.1) c6), (19, .agg #[.slice p3 (List.length r2.1.1) c3, .slice p4 (List.length r2.1.2.1) c4, .slice p5 (List.length r2.1.2.2) c5])] h fun a h => ?_
  refine sl (b_alloc h rfl fun b2 a w h e => ?_)
  refine sl (b_store_own 1 h rfl rfl rfl fun a w h e => ?_)
  refine pr 1 [(5, .slice p6 (List.length r2.2.1) c6)] h fun a h => ?_
  refine oe ?_
  refine sr ?_
  refine sl (b_load_own 1 (.agg #[.slice p3 (List.length r2.1.1) c3, .slice p4 (List.length r2.1.2.1) c4, .slice p5 (List.length r2.1.2.2) c5]) h rfl rfl fun a h => ?_)
  refine pr 1 [(22, .slice p6 (List.length r2.2.1) c6)] h fun a h => ?_
  obtain ⟨r3, h3, hm⟩ := bnd hm
  refine sl (b_call [] [] h Tryz.call12 rfl rfl (c_attack_Attacks (y0 := r2.1) (y1 := r2.2.1) (h.po [] []) ⟨(h.pf [] [] 0), (h.pf [] [] 1), (h.pf [] [] 2), (h.pf [] [] 3), trivial⟩ h3) fun v a w hp hc => ?_)
  obtain ⟨p7, c7, r_1, rfl, q⟩ := hp
  have h := hc.on q [bx b1 71 [.slice p2 (List.length r1.1) c2, vi r2.2.2], bx b2 31 [.slice p3 (List.length r2.1.1) c3, .slice p4 (List.length r2.1.2.1) c4, .slice p5 (List.length r2.1.2.2) c5], r_1]
  refine pr 1 [(6, .slice p7 (List.length r3) c7)] h fun a h => ?_
  refine oe ?_
  obtain ⟨os1, hx, hm⟩ := bnd hm
  refine seq_j (fun a w => ∃ s1 : Unit, os1 = .inl s1 ∧ (SS A [] w0 127 [] [[], [], []] [] a w)) ?_ ?_
  · have hm2 := hm
    replace hm := hx
    refine sr ?_
    obtain ⟨r4, h4, hm⟩ := bnd hm
    refine sl (b_call [] [] h Tryz.call14 rfl rfl (c_keep_Orderings (h.po [] []) trivial h4) fun v a w hp hc => ?_)
    obtain ⟨p8, c8, r_2, rfl, q⟩ := hp
    have h := hc.on q [bx b1 71 [.slice p2 (List.length r1.1) c2, vi r2.2.2], bx b2 31 [.slice p3 (List.length r2.1.1) c3, .slice p4 (List.length r2.1.2.1) c4, .slice p5 (List.length r2.1.2.2) c5], r_1, r_2]
    refine pr 2 [(26, vi 0), (25, vi (len r4))] h fun a h => ?_
    refine oe ?_
    refine wp_block ?_
    refine loop_m (B := (m_law09_AttackBack_L1 r4 r2 r3)) (fun (s2 : Int) a w => SS A [] w0 127 [(4, .pointer (some ⟨b2, 0, none⟩)), (5, .slice p6 (List.length r2.2.1) c6), (6, .slice p7 (List.length r3) c7), (24, .slice p8 (List.length r4) c8), (25, vi (len r4)), (26, vi s2)] [[], bx b2 31 [.slice p3 (List.length r2.1.1) c3, .slice p4 (List.length r2.1.2.1) c4, .slice p5 (List.length r2.1.2.2) c5], r_1, r_2] [R e_Argument p6 c6 (List.length r2.2.1) r2.2.1, Ar e_Attack 45 r_1 p7 c7 (List.length r3) r3, Ar e_Ordering 24 r_2 p8 c8 (List.length r4) r4, R e_Premise p3 c3 (List.length r2.1.1) r2.1.1, R e_Rule p4 c4 (List.length r2.1.2.1) r2.1.2.1, R e_Promotion p5 c5 (List.length r2.1.2.2) r2.1.2.2] a w) hm (h.tos [900, 1, 2, 3] ⟨(h.g 5), (h.g 1), (h.g 0), (h.g 2), (h.g 3), (h.g 4), trivial⟩) ?_
    intro s2 a w o1 hJ hm hr1
    have h := hJ
    unfold m_law09_AttackBack_L1 at hm
    refine sp [(27, vb (decide (s2 < (len r4))))] h fun a h => ?_
    refine wp_seq ?_
    refine cb h rfl (fun hb1 => ?_) (fun hb1 => ?_)
    · replace hm := ifT hb1 hm
      refine wp_skip ?_
      refine then_n ?_
      refine wp_seq ?_
      refine wp_block ?_
      refine sr ?_
      obtain ⟨x1, h5, hm⟩ := bnd hm
      refine sl (b_index_arr h (h.g 2) rfl rfl h5 fun b3 hp1 a h => ?_)
      refine sl (b_load_arr 3 ((Sub.id e_Ordering)) true h (h.g 2) hp1 h5 rfl fun ci1 hc1 v1 hv1 a h => ?_)
      replace hc1 : E.rd e_Ordering _ _ ci1 x1 := hc1
      obtain ⟨_, _, rfl, rfl, rfl⟩ := hc1
      obtain rfl := Option.some.inj hv1
      have h := h.upd (t := 29) (.agg #[vi x1.1, vi x1.2]) rfl rfl
      refine sl (b_alloc h rfl fun b4 a w h e => ?_)
      refine sl (b_store_own 4 h rfl rfl rfl fun a w h e => ?_)
      refine oe ?_
      refine sr ?_
      refine sl (b_load_own 1 (.agg #[.slice p3 (List.length r2.1.1) c3, .slice p4 (List.length r2.1.2.1) c4, .slice p5 (List.length r2.1.2.2) c5]) h rfl rfl fun a h => ?_)
      refine pr 1 [(31, .slice p6 (List.length r2.2.1) c6)] h fun a h => ?_
      refine sl (b_load_own 4 (.agg #[vi x1.1, vi x1.2]) h rfl rfl fun a h => ?_)
      obtain ⟨r5, h6, hm⟩ := bnd hm
      refine sl (b_call [] [] h Tryz.call15 rfl rfl (c_attack_Defeats (y0 := r2.1) (y1 := r2.2.1) (y2 := x1) (h.po [] []) ⟨(h.pf [] [] 3), (h.pf [] [] 4), (h.pf [] [] 5), (h.pf [] [] 0), trivial⟩ h6) fun v a w hp hc => ?_)
      obtain ⟨p9, c9, rfl, q⟩ := hp
      have h := hc.on q [[], bx b2 31 [.slice p3 (List.length r2.1.1) c3, .slice p4 (List.length r2.1.2.1) c4, .slice p5 (List.length r2.1.2.2) c5], r_1, r_2, bx b4 24 [vi x1.1, vi x1.2]]
      refine pr 1 [(9, .slice p9 (List.length r5) c9)] h fun a h => ?_
      refine oe ?_
      refine sp [(36, vi 0), (35, vi (len r3)), (34, .slice p7 (List.length r3) c7)] h fun a h => ?_
      refine wp_block ?_
      refine loop_m (B := (m_law09_AttackBack_L2 r3 r2 r5 s2)) (fun (s3 : Int) a w => SS A [] w0 127 [(4, .pointer (some ⟨b2, 0, none⟩)), (5, .slice p6 (List.length r2.2.1) c6), (6, .slice p7 (List.length r3) c7), (9, .slice p9 (List.length r5) c9), (24, .slice p8 (List.length r4) c8), (25, vi (len r4)), (26, vi s2), (34, .slice p7 (List.length r3) c7), (35, vi (len r3)), (36, vi s3)] [[], bx b2 31 [.slice p3 (List.length r2.1.1) c3, .slice p4 (List.length r2.1.2.1) c4, .slice p5 (List.length r2.1.2.2) c5], r_1, r_2, []] [R e_Argument p6 c6 (List.length r2.2.1) r2.2.1, Ar e_Attack 45 r_1 p7 c7 (List.length r3) r3, Ar e_Ordering 24 r_2 p8 c8 (List.length r4) r4, R e_Attack p9 c9 (List.length r5) r5, R e_Premise p3 c3 (List.length r2.1.1) r2.1.1, R e_Rule p4 c4 (List.length r2.1.2.1) r2.1.2.1, R e_Promotion p5 c5 (List.length r2.1.2.2) r2.1.2.2] a w) hm (h.tos [900, 1, 2, 3, 904] ⟨(h.g 1), (h.g 2), (h.g 3), (h.g 0), (h.g 4), (h.g 5), (h.g 6), trivial⟩) ?_
      intro s3 a w o2 hJ hm hr2
      have h := hJ
      unfold m_law09_AttackBack_L2 at hm
      refine sp [(37, vb (decide (s3 < (len r3))))] h fun a h => ?_
      refine wp_seq ?_
      refine cb h rfl (fun hb2 => ?_) (fun hb2 => ?_)
      · replace hm := ifT hb2 hm
        refine wp_skip ?_
        refine then_n ?_
        refine wp_seq ?_
        refine wp_block ?_
        refine sr ?_
        obtain ⟨x2, h7, hm⟩ := bnd hm
        refine sl (b_index_arr h (h.g 1) rfl rfl h7 fun b5 hp2 a h => ?_)
        refine sl (b_load_arr 2 ((Sub.id e_Attack)) true h (h.g 1) hp2 h7 rfl fun ci2 hc2 v2 hv2 a h => ?_)
        replace hc2 : E.rd e_Attack _ _ ci2 x2 := hc2
        obtain ⟨_, _, rfl, rfl, ⟨_, _, rfl, rfl, ⟨_, _, rfl, rfl, rfl⟩⟩⟩ := hc2
        obtain rfl := Option.some.inj hv2
        have h := h.upd (t := 39) (.agg #[vi x2.1, vi x2.2.1, vi x2.2.2.1, vi x2.2.2.2]) rfl rfl
        refine sl (b_alloc h rfl fun b6 a w h e => ?_)
        refine sl (b_store_own 5 h rfl rfl rfl fun a w h e => ?_)
        refine oe ?_
        refine wp_seq ?_
        refine seq_j (fun a w => SS A [] w0 127 [(4, .pointer (some ⟨b2, 0, none⟩)), (5, .slice p6 (List.length r2.2.1) c6), (6, .slice p7 (List.length r3) c7), (9, .slice p9 (List.length r5) c9), (11, .pointer (some ⟨b6, 0, none⟩)), (24, .slice p8 (List.length r4) c8), (25, vi (len r4)), (26, vi s2), (34, .slice p7 (List.length r3) c7), (35, vi (len r3)), (36, vi s3), (61, vb ((x2.2.2.2 == 3) || ((x2.2.1 != x2.2.2.1) || ((decide (x2.1 < 0)) || (decide ((len r2.2.1) ≤ x2.1))))))] [[], bx b2 31 [.slice p3 (List.length r2.1.1) c3, .slice p4 (List.length r2.1.2.1) c4, .slice p5 (List.length r2.1.2.2) c5], r_1, r_2, [], bx b6 45 [vi x2.1, vi x2.2.1, vi x2.2.2.1, vi x2.2.2.2]] [R e_Argument p6 c6 (List.length r2.2.1) r2.2.1, Ar e_Attack 45 r_1 p7 c7 (List.length r3) r3, Ar e_Ordering 24 r_2 p8 c8 (List.length r4) r4, R e_Attack p9 c9 (List.length r5) r5, R e_Premise p3 c3 (List.length r2.1.1) r2.1.1, R e_Rule p4 c4 (List.length r2.1.2.1) r2.1.2.1, R e_Promotion p5 c5 (List.length r2.1.2.2) r2.1.2.2] a w) ?_ ?_
        · refine reg ?_
          refine pr 1 [(40, .pointer (some ⟨b6, 3, none⟩))] h fun a h => ?_
          refine sl (b_load_own 5 (vi x2.2.2.2) h rfl rfl fun a h => ?_)
          refine pr 2 [(43, vb (x2.2.2.2 == 3))] h fun a h => ?_
          rcases Bool.eq_false_or_eq_true (x2.2.2.2 == 3) with hb3 | hb3
          · have h := h.upd (t := 43) (vb true) rfl (congrArg Value.bool hb3)
            refine pr 18 [(61, vb true)] h fun a h => ?_
            refine ops_end ?_
            have h := h.upd (t := 61) (vb ((x2.2.2.2 == 3) || ((x2.2.1 != x2.2.2.1) || ((decide (x2.1 < 0)) || (decide ((len r2.2.1) ≤ x2.1)))))) rfl (by rw [hb3]; rfl)
            exact then_n (h.tos [900, 1, 2, 3, 904, 5] ⟨(h.g 0), (h.g 1), (h.g 2), (h.g 3), (h.g 4), (h.g 5), (h.g 6), trivial⟩)
          · have h := h.upd (t := 43) (vb false) rfl (congrArg Value.bool hb3)
            refine pr 1 [(44, .pointer (some ⟨b6, 1, none⟩))] h fun a h => ?_
            refine sl (b_load_own 5 (vi x2.2.1) h rfl rfl fun a h => ?_)
            refine pr 1 [(46, .pointer (some ⟨b6, 2, none⟩))] h fun a h => ?_
            refine sl (b_load_own 5 (vi x2.2.2.1) h rfl rfl fun a h => ?_)
            refine pr 3 [(50, vb (x2.2.1 != x2.2.2.1))] h fun a h => ?_
            rcases Bool.eq_false_or_eq_true (x2.2.1 != x2.2.2.1) with hb4 | hb4
            · have h := h.upd (t := 50) (vb true) rfl (congrArg Value.bool hb4)
              refine pr 11 [(61, vb true)] h fun a h => ?_
              refine ops_end ?_
              have h := h.upd (t := 61) (vb ((x2.2.2.2 == 3) || ((x2.2.1 != x2.2.2.1) || ((decide (x2.1 < 0)) || (decide ((len r2.2.1) ≤ x2.1)))))) rfl (by rw [hb3, hb4]; rfl)
              exact then_n (h.tos [900, 1, 2, 3, 904, 5] ⟨(h.g 0), (h.g 1), (h.g 2), (h.g 3), (h.g 4), (h.g 5), (h.g 6), trivial⟩)
            · have h := h.upd (t := 50) (vb false) rfl (congrArg Value.bool hb4)
              refine pr 1 [(51, .pointer (some ⟨b6, 0, none⟩))] h fun a h => ?_
              refine sl (b_load_own 5 (vi x2.1) h rfl rfl fun a h => ?_)
              refine pr 3 [(55, vb (decide (x2.1 < 0)))] h fun a h => ?_
              rcases Bool.eq_false_or_eq_true (decide (x2.1 < 0)) with hb5 | hb5
              · have h := h.upd (t := 55) (vb true) rfl (congrArg Value.bool hb5)
                refine pr 6 [(61, vb true)] h fun a h => ?_
                refine ops_end ?_
                have h := h.upd (t := 61) (vb ((x2.2.2.2 == 3) || ((x2.2.1 != x2.2.2.1) || ((decide (x2.1 < 0)) || (decide ((len r2.2.1) ≤ x2.1)))))) rfl (by rw [hb3, hb4, hb5]; rfl)
                exact then_n (h.tos [900, 1, 2, 3, 904, 5] ⟨(h.g 0), (h.g 1), (h.g 2), (h.g 3), (h.g 4), (h.g 5), (h.g 6), trivial⟩)
              · have h := h.upd (t := 55) (vb false) rfl (congrArg Value.bool hb5)
                refine pr 1 [(56, .pointer (some ⟨b6, 0, none⟩))] h fun a h => ?_
                refine sl (b_load_own 5 (vi x2.1) h rfl rfl fun a h => ?_)
                refine pr 4 [(61, vb (decide ((len r2.2.1) ≤ x2.1)))] h fun a h => ?_
                refine ops_end ?_
                have h := h.upd (t := 61) (vb ((x2.2.2.2 == 3) || ((x2.2.1 != x2.2.2.1) || ((decide (x2.1 < 0)) || (decide ((len r2.2.1) ≤ x2.1)))))) rfl (by rw [hb3, hb4, hb5]; rfl)
                exact then_n (h.tos [900, 1, 2, 3, 904, 5] ⟨(h.g 0), (h.g 1), (h.g 2), (h.g 3), (h.g 4), (h.g 5), (h.g 6), trivial⟩)
        intro a w hJ
        have h := hJ
        refine cb h rfl (fun hb6 => ?_) (fun hb6 => ?_)
        · replace hm := ifT hb6 hm
          refine wp_exit ?_
          refine then_e (inb_hit ?_)
          refine then_n ?_
          refine reg ?_
          refine pr 2 [(36, vi (w64 (s3 + 1)))] h fun a h => ?_
          refine ops_end ?_
          obtain rfl := Option.some.inj hm
          exact lp_n rfl (h.tos [900, 1, 2, 3, 904] ⟨(h.g 0), (h.g 1), (h.g 2), (h.g 3), (h.g 4), (h.g 5), (h.g 6), trivial⟩)
        replace hm := ifF hb6 hm
        refine wp_skip ?_
        refine then_n ?_
        refine sp [] h fun a h => ?_
        obtain ⟨s4, hx, hm⟩ := bnd hm
        refine seq_j (fun a w => SS A [] w0 127 [(4, .pointer (some ⟨b2, 0, none⟩)), (5, .slice p6 (List.length r2.2.1) c6), (6, .slice p7 (List.length r3) c7), (9, .slice p9 (List.length r5) c9), (11, .pointer (some ⟨b6, 0, none⟩)), (12, vb s4), (24, .slice p8 (List.length r4) c8), (25, vi (len r4)), (26, vi s2), (34, .slice p7 (List.length r3) c7), (35, vi (len r3)), (36, vi s3)] [[], bx b2 31 [.slice p3 (List.length r2.1.1) c3, .slice p4 (List.length r2.1.2.1) c4, .slice p5 (List.length r2.1.2.2) c5], r_1, r_2, [], bx b6 45 [vi x2.1, vi x2.2.1, vi x2.2.2.1, vi x2.2.2.2]] [R e_Argument p6 c6 (List.length r2.2.1) r2.2.1, Ar e_Attack 45 r_1 p7 c7 (List.length r3) r3, Ar e_Ordering 24 r_2 p8 c8 (List.length r4) r4, R e_Attack p9 c9 (List.length r5) r5, R e_Premise p3 c3 (List.length r2.1.1) r2.1.1, R e_Rule p4 c4 (List.length r2.1.2.1) r2.1.2.1, R e_Promotion p5 c5 (List.length r2.1.2.2) r2.1.2.2] a w) ?_ ?_
        · have hm2 := hm
          replace hm := hx
          refine sr ?_
          refine pr 2 [(63, .pointer (some ⟨b6, 0, none⟩)), (62, .slice p6 (List.length r2.2.1) c6)] h fun a h => ?_
          refine sl (b_load_own 5 (vi x2.1) h rfl rfl fun a h => ?_)
          obtain ⟨x3, h8, hm⟩ := bnd hm
          refine sl (b_index_rd h (h.g 0) rfl rfl h8 fun b7 o3 a h => ?_)
          refine pr 1 [(66, .pointer (some ⟨b7, (o3 + 1), none⟩))] h fun a h => ?_
          refine sl (b_load_pt false h (PtTo.fst (PtTo.snd (h.g 0))) rfl fun ci3 hc3 v3 hv3 a h => ?_)
          replace hc3 : E.rd (eInt .i64) _ _ ci3 x3.2.1 := hc3
          obtain rfl := hc3
          obtain rfl := Option.some.inj hv3
          refine pr 1 [(13, vi x3.2.1)] h fun a h => ?_
          refine oe ?_
          refine sp [(69, vb (decide (0 ≤ x3.2.1)))] h fun a h => ?_
          refine cb h rfl (fun hb7 => ?_) (fun hb7 => ?_)
          · replace hm := ifT hb7 hm
            refine reg ?_
            refine pr 1 [(70, .pointer (some ⟨b2, 1, none⟩))] h fun a h => ?_
            refine sl (b_load_own 1 (.slice p4 (List.length r2.1.2.1) c4) h rfl rfl fun a h => ?_)
            refine pr 1 [(72, vi x3.2.1)] h fun a h => ?_
            obtain ⟨x4, h9, hm⟩ := bnd hm
            refine sl (b_index_rd h (h.g 6) rfl rfl h9 fun b8 o4 a h => ?_)
            refine pr 1 [(74, .pointer (some ⟨b8, (o4 + 1), none⟩))] h fun a h => ?_
            refine sl (b_load_pt false h (PtTo.fst (PtTo.snd (h.g 0))) rfl fun ci4 hc4 v4 hv4 a h => ?_)
            replace hc4 : E.rd eBool _ _ ci4 x4.2.1 := hc4
            obtain rfl := hc4
            obtain rfl := Option.some.inj hv4
            refine pr 1 [(12, vb x4.2.1)] h fun a h => ?_
            refine ops_end ?_
            obtain rfl := Option.some.inj hm
            exact then_n (h.tos [900, 1, 2, 3, 904, 5] ⟨(h.g 2), (h.g 3), (h.g 4), (h.g 5), (h.g 6), (h.g 7), (h.g 8), trivial⟩)
          replace hm := ifF hb7 hm
          refine ds' [] [1, 5] h fun w h => ?_
          refine dp 0 (.pointer (some ⟨b2, 0, none⟩)) h rfl fun a h => ?_
          refine dlo 1 1 (.slice p3 (List.length r2.1.1) c3) h rfl rfl rfl fun a h => ?_
          refine dp 2 (.slice p6 (List.length r2.2.1) c6) h rfl fun a h => ?_
          refine dp 3 (.pointer (some ⟨b6, 0, none⟩)) h rfl fun a h => ?_
          refine dlo 4 5 (vi x2.1) h rfl rfl rfl fun a h => ?_
          obtain ⟨x5, h10, hm⟩ := bnd hm
          refine dir 5 h rfl (h.g 1) rfl rfl h10 fun b9 o5 a h => ?_
          refine dp 6 (.pointer (some ⟨b9, o5, none⟩)) h rfl fun a h => ?_
          refine dlp 7 false h rfl (PtTo.fst (h.g 0)) rfl fun ci5 hc5 v5 hv5 a h => ?_
          replace hc5 : E.rd (eInt .i64) _ _ ci5 x5.1 := hc5
          obtain rfl := hc5
          obtain rfl := Option.some.inj hv5
          obtain ⟨x6, h11, hm⟩ := bnd hm
          refine dir 8 h rfl (h.g 6) rfl rfl h11 fun b10 o6 a h => ?_
          refine dp 9 (.pointer (some ⟨b10, (o6 + 2), none⟩)) h rfl fun a h => ?_
          refine dlp 10 false h rfl (PtTo.fst (PtTo.snd (h.g 0))) rfl fun ci6 hc6 v6 hv6 a h => ?_
          replace hc6 : E.rd (eInt .i64) _ _ ci6 x6.2.1 := hc6
          obtain rfl := hc6
          obtain rfl := Option.some.inj hv6
          refine dp 11 (vb (x6.2.1 == 1)) h rfl fun a h => ?_
          refine dp 12 (vb (x6.2.1 == 1)) h rfl fun a h => ?_
          refine de ?_
          obtain rfl := Option.some.inj hm
          exact then_n (h.tos [900, 1, 2, 3, 904, 5] ⟨(h.g 3), (h.g 4), (h.g 5), (h.g 6), (h.g 7), (h.g 8), (h.g 9), trivial⟩)
        intro a w hJ
        have h := hJ
        obtain ⟨s5, hx, hm⟩ := bnd hm
        refine seq_j (fun a w => SS A [] w0 127 [(4, .pointer (some ⟨b2, 0, none⟩)), (5, .slice p6 (List.length r2.2.1) c6), (6, .slice p7 (List.length r3) c7), (9, .slice p9 (List.length r5) c9), (24, .slice p8 (List.length r4) c8), (25, vi (len r4)), (26, vi s2), (34, .slice p7 (List.length r3) c7), (35, vi (len r3)), (36, vi s3), (123, vb s5)] [[], bx b2 31 [.slice p3 (List.length r2.1.1) c3, .slice p4 (List.length r2.1.2.1) c4, .slice p5 (List.length r2.1.2.2) c5], r_1, r_2, [], []] [R e_Argument p6 c6 (List.length r2.2.1) r2.2.1, Ar e_Attack 45 r_1 p7 c7 (List.length r3) r3, Ar e_Ordering 24 r_2 p8 c8 (List.length r4) r4, R e_Attack p9 c9 (List.length r5) r5, R e_Premise p3 c3 (List.length r2.1.1) r2.1.1, R e_Rule p4 c4 (List.length r2.1.2.1) r2.1.2.1, R e_Promotion p5 c5 (List.length r2.1.2.2) r2.1.2.2] a w) ?_ ?_
        · replace hm := hx
          refine reg ?_
          refine pr 2 [(89, .pointer (some ⟨b6, 1, none⟩)), (88, .slice p7 (List.length r3) c7)] h fun a h => ?_
          refine sl (b_load_own 5 (vi x2.2.1) h rfl rfl fun a h => ?_)
          refine pr 1 [(91, .pointer (some ⟨b6, 0, none⟩))] h fun a h => ?_
          refine sl (b_load_own 5 (vi x2.1) h rfl rfl fun a h => ?_)
          refine pr 1 [(93, .pointer (some ⟨b6, 0, none⟩))] h fun a h => ?_
          refine sl (b_load_own 5 (vi x2.1) h rfl rfl fun a h => ?_)
          obtain ⟨r6, h12, hm⟩ := bnd hm
          refine sl (b_call [] [2] h Tryz.call24 rfl rfl (c_law09_has (y0 := r3) (y1 := x2.2.1) (y2 := x2.1) (y3 := x2.1) (h.po [] [2]) ⟨(h.pl [] [2] 2 (h.g 1)), trivial⟩ h12) fun v a w hp hc => ?_)
          obtain ⟨rfl, q⟩ := hp
          have h := hc.on q [[], bx b2 31 [.slice p3 (List.length r2.1.1) c3, .slice p4 (List.length r2.1.2.1) c4, .slice p5 (List.length r2.1.2.2) c5], r_1, r_2, [], bx b6 45 [vi x2.1, vi x2.2.1, vi x2.2.2.1, vi x2.2.2.2]]
          refine pr 3 [(98, vb (r6 == s4))] h fun a h => ?_
          rcases Bool.eq_false_or_eq_true (r6 == s4) with hb8 | hb8
          · have h := h.upd (t := 98) (vb true) rfl (congrArg Value.bool hb8)
            replace hm := ifT hb8 hm
            refine pr 25 [(123, vb true)] h fun a h => ?_
            refine ops_end ?_
            obtain rfl := Option.some.inj hm
            exact then_n (h.tos [900, 1, 2, 3, 904, 905] ⟨(h.g 0), (h.g 1), (h.g 2), (h.g 3), (h.g 4), (h.g 5), (h.g 6), trivial⟩)
          · have h := h.upd (t := 98) (vb false) rfl (congrArg Value.bool hb8)
            replace hm := ifF hb8 hm
            refine pr 3 [(101, vb (!s4))] h fun a h => ?_
            rcases Bool.eq_false_or_eq_true (!s4) with hb9 | hb9
            · have h := h.upd (t := 101) (vb true) rfl (congrArg Value.bool hb9)
              replace hm := ifT hb9 hm
              refine pr 2 [(103, .pointer (some ⟨b6, 0, none⟩)), (102, .slice p9 (List.length r5) c9)] h fun a h => ?_
              refine sl (b_load_own 5 (vi x2.1) h rfl rfl fun a h => ?_)
              refine pr 1 [(105, .pointer (some ⟨b6, 1, none⟩))] h fun a h => ?_
              refine sl (b_load_own 5 (vi x2.2.1) h rfl rfl fun a h => ?_)
              refine pr 1 [(107, .pointer (some ⟨b6, 1, none⟩))] h fun a h => ?_
              refine sl (b_load_own 5 (vi x2.2.1) h rfl rfl fun a h => ?_)
              obtain ⟨r7, h13, hm⟩ := bnd hm
              refine sl (b_call [] [] h Tryz.call24 rfl rfl (c_law09_has (y0 := r5) (y1 := x2.1) (y2 := x2.2.1) (y3 := x2.2.1) (h.po [] []) ⟨(h.pf [] [] 3), trivial⟩ h13) fun v a w hp hc => ?_)
              obtain ⟨rfl, q⟩ := hp
              have h := hc.on q [[], bx b2 31 [.slice p3 (List.length r2.1.1) c3, .slice p4 (List.length r2.1.2.1) c4, .slice p5 (List.length r2.1.2.2) c5], r_1, r_2, [], bx b6 45 [vi x2.1, vi x2.2.1, vi x2.2.2.1, vi x2.2.2.2]]
              refine pr 3 [(112, vb (!r7))] h fun a h => ?_
              rcases Bool.eq_false_or_eq_true (!r7) with hb10 | hb10
              · have h := h.upd (t := 112) (vb true) rfl (congrArg Value.bool hb10)
                replace hm := ifT hb10 hm
                refine pr 2 [(114, .pointer (some ⟨b6, 1, none⟩)), (113, .slice p9 (List.length r5) c9)] h fun a h => ?_
                refine sl (b_load_own 5 (vi x2.2.1) h rfl rfl fun a h => ?_)
                refine pr 1 [(116, .pointer (some ⟨b6, 0, none⟩))] h fun a h => ?_
                refine sl (b_load_own 5 (vi x2.1) h rfl rfl fun a h => ?_)
                refine pr 1 [(118, .pointer (some ⟨b6, 0, none⟩))] h fun a h => ?_
                refine sl (b_load_own 5 (vi x2.1) h rfl rfl fun a h => ?_)
                obtain ⟨r8, h14, hm⟩ := bnd hm
                refine sl (b_call [] [] h Tryz.call24 rfl rfl (c_law09_has (y0 := r5) (y1 := x2.2.1) (y2 := x2.1) (y3 := x2.1) (h.po [] []) ⟨(h.pf [] [] 3), trivial⟩ h14) fun v a w hp hc => ?_)
                obtain ⟨rfl, q⟩ := hp
                have h := hc.on q [[], bx b2 31 [.slice p3 (List.length r2.1.1) c3, .slice p4 (List.length r2.1.2.1) c4, .slice p5 (List.length r2.1.2.2) c5], r_1, r_2, [], bx b6 45 [vi x2.1, vi x2.2.1, vi x2.2.2.1, vi x2.2.2.2]]
                refine pr 3 [(123, vb (!r8))] h fun a h => ?_
                refine ops_end ?_
                obtain rfl := Option.some.inj hm
                exact then_n (h.tos [900, 1, 2, 3, 904, 905] ⟨(h.g 0), (h.g 1), (h.g 2), (h.g 3), (h.g 4), (h.g 5), (h.g 6), trivial⟩)
              · have h := h.upd (t := 112) (vb false) rfl (congrArg Value.bool hb10)
                replace hm := ifF hb10 hm
                refine pr 11 [(123, vb false)] h fun a h => ?_
                refine ops_end ?_
                obtain rfl := Option.some.inj hm
                exact then_n (h.tos [900, 1, 2, 3, 904, 905] ⟨(h.g 0), (h.g 1), (h.g 2), (h.g 3), (h.g 4), (h.g 5), (h.g 6), trivial⟩)
            · have h := h.upd (t := 101) (vb false) rfl (congrArg Value.bool hb9)
              replace hm := ifF hb9 hm
              refine pr 22 [(123, vb false)] h fun a h => ?_
              refine ops_end ?_
              obtain rfl := Option.some.inj hm
              exact then_n (h.tos [900, 1, 2, 3, 904, 905] ⟨(h.g 0), (h.g 1), (h.g 2), (h.g 3), (h.g 4), (h.g 5), (h.g 6), trivial⟩)
        intro a w hJ
        have h := hJ
        refine cb h rfl (fun hb11 => ?_) (fun hb11 => ?_)
        · replace hm := ifT hb11 hm
          refine sp [(2, vb false)] h fun a h => ?_
          refine wp_ret ?_
          refine inb_r (then_r (lp_r (inb_r (inb_r (then_r (lp_r (inb_r (then_r ?_))))))))
          replace hm := loopR hr2 hm
          replace hm := loopR hr1 hm
          obtain rfl := Option.some.inj hm
          replace hm := hm2
          obtain rfl := Option.some.inj hm
          exact rt1 h rfl rfl ⟨rfl, bk_sel h [] trivial⟩
        replace hm := ifF hb11 hm
        refine wp_skip ?_
        refine inb_n ?_
        refine then_n ?_
        refine reg ?_
        refine pr 2 [(36, vi (w64 (s3 + 1)))] h fun a h => ?_
        refine ops_end ?_
        obtain rfl := Option.some.inj hm
        exact lp_n rfl (h.tos [900, 1, 2, 3, 904] ⟨(h.g 0), (h.g 1), (h.g 2), (h.g 3), (h.g 4), (h.g 5), (h.g 6), trivial⟩)
      replace hm := ifF hb2 hm
      refine wp_exit ?_
      refine then_e (lp_e (inb_hit ?_))
      replace hm := loopR hr2 hm
      refine inb_n ?_
      refine then_n ?_
      refine reg ?_
      refine pr 2 [(26, vi (w64 (s2 + 1)))] h fun a h => ?_
      refine ops_end ?_
      obtain rfl := Option.some.inj hm
      exact lp_n rfl (h.tos [900, 1, 2, 3] ⟨(h.g 0), (h.g 1), (h.g 2), (h.g 4), (h.g 5), (h.g 6), trivial⟩)
    replace hm := ifF hb1 hm
    refine wp_exit ?_
    refine then_e (lp_e (inb_hit ?_))
    replace hm := loopR hr1 hm
    obtain rfl := Option.some.inj hm
    exact then_n ⟨_, rfl, h.tos [900, 901, 902] trivial⟩
  intro a w hJ
  obtain ⟨s1, rfl, h⟩ := hJ
  refine sr ?_
  obtain ⟨r9, h15, hm⟩ := bnd hm
  refine sl (b_call [] [] h Tryz.call17 rfl rfl (c_law09_awake (h.po [] []) trivial h15) fun v a w hp hc => ?_)
  obtain ⟨rfl, q⟩ := hp
  have h := hc.on q [[], [], []]
  refine pr 1 [(2, vb r9)] h fun a h => ?_
  refine oe ?_
  refine wp_ret ?_
  obtain rfl := Option.some.inj hm
  exact rt1 h rfl rfl ⟨rfl, bk_sel h [] trivial⟩

theorem c_law09_AttackAssumed {A : List Nat} {w0 : World} {y0 : List Int} {p1 : Option Addr} {c1 : Nat} {r : Bool} (hO : Own A w0 []) (hF : All [R (eInt .i64) p1 c1 (List.length y0) y0] (bl [] ++ A) w0) (hm : m_law09_AttackAssumed y0 = some r) :
    Calls Tryz.prog 8 [.slice p1 (List.length y0) c1].toArray w0 (Ret fun v w => v = vb r ∧ Bk A [] w0 [] [] w) := by
  unfold m_law09_AttackAssumed at hm
  refine ent Tryz.func8 rfl hO hF fun a h => ?_
  refine sp [] h fun a h => ?_
  refine sr ?_
  refine pr 1 [(16, .slice p1 (List.length y0) c1)] h fun a h => ?_
  obtain ⟨r1, h1, hm⟩ := bnd hm
  refine sl (b_call [] [] h Tryz.call9 rfl rfl (c_keep_New (y0 := y0) (h.po [] []) ⟨(h.pf [] [] 0), trivial⟩ h1) fun v a w hp hc => ?_)
  obtain ⟨b1, p2, c2, rfl, q⟩ := hp
  have h := hc.on q [bx b1 71 [.slice p2 (List.length r1.1) c2, vi r1.2]]
  refine pr 1 [(3, .pointer (some ⟨b1, 0, none⟩))] h fun a h => ?_
  refine oe ?_
  refine sr ?_
  refine pr 1 [(19, .pointer (some ⟨b1, 0, none⟩))] h fun a h => ?_
  obtain ⟨r2, h2, hm⟩ := bnd hm
  refine sl (b_call [0] [] h Tryz.call10 rfl rfl (c_law09_built (y0 := r1) (h.po [0] []) ⟨(h.pf [0] [] 0), trivial⟩ h2) fun v a w hp hc => ?_)
  obtain ⟨p3, c3, p4, c4, p5, c5, p6, c6, rfl, q⟩ := hp
  have h := hc.on q [bx b1 71 [.slice p2 (List.length r1.1) c2, vi r2.2.2]]
  refine pr 3 [(22, .slice p6 (List.length r2.2.1) c6), (21, .agg #[.slice p3 (List.length r2.1.1) c3, .slice p4 (List.length r2.1.2.1) c4, .slice p5 (List.length r2.1.2.2) c5])] h fun a h => ?_
  refine sl (b_alloc h rfl fun b2 a w h e => ?_)
  refine sl (b_store_own 1 h rfl rfl rfl fun a w h e => ?_)
  refine pr 1 [(5, .slice p6 (List.length r2.2.1) c6)] h fun a h => ?_
  refine oe ?_
  refine sr ?_
  refine sl (b_load_own 1 (.agg #[.slice p3 (List.length r2.1.1) c3, .slice p4 (List.length r2.1.2.1) c4, .slice p5 (List.length r2.1.2.2) c5]) h rfl rfl fun a h => ?_)
  refine pr 1 [(24, .slice p6 (List.length r2.2.1) c6)] h fun a h => ?_
  obtain ⟨r3, h3, hm⟩ := bnd hm
  refine sl (b_call [] [] h Tryz.call12 rfl rfl (c_attack_Attacks (y0 := r2.1) (y1 := r2.2.1) (h.po [] []) ⟨(h.pf [] [] 0), (h.pf [] [] 1), (h.pf [] [] 2), (h.pf [] [] 3), trivial⟩ h3) fun v a w hp hc => ?_)
  obtain ⟨p7, c7, r_1, rfl, q⟩ := hp
  have h := hc.on q [bx b1 71 [.slice p2 (List.length r1.1) c2, vi r2.2.2], bx b2 31 [.slice p3 (List.length r2.1.1) c3, .slice p4 (List.length r2.1.2.1) c4, .slice p5 (List.length r2.1.2.2) c5], r_1]
  refine pr 1 [(6, .slice p7 (List.length r3) c7)] h fun a h => ?_
  refine oe ?_
  refine sr ?_
  refine sl (b_bs_own (te := 68) (e := e_Premise) [] ([] : List T_Premise) h rfl fun r_2 p8 c8 a w h e => ?_)
  refine pr 1 [(27, .pointer (some ⟨b2, 0, none⟩))] h fun a h => ?_
  refine sl (b_load_own 1 (.slice p3 (List.length r2.1.1) c3) h rfl rfl fun a h => ?_)
  obtain ⟨x1, h4, hm⟩ := bnd hm
  refine sl (b_append_r (te := 68) 3 h (h.g 0) (h.g 2) rfl rfl h4 fun r_3 p9 c9 a w h e => ?_)
  refine pr 1 [(30, .agg #[.slice p9 (List.length x1) c9, .slice none 0 0, .slice none 0 0])] h fun a h => ?_
  have h := h.room e_Rule 66
  refine sl (b_alloc h rfl fun b3 a w h e => ?_)
  refine sl (b_store_own 5 h rfl rfl rfl fun a w h e => ?_)
  refine oe ?_
  obtain ⟨s1, hx, hm⟩ := bnd hm
  refine seq_j (fun a w => ∃ (p10 : Option Addr) (c10 : Nat) (r_4 : Res), SS A [] w0 109 [(4, .pointer (some ⟨b2, 0, none⟩)), (5, .slice p6 (List.length r2.2.1) c6), (6, .slice p7 (List.length r3) c7), (7, .pointer (some ⟨b3, 0, none⟩))] [[], bx b2 31 [.slice p3 (List.length r2.1.1) c3, .slice p4 (List.length r2.1.2.1) c4, .slice p5 (List.length r2.1.2.2) c5], r_1, r_3, r_4, bx b3 31 [.slice p9 (List.length x1) c9, .slice p10 (List.length s1) c10, .slice none 0 0]] [Ar e_Rule 66 r_4 p10 c10 (List.length s1) s1, R e_Argument p6 c6 (List.length r2.2.1) r2.2.1, Ar e_Attack 45 r_1 p7 c7 (List.length r3) r3, R e_Premise p3 c3 (List.length r2.1.1) r2.1.1, R e_Rule p4 c4 (List.length r2.1.2.1) r2.1.2.1, R e_Promotion p5 c5 (List.length r2.1.2.2) r2.1.2.2, Ar e_Premise 68 r_3 p9 c9 (List.length x1) x1] a w) ?_ ?_
  · have hm2 := hm
    replace hm := hx
    refine sr ?_
    refine pr 1 [(31, .pointer (some ⟨b2, 1, none⟩))] h fun a h => ?_
    refine sl (b_load_own 1 (.slice p4 (List.length r2.1.2.1) c4) h rfl rfl fun a h => ?_)
    refine pr 2 [(34, vi 0), (33, vi (len r2.1.2.1))] h fun a h => ?_
    refine oe ?_
    refine wp_block ?_
    refine loop_m (B := (m_law09_AttackAssumed_L1 r2)) (fun (s2 : Int × (List T_Rule)) a w => ∃ (p11 : Option Addr) (c11 : Nat) (r_5 : Res), SS A [] w0 109 [(4, .pointer (some ⟨b2, 0, none⟩)), (5, .slice p6 (List.length r2.2.1) c6), (6, .slice p7 (List.length r3) c7), (7, .pointer (some ⟨b3, 0, none⟩)), (32, .slice p4 (List.length r2.1.2.1) c4), (33, vi (len r2.1.2.1)), (34, vi s2.1)] [[], bx b2 31 [.slice p3 (List.length r2.1.1) c3, .slice p4 (List.length r2.1.2.1) c4, .slice p5 (List.length r2.1.2.2) c5], r_1, r_3, r_5, bx b3 31 [.slice p9 (List.length x1) c9, .slice p11 (List.length s2.2) c11, .slice none 0 0]] [Ar e_Rule 66 r_5 p11 c11 (List.length s2.2) s2.2, R e_Argument p6 c6 (List.length r2.2.1) r2.2.1, Ar e_Attack 45 r_1 p7 c7 (List.length r3) r3, R e_Rule p4 c4 (List.length r2.1.2.1) r2.1.2.1, R e_Premise p3 c3 (List.length r2.1.1) r2.1.1, R e_Promotion p5 c5 (List.length r2.1.2.2) r2.1.2.2, Ar e_Premise 68 r_3 p9 c9 (List.length x1) x1] a w) hm ⟨none, 0, [], h.tos [900, 1, 2, 3, 4, 5] ⟨(h.g 0), (h.g 7), (h.g 3), (h.g 5), (h.g 4), (h.g 6), (h.g 1), trivial⟩⟩ ?_
    intro s2 a w o1 hJ hm hr1
    obtain ⟨p11, c11, r_5, h⟩ := hJ
    unfold m_law09_AttackAssumed_L1 at hm
    refine sp [(35, vb (decide (s2.1 < (len r2.1.2.1))))] h fun a h => ?_
    refine wp_seq ?_
    refine cb h rfl (fun hb1 => ?_) (fun hb1 => ?_)
    · replace hm := ifT hb1 hm
      refine wp_skip ?_
      refine then_n ?_
      refine wp_seq ?_
      refine wp_block ?_
      refine sr ?_
      obtain ⟨x2, h5, hm⟩ := bnd hm
      refine sl (b_index_rd h (h.g 3) rfl rfl h5 fun b4 o2 a h => ?_)
      refine sl (b_load_pt true h (h.g 0) rfl fun ci1 hc1 v1 hv1 a h => ?_)
      replace hc1 : E.rd e_Rule _ _ ci1 x2 := hc1
      obtain ⟨_, _, rfl, rfl, ⟨_, _, rfl, rfl, ⟨_, _, rfl, rfl, ⟨_, _, rfl, ⟨p12, c12, rfl, f1⟩, ⟨_, _, rfl, rfl, rfl⟩⟩⟩⟩⟩ := hc1
      obtain rfl := Option.some.inj hv1
      have h := h.upd (t := 37) (.agg #[vs x2.1, vb x2.2.1, vi x2.2.2.1, .slice p12 (List.length x2.2.2.2.1) c12, vb x2.2.2.2.2.1, vs x2.2.2.2.2.2]) rfl rfl
      have h := h.add (R.of f1)
      refine sl (b_alloc h rfl fun b5 a w h e => ?_)
      refine sl (b_store_own 6 h rfl rfl rfl fun a w h e => ?_)
      refine oe ?_
      refine sr ?_
      refine pr 1 [(38, .pointer (some ⟨b5, 2, none⟩))] h fun a h => ?_
      refine sl (b_store_own 6 h rfl rfl rfl fun a w h e => ?_)
      refine oe ?_
      refine reg ?_
      refine pr 1 [(39, .pointer (some ⟨b3, 1, none⟩))] h fun a h => ?_
      refine sl (b_load_own 5 (.slice p11 (List.length s2.2) c11) h rfl rfl fun a h => ?_)
      refine sl (b_load_own 6 (.agg #[vs x2.1, vb x2.2.1, vi 0, .slice p12 (List.length x2.2.2.2.1) c12, vb x2.2.2.2.2.1, vs x2.2.2.2.2.2]) h rfl rfl fun a h => ?_)
      refine sl (b_bs_rd (te := 66) (e := e_Rule) [vs x2.1, vb x2.2.1, vi 0, .slice p12 (List.length x2.2.2.2.1) c12, vb x2.2.2.2.2.1, vs x2.2.2.2.2.2] ([(x2.1, x2.2.1, 0, x2.2.2.2.1, x2.2.2.2.2)] : List T_Rule) h ⟨_, _, rfl, eProd.mk eStr.mk (eProd.mk eBool.mk (eProd.mk eInt.mk (eProd.mk (R.cell (h.g 0)) (eProd.mk eBool.mk eStr.mk)))), rfl⟩ fun p13 c13 a w h e => ?_)
      obtain ⟨x3, h6, hm⟩ := bnd hm
      refine sl (b_append_r (te := 66) 4 h (h.g 3) (h.g 0) rfl rfl h6 fun r_6 p14 c14 a w h e => ?_)
      refine pr 1 [(44, .pointer (some ⟨b3, 1, none⟩))] h fun a h => ?_
      refine sl (b_store_own 5 h rfl rfl rfl fun a w h e => ?_)
      refine ops_end ?_
      refine inb_n ?_
      refine then_n ?_
      refine reg ?_
      refine pr 2 [(34, vi (w64 (s2.1 + 1)))] h fun a h => ?_
      refine ops_end ?_
      obtain rfl := Option.some.inj hm
      exact lp_n rfl ⟨p14, c14, r_6, h.tos [900, 1, 2, 3, 4, 5] ⟨(h.g 0), (h.g 5), (h.g 6), (h.g 7), (h.g 8), (h.g 9), (h.g 10), trivial⟩⟩
    replace hm := ifF hb1 hm
    refine wp_exit ?_
    refine then_e (lp_e (inb_hit ?_))
    replace hm := loopR hr1 hm
    obtain rfl := Option.some.inj hm
    exact then_n ⟨p11, c11, r_5, h.tos [900, 1, 2, 3, 4, 5] ⟨(h.g 0), (h.g 1), (h.g 2), (h.g 4), (h.g 3), (h.g 5), (h.g 6), trivial⟩⟩
  intro a w hJ
  obtain ⟨p10, c10, r_4, h⟩ := hJ
  obtain ⟨s3, hx, hm⟩ := bnd hm
  refine seq_j (fun a w => ∃ (p15 : Option Addr) (c15 : Nat) (r_7 : Res), SS A [] w0 109 [(4, .pointer (some ⟨b2, 0, none⟩)), (5, .slice p6 (List.length r2.2.1) c6), (6, .slice p7 (List.length r3) c7), (7, .pointer (some ⟨b3, 0, none⟩))] [[], bx b2 31 [.slice p3 (List.length r2.1.1) c3, .slice p4 (List.length r2.1.2.1) c4, .slice p5 (List.length r2.1.2.2) c5], r_1, r_7, r_4, bx b3 31 [.slice p15 (List.length s3) c15, .slice p10 (List.length s1) c10, .slice none 0 0]] [Ar e_Premise 68 r_7 p15 c15 (List.length s3) s3, R e_Argument p6 c6 (List.length r2.2.1) r2.2.1, Ar e_Attack 45 r_1 p7 c7 (List.length r3) r3, R e_Premise p3 c3 (List.length r2.1.1) r2.1.1, R e_Rule p4 c4 (List.length r2.1.2.1) r2.1.2.1, R e_Promotion p5 c5 (List.length r2.1.2.2) r2.1.2.2, Ar e_Rule 66 r_4 p10 c10 (List.length s1) s1] a w) ?_ ?_
  · have hm2 := hm
    replace hm := hx
    refine sr ?_
    refine pr 1 [(46, .pointer (some ⟨b3, 0, none⟩))] h fun a h => ?_
    refine sl (b_load_own 5 (.slice p9 (List.length x1) c9) h rfl rfl fun a h => ?_)
    refine pr 2 [(49, vi 0), (48, vi (len x1))] h fun a h => ?_
    refine oe ?_
    refine wp_block ?_
    refine loop_m (B := (m_law09_AttackAssumed_L2 x1)) (fun (s4 : Int × (List T_Premise)) a w => ∃ (p16 : Option Addr) (c16 : Nat) (r_8 : Res), SS A [] w0 109 [(4, .pointer (some ⟨b2, 0, none⟩)), (5, .slice p6 (List.length r2.2.1) c6), (6, .slice p7 (List.length r3) c7), (7, .pointer (some ⟨b3, 0, none⟩)), (48, vi (len x1)), (49, vi s4.1)] [[], bx b2 31 [.slice p3 (List.length r2.1.1) c3, .slice p4 (List.length r2.1.2.1) c4, .slice p5 (List.length r2.1.2.2) c5], r_1, r_8, r_4, bx b3 31 [.slice p16 (List.length s4.2) c16, .slice p10 (List.length s1) c10, .slice none 0 0]] [Ar e_Premise 68 r_8 p16 c16 (List.length s4.2) s4.2, R e_Argument p6 c6 (List.length r2.2.1) r2.2.1, Ar e_Attack 45 r_1 p7 c7 (List.length r3) r3, R e_Premise p3 c3 (List.length r2.1.1) r2.1.1, R e_Rule p4 c4 (List.length r2.1.2.1) r2.1.2.1, R e_Promotion p5 c5 (List.length r2.1.2.2) r2.1.2.2, Ar e_Rule 66 r_4 p10 c10 (List.length s1) s1] a w) hm ⟨p9, c9, r_3, h.tos [900, 1, 2, 3, 4, 5] ⟨(h.g 6), (h.g 1), (h.g 2), (h.g 3), (h.g 4), (h.g 5), (h.g 0), trivial⟩⟩ ?_
    intro s4 a w o3 hJ hm hr2
    obtain ⟨p16, c16, r_8, h⟩ := hJ
    unfold m_law09_AttackAssumed_L2 at hm
    refine sp [(50, vb (decide (s4.1 < (len x1))))] h fun a h => ?_
    refine wp_seq ?_
    refine cb h rfl (fun hb2 => ?_) (fun hb2 => ?_)
    · replace hm := ifT hb2 hm
      refine wp_skip ?_
      refine then_n ?_
      refine wp_seq ?_
      refine wp_block ?_
      refine sp [(10, vi s4.1)] h fun a h => ?_
      refine reg ?_
      refine pr 1 [(52, .pointer (some ⟨b3, 0, none⟩))] h fun a h => ?_
      refine sl (b_load_own 5 (.slice p16 (List.length s4.2) c16) h rfl rfl fun a h => ?_)
      refine pr 1 [(54, vi s4.1)] h fun a h => ?_
      obtain ⟨x4, h7, hm⟩ := bnd hm
      refine sl (b_index_arr h (h.g 0) rfl rfl h7 fun b6 hp1 a h => ?_)
      refine pr 1 [(56, .pointer (some ⟨b6, Int.toNat s4.1 * 5 + 3, none⟩))] h fun a h => ?_
      refine sl (b_store_arr 3 ((Sub.id e_Premise).snd.snd.fst) (v := vi 0) 0 false h (h.g 0) hp1 h7 rfl rfl eInt.mk fun r_9 a w h e => ?_)
      refine ops_end ?_
      refine inb_n ?_
      refine then_n ?_
      refine reg ?_
      refine pr 2 [(49, vi (w64 (s4.1 + 1)))] h fun a h => ?_
      refine ops_end ?_
      obtain rfl := Option.some.inj hm
      have h := h.eqL (congrArg (fun q_ : Nat => ([[], bx b2 31 [.slice p3 (List.length r2.1.1) c3, .slice p4 (List.length r2.1.2.1) c4, .slice p5 (List.length r2.1.2.2) c5], r_1, r_9, r_4, bx b3 31 [.slice p16 q_ c16, .slice p10 (List.length s1) c10, .slice none 0 0]] : List Res)) (Ar.ln (h.g 0)))
      have h := h.add (Ar.re (h.g 0))
      exact lp_n rfl ⟨p16, c16, r_9, h.tos [900, 1, 2, 3, 4, 5] ⟨(h.g 0), (h.g 3), (h.g 4), (h.g 5), (h.g 6), (h.g 7), (h.g 8), trivial⟩⟩
    replace hm := ifF hb2 hm
    refine wp_exit ?_
    refine then_e (lp_e (inb_hit ?_))
    replace hm := loopR hr2 hm
    obtain rfl := Option.some.inj hm
    exact then_n ⟨p16, c16, r_8, h.tos [900, 1, 2, 3, 4, 5] ⟨(h.g 0), (h.g 1), (h.g 2), (h.g 3), (h.g 4), (h.g 5), (h.g 6), trivial⟩⟩
  intro a w hJ
  obtain ⟨p15, c15, r_7, h⟩ := hJ
  refine wp_seq ?_
  refine sr ?_
  refine sl (b_load_own 5 (.agg #[.slice p15 (List.length s3) c15, .slice p10 (List.length s1) c10, .slice none 0 0]) h rfl rfl fun a h => ?_)
  refine pr 1 [(59, .slice p6 (List.length r2.2.1) c6)] h fun a h => ?_
  have h := h.share 3 (h.g 0)
  have h := h.share 4 (h.g 7)
  obtain ⟨r4, h8, hm⟩ := bnd hm
  refine sl (b_call [] [] h Tryz.call12 rfl rfl (c_attack_Attacks (y0 := (s3, s1, ([] : List T_Promotion))) (y1 := r2.2.1) (h.po [] []) ⟨(h.pf [] [] 1), (h.pf [] [] 0), (rnil _ _ _ _ _), (h.pf [] [] 3), trivial⟩ h8) fun v a w hp hc => ?_)
  obtain ⟨p17, c17, r_10, rfl, q⟩ := hp
  have h := hc.on q [[], bx b2 31 [.slice p3 (List.length r2.1.1) c3, .slice p4 (List.length r2.1.2.1) c4, .slice p5 (List.length r2.1.2.2) c5], r_1, [], [], bx b3 31 [.slice p15 (List.length s3) c15, .slice p10 (List.length s1) c10, .slice none 0 0], r_10]
  refine pr 1 [(61, .slice p7 (List.length r3) c7)] h fun a h => ?_
  obtain ⟨r5, h9, hm⟩ := bnd hm
  refine sl (b_call [] [6, 2] h Tryz.call11 rfl rfl (c_ref09_Same (y0 := r4) (y1 := r3) (h.po [] [6, 2]) ⟨(h.pl [] [6, 2] 6 (h.g 0)), (h.pl [] [6, 2] 2 (h.g 5)), trivial⟩ h9) fun v a w hp hc => ?_)
  obtain ⟨rfl, q⟩ := hp
  have h := hc.on q [[], bx b2 31 [.slice p3 (List.length r2.1.1) c3, .slice p4 (List.length r2.1.2.1) c4, .slice p5 (List.length r2.1.2.2) c5], r_1, [], [], bx b3 31 [.slice p15 (List.length s3) c15, .slice p10 (List.length s1) c10, .slice none 0 0], r_10]
  refine pr 1 [(63, vb (!r5))] h fun a h => ?_
  refine oe ?_
  refine cb h rfl (fun hb3 => ?_) (fun hb3 => ?_)
  · replace hm := ifT hb3 hm
    refine sp [(2, vb false)] h fun a h => ?_
    refine wp_ret ?_
    refine then_r ?_
    obtain rfl := Option.some.inj hm
    exact rt1 h rfl rfl ⟨rfl, bk_sel h [] trivial⟩
  replace hm := ifF hb3 hm
  refine wp_skip ?_
  refine then_n ?_
  obtain ⟨os5, hx, hm⟩ := bnd hm
  refine seq_j (fun a w => ∃ s5 : Unit, os5 = .inl s5 ∧ (SS A [] w0 109 [] [[], [], [], [], [], [], []] [] a w)) ?_ ?_
  · have hm2 := hm
    replace hm := hx
    refine sr ?_
    obtain ⟨r6, h10, hm⟩ := bnd hm
    refine sl (b_call [] [] h Tryz.call14 rfl rfl (c_keep_Orderings (h.po [] []) trivial h10) fun v a w hp hc => ?_)
    obtain ⟨p18, c18, r_11, rfl, q⟩ := hp
    have h := hc.on q [[], bx b2 31 [.slice p3 (List.length r2.1.1) c3, .slice p4 (List.length r2.1.2.1) c4, .slice p5 (List.length r2.1.2.2) c5], r_1, [], [], bx b3 31 [.slice p15 (List.length s3) c15, .slice p10 (List.length s1) c10, .slice none 0 0], r_10, r_11]
    refine pr 2 [(66, vi 0), (65, vi (len r6))] h fun a h => ?_
    refine oe ?_
    refine wp_block ?_
    refine loop_m (B := (m_law09_AttackAssumed_L3 r6 r2 r3)) (fun (s6 : Int) a w => SS A [] w0 109 [(4, .pointer (some ⟨b2, 0, none⟩)), (5, .slice p6 (List.length r2.2.1) c6), (6, .slice p7 (List.length r3) c7), (64, .slice p18 (List.length r6) c18), (65, vi (len r6)), (66, vi s6)] [[], bx b2 31 [.slice p3 (List.length r2.1.1) c3, .slice p4 (List.length r2.1.2.1) c4, .slice p5 (List.length r2.1.2.2) c5], r_1, [], [], [], [], r_11] [R e_Argument p6 c6 (List.length r2.2.1) r2.2.1, Ar e_Attack 45 r_1 p7 c7 (List.length r3) r3, Ar e_Ordering 24 r_11 p18 c18 (List.length r6) r6, R e_Premise p3 c3 (List.length r2.1.1) r2.1.1, R e_Rule p4 c4 (List.length r2.1.2.1) r2.1.2.1, R e_Promotion p5 c5 (List.length r2.1.2.2) r2.1.2.2] a w) hm (h.tos [900, 1, 2, 903, 904, 905, 906, 7] ⟨(h.g 5), (h.g 6), (h.g 0), (h.g 7), (h.g 8), (h.g 9), trivial⟩) ?_
    intro s6 a w o4 hJ hm hr3
    have h := hJ
    unfold m_law09_AttackAssumed_L3 at hm
    refine sp [(67, vb (decide (s6 < (len r6))))] h fun a h => ?_
    refine wp_seq ?_
    refine cb h rfl (fun hb4 => ?_) (fun hb4 => ?_)
    · replace hm := ifT hb4 hm
      refine wp_skip ?_
      refine then_n ?_
      refine wp_seq ?_
      refine wp_block ?_
      refine sr ?_
      obtain ⟨x5, h11, hm⟩ := bnd hm
      refine sl (b_index_arr h (h.g 2) rfl rfl h11 fun b7 hp2 a h => ?_)
      refine sl (b_load_arr 7 ((Sub.id e_Ordering)) true h (h.g 2) hp2 h11 rfl fun ci2 hc2 v2 hv2 a h => ?_)
      replace hc2 : E.rd e_Ordering _ _ ci2 x5 := hc2
      obtain ⟨_, _, rfl, rfl, rfl⟩ := hc2
      obtain rfl := Option.some.inj hv2
      have h := h.upd (t := 69) (.agg #[vi x5.1, vi x5.2]) rfl rfl
      refine sl (b_alloc h rfl fun b8 a w h e => ?_)
      refine sl (b_store_own 8 h rfl rfl rfl fun a w h e => ?_)
      refine oe ?_
      refine sr ?_
      refine sl (b_load_own 1 (.agg #[.slice p3 (List.length r2.1.1) c3, .slice p4 (List.length r2.1.2.1) c4, .slice p5 (List.length r2.1.2.2) c5]) h rfl rfl fun a h => ?_)
      refine pr 1 [(71, .slice p6 (List.length r2.2.1) c6)] h fun a h => ?_
      refine sl (b_load_own 8 (.agg #[vi x5.1, vi x5.2]) h rfl rfl fun a h => ?_)
      obtain ⟨r7, h12, hm⟩ := bnd hm
      refine sl (b_call [] [] h Tryz.call15 rfl rfl (c_attack_Defeats (y0 := r2.1) (y1 := r2.2.1) (y2 := x5) (h.po [] []) ⟨(h.pf [] [] 3), (h.pf [] [] 4), (h.pf [] [] 5), (h.pf [] [] 0), trivial⟩ h12) fun v a w hp hc => ?_)
      obtain ⟨p19, c19, rfl, q⟩ := hp
      have h := hc.on q [[], bx b2 31 [.slice p3 (List.length r2.1.1) c3, .slice p4 (List.length r2.1.2.1) c4, .slice p5 (List.length r2.1.2.2) c5], r_1, [], [], [], [], r_11, bx b8 24 [vi x5.1, vi x5.2]]
      refine pr 1 [(13, .slice p19 (List.length r7) c19)] h fun a h => ?_
      refine oe ?_
      obtain ⟨os7, hx, hm⟩ := bnd hm
      refine seq_j (fun a w => ∃ s7 : Unit, os7 = .inl s7 ∧ (SS A [] w0 109 [(4, .pointer (some ⟨b2, 0, none⟩)), (5, .slice p6 (List.length r2.2.1) c6), (6, .slice p7 (List.length r3) c7), (13, .slice p19 (List.length r7) c19), (64, .slice p18 (List.length r6) c18), (65, vi (len r6)), (66, vi s6)] [[], bx b2 31 [.slice p3 (List.length r2.1.1) c3, .slice p4 (List.length r2.1.2.1) c4, .slice p5 (List.length r2.1.2.2) c5], r_1, [], [], [], [], r_11, []] [R e_Argument p6 c6 (List.length r2.2.1) r2.2.1, Ar e_Attack 45 r_1 p7 c7 (List.length r3) r3, Ar e_Ordering 24 r_11 p18 c18 (List.length r6) r6, R e_Attack p19 c19 (List.length r7) r7, R e_Premise p3 c3 (List.length r2.1.1) r2.1.1, R e_Rule p4 c4 (List.length r2.1.2.1) r2.1.2.1, R e_Promotion p5 c5 (List.length r2.1.2.2) r2.1.2.2] a w)) ?_ ?_
      · have hm2 := hm
        replace hm := hx
        refine sp [(76, vi 0), (75, vi (len r3)), (74, .slice p7 (List.length r3) c7)] h fun a h => ?_
        refine wp_block ?_
        refine loop_m (B := (m_law09_AttackAssumed_L4 r3 r7 r2)) (fun (s8 : Int) a w => SS A [] w0 109 [(4, .pointer (some ⟨b2, 0, none⟩)), (5, .slice p6 (List.length r2.2.1) c6), (6, .slice p7 (List.length r3) c7), (13, .slice p19 (List.length r7) c19), (64, .slice p18 (List.length r6) c18), (65, vi (len r6)), (66, vi s6), (74, .slice p7 (List.length r3) c7), (75, vi (len r3)), (76, vi s8)] [[], bx b2 31 [.slice p3 (List.length r2.1.1) c3, .slice p4 (List.length r2.1.2.1) c4, .slice p5 (List.length r2.1.2.2) c5], r_1, [], [], [], [], r_11, []] [R e_Argument p6 c6 (List.length r2.2.1) r2.2.1, Ar e_Attack 45 r_1 p7 c7 (List.length r3) r3, Ar e_Ordering 24 r_11 p18 c18 (List.length r6) r6, R e_Attack p19 c19 (List.length r7) r7, R e_Premise p3 c3 (List.length r2.1.1) r2.1.1, R e_Rule p4 c4 (List.length r2.1.2.1) r2.1.2.1, R e_Promotion p5 c5 (List.length r2.1.2.2) r2.1.2.2] a w) hm (h.tos [900, 1, 2, 903, 904, 905, 906, 7, 908] ⟨(h.g 1), (h.g 2), (h.g 3), (h.g 0), (h.g 4), (h.g 5), (h.g 6), trivial⟩) ?_
        intro s8 a w o5 hJ hm hr4
        have h := hJ
        unfold m_law09_AttackAssumed_L4 at hm
        refine sp [(77, vb (decide (s8 < (len r3))))] h fun a h => ?_
        refine wp_seq ?_
        refine cb h rfl (fun hb5 => ?_) (fun hb5 => ?_)
        · replace hm := ifT hb5 hm
          refine wp_skip ?_
          refine then_n ?_
          refine wp_seq ?_
          refine wp_block ?_
          refine sr ?_
          obtain ⟨x6, h13, hm⟩ := bnd hm
          refine sl (b_index_arr h (h.g 1) rfl rfl h13 fun b9 hp3 a h => ?_)
          refine sl (b_load_arr 2 ((Sub.id e_Attack)) true h (h.g 1) hp3 h13 rfl fun ci3 hc3 v3 hv3 a h => ?_)
          replace hc3 : E.rd e_Attack _ _ ci3 x6 := hc3
          obtain ⟨_, _, rfl, rfl, ⟨_, _, rfl, rfl, ⟨_, _, rfl, rfl, rfl⟩⟩⟩ := hc3
          obtain rfl := Option.some.inj hv3
          have h := h.upd (t := 79) (.agg #[vi x6.1, vi x6.2.1, vi x6.2.2.1, vi x6.2.2.2]) rfl rfl
          refine sl (b_alloc h rfl fun b10 a w h e => ?_)
          refine sl (b_store_own 9 h rfl rfl rfl fun a w h e => ?_)
          refine oe ?_
          obtain ⟨s9, hx, hm⟩ := bnd hm
          refine seq_j (fun a w => SS A [] w0 109 [(4, .pointer (some ⟨b2, 0, none⟩)), (5, .slice p6 (List.length r2.2.1) c6), (6, .slice p7 (List.length r3) c7), (13, .slice p19 (List.length r7) c19), (64, .slice p18 (List.length r6) c18), (65, vi (len r6)), (66, vi s6), (74, .slice p7 (List.length r3) c7), (75, vi (len r3)), (76, vi s8), (100, vb s9)] [[], bx b2 31 [.slice p3 (List.length r2.1.1) c3, .slice p4 (List.length r2.1.2.1) c4, .slice p5 (List.length r2.1.2.2) c5], r_1, [], [], [], [], r_11, [], []] [R e_Argument p6 c6 (List.length r2.2.1) r2.2.1, Ar e_Attack 45 r_1 p7 c7 (List.length r3) r3, Ar e_Ordering 24 r_11 p18 c18 (List.length r6) r6, R e_Attack p19 c19 (List.length r7) r7, R e_Premise p3 c3 (List.length r2.1.1) r2.1.1, R e_Rule p4 c4 (List.length r2.1.2.1) r2.1.2.1, R e_Promotion p5 c5 (List.length r2.1.2.2) r2.1.2.2] a w) ?_ ?_
          · replace hm := hx
            refine reg ?_
            refine pr 1 [(80, .pointer (some ⟨b10, 3, none⟩))] h fun a h => ?_
            refine sl (b_load_own 9 (vi x6.2.2.2) h rfl rfl fun a h => ?_)
            refine pr 2 [(83, vb (x6.2.2.2 == 3))] h fun a h => ?_
            rcases Bool.eq_false_or_eq_true (x6.2.2.2 == 3) with hb6 | hb6
            · have h := h.upd (t := 83) (vb true) rfl (congrArg Value.bool hb6)
              replace hm := ifT hb6 hm
              refine pr 9 [(92, .pointer (some ⟨b10, 0, none⟩)), (91, .slice p19 (List.length r7) c19), (90, vb true)] h fun a h => ?_
              refine sl (b_load_own 9 (vi x6.1) h rfl rfl fun a h => ?_)
              refine pr 1 [(94, .pointer (some ⟨b10, 1, none⟩))] h fun a h => ?_
              refine sl (b_load_own 9 (vi x6.2.1) h rfl rfl fun a h => ?_)
              refine pr 1 [(96, .pointer (some ⟨b10, 2, none⟩))] h fun a h => ?_
              refine sl (b_load_own 9 (vi x6.2.2.1) h rfl rfl fun a h => ?_)
              obtain ⟨r8, h14, hm⟩ := bnd hm
              refine sl (b_call [] [] h Tryz.call24 rfl rfl (c_law09_has (y0 := r7) (y1 := x6.1) (y2 := x6.2.1) (y3 := x6.2.2.1) (h.po [] []) ⟨(h.pf [] [] 3), trivial⟩ h14) fun v a w hp hc => ?_)
              obtain ⟨rfl, q⟩ := hp
              have h := hc.on q [[], bx b2 31 [.slice p3 (List.length r2.1.1) c3, .slice p4 (List.length r2.1.2.1) c4, .slice p5 (List.length r2.1.2.2) c5], r_1, [], [], [], [], r_11, [], bx b10 45 [vi x6.1, vi x6.2.1, vi x6.2.2.1, vi x6.2.2.2]]
              refine pr 2 [(100, vb (!r8))] h fun a h => ?_
              refine ops_end ?_
              obtain rfl := Option.some.inj hm
              exact then_n (h.tos [900, 1, 2, 903, 904, 905, 906, 7, 908, 909] ⟨(h.g 0), (h.g 1), (h.g 2), (h.g 3), (h.g 4), (h.g 5), (h.g 6), trivial⟩)
            · have h := h.upd (t := 83) (vb false) rfl (congrArg Value.bool hb6)
              replace hm := ifF hb6 hm
              refine sl (b_load_own 1 (.agg #[.slice p3 (List.length r2.1.1) c3, .slice p4 (List.length r2.1.2.1) c4, .slice p5 (List.length r2.1.2.2) c5]) h rfl rfl fun a h => ?_)
              refine pr 2 [(86, .pointer (some ⟨b10, 2, none⟩)), (85, .slice p6 (List.length r2.2.1) c6)] h fun a h => ?_
              refine sl (b_load_own 9 (vi x6.2.2.1) h rfl rfl fun a h => ?_)
              obtain ⟨r9, h15, hm⟩ := bnd hm
              refine sl (b_call [] [] h Tryz.call27 rfl rfl (c_ref08_Assumes (y0 := r2.1) (y1 := r2.2.1) (y2 := x6.2.2.1) (h.po [] []) ⟨(h.pf [] [] 4), (h.pf [] [] 5), (h.pf [] [] 6), (h.pf [] [] 0), trivial⟩ h15) fun v a w hp hc => ?_)
              obtain ⟨rfl, q⟩ := hp
              have h := hc.on q [[], bx b2 31 [.slice p3 (List.length r2.1.1) c3, .slice p4 (List.length r2.1.2.1) c4, .slice p5 (List.length r2.1.2.2) c5], r_1, [], [], [], [], r_11, [], bx b10 45 [vi x6.1, vi x6.2.1, vi x6.2.2.1, vi x6.2.2.2]]
              refine pr 2 [(90, vb r9)] h fun a h => ?_
              rcases Bool.eq_false_or_eq_true r9 with hb7 | hb7
              · have h := h.upd (t := 90) (vb true) rfl (congrArg Value.bool hb7)
                replace hm := ifT hb7 hm
                refine pr 2 [(92, .pointer (some ⟨b10, 0, none⟩)), (91, .slice p19 (List.length r7) c19)] h fun a h => ?_
                refine sl (b_load_own 9 (vi x6.1) h rfl rfl fun a h => ?_)
                refine pr 1 [(94, .pointer (some ⟨b10, 1, none⟩))] h fun a h => ?_
                refine sl (b_load_own 9 (vi x6.2.1) h rfl rfl fun a h => ?_)
                refine pr 1 [(96, .pointer (some ⟨b10, 2, none⟩))] h fun a h => ?_
                refine sl (b_load_own 9 (vi x6.2.2.1) h rfl rfl fun a h => ?_)
                obtain ⟨r10, h16, hm⟩ := bnd hm
                refine sl (b_call [] [] h Tryz.call24 rfl rfl (c_law09_has (y0 := r7) (y1 := x6.1) (y2 := x6.2.1) (y3 := x6.2.2.1) (h.po [] []) ⟨(h.pf [] [] 3), trivial⟩ h16) fun v a w hp hc => ?_)
                obtain ⟨rfl, q⟩ := hp
                have h := hc.on q [[], bx b2 31 [.slice p3 (List.length r2.1.1) c3, .slice p4 (List.length r2.1.2.1) c4, .slice p5 (List.length r2.1.2.2) c5], r_1, [], [], [], [], r_11, [], bx b10 45 [vi x6.1, vi x6.2.1, vi x6.2.2.1, vi x6.2.2.2]]
                refine pr 2 [(100, vb (!r10))] h fun a h => ?_
                refine ops_end ?_
                obtain rfl := Option.some.inj hm
                exact then_n (h.tos [900, 1, 2, 903, 904, 905, 906, 7, 908, 909] ⟨(h.g 0), (h.g 1), (h.g 2), (h.g 3), (h.g 4), (h.g 5), (h.g 6), trivial⟩)
              · have h := h.upd (t := 90) (vb false) rfl (congrArg Value.bool hb7)
                replace hm := ifF hb7 hm
                refine pr 10 [(100, vb false)] h fun a h => ?_
                refine ops_end ?_
                obtain rfl := Option.some.inj hm
                exact then_n (h.tos [900, 1, 2, 903, 904, 905, 906, 7, 908, 909] ⟨(h.g 0), (h.g 1), (h.g 2), (h.g 3), (h.g 4), (h.g 5), (h.g 6), trivial⟩)
          intro a w hJ
          have h := hJ
          refine cb h rfl (fun hb8 => ?_) (fun hb8 => ?_)
          · replace hm := ifT hb8 hm
            refine sp [(2, vb false)] h fun a h => ?_
            refine wp_ret ?_
            refine inb_r (then_r (lp_r (inb_r (then_r (inb_r (then_r (lp_r (inb_r (then_r ?_)))))))))
            replace hm := loopR hr4 hm
            obtain rfl := Option.some.inj hm
            replace hm := hm2
            replace hm := loopR hr3 hm
            obtain rfl := Option.some.inj hm
            replace hm := hm2
            obtain rfl := Option.some.inj hm
            exact rt1 h rfl rfl ⟨rfl, bk_sel h [] trivial⟩
          replace hm := ifF hb8 hm
          refine wp_skip ?_
          refine inb_n ?_
          refine then_n ?_
          refine reg ?_
          refine pr 2 [(76, vi (w64 (s8 + 1)))] h fun a h => ?_
          refine ops_end ?_
          obtain rfl := Option.some.inj hm
          exact lp_n rfl (h.tos [900, 1, 2, 903, 904, 905, 906, 7, 908] ⟨(h.g 0), (h.g 1), (h.g 2), (h.g 3), (h.g 4), (h.g 5), (h.g 6), trivial⟩)
        replace hm := ifF hb5 hm
        refine wp_exit ?_
        refine then_e (lp_e (inb_hit ?_))
        replace hm := loopR hr4 hm
        obtain rfl := Option.some.inj hm
        exact then_n ⟨_, rfl, h.tos [900, 1, 2, 903, 904, 905, 906, 7, 908] ⟨(h.g 0), (h.g 1), (h.g 2), (h.g 3), (h.g 4), (h.g 5), (h.g 6), trivial⟩⟩
      intro a w hJ
      obtain ⟨s7, rfl, h⟩ := hJ
      refine sp [(106, vb (decide ((len r3) < (len r7))))] h fun a h => ?_
      refine cb h rfl (fun hb9 => ?_) (fun hb9 => ?_)
      · replace hm := ifT hb9 hm
        refine sp [(2, vb false)] h fun a h => ?_
        refine wp_ret ?_
        refine inb_r (then_r (lp_r (inb_r (then_r ?_))))
        replace hm := loopR hr3 hm
        obtain rfl := Option.some.inj hm
        replace hm := hm2
        obtain rfl := Option.some.inj hm
        exact rt1 h rfl rfl ⟨rfl, bk_sel h [] trivial⟩
      replace hm := ifF hb9 hm
      refine wp_skip ?_
      refine inb_n ?_
      refine then_n ?_
      refine reg ?_
      refine pr 2 [(66, vi (w64 (s6 + 1)))] h fun a h => ?_
      refine ops_end ?_
      obtain rfl := Option.some.inj hm
      exact lp_n rfl (h.tos [900, 1, 2, 903, 904, 905, 906, 7] ⟨(h.g 0), (h.g 1), (h.g 2), (h.g 4), (h.g 5), (h.g 6), trivial⟩)
    replace hm := ifF hb4 hm
    refine wp_exit ?_
    refine then_e (lp_e (inb_hit ?_))
    replace hm := loopR hr3 hm
    obtain rfl := Option.some.inj hm
    exact then_n ⟨_, rfl, h.tos [900, 901, 902, 903, 904, 905, 906] trivial⟩
  intro a w hJ
  obtain ⟨s5, rfl, h⟩ := hJ
  refine sr ?_
  obtain ⟨r11, h17, hm⟩ := bnd hm
  refine sl (b_call [] [] h Tryz.call17 rfl rfl (c_law09_awake (h.po [] []) trivial h17) fun v a w hp hc => ?_)
  obtain ⟨rfl, q⟩ := hp
  have h := hc.on q [[], [], [], [], [], [], []]
  refine pr 1 [(2, vb r11)] h fun a h => ?_
  refine oe ?_
  refine wp_ret ?_
  obtain rfl := Option.some.inj hm
  exact rt1 h rfl rfl ⟨rfl, bk_sel h [] trivial⟩

end Go.Proofs.YtofgcpbdgokpjaaGreat
