/- The Go functions compute their models: printed by program (gd2). Conditions: none. -/
import Derived.Test.YtofgcpbdgokpjaaGreatWalk2
namespace Go.Proofs.YtofgcpbdgokpjaaGreat
open Go Go.GD
set_option autoImplicit false
set_option maxRecDepth 100000

theorem c_keep_Src_Base {A : List Nat} {w0 : World} {y0 : T_keep_Src} {b1 : Nat} {p1 : Option Addr} {c1 : Nat} {y1 : Int} {y2 : Int} {y3 : Int} {r : T_Base × Int} (hO : Own A w0 [bx b1 71 [.slice p1 (List.length y0.1) c1, vi y0.2]]) (hF : All [R (eInt .i64) p1 c1 (List.length y0.1) y0.1] (bl [bx b1 71 [.slice p1 (List.length y0.1) c1, vi y0.2]] ++ A) w0) (hm : m_keep_Src_Base y0 y1 y2 y3 = some r) :
    Calls Tryz.prog 28 [.pointer (some ⟨b1, 0, none⟩), vi y1, vi y2, vi y3].toArray w0 (Ret fun v w => ∃ (p2 : Option Addr) (c2 : Nat) (p3 : Option Addr) (c3 : Nat) (p4 : Option Addr) (c4 : Nat), v = .agg #[.slice p2 (List.length r.1.1) c2, .slice p3 (List.length r.1.2.1) c3, .slice p4 (List.length r.1.2.2) c4] ∧ Bk A [bx b1 71 [.slice p1 (List.length y0.1) c1, vi y0.2]] w0 [bx b1 71 [.slice p1 (List.length y0.1) c1, vi r.2]] [R e_Premise p2 c2 (List.length r.1.1) r.1.1, R e_Rule p3 c3 (List.length r.1.2.1) r.1.2.1, R e_Promotion p4 c4 (List.length r.1.2.2) r.1.2.2] w) := by
  unfold m_keep_Src_Base at hm
  refine ent Tryz.func28 rfl hO hF fun a h => ?_
  refine sr ?_
  refine sl (b_alloc h rfl fun b2 a w h e => ?_)
  refine oe ?_
  refine sr ?_
  refine sl (b_alloc h rfl fun b3 a w h e => ?_)
  have h := h.room e_Premise 68
  have h := h.room e_Rule 66
  have h := h.room e_Promotion 99
  refine oe ?_
  obtain ⟨s1, hx, hm⟩ := bnd hm
  refine seq_j (fun a w => ∃ (p2 : Option Addr) (c2 : Nat) (r_1 : Res), SS A [bx b1 71 [.slice p1 (List.length y0.1) c1, vi y0.2]] w0 152 [(0, .pointer (some ⟨b1, 0, none⟩)), (1, vi y1), (3, vi y3), (8, .pointer (some ⟨b2, 0, none⟩)), (9, .pointer (some ⟨b3, 0, none⟩))] [bx b1 71 [.slice p1 (List.length y0.1) c1, vi s1.1], bx b2 31 [.slice none 0 0, .slice none 0 0, .slice none 0 0], bx b3 31 [.slice p2 (List.length s1.2) c2, .slice none (List.length ([] : List T_Rule)) 0, .slice none (List.length ([] : List T_Promotion)) 0], r_1, [], []] [Ar e_Premise 68 r_1 p2 c2 (List.length s1.2) s1.2, R (eInt .i64) p1 c1 (List.length y0.1) y0.1, Ar e_Rule 66 [] none 0 (List.length ([] : List T_Rule)) ([] : List T_Rule), Ar e_Promotion 99 [] none 0 (List.length ([] : List T_Promotion)) ([] : List T_Promotion)] a w) ?_ ?_
  · have hm2 := hm
    replace hm := hx
    refine sr ?_
    refine pr 3 [(21, vi (w64 (y2 + 1))), (19, .pointer (some ⟨b1, 0, none⟩))] h fun a h => ?_
    obtain ⟨r1, h1, hm⟩ := bnd hm
    refine sl (b_call [0] [] h Tryz.call18 rfl rfl (c_keep_Src_N (y0 := y0) (y1 := w64 (y2 + 1)) (h.po [0] []) ⟨(h.pf [0] [] 3), trivial⟩ h1) fun v a w hp hc => ?_)
    obtain ⟨rfl, q⟩ := hp
    have h := hc.on q [bx b1 71 [.slice p1 (List.length y0.1) c1, vi r1.2], bx b2 31 [.slice none 0 0, .slice none 0 0, .slice none 0 0], bx b3 31 [.slice none (List.length ([] : List T_Premise)) 0, .slice none (List.length ([] : List T_Rule)) 0, .slice none (List.length ([] : List T_Promotion)) 0], [], [], []]
    refine pr 1 [(10, vi r1.1)] h fun a h => ?_
    refine oe ?_
    refine wp_block ?_
    refine loop_m (B := (m_keep_Src_Base_L1 y0 y1)) (fun (s2 : Int × Int × (List T_Premise)) a w => ∃ (p3 : Option Addr) (c3 : Nat) (r_2 : Res), SS A [bx b1 71 [.slice p1 (List.length y0.1) c1, vi y0.2]] w0 152 [(0, .pointer (some ⟨b1, 0, none⟩)), (1, vi y1), (3, vi y3), (8, .pointer (some ⟨b2, 0, none⟩)), (9, .pointer (some ⟨b3, 0, none⟩)), (10, vi s2.1)] [bx b1 71 [.slice p1 (List.length y0.1) c1, vi s2.2.1], bx b2 31 [.slice none 0 0, .slice none 0 0, .slice none 0 0], bx b3 31 [.slice p3 (List.length s2.2.2) c3, .slice none (List.length ([] : List T_Rule)) 0, .slice none (List.length ([] : List T_Promotion)) 0], r_2, [], []] [Ar e_Premise 68 r_2 p3 c3 (List.length s2.2.2) s2.2.2, R (eInt .i64) p1 c1 (List.length y0.1) y0.1, Ar e_Rule 66 [] none 0 (List.length ([] : List T_Rule)) ([] : List T_Rule), Ar e_Promotion 99 [] none 0 (List.length ([] : List T_Promotion)) ([] : List T_Promotion)] a w) hm ⟨none, 0, [], h.to 6 ⟨(h.g 2), (h.g 3), (h.g 1), (h.g 0), trivial⟩⟩ ?_
    intro s2 a w o1 hJ hm hr1
    obtain ⟨p3, c3, r_2, h⟩ := hJ
    unfold m_keep_Src_Base_L1 at hm
    refine wp_seq ?_
    refine sp [(24, vb (decide (0 < s2.1)))] h fun a h => ?_
    refine cb h rfl (fun hb1 => ?_) (fun hb1 => ?_)
    · replace hm := ifT hb1 hm
      refine wp_skip ?_
      refine then_n ?_
      refine wp_seq ?_
      refine wp_block ?_
      refine sr ?_
      refine pr 2 [(28, vi y1), (27, .pointer (some ⟨b1, 0, none⟩))] h fun a h => ?_
      obtain ⟨r2, h2, hm⟩ := bnd hm
      refine sl (b_call [0] [] h Tryz.call50 rfl rfl (c_keep_Src_Literal (y0 := (y0.1, s2.2.1)) (y1 := y1) (h.po [0] []) ⟨(h.pf [0] [] 1), trivial⟩ h2) fun v a w hp hc => ?_)
      obtain ⟨rfl, q⟩ := hp
      have h := hc.on q [bx b1 71 [.slice p1 (List.length y0.1) c1, vi r2.2], bx b2 31 [.slice none 0 0, .slice none 0 0, .slice none 0 0], bx b3 31 [.slice p3 (List.length s2.2.2) c3, .slice none (List.length ([] : List T_Rule)) 0, .slice none (List.length ([] : List T_Promotion)) 0], r_2, [], []]
      refine pr 1 [(30, .pointer (some ⟨b1, 0, none⟩))] h fun a h => ?_
      refine sl (b_bs_rd (te := 3) (e := eInt .i64) [vi 1, vi 2, vi 2, vi 2, vi 3] ([1, 2, 2, 2, 3] : List Int) h ⟨_, _, rfl, eInt.mk, ⟨_, _, rfl, eInt.mk, ⟨_, _, rfl, eInt.mk, ⟨_, _, rfl, eInt.mk, ⟨_, _, rfl, eInt.mk, rfl⟩⟩⟩⟩⟩ fun p4 c4 a w h e => ?_)
      obtain ⟨r3, h3, hm⟩ := bnd hm
      refine sl (b_call [0] [] h Tryz.call19 rfl rfl (c_keep_Src_Pick (y0 := (y0.1, r2.2)) (y1 := ([1, 2, 2, 2, 3] : List Int)) (h.po [0] []) ⟨(h.pf [0] [] 2), (h.pf [0] [] 0), trivial⟩ h3) fun v a w hp hc => ?_)
      obtain ⟨rfl, q⟩ := hp
      have h := hc.on q [bx b1 71 [.slice p1 (List.length y0.1) c1, vi r3.2], bx b2 31 [.slice none 0 0, .slice none 0 0, .slice none 0 0], bx b3 31 [.slice p3 (List.length s2.2.2) c3, .slice none (List.length ([] : List T_Rule)) 0, .slice none (List.length ([] : List T_Promotion)) 0], r_2, [], []]
      refine pr 1 [(33, .pointer (some ⟨b1, 0, none⟩))] h fun a h => ?_
      refine sl (b_bs_rd (te := 9) (e := eStr) [vs [], vs [], vs [97, 110, 110], vs [98, 111, 98]] ([[], [], [97, 110, 110], [98, 111, 98]] : List Str) h ⟨_, _, rfl, eStr.mk, ⟨_, _, rfl, eStr.mk, ⟨_, _, rfl, eStr.mk, ⟨_, _, rfl, eStr.mk, rfl⟩⟩⟩⟩ fun p5 c5 a w h e => ?_)
      obtain ⟨r4, h4, hm⟩ := bnd hm
      refine sl (b_call [0] [] h Tryz.call51 rfl rfl (c_keep_Src_Text (y0 := (y0.1, r3.2)) (y1 := ([[], [], [97, 110, 110], [98, 111, 98]] : List Str)) (h.po [0] []) ⟨(h.pf [0] [] 3), (h.pf [0] [] 0), trivial⟩ h4) fun v a w hp hc => ?_)
      obtain ⟨rfl, q⟩ := hp
      have h := hc.on q [bx b1 71 [.slice p1 (List.length y0.1) c1, vi r4.2], bx b2 31 [.slice none 0 0, .slice none 0 0, .slice none 0 0], bx b3 31 [.slice p3 (List.length s2.2.2) c3, .slice none (List.length ([] : List T_Rule)) 0, .slice none (List.length ([] : List T_Promotion)) 0], r_2, [], []]
      refine pr 1 [(36, .agg #[vb r2.1.1, vs r2.1.2, vi r3.1, vi 0, vs r4.1])] h fun a h => ?_
      refine sl (b_alloc h rfl fun b4 a w h e => ?_)
      refine sl (b_store_own 6 h rfl rfl rfl fun a w h e => ?_)
      refine oe ?_
      obtain ⟨s3, hx, hm⟩ := bnd hm
      refine seq_j (fun a w => SS A [bx b1 71 [.slice p1 (List.length y0.1) c1, vi y0.2]] w0 152 [(0, .pointer (some ⟨b1, 0, none⟩)), (1, vi y1), (3, vi y3), (8, .pointer (some ⟨b2, 0, none⟩)), (9, .pointer (some ⟨b3, 0, none⟩)), (10, vi s2.1), (11, .pointer (some ⟨b4, 0, none⟩))] [bx b1 71 [.slice p1 (List.length y0.1) c1, vi s3.1], bx b2 31 [.slice none 0 0, .slice none 0 0, .slice none 0 0], bx b3 31 [.slice p3 (List.length s2.2.2) c3, .slice none (List.length ([] : List T_Rule)) 0, .slice none (List.length ([] : List T_Promotion)) 0], r_2, [], [], bx b4 68 [vb r2.1.1, vs r2.1.2, vi r3.1, vi s3.2, vs r4.1]] [R (eInt .i64) p1 c1 (List.length y0.1) y0.1, Ar e_Premise 68 r_2 p3 c3 (List.length s2.2.2) s2.2.2, Ar e_Rule 66 [] none 0 (List.length ([] : List T_Rule)) ([] : List T_Rule), Ar e_Promotion 99 [] none 0 (List.length ([] : List T_Promotion)) ([] : List T_Promotion)] a w) ?_ ?_
      · have hm2 := hm
        replace hm := hx
        refine sr ?_
        refine pr 1 [(37, .pointer (some ⟨b4, 2, none⟩))] h fun a h => ?_
        refine sl (b_load_own 6 (vi r3.1) h rfl rfl fun a h => ?_)
        refine pr 1 [(39, vb (r3.1 == 2))] h fun a h => ?_
        refine oe ?_
        refine cb h rfl (fun hb2 => ?_) (fun hb2 => ?_)
        · replace hm := ifT hb2 hm
          refine reg ?_
          refine pr 1 [(40, .pointer (some ⟨b1, 0, none⟩))] h fun a h => ?_
          obtain ⟨r5, h5, hm⟩ := bnd hm
          refine sl (b_call [0] [] h Tryz.call18 rfl rfl (c_keep_Src_N (y0 := (y0.1, r4.2)) (y1 := 4) (h.po [0] []) ⟨(h.pf [0] [] 3), trivial⟩ h5) fun v a w hp hc => ?_)
          obtain ⟨rfl, q⟩ := hp
          have h := hc.on q [bx b1 71 [.slice p1 (List.length y0.1) c1, vi r5.2], bx b2 31 [.slice none 0 0, .slice none 0 0, .slice none 0 0], bx b3 31 [.slice p3 (List.length s2.2.2) c3, .slice none (List.length ([] : List T_Rule)) 0, .slice none (List.length ([] : List T_Promotion)) 0], r_2, [], [], bx b4 68 [vb r2.1.1, vs r2.1.2, vi r3.1, vi 0, vs r4.1]]
          refine pr 1 [(42, .pointer (some ⟨b4, 3, none⟩))] h fun a h => ?_
          refine sl (b_store_own 6 h rfl rfl rfl fun a w h e => ?_)
          refine ops_end ?_
          obtain rfl := Option.some.inj hm
          exact then_n (h.to 7 ⟨(h.g 3), (h.g 2), (h.g 4), (h.g 5), trivial⟩)
        replace hm := ifF hb2 hm
        refine wp_skip ?_
        obtain rfl := Option.some.inj hm
        exact then_n (h.to 7 ⟨(h.g 3), (h.g 2), (h.g 4), (h.g 5), trivial⟩)
      intro a w hJ
      have h := hJ
      refine sp [(12, vb false)] h fun a h => ?_
      obtain ⟨s4, hx, hm⟩ := bnd hm
      refine seq_j (fun a w => SS A [bx b1 71 [.slice p1 (List.length y0.1) c1, vi y0.2]] w0 152 [(0, .pointer (some ⟨b1, 0, none⟩)), (1, vi y1), (3, vi y3), (8, .pointer (some ⟨b2, 0, none⟩)), (9, .pointer (some ⟨b3, 0, none⟩)), (10, vi s2.1), (11, .pointer (some ⟨b4, 0, none⟩)), (12, vb s4)] [bx b1 71 [.slice p1 (List.length y0.1) c1, vi s3.1], bx b2 31 [.slice none 0 0, .slice none 0 0, .slice none 0 0], bx b3 31 [.slice p3 (List.length s2.2.2) c3, .slice none (List.length ([] : List T_Rule)) 0, .slice none (List.length ([] : List T_Promotion)) 0], r_2, [], [], bx b4 68 [vb r2.1.1, vs r2.1.2, vi r3.1, vi s3.2, vs r4.1]] [R (eInt .i64) p1 c1 (List.length y0.1) y0.1, Ar e_Premise 68 r_2 p3 c3 (List.length s2.2.2) s2.2.2, Ar e_Rule 66 [] none 0 (List.length ([] : List T_Rule)) ([] : List T_Rule), Ar e_Promotion 99 [] none 0 (List.length ([] : List T_Promotion)) ([] : List T_Promotion)] a w) ?_ ?_
      · have hm2 := hm
        replace hm := hx
        refine sr ?_
        refine pr 1 [(43, .pointer (some ⟨b3, 0, none⟩))] h fun a h => ?_
        refine sl (b_load_own 2 (.slice p3 (List.length s2.2.2) c3) h rfl rfl fun a h => ?_)
        refine pr 2 [(46, vi 0), (45, vi (len s2.2.2))] h fun a h => ?_
        refine oe ?_
        refine wp_block ?_
        refine loop_m (B := (m_keep_Src_Base_L2 s2 r2)) (fun (s5 : Bool × Int) a w => SS A [bx b1 71 [.slice p1 (List.length y0.1) c1, vi y0.2]] w0 152 [(0, .pointer (some ⟨b1, 0, none⟩)), (1, vi y1), (3, vi y3), (8, .pointer (some ⟨b2, 0, none⟩)), (9, .pointer (some ⟨b3, 0, none⟩)), (10, vi s2.1), (11, .pointer (some ⟨b4, 0, none⟩)), (12, vb s5.1), (44, .slice p3 (List.length s2.2.2) c3), (45, vi (len s2.2.2)), (46, vi s5.2)] [bx b1 71 [.slice p1 (List.length y0.1) c1, vi s3.1], bx b2 31 [.slice none 0 0, .slice none 0 0, .slice none 0 0], bx b3 31 [.slice p3 (List.length s2.2.2) c3, .slice none (List.length ([] : List T_Rule)) 0, .slice none (List.length ([] : List T_Promotion)) 0], r_2, [], [], bx b4 68 [vb r2.1.1, vs r2.1.2, vi r3.1, vi s3.2, vs r4.1]] [Ar e_Premise 68 r_2 p3 c3 (List.length s2.2.2) s2.2.2, R (eInt .i64) p1 c1 (List.length y0.1) y0.1, Ar e_Rule 66 [] none 0 (List.length ([] : List T_Rule)) ([] : List T_Rule), Ar e_Promotion 99 [] none 0 (List.length ([] : List T_Promotion)) ([] : List T_Promotion)] a w) hm (h.to 7 ⟨(h.g 1), (h.g 0), (h.g 2), (h.g 3), trivial⟩) ?_
        intro s5 a w o2 hJ hm hr2
        have h := hJ
        unfold m_keep_Src_Base_L2 at hm
        refine sp [(47, vb (decide (s5.2 < (len s2.2.2))))] h fun a h => ?_
        refine wp_seq ?_
        refine cb h rfl (fun hb3 => ?_) (fun hb3 => ?_)
        · replace hm := ifT hb3 hm
          refine wp_skip ?_
          refine then_n ?_
          refine wp_seq ?_
          refine wp_block ?_
          refine sr ?_
          obtain ⟨x1, h6, hm⟩ := bnd hm
          refine sl (b_index_arr h (h.g 0) rfl rfl h6 fun b5 hp1 a h => ?_)
          refine sl (b_load_arr 3 ((Sub.id e_Premise)) true h (h.g 0) hp1 h6 rfl fun ci1 hc1 v1 hv1 a h => ?_)
          replace hc1 : E.rd e_Premise _ _ ci1 x1 := hc1
          obtain ⟨_, _, rfl, ⟨_, _, rfl, rfl, rfl⟩, ⟨_, _, rfl, rfl, ⟨_, _, rfl, rfl, rfl⟩⟩⟩ := hc1
          obtain rfl := Option.some.inj hv1
          have h := h.upd (t := 49) (.agg #[vb x1.1.1, vs x1.1.2, vi x1.2.1, vi x1.2.2.1, vs x1.2.2.2]) rfl rfl
          refine sl (b_alloc h rfl fun b6 a w h e => ?_)
          refine sl (b_store_own 7 h rfl rfl rfl fun a w h e => ?_)
          refine oe ?_
          refine code_j (fun a w => SS A [bx b1 71 [.slice p1 (List.length y0.1) c1, vi y0.2]] w0 152 [(0, .pointer (some ⟨b1, 0, none⟩)), (1, vi y1), (3, vi y3), (8, .pointer (some ⟨b2, 0, none⟩)), (9, .pointer (some ⟨b3, 0, none⟩)), (10, vi s2.1), (11, .pointer (some ⟨b4, 0, none⟩)), (12, vb (s5.1 || (x1.1 == r2.1))), (44, .slice p3 (List.length s2.2.2) c3), (45, vi (len s2.2.2)), (46, vi s5.2)] [bx b1 71 [.slice p1 (List.length y0.1) c1, vi s3.1], bx b2 31 [.slice none 0 0, .slice none 0 0, .slice none 0 0], bx b3 31 [.slice p3 (List.length s2.2.2) c3, .slice none (List.length ([] : List T_Rule)) 0, .slice none (List.length ([] : List T_Promotion)) 0], r_2, [], [], bx b4 68 [vb r2.1.1, vs r2.1.2, vi r3.1, vi s3.2, vs r4.1], []] [Ar e_Premise 68 r_2 p3 c3 (List.length s2.2.2) s2.2.2, R (eInt .i64) p1 c1 (List.length y0.1) y0.1, Ar e_Rule 66 [] none 0 (List.length ([] : List T_Rule)) ([] : List T_Rule), Ar e_Promotion 99 [] none 0 (List.length ([] : List T_Promotion)) ([] : List T_Promotion)] a w) ?_ ?_
          · refine reg ?_
            refine pr 2 [(51, vb s5.1)] h fun a h => ?_
            rcases Bool.eq_false_or_eq_true s5.1 with hb4 | hb4
            · have h := h.upd (t := 51) (vb true) rfl (congrArg Value.bool hb4)
              refine pr 7 [(12, vb true)] h fun a h => ?_
              refine ops_end ?_
              have h := h.upd (t := 12) (vb (s5.1 || (x1.1 == r2.1))) rfl (by rw [hb4]; rfl)
              exact then_n (h.tos [0, 1, 2, 3, 4, 5, 6, 907] ⟨(h.g 0), (h.g 1), (h.g 2), (h.g 3), trivial⟩)
            · have h := h.upd (t := 51) (vb false) rfl (congrArg Value.bool hb4)
              refine pr 1 [(52, .pointer (some ⟨b6, 0, none⟩))] h fun a h => ?_
              refine sl (b_load_own 7 (.agg #[vb x1.1.1, vs x1.1.2]) h rfl rfl fun a h => ?_)
              refine pr 1 [(54, .pointer (some ⟨b4, 0, none⟩))] h fun a h => ?_
              refine sl (b_load_own 6 (.agg #[vb r2.1.1, vs r2.1.2]) h rfl rfl fun a h => ?_)
              refine pr 3 [(12, vb (x1.1 == r2.1))] h fun a h => ?_
              refine ops_end ?_
              have h := h.upd (t := 12) (vb (s5.1 || (x1.1 == r2.1))) rfl (by rw [hb4]; rfl)
              exact then_n (h.tos [0, 1, 2, 3, 4, 5, 6, 907] ⟨(h.g 0), (h.g 1), (h.g 2), (h.g 3), trivial⟩)
          intro a w hJ
          have h := hJ
          refine inb_n ?_
          refine then_n ?_
          refine reg ?_
          refine pr 2 [(46, vi (w64 (s5.2 + 1)))] h fun a h => ?_
          refine ops_end ?_
          obtain rfl := Option.some.inj hm
          exact lp_n rfl (h.to 7 ⟨(h.g 0), (h.g 1), (h.g 2), (h.g 3), trivial⟩)
        replace hm := ifF hb3 hm
        refine wp_exit ?_
        refine then_e (lp_e (inb_hit ?_))
        replace hm := loopR hr2 hm
        obtain rfl := Option.some.inj hm
        exact then_n (h.to 7 ⟨(h.g 1), (h.g 0), (h.g 2), (h.g 3), trivial⟩)
      intro a w hJ
      have h := hJ
      refine sp [(60, vb (!s4))] h fun a h => ?_
      refine cb h rfl (fun hb5 => ?_) (fun hb5 => ?_)
      · replace hm := ifT hb5 hm
        refine reg ?_
        refine pr 1 [(61, .pointer (some ⟨b3, 0, none⟩))] h fun a h => ?_
        refine sl (b_load_own 2 (.slice p3 (List.length s2.2.2) c3) h rfl rfl fun a h => ?_)
        refine sl (b_load_own 6 (.agg #[vb r2.1.1, vs r2.1.2, vi r3.1, vi s3.2, vs r4.1]) h rfl rfl fun a h => ?_)
        refine sl (b_bs_rd (te := 68) (e := e_Premise) [vb r2.1.1, vs r2.1.2, vi r3.1, vi s3.2, vs r4.1] ([(r2.1, r3.1, s3.2, r4.1)] : List T_Premise) h ⟨_, _, rfl, eProd.mk (eProd.mk eBool.mk eStr.mk) (eProd.mk eInt.mk (eProd.mk eInt.mk eStr.mk)), rfl⟩ fun p6 c6 a w h e => ?_)
        obtain ⟨x2, h7, hm⟩ := bnd hm
        refine sl (b_append_r (te := 68) 3 h (h.g 2) (h.g 0) rfl rfl h7 fun r_3 p7 c7 a w h e => ?_)
        refine pr 1 [(66, .pointer (some ⟨b3, 0, none⟩))] h fun a h => ?_
        refine sl (b_store_own 2 h rfl rfl rfl fun a w h e => ?_)
        refine ops_end ?_
        refine inb_n ?_
        refine then_n ?_
        refine reg ?_
        refine pr 3 [(10, vi (w64 (s2.1 - 1)))] h fun a h => ?_
        refine ops_end ?_
        obtain rfl := Option.some.inj hm
        exact lp_n rfl ⟨p7, c7, r_3, h.to 6 ⟨(h.g 0), (h.g 2), (h.g 4), (h.g 5), trivial⟩⟩
      replace hm := ifF hb5 hm
      refine wp_skip ?_
      refine inb_n ?_
      refine then_n ?_
      refine reg ?_
      refine pr 3 [(10, vi (w64 (s2.1 - 1)))] h fun a h => ?_
      refine ops_end ?_
      obtain rfl := Option.some.inj hm
      exact lp_n rfl ⟨p3, c3, r_2, h.to 6 ⟨(h.g 1), (h.g 0), (h.g 2), (h.g 3), trivial⟩⟩
    replace hm := ifF hb1 hm
    refine wp_exit ?_
    refine then_e (lp_e (inb_hit ?_))
    replace hm := loopR hr1 hm
    obtain rfl := Option.some.inj hm
    exact then_n ⟨p3, c3, r_2, h.to 6 ⟨(h.g 0), (h.g 1), (h.g 2), (h.g 3), trivial⟩⟩
  intro a w hJ
  obtain ⟨p2, c2, r_1, h⟩ := hJ
  obtain ⟨s6, hx, hm⟩ := bnd hm
  refine seq_j (fun a w => ∃ (p8 : Option Addr) (c8 : Nat) (r_4 : Res), SS A [bx b1 71 [.slice p1 (List.length y0.1) c1, vi y0.2]] w0 152 [(0, .pointer (some ⟨b1, 0, none⟩)), (1, vi y1), (8, .pointer (some ⟨b2, 0, none⟩)), (9, .pointer (some ⟨b3, 0, none⟩))] [bx b1 71 [.slice p1 (List.length y0.1) c1, vi s6.1], bx b2 31 [.slice none 0 0, .slice none 0 0, .slice none 0 0], bx b3 31 [.slice p2 (List.length s1.2) c2, .slice p8 (List.length s6.2) c8, .slice none (List.length ([] : List T_Promotion)) 0], r_1, r_4, []] [Ar e_Rule 66 r_4 p8 c8 (List.length s6.2) s6.2, R (eInt .i64) p1 c1 (List.length y0.1) y0.1, Ar e_Premise 68 r_1 p2 c2 (List.length s1.2) s1.2, Ar e_Promotion 99 [] none 0 (List.length ([] : List T_Promotion)) ([] : List T_Promotion)] a w) ?_ ?_
  · have hm2 := hm
    replace hm := hx
    refine sr ?_
    refine pr 3 [(69, vi (w64 (y3 + 1))), (67, .pointer (some ⟨b1, 0, none⟩))] h fun a h => ?_
    obtain ⟨r6, h8, hm⟩ := bnd hm
    refine sl (b_call [0] [] h Tryz.call18 rfl rfl (c_keep_Src_N (y0 := (y0.1, s1.1)) (y1 := w64 (y3 + 1)) (h.po [0] []) ⟨(h.pf [0] [] 1), trivial⟩ h8) fun v a w hp hc => ?_)
    obtain ⟨rfl, q⟩ := hp
    have h := hc.on q [bx b1 71 [.slice p1 (List.length y0.1) c1, vi r6.2], bx b2 31 [.slice none 0 0, .slice none 0 0, .slice none 0 0], bx b3 31 [.slice p2 (List.length s1.2) c2, .slice none (List.length ([] : List T_Rule)) 0, .slice none (List.length ([] : List T_Promotion)) 0], r_1, [], []]
    refine pr 1 [(15, vi r6.1)] h fun a h => ?_
    refine oe ?_
    refine wp_block ?_
    refine loop_m (B := (m_keep_Src_Base_L3 y0 y1 y3)) (fun (s7 : Int × Int × (List T_Rule)) a w => ∃ (p9 : Option Addr) (c9 : Nat) (r_5 : Res), SS A [bx b1 71 [.slice p1 (List.length y0.1) c1, vi y0.2]] w0 152 [(0, .pointer (some ⟨b1, 0, none⟩)), (1, vi y1), (3, vi y3), (8, .pointer (some ⟨b2, 0, none⟩)), (9, .pointer (some ⟨b3, 0, none⟩)), (15, vi s7.1)] [bx b1 71 [.slice p1 (List.length y0.1) c1, vi s7.2.1], bx b2 31 [.slice none 0 0, .slice none 0 0, .slice none 0 0], bx b3 31 [.slice p2 (List.length s1.2) c2, .slice p9 (List.length s7.2.2) c9, .slice none (List.length ([] : List T_Promotion)) 0], r_1, r_5, []] [Ar e_Rule 66 r_5 p9 c9 (List.length s7.2.2) s7.2.2, R (eInt .i64) p1 c1 (List.length y0.1) y0.1, Ar e_Premise 68 r_1 p2 c2 (List.length s1.2) s1.2, Ar e_Promotion 99 [] none 0 (List.length ([] : List T_Promotion)) ([] : List T_Promotion)] a w) hm ⟨none, 0, [], h.to 6 ⟨(h.g 2), (h.g 1), (h.g 0), (h.g 3), trivial⟩⟩ ?_
    intro s7 a w o3 hJ hm hr3
    obtain ⟨p9, c9, r_5, h⟩ := hJ
    unfold m_keep_Src_Base_L3 at hm
    refine wp_seq ?_
    refine sp [(72, vb (decide (0 < s7.1)))] h fun a h => ?_
    refine cb h rfl (fun hb6 => ?_) (fun hb6 => ?_)
    · replace hm := ifT hb6 hm
      refine wp_skip ?_
      refine then_n ?_
      refine wp_seq ?_
      refine wp_block ?_
      refine sr ?_
      refine pr 1 [(75, .pointer (some ⟨b3, 1, none⟩))] h fun a h => ?_
      refine sl (b_load_own 2 (.slice p9 (List.length s7.2.2) c9) h rfl rfl fun a h => ?_)
      refine pr 1 [(77, vi (len s7.2.2))] h fun a h => ?_
      obtain ⟨r7, h9, hm⟩ := bnd hm
      refine sl (b_call [] [] h Tryz.call52 rfl rfl (c_keep_RuleName (y0 := len s7.2.2) (h.po [] []) trivial h9) fun v a w hp hc => ?_)
      obtain ⟨rfl, q⟩ := hp
      have h := hc.on q [bx b1 71 [.slice p1 (List.length y0.1) c1, vi s7.2.1], bx b2 31 [.slice none 0 0, .slice none 0 0, .slice none 0 0], bx b3 31 [.slice p2 (List.length s1.2) c2, .slice p9 (List.length s7.2.2) c9, .slice none (List.length ([] : List T_Promotion)) 0], r_1, r_5, []]
      refine pr 1 [(79, .pointer (some ⟨b1, 0, none⟩))] h fun a h => ?_
      obtain ⟨r8, h10, hm⟩ := bnd hm
      refine sl (b_call [0] [] h Tryz.call18 rfl rfl (c_keep_Src_N (y0 := (y0.1, s7.2.1)) (y1 := 3) (h.po [0] []) ⟨(h.pf [0] [] 1), trivial⟩ h10) fun v a w hp hc => ?_)
      obtain ⟨rfl, q⟩ := hp
      have h := hc.on q [bx b1 71 [.slice p1 (List.length y0.1) c1, vi r8.2], bx b2 31 [.slice none 0 0, .slice none 0 0, .slice none 0 0], bx b3 31 [.slice p2 (List.length s1.2) c2, .slice p9 (List.length s7.2.2) c9, .slice none (List.length ([] : List T_Promotion)) 0], r_1, r_5, []]
      refine pr 3 [(83, vi y1), (82, .pointer (some ⟨b1, 0, none⟩)), (81, vb (r8.1 == 0))] h fun a h => ?_
      obtain ⟨r9, h11, hm⟩ := bnd hm
      refine sl (b_call [0] [] h Tryz.call54 rfl rfl (c_keep_Src_Literals (y0 := (y0.1, r8.2)) (y1 := 2) (y2 := y1) (h.po [0] []) ⟨(h.pf [0] [] 1), trivial⟩ h11) fun v a w hp hc => ?_)
      obtain ⟨p10, c10, rfl, q⟩ := hp
      have h := hc.on q [bx b1 71 [.slice p1 (List.length y0.1) c1, vi r9.2], bx b2 31 [.slice none 0 0, .slice none 0 0, .slice none 0 0], bx b3 31 [.slice p2 (List.length s1.2) c2, .slice p9 (List.length s7.2.2) c9, .slice none (List.length ([] : List T_Promotion)) 0], r_1, r_5, []]
      obtain ⟨r10, h12, hm⟩ := bnd hm
      refine sl (b_call [] [] h Tryz.call53 rfl rfl (c_keep_sorted (y0 := r9.1) (h.po [] []) ⟨(h.pf [] [] 0), trivial⟩ h12) fun v a w hp hc => ?_)
      obtain ⟨p11, c11, rfl, q⟩ := hp
      have h := hc.on q [bx b1 71 [.slice p1 (List.length y0.1) c1, vi r9.2], bx b2 31 [.slice none 0 0, .slice none 0 0, .slice none 0 0], bx b3 31 [.slice p2 (List.length s1.2) c2, .slice p9 (List.length s7.2.2) c9, .slice none (List.length ([] : List T_Promotion)) 0], r_1, r_5, []]
      refine pr 2 [(87, vi y1), (86, .pointer (some ⟨b1, 0, none⟩))] h fun a h => ?_
      obtain ⟨r11, h13, hm⟩ := bnd hm
      refine sl (b_call [0] [] h Tryz.call50 rfl rfl (c_keep_Src_Literal (y0 := (y0.1, r9.2)) (y1 := y1) (h.po [0] []) ⟨(h.pf [0] [] 3), trivial⟩ h13) fun v a w hp hc => ?_)
      obtain ⟨rfl, q⟩ := hp
      have h := hc.on q [bx b1 71 [.slice p1 (List.length y0.1) c1, vi r11.2], bx b2 31 [.slice none 0 0, .slice none 0 0, .slice none 0 0], bx b3 31 [.slice p2 (List.length s1.2) c2, .slice p9 (List.length s7.2.2) c9, .slice none (List.length ([] : List T_Promotion)) 0], r_1, r_5, []]
      refine pr 1 [(89, .agg #[vs r7, vb (r8.1 == 0), vi 0, .slice p11 (List.length r10) c11, vb r11.1.1, vs r11.1.2])] h fun a h => ?_
      refine sl (b_alloc h rfl fun b7 a w h e => ?_)
      refine sl (b_store_own 6 h rfl rfl rfl fun a w h e => ?_)
      refine oe ?_
      obtain ⟨s8, hx, hm⟩ := bnd hm
      refine seq_j (fun a w => SS A [bx b1 71 [.slice p1 (List.length y0.1) c1, vi y0.2]] w0 152 [(0, .pointer (some ⟨b1, 0, none⟩)), (1, vi y1), (3, vi y3), (8, .pointer (some ⟨b2, 0, none⟩)), (9, .pointer (some ⟨b3, 0, none⟩)), (15, vi s7.1), (16, .pointer (some ⟨b7, 0, none⟩))] [bx b1 71 [.slice p1 (List.length y0.1) c1, vi s8.1], bx b2 31 [.slice none 0 0, .slice none 0 0, .slice none 0 0], bx b3 31 [.slice p2 (List.length s1.2) c2, .slice p9 (List.length s7.2.2) c9, .slice none (List.length ([] : List T_Promotion)) 0], r_1, r_5, [], bx b7 66 [vs r7, vb (r8.1 == 0), vi s8.2, .slice p11 (List.length r10) c11, vb r11.1.1, vs r11.1.2]] [R (eInt .i64) p1 c1 (List.length y0.1) y0.1, Ar e_Premise 68 r_1 p2 c2 (List.length s1.2) s1.2, Ar e_Rule 66 r_5 p9 c9 (List.length s7.2.2) s7.2.2, Ar e_Promotion 99 [] none 0 (List.length ([] : List T_Promotion)) ([] : List T_Promotion), R e_Literal p11 c11 (List.length r10) r10] a w) ?_ ?_
      · have hm2 := hm
        replace hm := hx
        refine sr ?_
        refine pr 1 [(90, .pointer (some ⟨b7, 1, none⟩))] h fun a h => ?_
        refine sl (b_load_own 6 (vb (r8.1 == 0)) h rfl rfl fun a h => ?_)
        refine pr 1 [(92, vb (!(r8.1 == 0)))] h fun a h => ?_
        refine oe ?_
        refine cb h rfl (fun hb7 => ?_) (fun hb7 => ?_)
        · replace hm := ifT hb7 hm
          refine reg ?_
          refine pr 1 [(93, .pointer (some ⟨b1, 0, none⟩))] h fun a h => ?_
          obtain ⟨r12, h14, hm⟩ := bnd hm
          refine sl (b_call [0] [] h Tryz.call18 rfl rfl (c_keep_Src_N (y0 := (y0.1, r11.2)) (y1 := 4) (h.po [0] []) ⟨(h.pf [0] [] 3), trivial⟩ h14) fun v a w hp hc => ?_)
          obtain ⟨rfl, q⟩ := hp
          have h := hc.on q [bx b1 71 [.slice p1 (List.length y0.1) c1, vi r12.2], bx b2 31 [.slice none 0 0, .slice none 0 0, .slice none 0 0], bx b3 31 [.slice p2 (List.length s1.2) c2, .slice p9 (List.length s7.2.2) c9, .slice none (List.length ([] : List T_Promotion)) 0], r_1, r_5, [], bx b7 66 [vs r7, vb (r8.1 == 0), vi 0, .slice p11 (List.length r10) c11, vb r11.1.1, vs r11.1.2]]
          refine pr 1 [(95, .pointer (some ⟨b7, 2, none⟩))] h fun a h => ?_
          refine sl (b_store_own 6 h rfl rfl rfl fun a w h e => ?_)
          refine ops_end ?_
          obtain rfl := Option.some.inj hm
          exact then_n (h.to 7 ⟨(h.g 3), (h.g 4), (h.g 2), (h.g 5), (h.g 0), trivial⟩)
        replace hm := ifF hb7 hm
        refine wp_skip ?_
        obtain rfl := Option.some.inj hm
        exact then_n (h.to 7 ⟨(h.g 3), (h.g 4), (h.g 2), (h.g 5), (h.g 0), trivial⟩)
      intro a w hJ
      have h := hJ
      obtain ⟨s9, hx, hm⟩ := bnd hm
      refine seq_j (fun a w => SS A [bx b1 71 [.slice p1 (List.length y0.1) c1, vi y0.2]] w0 152 [(0, .pointer (some ⟨b1, 0, none⟩)), (1, vi y1), (3, vi y3), (8, .pointer (some ⟨b2, 0, none⟩)), (9, .pointer (some ⟨b3, 0, none⟩)), (15, vi s7.1), (16, .pointer (some ⟨b7, 0, none⟩))] [bx b1 71 [.slice p1 (List.length y0.1) c1, vi s9.1], bx b2 31 [.slice none 0 0, .slice none 0 0, .slice none 0 0], bx b3 31 [.slice p2 (List.length s1.2) c2, .slice p9 (List.length s7.2.2) c9, .slice none (List.length ([] : List T_Promotion)) 0], r_1, r_5, [], bx b7 66 [vs r7, vb (r8.1 == 0), vi s8.2, .slice p11 (List.length r10) c11, vb s9.2.1, vs s9.2.2]] [R (eInt .i64) p1 c1 (List.length y0.1) y0.1, Ar e_Premise 68 r_1 p2 c2 (List.length s1.2) s1.2, Ar e_Rule 66 r_5 p9 c9 (List.length s7.2.2) s7.2.2, Ar e_Promotion 99 [] none 0 (List.length ([] : List T_Promotion)) ([] : List T_Promotion), R e_Literal p11 c11 (List.length r10) r10] a w) ?_ ?_
      · have hm2 := hm
        replace hm := hx
        refine sr ?_
        refine pr 1 [(96, .pointer (some ⟨b1, 0, none⟩))] h fun a h => ?_
        obtain ⟨r13, h15, hm⟩ := bnd hm
        refine sl (b_call [0] [] h Tryz.call18 rfl rfl (c_keep_Src_N (y0 := (y0.1, s8.1)) (y1 := 6) (h.po [0] []) ⟨(h.pf [0] [] 0), trivial⟩ h15) fun v a w hp hc => ?_)
        obtain ⟨rfl, q⟩ := hp
        have h := hc.on q [bx b1 71 [.slice p1 (List.length y0.1) c1, vi r13.2], bx b2 31 [.slice none 0 0, .slice none 0 0, .slice none 0 0], bx b3 31 [.slice p2 (List.length s1.2) c2, .slice p9 (List.length s7.2.2) c9, .slice none (List.length ([] : List T_Promotion)) 0], r_1, r_5, [], bx b7 66 [vs r7, vb (r8.1 == 0), vi s8.2, .slice p11 (List.length r10) c11, vb r11.1.1, vs r11.1.2]]
        refine pr 1 [(98, vb (r13.1 == 5))] h fun a h => ?_
        refine oe ?_
        refine cb h rfl (fun hb8 => ?_) (fun hb8 => ?_)
        · replace hm := ifT hb8 hm
          refine reg ?_
          refine pr 1 [(99, .pointer (some ⟨b1, 0, none⟩))] h fun a h => ?_
          obtain ⟨r14, h16, hm⟩ := bnd hm
          refine sl (b_call [0] [] h Tryz.call18 rfl rfl (c_keep_Src_N (y0 := (y0.1, r13.2)) (y1 := 4) (h.po [0] []) ⟨(h.pf [0] [] 0), trivial⟩ h16) fun v a w hp hc => ?_)
          obtain ⟨rfl, q⟩ := hp
          have h := hc.on q [bx b1 71 [.slice p1 (List.length y0.1) c1, vi r14.2], bx b2 31 [.slice none 0 0, .slice none 0 0, .slice none 0 0], bx b3 31 [.slice p2 (List.length s1.2) c2, .slice p9 (List.length s7.2.2) c9, .slice none (List.length ([] : List T_Promotion)) 0], r_1, r_5, [], bx b7 66 [vs r7, vb (r8.1 == 0), vi s8.2, .slice p11 (List.length r10) c11, vb r11.1.1, vs r11.1.2]]
          refine pr 3 [(103, vi y3), (102, .pointer (some ⟨b1, 0, none⟩)), (101, vb (decide (0 < r14.1)))] h fun a h => ?_
          obtain ⟨r15, h17, hm⟩ := bnd hm
          refine sl (b_call [0] [] h Tryz.call18 rfl rfl (c_keep_Src_N (y0 := (y0.1, r14.2)) (y1 := y3) (h.po [0] []) ⟨(h.pf [0] [] 0), trivial⟩ h17) fun v a w hp hc => ?_)
          obtain ⟨rfl, q⟩ := hp
          have h := hc.on q [bx b1 71 [.slice p1 (List.length y0.1) c1, vi r15.2], bx b2 31 [.slice none 0 0, .slice none 0 0, .slice none 0 0], bx b3 31 [.slice p2 (List.length s1.2) c2, .slice p9 (List.length s7.2.2) c9, .slice none (List.length ([] : List T_Promotion)) 0], r_1, r_5, [], bx b7 66 [vs r7, vb (r8.1 == 0), vi s8.2, .slice p11 (List.length r10) c11, vb r11.1.1, vs r11.1.2]]
          obtain ⟨r16, h18, hm⟩ := bnd hm
          refine sl (b_call [] [] h Tryz.call52 rfl rfl (c_keep_RuleName (y0 := r15.1) (h.po [] []) trivial h18) fun v a w hp hc => ?_)
          obtain ⟨rfl, q⟩ := hp
          have h := hc.on q [bx b1 71 [.slice p1 (List.length y0.1) c1, vi r15.2], bx b2 31 [.slice none 0 0, .slice none 0 0, .slice none 0 0], bx b3 31 [.slice p2 (List.length s1.2) c2, .slice p9 (List.length s7.2.2) c9, .slice none (List.length ([] : List T_Promotion)) 0], r_1, r_5, [], bx b7 66 [vs r7, vb (r8.1 == 0), vi s8.2, .slice p11 (List.length r10) c11, vb r11.1.1, vs r11.1.2]]
          refine pr 2 [(107, .pointer (some ⟨b7, 4, none⟩)), (106, .agg #[vb (decide (0 < r14.1)), vs r16])] h fun a h => ?_
          refine sl (b_store_own 6 h rfl rfl rfl fun a w h e => ?_)
          refine ops_end ?_
          obtain rfl := Option.some.inj hm
          exact then_n (h.to 7 ⟨(h.g 0), (h.g 1), (h.g 2), (h.g 3), (h.g 4), trivial⟩)
        replace hm := ifF hb8 hm
        refine wp_skip ?_
        obtain rfl := Option.some.inj hm
        exact then_n (h.to 7 ⟨(h.g 0), (h.g 1), (h.g 2), (h.g 3), (h.g 4), trivial⟩)
      intro a w hJ
      have h := hJ
      refine reg ?_
      refine pr 1 [(108, .pointer (some ⟨b3, 1, none⟩))] h fun a h => ?_
      refine sl (b_load_own 2 (.slice p9 (List.length s7.2.2) c9) h rfl rfl fun a h => ?_)
      refine sl (b_load_own 6 (.agg #[vs r7, vb (r8.1 == 0), vi s8.2, .slice p11 (List.length r10) c11, vb s9.2.1, vs s9.2.2]) h rfl rfl fun a h => ?_)
      refine sl (b_bs_rd (te := 66) (e := e_Rule) [vs r7, vb (r8.1 == 0), vi s8.2, .slice p11 (List.length r10) c11, vb s9.2.1, vs s9.2.2] ([(r7, r8.1 == 0, s8.2, r10, (s9.2.1, s9.2.2))] : List T_Rule) h ⟨_, _, rfl, eProd.mk eStr.mk (eProd.mk eBool.mk (eProd.mk eInt.mk (eProd.mk (R.cell (h.g 4)) (eProd.mk eBool.mk eStr.mk)))), rfl⟩ fun p12 c12 a w h e => ?_)
      obtain ⟨x3, h19, hm⟩ := bnd hm
      refine sl (b_append_r (te := 66) 4 h (h.g 3) (h.g 0) rfl rfl h19 fun r_6 p13 c13 a w h e => ?_)
      refine pr 1 [(113, .pointer (some ⟨b3, 1, none⟩))] h fun a h => ?_
      refine sl (b_store_own 2 h rfl rfl rfl fun a w h e => ?_)
      refine ops_end ?_
      refine inb_n ?_
      refine then_n ?_
      refine reg ?_
      refine pr 3 [(15, vi (w64 (s7.1 - 1)))] h fun a h => ?_
      refine ops_end ?_
      obtain rfl := Option.some.inj hm
      exact lp_n rfl ⟨p13, c13, r_6, h.to 6 ⟨(h.g 0), (h.g 2), (h.g 3), (h.g 5), trivial⟩⟩
    replace hm := ifF hb6 hm
    refine wp_exit ?_
    refine then_e (lp_e (inb_hit ?_))
    replace hm := loopR hr3 hm
    obtain rfl := Option.some.inj hm
    exact then_n ⟨p9, c9, r_5, h.to 6 ⟨(h.g 0), (h.g 1), (h.g 2), (h.g 3), trivial⟩⟩
  intro a w hJ
  obtain ⟨p8, c8, r_4, h⟩ := hJ
  obtain ⟨s10, hx, hm⟩ := bnd hm
  refine seq_j (fun a w => ∃ (p14 : Option Addr) (c14 : Nat) (r_7 : Res), SS A [bx b1 71 [.slice p1 (List.length y0.1) c1, vi y0.2]] w0 152 [(8, .pointer (some ⟨b2, 0, none⟩)), (9, .pointer (some ⟨b3, 0, none⟩))] [bx b1 71 [.slice p1 (List.length y0.1) c1, vi s10.1], bx b2 31 [.slice none 0 0, .slice none 0 0, .slice none 0 0], bx b3 31 [.slice p2 (List.length s1.2) c2, .slice p8 (List.length s6.2) c8, .slice p14 (List.length s10.2) c14], r_1, r_4, r_7] [Ar e_Promotion 99 r_7 p14 c14 (List.length s10.2) s10.2, R (eInt .i64) p1 c1 (List.length y0.1) y0.1, Ar e_Premise 68 r_1 p2 c2 (List.length s1.2) s1.2, Ar e_Rule 66 r_4 p8 c8 (List.length s6.2) s6.2] a w) ?_ ?_
  · have hm2 := hm
    replace hm := hx
    refine sr ?_
    refine pr 1 [(114, .pointer (some ⟨b1, 0, none⟩))] h fun a h => ?_
    obtain ⟨r17, h20, hm⟩ := bnd hm
    refine sl (b_call [0] [] h Tryz.call18 rfl rfl (c_keep_Src_N (y0 := (y0.1, s6.1)) (y1 := 3) (h.po [0] []) ⟨(h.pf [0] [] 1), trivial⟩ h20) fun v a w hp hc => ?_)
    obtain ⟨rfl, q⟩ := hp
    have h := hc.on q [bx b1 71 [.slice p1 (List.length y0.1) c1, vi r17.2], bx b2 31 [.slice none 0 0, .slice none 0 0, .slice none 0 0], bx b3 31 [.slice p2 (List.length s1.2) c2, .slice p8 (List.length s6.2) c8, .slice none (List.length ([] : List T_Promotion)) 0], r_1, r_4, []]
    refine pr 1 [(17, vi r17.1)] h fun a h => ?_
    refine oe ?_
    refine wp_block ?_
    refine loop_m (B := (m_keep_Src_Base_L4 s6 y0 y1)) (fun (s11 : Int × Int × (List T_Promotion)) a w => ∃ (p15 : Option Addr) (c15 : Nat) (r_8 : Res), SS A [bx b1 71 [.slice p1 (List.length y0.1) c1, vi y0.2]] w0 152 [(0, .pointer (some ⟨b1, 0, none⟩)), (1, vi y1), (8, .pointer (some ⟨b2, 0, none⟩)), (9, .pointer (some ⟨b3, 0, none⟩)), (17, vi s11.1)] [bx b1 71 [.slice p1 (List.length y0.1) c1, vi s11.2.1], bx b2 31 [.slice none 0 0, .slice none 0 0, .slice none 0 0], bx b3 31 [.slice p2 (List.length s1.2) c2, .slice p8 (List.length s6.2) c8, .slice p15 (List.length s11.2.2) c15], r_1, r_4, r_8] [Ar e_Promotion 99 r_8 p15 c15 (List.length s11.2.2) s11.2.2, R (eInt .i64) p1 c1 (List.length y0.1) y0.1, Ar e_Premise 68 r_1 p2 c2 (List.length s1.2) s1.2, Ar e_Rule 66 r_4 p8 c8 (List.length s6.2) s6.2] a w) hm ⟨none, 0, [], h.to 6 ⟨(h.g 3), (h.g 1), (h.g 2), (h.g 0), trivial⟩⟩ ?_
    intro s11 a w o4 hJ hm hr4
    obtain ⟨p15, c15, r_8, h⟩ := hJ
    unfold m_keep_Src_Base_L4 at hm
    refine wp_seq ?_
    refine seq_j (fun a w => SS A [bx b1 71 [.slice p1 (List.length y0.1) c1, vi y0.2]] w0 152 [(0, .pointer (some ⟨b1, 0, none⟩)), (1, vi y1), (8, .pointer (some ⟨b2, 0, none⟩)), (9, .pointer (some ⟨b3, 0, none⟩)), (17, vi s11.1), (123, vb ((decide (0 < s11.1)) && (decide (0 < (len s6.2)))))] [bx b1 71 [.slice p1 (List.length y0.1) c1, vi s11.2.1], bx b2 31 [.slice none 0 0, .slice none 0 0, .slice none 0 0], bx b3 31 [.slice p2 (List.length s1.2) c2, .slice p8 (List.length s6.2) c8, .slice p15 (List.length s11.2.2) c15], r_1, r_4, r_8] [R (eInt .i64) p1 c1 (List.length y0.1) y0.1, Ar e_Premise 68 r_1 p2 c2 (List.length s1.2) s1.2, Ar e_Rule 66 r_4 p8 c8 (List.length s6.2) s6.2, Ar e_Promotion 99 r_8 p15 c15 (List.length s11.2.2) s11.2.2] a w) ?_ ?_
    · refine reg ?_
      refine pr 3 [(118, vb (decide (0 < s11.1)))] h fun a h => ?_
      rcases Bool.eq_false_or_eq_true (decide (0 < s11.1)) with hb9 | hb9
      · have h := h.upd (t := 118) (vb true) rfl (congrArg Value.bool hb9)
        refine pr 1 [(119, .pointer (some ⟨b3, 1, none⟩))] h fun a h => ?_
        refine sl (b_load_own 2 (.slice p8 (List.length s6.2) c8) h rfl rfl fun a h => ?_)
        refine pr 3 [(123, vb (decide (0 < (len s6.2))))] h fun a h => ?_
        refine ops_end ?_
        have h := h.upd (t := 123) (vb ((decide (0 < s11.1)) && (decide (0 < (len s6.2))))) rfl (by rw [hb9]; rfl)
        exact then_n (h.to 6 ⟨(h.g 1), (h.g 2), (h.g 3), (h.g 0), trivial⟩)
      · have h := h.upd (t := 118) (vb false) rfl (congrArg Value.bool hb9)
        refine pr 5 [(123, vb false)] h fun a h => ?_
        refine ops_end ?_
        have h := h.upd (t := 123) (vb ((decide (0 < s11.1)) && (decide (0 < (len s6.2))))) rfl (by rw [hb9]; rfl)
        exact then_n (h.to 6 ⟨(h.g 1), (h.g 2), (h.g 3), (h.g 0), trivial⟩)
    intro a w hJ
    have h := hJ
    refine cb h rfl (fun hb10 => ?_) (fun hb10 => ?_)
    · replace hm := ifT hb10 hm
      refine wp_skip ?_
      refine then_n ?_
      refine wp_seq ?_
      refine wp_block ?_
      obtain ⟨s12, hx, hm⟩ := bnd hm
      refine seq_j (fun a w => ∃ (b8 : Nat) (p16 : Option Addr) (c16 : Nat), SS A [bx b1 71 [.slice p1 (List.length y0.1) c1, vi y0.2]] w0 152 [(0, .pointer (some ⟨b1, 0, none⟩)), (1, vi y1), (8, .pointer (some ⟨b2, 0, none⟩)), (9, .pointer (some ⟨b3, 0, none⟩)), (17, vi s11.1), (18, .pointer (some ⟨b8, 0, none⟩))] [bx b1 71 [.slice p1 (List.length y0.1) c1, vi s12.1], bx b2 31 [.slice none 0 0, .slice none 0 0, .slice none 0 0], bx b3 31 [.slice p2 (List.length s1.2) c2, .slice p8 (List.length s6.2) c8, .slice p15 (List.length s11.2.2) c15], r_1, r_4, r_8, bx b8 66 [vs s12.2.1, vb s12.2.2.1, vi s12.2.2.2.1, .slice p16 (List.length s12.2.2.2.2.1) c16, vb s12.2.2.2.2.2.1, vs s12.2.2.2.2.2.2]] [R e_Literal p16 c16 (List.length s12.2.2.2.2.1) s12.2.2.2.2.1, R (eInt .i64) p1 c1 (List.length y0.1) y0.1, Ar e_Premise 68 r_1 p2 c2 (List.length s1.2) s1.2, Ar e_Rule 66 r_4 p8 c8 (List.length s6.2) s6.2, Ar e_Promotion 99 r_8 p15 c15 (List.length s11.2.2) s11.2.2] a w) ?_ ?_
      · replace hm := hx
        refine ds' [] [2, 4] h fun w h => ?_
        refine dp 0 (.pointer (some ⟨b3, 1, none⟩)) h rfl fun a h => ?_
        refine dlo 1 2 (.slice p8 (List.length s6.2) c8) h rfl rfl rfl fun a h => ?_
        refine dp 2 (.pointer (some ⟨b1, 0, none⟩)) h rfl fun a h => ?_
        refine dp 3 (.pointer (some ⟨b3, 1, none⟩)) h rfl fun a h => ?_
        refine dlo 4 2 (.slice p8 (List.length s6.2) c8) h rfl rfl rfl fun a h => ?_
        refine dp 5 (vi (len s6.2)) h rfl fun a h => ?_
        refine d2 6 9 rfl rfl ?_ ?_
        · obtain ⟨r18, h21, hm⟩ := bnd hm
          refine b_call [0] [] h Tryz.call18 rfl rfl (c_keep_Src_N (y0 := (y0.1, s11.2.1)) (y1 := len s6.2) (h.po [0] []) ⟨(h.pf [0] [] 0), trivial⟩ h21) fun v a w hp hc => ?_
          obtain ⟨rfl, q⟩ := hp
          have e := hc.st q [bx b1 71 [.slice p1 (List.length y0.1) c1, vi r18.2], bx b2 31 [.slice none 0 0, .slice none 0 0, .slice none 0 0], bx b3 31 [.slice p2 (List.length s1.2) c2, .slice p8 (List.length s6.2) c8, .slice p15 (List.length s11.2.2) c15], r_1, r_4, r_8]
          have h := hc.on q [bx b1 71 [.slice p1 (List.length y0.1) c1, vi r18.2], bx b2 31 [.slice none 0 0, .slice none 0 0, .slice none 0 0], bx b3 31 [.slice p2 (List.length s1.2) c2, .slice p8 (List.length s6.2) c8, .slice p15 (List.length s11.2.2) c15], r_1, r_4, r_8]
          refine dn h e ?_
          obtain ⟨x4, h22, hm⟩ := bnd hm
          refine dia 7 h rfl (h.g 2) rfl rfl h22 fun b9 hp2 a h => ?_
          refine dla 8 4 ((Sub.id e_Rule)) true h rfl (h.g 2) hp2 h22 rfl fun ci2 hc2 v2 hv2 a h => ?_
          replace hc2 : E.rd e_Rule _ _ ci2 x4 := hc2
          obtain ⟨_, _, rfl, rfl, ⟨_, _, rfl, rfl, ⟨_, _, rfl, rfl, ⟨_, _, rfl, ⟨p17, c17, rfl, f1⟩, ⟨_, _, rfl, rfl, rfl⟩⟩⟩⟩⟩ := hc2
          obtain rfl := Option.some.inj hv2
          have h := h.upd (t := 134) (.agg #[vs x4.1, vb x4.2.1, vi x4.2.2.1, .slice p17 (List.length x4.2.2.2.1) c17, vb x4.2.2.2.2.1, vs x4.2.2.2.2.2]) rfl rfl
          have h := h.add (R.of f1)
          refine d1 9 rfl ?_
          refine b_alloc h rfl fun b10 a w h e => ?_
          refine dn h e ?_
          refine d1 10 rfl ?_
          refine b_store_own 6 h rfl rfl rfl fun a w h e => ?_
          refine dn h e ?_
          refine de ?_
          obtain rfl := Option.some.inj hm
          exact then_n ⟨b10, p17, c17, h.to 7 ⟨(h.g 0), (h.g 1), (h.g 2), (h.g 3), (h.g 4), trivial⟩⟩
        · refine b_alloc h rfl fun b11 a w h e => ?_
          refine dn h e ?_
          refine d1 6 rfl ?_
          obtain ⟨r19, h23, hm⟩ := bnd hm
          refine b_call [0] [] h Tryz.call18 rfl rfl (c_keep_Src_N (y0 := (y0.1, s11.2.1)) (y1 := len s6.2) (h.po [0] []) ⟨(h.pf [0] [] 0), trivial⟩ h23) fun v a w hp hc => ?_
          obtain ⟨rfl, q⟩ := hp
          have e := hc.st q [bx b1 71 [.slice p1 (List.length y0.1) c1, vi r19.2], bx b2 31 [.slice none 0 0, .slice none 0 0, .slice none 0 0], bx b3 31 [.slice p2 (List.length s1.2) c2, .slice p8 (List.length s6.2) c8, .slice p15 (List.length s11.2.2) c15], r_1, r_4, r_8, bx b11 66 [vs [], vb false, vi 0, .slice none 0 0, vb false, vs []]]
          have h := hc.on q [bx b1 71 [.slice p1 (List.length y0.1) c1, vi r19.2], bx b2 31 [.slice none 0 0, .slice none 0 0, .slice none 0 0], bx b3 31 [.slice p2 (List.length s1.2) c2, .slice p8 (List.length s6.2) c8, .slice p15 (List.length s11.2.2) c15], r_1, r_4, r_8, bx b11 66 [vs [], vb false, vi 0, .slice none 0 0, vb false, vs []]]
          refine dn h e ?_
          obtain ⟨x5, h24, hm⟩ := bnd hm
          refine dia 7 h rfl (h.g 2) rfl rfl h24 fun b12 hp3 a h => ?_
          refine dla 8 4 ((Sub.id e_Rule)) true h rfl (h.g 2) hp3 h24 rfl fun ci3 hc3 v3 hv3 a h => ?_
          replace hc3 : E.rd e_Rule _ _ ci3 x5 := hc3
          obtain ⟨_, _, rfl, rfl, ⟨_, _, rfl, rfl, ⟨_, _, rfl, rfl, ⟨_, _, rfl, ⟨p18, c18, rfl, f2⟩, ⟨_, _, rfl, rfl, rfl⟩⟩⟩⟩⟩ := hc3
          obtain rfl := Option.some.inj hv3
          have h := h.upd (t := 134) (.agg #[vs x5.1, vb x5.2.1, vi x5.2.2.1, .slice p18 (List.length x5.2.2.2.1) c18, vb x5.2.2.2.2.1, vs x5.2.2.2.2.2]) rfl rfl
          have h := h.add (R.of f2)
          refine d1 10 rfl ?_
          refine b_store_own 6 h rfl rfl rfl fun a w h e => ?_
          refine dn h e ?_
          refine de ?_
          obtain rfl := Option.some.inj hm
          exact then_n ⟨b11, p18, c18, h.to 7 ⟨(h.g 0), (h.g 1), (h.g 2), (h.g 3), (h.g 4), trivial⟩⟩
      intro a w hJ
      obtain ⟨b8, p16, c16, h⟩ := hJ
      refine sr ?_
      refine pr 1 [(135, .pointer (some ⟨b8, 1, none⟩))] h fun a h => ?_
      refine sl (b_load_own 6 (vb s12.2.2.1) h rfl rfl fun a h => ?_)
      refine pr 1 [(137, vb (!s12.2.2.1))] h fun a h => ?_
      refine oe ?_
      refine cb h rfl (fun hb11 => ?_) (fun hb11 => ?_)
      · replace hm := ifT hb11 hm
        refine ds' [13] [2, 6] h fun w h => ?_
        refine dp 0 (.pointer (some ⟨b3, 2, none⟩)) h rfl fun a h => ?_
        refine dlo 1 2 (.slice p15 (List.length s11.2.2) c15) h rfl rfl rfl fun a h => ?_
        refine dp 2 (.pointer (some ⟨b8, 0, none⟩)) h rfl fun a h => ?_
        refine dlo 3 6 (vs s12.2.1) h rfl rfl rfl fun a h => ?_
        refine dp 4 (.pointer (some ⟨b1, 0, none⟩)) h rfl fun a h => ?_
        refine dp 6 (.pointer (some ⟨b1, 0, none⟩)) h rfl fun a h => ?_
        refine dp 7 (vi y1) h rfl fun a h => ?_
        refine d1 5 rfl ?_
        obtain ⟨r20, h25, hm⟩ := bnd hm
        refine b_call [0] [] h Tryz.call18 rfl rfl (c_keep_Src_N (y0 := (y0.1, s12.1)) (y1 := 10) (h.po [0] []) ⟨(h.pf [0] [] 1), trivial⟩ h25) fun v a w hp hc => ?_
        obtain ⟨rfl, q⟩ := hp
        have e := hc.st q [bx b1 71 [.slice p1 (List.length y0.1) c1, vi r20.2], bx b2 31 [.slice none 0 0, .slice none 0 0, .slice none 0 0], bx b3 31 [.slice p2 (List.length s1.2) c2, .slice p8 (List.length s6.2) c8, .slice p15 (List.length s11.2.2) c15], r_1, r_4, r_8, bx b8 66 [vs s12.2.1, vb s12.2.2.1, vi s12.2.2.2.1, .slice p16 (List.length s12.2.2.2.2.1) c16, vb s12.2.2.2.2.2.1, vs s12.2.2.2.2.2.2]]
        have h := hc.on q [bx b1 71 [.slice p1 (List.length y0.1) c1, vi r20.2], bx b2 31 [.slice none 0 0, .slice none 0 0, .slice none 0 0], bx b3 31 [.slice p2 (List.length s1.2) c2, .slice p8 (List.length s6.2) c8, .slice p15 (List.length s11.2.2) c15], r_1, r_4, r_8, bx b8 66 [vs s12.2.1, vb s12.2.2.1, vi s12.2.2.2.1, .slice p16 (List.length s12.2.2.2.2.1) c16, vb s12.2.2.2.2.2.1, vs s12.2.2.2.2.2.2]]
        refine dn h e ?_
        refine d1 8 rfl ?_
        obtain ⟨r21, h26, hm⟩ := bnd hm
        refine b_call [0] [] h Tryz.call50 rfl rfl (c_keep_Src_Literal (y0 := (y0.1, r20.2)) (y1 := y1) (h.po [0] []) ⟨(h.pf [0] [] 1), trivial⟩ h26) fun v a w hp hc => ?_
        obtain ⟨rfl, q⟩ := hp
        have e := hc.st q [bx b1 71 [.slice p1 (List.length y0.1) c1, vi r21.2], bx b2 31 [.slice none 0 0, .slice none 0 0, .slice none 0 0], bx b3 31 [.slice p2 (List.length s1.2) c2, .slice p8 (List.length s6.2) c8, .slice p15 (List.length s11.2.2) c15], r_1, r_4, r_8, bx b8 66 [vs s12.2.1, vb s12.2.2.1, vi s12.2.2.2.1, .slice p16 (List.length s12.2.2.2.2.1) c16, vb s12.2.2.2.2.2.1, vs s12.2.2.2.2.2.2]]
        have h := hc.on q [bx b1 71 [.slice p1 (List.length y0.1) c1, vi r21.2], bx b2 31 [.slice none 0 0, .slice none 0 0, .slice none 0 0], bx b3 31 [.slice p2 (List.length s1.2) c2, .slice p8 (List.length s6.2) c8, .slice p15 (List.length s11.2.2) c15], r_1, r_4, r_8, bx b8 66 [vs s12.2.1, vb s12.2.2.1, vi s12.2.2.2.1, .slice p16 (List.length s12.2.2.2.2.1) c16, vb s12.2.2.2.2.2.1, vs s12.2.2.2.2.2.2]]
        refine dn h e ?_
        refine dp 9 (.agg #[vs s12.2.1, vi r20.1, vb r21.1.1, vs r21.1.2]) h rfl fun a h => ?_
        refine d1 10 rfl ?_
        refine b_bs_rd (te := 99) (e := e_Promotion) [vs s12.2.1, vi r20.1, vb r21.1.1, vs r21.1.2] ([(s12.2.1, r20.1, r21.1)] : List T_Promotion) h ⟨_, _, rfl, eProd.mk eStr.mk (eProd.mk eInt.mk (eProd.mk eBool.mk eStr.mk)), rfl⟩ fun p19 c19 a w h e => ?_
        refine dn h e ?_
        refine d1 11 rfl ?_
        obtain ⟨x6, h27, hm⟩ := bnd hm
        refine b_append_r (te := 99) 5 h (h.g 5) (h.g 0) rfl rfl h27 fun r_9 p20 c20 a w h e => ?_
        refine dn h e ?_
        refine dp 12 (.pointer (some ⟨b3, 2, none⟩)) h rfl fun a h => ?_
        refine d1 13 rfl ?_
        refine b_store_own 2 h rfl rfl rfl fun a w h e => ?_
        refine db [] [2, 6] h ?_
        refine de ?_
        refine inb_n ?_
        refine then_n ?_
        refine reg ?_
        refine pr 3 [(17, vi (w64 (s11.1 - 1)))] h fun a h => ?_
        refine ops_end ?_
        obtain rfl := Option.some.inj hm
        exact lp_n rfl ⟨p20, c20, r_9, h.to 6 ⟨(h.g 0), (h.g 3), (h.g 4), (h.g 5), trivial⟩⟩
      replace hm := ifF hb11 hm
      refine wp_skip ?_
      refine inb_n ?_
      refine then_n ?_
      refine reg ?_
      refine pr 3 [(17, vi (w64 (s11.1 - 1)))] h fun a h => ?_
      refine ops_end ?_
      obtain rfl := Option.some.inj hm
      exact lp_n rfl ⟨p15, c15, r_8, h.to 6 ⟨(h.g 4), (h.g 1), (h.g 2), (h.g 3), trivial⟩⟩
    replace hm := ifF hb10 hm
    refine wp_exit ?_
    refine then_e (lp_e (inb_hit ?_))
    replace hm := loopR hr4 hm
    obtain rfl := Option.some.inj hm
    exact then_n ⟨p15, c15, r_8, h.to 6 ⟨(h.g 3), (h.g 0), (h.g 1), (h.g 2), trivial⟩⟩
  intro a w hJ
  obtain ⟨p14, c14, r_7, h⟩ := hJ
  refine sr ?_
  refine sl (b_load_own 2 (.agg #[.slice p2 (List.length s1.2) c2, .slice p8 (List.length s6.2) c8, .slice p14 (List.length s10.2) c14]) h rfl rfl fun a h => ?_)
  refine sl (b_store_own 1 h rfl rfl rfl fun a w h e => ?_)
  refine oe ?_
  refine wp_ret ?_
  obtain rfl := Option.some.inj hm
  have h := h.share 3 (h.g 2)
  have h := h.share 4 (h.g 4)
  have h := h.share 5 (h.g 2)
  exact rtg h rfl (vs := [.agg #[.slice p2 (List.length s1.2) c2, .slice p8 (List.length s6.2) c8, .slice p14 (List.length s10.2) c14]]) (rtc 1 h rfl rfl resN) ⟨p2, c2, p8, c8, p14, c14, rfl, bk_sel h [0] ⟨(h.g 2), (h.g 1), (h.g 0), trivial⟩⟩

theorem c_law09_built {A : List Nat} {w0 : World} {y0 : T_keep_Src} {b1 : Nat} {p1 : Option Addr} {c1 : Nat} {r : T_Base × (List T_Argument) × Int} (hO : Own A w0 [bx b1 71 [.slice p1 (List.length y0.1) c1, vi y0.2]]) (hF : All [R (eInt .i64) p1 c1 (List.length y0.1) y0.1] (bl [bx b1 71 [.slice p1 (List.length y0.1) c1, vi y0.2]] ++ A) w0) (hm : m_law09_built y0 = some r) :
    Calls Tryz.prog 10 [.pointer (some ⟨b1, 0, none⟩)].toArray w0 (Ret fun v w => ∃ (p2 : Option Addr) (c2 : Nat) (p3 : Option Addr) (c3 : Nat) (p4 : Option Addr) (c4 : Nat) (p5 : Option Addr) (c5 : Nat), v = .tuple #[.agg #[.slice p2 (List.length r.1.1) c2, .slice p3 (List.length r.1.2.1) c3, .slice p4 (List.length r.1.2.2) c4], .slice p5 (List.length r.2.1) c5] ∧ Bk A [bx b1 71 [.slice p1 (List.length y0.1) c1, vi y0.2]] w0 [bx b1 71 [.slice p1 (List.length y0.1) c1, vi r.2.2]] [R e_Premise p2 c2 (List.length r.1.1) r.1.1, R e_Rule p3 c3 (List.length r.1.2.1) r.1.2.1, R e_Promotion p4 c4 (List.length r.1.2.2) r.1.2.2, R e_Argument p5 c5 (List.length r.2.1) r.2.1] w) := by
  unfold m_law09_built at hm
  refine ent Tryz.func10 rfl hO hF fun a h => ?_
  refine sr ?_
  refine sl (b_alloc h rfl fun b2 a w h e => ?_)
  refine pr 1 [] h fun a h => ?_
  refine oe ?_
  refine sr ?_
  refine pr 1 [(7, .pointer (some ⟨b1, 0, none⟩))] h fun a h => ?_
  obtain ⟨r1, h1, hm⟩ := bnd hm
  refine sl (b_call [0] [] h Tryz.call28 rfl rfl (c_keep_Src_Base (y0 := y0) (y1 := 3) (y2 := 5) (y3 := 7) (h.po [0] []) ⟨(h.pf [0] [] 0), trivial⟩ h1) fun v a w hp hc => ?_)
  obtain ⟨p2, c2, p3, c3, p4, c4, rfl, q⟩ := hp
  have h := hc.on q [bx b1 71 [.slice p1 (List.length y0.1) c1, vi r1.2], bx b2 31 [.slice none 0 0, .slice none 0 0, .slice none 0 0]]
  refine sl (b_alloc h rfl fun b3 a w h e => ?_)
  refine sl (b_store_own 2 h rfl rfl rfl fun a w h e => ?_)
  refine oe ?_
  refine sr ?_
  refine sl (b_load_own 2 (.agg #[.slice p2 (List.length r1.1.1) c2, .slice p3 (List.length r1.1.2.1) c3, .slice p4 (List.length r1.1.2.2) c4]) h rfl rfl fun a h => ?_)
  obtain ⟨r2, h2, hm⟩ := bnd hm
  refine sl (b_call [] [] h Tryz.call29 rfl rfl (c_ref07_Build (y0 := r1.1) (h.po [] []) ⟨(h.pf [] [] 0), (h.pf [] [] 1), (h.pf [] [] 2), trivial⟩ h2) fun v a w hp hc => ?_)
  obtain ⟨p5, c5, rfl, q⟩ := hp
  have h := hc.on q [bx b1 71 [.slice p1 (List.length y0.1) c1, vi r1.2], bx b2 31 [.slice none 0 0, .slice none 0 0, .slice none 0 0], bx b3 31 [.slice p2 (List.length r1.1.1) c2, .slice p3 (List.length r1.1.2.1) c3, .slice p4 (List.length r1.1.2.2) c4]]
  refine pr 5 [(6, vi r2.2), (5, .slice p5 (List.length r2.1) c5)] h fun a h => ?_
  refine oe ?_
  obtain ⟨s1, hx, hm⟩ := bnd hm
  refine seq_j (fun a w => ∃ (p6 : Option Addr) (c6 : Nat) (p7 : Option Addr) (c7 : Nat) (p8 : Option Addr) (c8 : Nat), SS A [bx b1 71 [.slice p1 (List.length y0.1) c1, vi y0.2]] w0 41 [(2, .pointer (some ⟨b2, 0, none⟩)), (4, .pointer (some ⟨b3, 0, none⟩)), (5, .slice p6 (List.length s1.1) c6)] [bx b1 71 [.slice p1 (List.length y0.1) c1, vi r1.2], bx b2 31 [.slice none 0 0, .slice none 0 0, .slice none 0 0], bx b3 31 [.slice p2 (List.length r1.1.1) c2, .slice p7 (List.length s1.2.1) c7, .slice p8 (List.length s1.2.2) c8]] [R e_Argument p6 c6 (List.length s1.1) s1.1, R e_Rule p7 c7 (List.length s1.2.1) s1.2.1, R e_Promotion p8 c8 (List.length s1.2.2) s1.2.2, R (eInt .i64) p1 c1 (List.length y0.1) y0.1, R e_Premise p2 c2 (List.length r1.1.1) r1.1.1] a w) ?_ ?_
  · have hm2 := hm
    replace hm := hx
    refine wp_block ?_
    refine loop_m (B := (m_law09_built_L1 r1)) (fun (s2 : (List T_Argument) × Int × (List T_Rule) × (List T_Promotion)) a w => ∃ (p9 : Option Addr) (c9 : Nat) (p10 : Option Addr) (c10 : Nat) (p11 : Option Addr) (c11 : Nat), SS A [bx b1 71 [.slice p1 (List.length y0.1) c1, vi y0.2]] w0 41 [(2, .pointer (some ⟨b2, 0, none⟩)), (4, .pointer (some ⟨b3, 0, none⟩)), (5, .slice p9 (List.length s2.1) c9), (6, vi s2.2.1)] [bx b1 71 [.slice p1 (List.length y0.1) c1, vi r1.2], bx b2 31 [.slice none 0 0, .slice none 0 0, .slice none 0 0], bx b3 31 [.slice p2 (List.length r1.1.1) c2, .slice p10 (List.length s2.2.2.1) c10, .slice p11 (List.length s2.2.2.2) c11]] [R e_Argument p9 c9 (List.length s2.1) s2.1, R e_Rule p10 c10 (List.length s2.2.2.1) s2.2.2.1, R e_Promotion p11 c11 (List.length s2.2.2.2) s2.2.2.2, R (eInt .i64) p1 c1 (List.length y0.1) y0.1, R e_Premise p2 c2 (List.length r1.1.1) r1.1.1] a w) hm ⟨p5, c5, p3, c3, p4, c4, h.to 3 ⟨(h.g 0), (h.g 2), (h.g 3), (h.g 4), (h.g 1), trivial⟩⟩ ?_
    intro s2 a w o1 hJ hm hr1
    obtain ⟨p9, c9, p10, c10, p11, c11, h⟩ := hJ
    unfold m_law09_built_L1 at hm
    refine wp_seq ?_
    refine seq_j (fun a w => SS A [bx b1 71 [.slice p1 (List.length y0.1) c1, vi y0.2]] w0 41 [(2, .pointer (some ⟨b2, 0, none⟩)), (4, .pointer (some ⟨b3, 0, none⟩)), (5, .slice p9 (List.length s2.1) c9), (20, vb ((s2.2.1 != 0) || (decide (24 < (len s2.1)))))] [bx b1 71 [.slice p1 (List.length y0.1) c1, vi r1.2], bx b2 31 [.slice none 0 0, .slice none 0 0, .slice none 0 0], bx b3 31 [.slice p2 (List.length r1.1.1) c2, .slice p10 (List.length s2.2.2.1) c10, .slice p11 (List.length s2.2.2.2) c11]] [R e_Argument p9 c9 (List.length s2.1) s2.1, R (eInt .i64) p1 c1 (List.length y0.1) y0.1, R e_Premise p2 c2 (List.length r1.1.1) r1.1.1, R e_Rule p10 c10 (List.length s2.2.2.1) s2.2.2.1, R e_Promotion p11 c11 (List.length s2.2.2.2) s2.2.2.2] a w) ?_ ?_
    · refine reg ?_
      refine pr 3 [(16, vb (s2.2.1 != 0))] h fun a h => ?_
      rcases Bool.eq_false_or_eq_true (s2.2.1 != 0) with hb1 | hb1
      · have h := h.upd (t := 16) (vb true) rfl (congrArg Value.bool hb1)
        refine pr 4 [(20, vb true)] h fun a h => ?_
        refine ops_end ?_
        have h := h.upd (t := 20) (vb ((s2.2.1 != 0) || (decide (24 < (len s2.1))))) rfl (by rw [hb1]; rfl)
        exact then_n (h.to 3 ⟨(h.g 0), (h.g 3), (h.g 4), (h.g 1), (h.g 2), trivial⟩)
      · have h := h.upd (t := 16) (vb false) rfl (congrArg Value.bool hb1)
        refine pr 4 [(20, vb (decide (24 < (len s2.1))))] h fun a h => ?_
        refine ops_end ?_
        have h := h.upd (t := 20) (vb ((s2.2.1 != 0) || (decide (24 < (len s2.1))))) rfl (by rw [hb1]; rfl)
        exact then_n (h.to 3 ⟨(h.g 0), (h.g 3), (h.g 4), (h.g 1), (h.g 2), trivial⟩)
    intro a w hJ
    have h := hJ
    refine cb h rfl (fun hb2 => ?_) (fun hb2 => ?_)
    · replace hm := ifT hb2 hm
      refine wp_skip ?_
      refine then_n ?_
      refine wp_block ?_
      refine sr ?_
      refine pr 1 [(21, .pointer (some ⟨b3, 2, none⟩))] h fun a h => ?_
      refine sl (b_store_own 2 h rfl rfl rfl fun a w h e => ?_)
      refine oe ?_
      refine wp_seq ?_
      refine sr ?_
      refine pr 1 [(22, .pointer (some ⟨b3, 1, none⟩))] h fun a h => ?_
      refine sl (b_load_own 2 (.slice p10 (List.length s2.2.2.1) c10) h rfl rfl fun a h => ?_)
      refine pr 2 [(25, vb ((len s2.2.2.1) == 0))] h fun a h => ?_
      refine oe ?_
      refine cb h rfl (fun hb3 => ?_) (fun hb3 => ?_)
      · replace hm := ifT hb3 hm
        refine wp_exit ?_
        refine then_e (inb_miss rfl (lp_e (inb_hit ?_)))
        replace hm := loopR hr1 hm
        obtain rfl := Option.some.inj hm
        exact then_n ⟨p9, c9, p10, c10, none, 0, h.to 3 ⟨(h.g 0), (h.g 3), (rnil e_Promotion _ _ _ _), (h.g 1), (h.g 2), trivial⟩⟩
      replace hm := ifF hb3 hm
      refine wp_skip ?_
      refine then_n ?_
      refine sr ?_
      refine pr 1 [(26, .pointer (some ⟨b3, 1, none⟩))] h fun a h => ?_
      refine sl (b_load_own 2 (.slice p10 (List.length s2.2.2.1) c10) h rfl rfl fun a h => ?_)
      refine pr 1 [(28, .pointer (some ⟨b3, 1, none⟩))] h fun a h => ?_
      refine sl (b_load_own 2 (.slice p10 (List.length s2.2.2.1) c10) h rfl rfl fun a h => ?_)
      refine pr 2 [(31, vi (w64 ((len s2.2.2.1) - 1)))] h fun a h => ?_
      obtain ⟨x1, h3, hm⟩ := bnd hm
      refine sl (b_slice_rd h (h.g 3) rfl rfl rfl (.inl ⟨rfl, rfl⟩) (.inr ⟨_, rfl⟩) h3 fun p12 c12 a h => ?_)
      refine pr 1 [(33, .pointer (some ⟨b3, 1, none⟩))] h fun a h => ?_
      refine sl (b_store_own 2 h rfl rfl rfl fun a w h e => ?_)
      refine oe ?_
      refine reg ?_
      refine sl (b_load_own 2 (.agg #[.slice p2 (List.length r1.1.1) c2, .slice p12 (List.length x1) c12, .slice none 0 0]) h rfl rfl fun a h => ?_)
      obtain ⟨r3, h4, hm⟩ := bnd hm
      refine sl (b_call [] [] h Tryz.call29 rfl rfl (c_ref07_Build (y0 := (r1.1.1, x1, ([] : List T_Promotion))) (h.po [] []) ⟨(h.pf [] [] 3), (h.pf [] [] 0), (rnil _ _ _ _ _), trivial⟩ h4) fun v a w hp hc => ?_)
      obtain ⟨p13, c13, rfl, q⟩ := hp
      have h := hc.on q [bx b1 71 [.slice p1 (List.length y0.1) c1, vi r1.2], bx b2 31 [.slice none 0 0, .slice none 0 0, .slice none 0 0], bx b3 31 [.slice p2 (List.length r1.1.1) c2, .slice p12 (List.length x1) c12, .slice none 0 0]]
      refine pr 5 [(6, vi r3.2), (5, .slice p13 (List.length r3.1) c13)] h fun a h => ?_
      refine ops_end ?_
      refine inb_n ?_
      obtain rfl := Option.some.inj hm
      exact lp_n rfl ⟨p13, c13, p12, c12, none, 0, h.to 3 ⟨(h.g 0), (h.g 1), (rnil e_Promotion _ _ _ _), (h.g 3), (h.g 4), trivial⟩⟩
    replace hm := ifF hb2 hm
    refine wp_exit ?_
    refine then_e (lp_e (inb_hit ?_))
    replace hm := loopR hr1 hm
    obtain rfl := Option.some.inj hm
    exact then_n ⟨p9, c9, p10, c10, p11, c11, h.to 3 ⟨(h.g 0), (h.g 3), (h.g 4), (h.g 1), (h.g 2), trivial⟩⟩
  intro a w hJ
  obtain ⟨p6, c6, p7, c7, p8, c8, h⟩ := hJ
  refine sr ?_
  refine sl (b_load_own 2 (.agg #[.slice p2 (List.length r1.1.1) c2, .slice p7 (List.length s1.2.1) c7, .slice p8 (List.length s1.2.2) c8]) h rfl rfl fun a h => ?_)
  refine pr 1 [(40, .slice p6 (List.length s1.1) c6)] h fun a h => ?_
  refine sl (b_store_own 1 h rfl rfl rfl fun a w h e => ?_)
  refine pr 1 [(3, .slice p6 (List.length s1.1) c6)] h fun a h => ?_
  refine oe ?_
  refine wp_ret ?_
  obtain rfl := Option.some.inj hm
  exact rtg h rfl (vs := [.agg #[.slice p2 (List.length r1.1.1) c2, .slice p7 (List.length s1.2.1) c7, .slice p8 (List.length s1.2.2) c8], .slice p6 (List.length s1.1) c6]) (rtc 1 h rfl rfl (resT rfl resN)) ⟨p2, c2, p7, c7, p8, c8, p6, c6, rfl, bk_sel h [0] ⟨(h.g 4), (h.g 1), (h.g 2), (h.g 0), trivial⟩⟩

theorem c_ref01_Complement {A : List Nat} {w0 : World} {y0 : T_Literal} {r : T_Literal} (hO : Own A w0 []) (hF : All [] (bl [] ++ A) w0) (hm : m_ref01_Complement y0 = some r) :
    Calls Tryz.prog 67 [.agg #[vb y0.1, vs y0.2]].toArray w0 (Ret fun v w => v = .agg #[vb r.1, vs r.2] ∧ Bk A [] w0 [] [] w) := by
  unfold m_ref01_Complement at hm
  refine ent Tryz.func67 rfl hO hF fun a h => ?_
  refine sr ?_
  refine sl (b_box h rfl fun b1 a w h e => ?_)
  refine sl (b_alloc h rfl fun b2 a w h e => ?_)
  refine oe ?_
  refine sr ?_
  refine pr 1 [(3, .pointer (some ⟨b1, 0, none⟩))] h fun a h => ?_
  refine sl (b_load_own 0 (vb y0.1) h rfl rfl fun a h => ?_)
  refine pr 2 [(6, .pointer (some ⟨b1, 1, none⟩)), (5, vb (!y0.1))] h fun a h => ?_
  refine sl (b_load_own 0 (vs y0.2) h rfl rfl fun a h => ?_)
  refine pr 1 [(8, .agg #[vb (!y0.1), vs y0.2])] h fun a h => ?_
  refine sl (b_store_own 1 h rfl rfl rfl fun a w h e => ?_)
  refine oe ?_
  refine wp_ret ?_
  obtain rfl := Option.some.inj hm
  exact rtg h rfl (vs := [.agg #[vb (!y0.1), vs y0.2]]) (rtc 1 h rfl rfl resN) ⟨rfl, bk_sel h [] trivial⟩

theorem c_ref09_attacks {A : List Nat} {w0 : World} {y0 : T_Base} {p1 : Option Addr} {c1 : Nat} {p2 : Option Addr} {c2 : Nat} {p3 : Option Addr} {c3 : Nat} {y1 : List T_Argument} {p4 : Option Addr} {c4 : Nat} {y2 : Int} {y3 : Int} {y4 : Int} {r : Bool} (hO : Own A w0 []) (hF : All [R e_Premise p1 c1 (List.length y0.1) y0.1, R e_Rule p2 c2 (List.length y0.2.1) y0.2.1, R e_Promotion p3 c3 (List.length y0.2.2) y0.2.2, R e_Argument p4 c4 (List.length y1) y1] (bl [] ++ A) w0) (hm : m_ref09_attacks y0 y1 y2 y3 y4 = some r) :
    Calls Tryz.prog 37 [.agg #[.slice p1 (List.length y0.1) c1, .slice p2 (List.length y0.2.1) c2, .slice p3 (List.length y0.2.2) c3], .slice p4 (List.length y1) c4, vi y2, vi y3, vi y4].toArray w0 (Ret fun v w => v = vb r ∧ Bk A [] w0 [] [] w) := by
  unfold m_ref09_attacks at hm
  refine ent Tryz.func37 rfl hO hF fun a h => ?_
  refine sr ?_
  refine sl (b_box h rfl fun b1 a w h e => ?_)
  refine pr 1 [] h fun a h => ?_
  refine oe ?_
  refine ds [] [] h fun w h => ?_
  refine dp 0 (.slice p4 (List.length y1) c4) h rfl fun a h => ?_
  refine dp 1 (vi y2) h rfl fun a h => ?_
  obtain ⟨x1, h1, hm⟩ := bnd hm
  refine dir 2 h rfl (h.g 3) rfl rfl h1 fun b2 o1 a h => ?_
  refine dp 3 (.pointer (some ⟨b2, (o1 + 3), none⟩)) h rfl fun a h => ?_
  refine dlp 4 true h rfl (PtTo.snd (PtTo.snd (PtTo.snd (h.g 0)))) rfl fun ci1 hc1 v1 hv1 a h => ?_
  replace hc1 : E.rd e_Literal _ _ ci1 x1.2.2.2 := hc1
  obtain ⟨_, _, rfl, rfl, rfl⟩ := hc1
  obtain rfl := Option.some.inj hv1
  have h := h.upd (t := 17) (.agg #[vb x1.2.2.2.1, vs x1.2.2.2.2]) rfl rfl
  refine dp 5 (.slice p4 (List.length y1) c4) h rfl fun a h => ?_
  refine dp 6 (vi y3) h rfl fun a h => ?_
  obtain ⟨x2, h2, hm⟩ := bnd hm
  refine dir 7 h rfl (h.g 4) rfl rfl h2 fun b3 o2 a h => ?_
  refine dp 8 (.pointer (some ⟨b3, (o2 + 3), none⟩)) h rfl fun a h => ?_
  refine dlp 9 true h rfl (PtTo.snd (PtTo.snd (PtTo.snd (h.g 0)))) rfl fun ci2 hc2 v2 hv2 a h => ?_
  replace hc2 : E.rd e_Literal _ _ ci2 x2.2.2.2 := hc2
  obtain ⟨_, _, rfl, rfl, rfl⟩ := hc2
  obtain rfl := Option.some.inj hv2
  have h := h.upd (t := 22) (.agg #[vb x2.2.2.2.1, vs x2.2.2.2.2]) rfl rfl
  refine d1 10 rfl ?_
  obtain ⟨r1, h3, hm⟩ := bnd hm
  refine b_call [] [] h Tryz.call67 rfl rfl (c_ref01_Complement (y0 := x2.2.2.2) (h.po [] []) trivial h3) fun v a w hp hc => ?_
  obtain ⟨rfl, q⟩ := hp
  have e := hc.st q [bx b1 31 [.slice p1 (List.length y0.1) c1, .slice p2 (List.length y0.2.1) c2, .slice p3 (List.length y0.2.2) c3]]
  have h := hc.on q [bx b1 31 [.slice p1 (List.length y0.1) c1, .slice p2 (List.length y0.2.1) c2, .slice p3 (List.length y0.2.2) c3]]
  refine dn h e ?_
  refine dp 11 (vb (x1.2.2.2 == r1)) h rfl fun a h => ?_
  refine dp 12 (vb (x1.2.2.2 == r1)) h rfl fun a h => ?_
  refine de (then_n ?_)
  refine wp_seq ?_
  refine sr ?_
  refine pr 2 [(26, vi y3), (25, .slice p4 (List.length y1) c4)] h fun a h => ?_
  obtain ⟨x3, h4, hm⟩ := bnd hm
  refine sl (b_index_rd h (h.g 5) rfl rfl h4 fun b4 o3 a h => ?_)
  refine pr 1 [(28, .pointer (some ⟨b4, (o3 + 1), none⟩))] h fun a h => ?_
  refine sl (b_load_pt false h (PtTo.fst (PtTo.snd (h.g 0))) rfl fun ci3 hc3 v3 hv3 a h => ?_)
  replace hc3 : E.rd (eInt .i64) _ _ ci3 x3.2.1 := hc3
  obtain rfl := hc3
  obtain rfl := Option.some.inj hv3
  refine pr 1 [(30, vb (decide (x3.2.1 < 0)))] h fun a h => ?_
  refine oe ?_
  refine cb h rfl (fun hb1 => ?_) (fun hb1 => ?_)
  · replace hm := ifT hb1 hm
    obtain ⟨s1, hx, hm⟩ := bnd hm
    refine seq_j (fun a w => SS A [] w0 83 [(10, vb s1)] [[]] [] a w) ?_ ?_
    · replace hm := hx
      refine ds' [] [0] h fun w h => ?_
      refine dp 0 (vi y4) h rfl fun a h => ?_
      refine dp 1 (vb (y4 == 1)) h rfl fun a h => ?_
      refine dp 2 (vb (y4 == 1)) h rfl fun a h => ?_
      rcases Bool.eq_false_or_eq_true (y4 == 1) with hb2 | hb2
      · have h := h.upd (t := 33) (vb true) rfl (congrArg Value.bool hb2)
        replace hm := ifT hb2 hm
        refine dp 3 (.pointer (some ⟨b1, 0, none⟩)) h rfl fun a h => ?_
        refine dlo 4 0 (.slice p1 (List.length y0.1) c1) h rfl rfl rfl fun a h => ?_
        refine dp 5 (.slice p4 (List.length y1) c4) h rfl fun a h => ?_
        refine dp 6 (vi y3) h rfl fun a h => ?_
        obtain ⟨x4, h5, hm⟩ := bnd hm
        refine dir 7 h rfl (h.g 6) rfl rfl h5 fun b5 o4 a h => ?_
        refine dp 8 (.pointer (some ⟨b5, o4, none⟩)) h rfl fun a h => ?_
        refine dlp 9 false h rfl (PtTo.fst (h.g 0)) rfl fun ci4 hc4 v4 hv4 a h => ?_
        replace hc4 : E.rd (eInt .i64) _ _ ci4 x4.1 := hc4
        obtain rfl := hc4
        obtain rfl := Option.some.inj hv4
        obtain ⟨x5, h6, hm⟩ := bnd hm
        refine dir 10 h rfl (h.g 4) rfl rfl h6 fun b6 o5 a h => ?_
        refine dp 11 (.pointer (some ⟨b6, (o5 + 2), none⟩)) h rfl fun a h => ?_
        refine dlp 12 false h rfl (PtTo.fst (PtTo.snd (h.g 0))) rfl fun ci5 hc5 v5 hv5 a h => ?_
        replace hc5 : E.rd (eInt .i64) _ _ ci5 x5.2.1 := hc5
        obtain rfl := hc5
        obtain rfl := Option.some.inj hv5
        refine dp 13 (vb (x5.2.1 != 1)) h rfl fun a h => ?_
        refine dp 14 (vb (x5.2.1 != 1)) h rfl fun a h => ?_
        refine dp 15 (vb (x5.2.1 != 1)) h rfl fun a h => ?_
        rcases Bool.eq_false_or_eq_true (x5.2.1 != 1) with hb3 | hb3
        · have h := h.upd (t := 46) (vb true) rfl (congrArg Value.bool hb3)
          replace hm := ifT hb3 hm
          refine dp 16 (vb (x1.2.2.2 == r1)) h rfl fun a h => ?_
          refine dp 17 (vb (x1.2.2.2 == r1)) h rfl fun a h => ?_
          refine dp 18 (vb (x1.2.2.2 == r1)) h rfl fun a h => ?_
          refine de ?_
          obtain rfl := Option.some.inj hm
          exact then_n (h.tos [900] trivial)
        · have h := h.upd (t := 46) (vb false) rfl (congrArg Value.bool hb3)
          replace hm := ifF hb3 hm
          refine dk 16 h rfl fun a h => ?_
          refine dp 17 (vb false) h rfl fun a h => ?_
          refine dp 18 (vb false) h rfl fun a h => ?_
          refine de ?_
          obtain rfl := Option.some.inj hm
          exact then_n (h.tos [900] trivial)
      · have h := h.upd (t := 33) (vb false) rfl (congrArg Value.bool hb2)
        replace hm := ifF hb2 hm
        refine dk 3 h rfl fun a h => ?_
        refine dk 4 h rfl fun a h => ?_
        refine dk 5 h rfl fun a h => ?_
        refine dk 6 h rfl fun a h => ?_
        refine dk 7 h rfl fun a h => ?_
        refine dk 8 h rfl fun a h => ?_
        refine dk 9 h rfl fun a h => ?_
        refine dk 10 h rfl fun a h => ?_
        refine dk 11 h rfl fun a h => ?_
        refine dk 12 h rfl fun a h => ?_
        refine dk 13 h rfl fun a h => ?_
        refine dp 14 (vb false) h rfl fun a h => ?_
        refine dp 15 (vb false) h rfl fun a h => ?_
        refine dk 16 h rfl fun a h => ?_
        refine dp 17 (vb false) h rfl fun a h => ?_
        refine dp 18 (vb false) h rfl fun a h => ?_
        refine de ?_
        obtain rfl := Option.some.inj hm
        exact then_n (h.tos [900] trivial)
    intro a w hJ
    have h := hJ
    refine wp_ret ?_
    refine then_r ?_
    obtain rfl := Option.some.inj hm
    exact rt1 h rfl rfl ⟨rfl, bk_sel h [] trivial⟩
  replace hm := ifF hb1 hm
  refine wp_skip ?_
  refine then_n ?_
  refine ds [] [0] h fun w h => ?_
  refine dp 0 (.pointer (some ⟨b1, 1, none⟩)) h rfl fun a h => ?_
  refine dlo 1 0 (.slice p2 (List.length y0.2.1) c2) h rfl rfl rfl fun a h => ?_
  refine dp 2 (.slice p4 (List.length y1) c4) h rfl fun a h => ?_
  refine dp 3 (vi y3) h rfl fun a h => ?_
  obtain ⟨x6, h7, hm⟩ := bnd hm
  refine dir 4 h rfl (h.g 6) rfl rfl h7 fun b7 o6 a h => ?_
  refine dp 5 (.pointer (some ⟨b7, (o6 + 1), none⟩)) h rfl fun a h => ?_
  refine dlp 6 false h rfl (PtTo.fst (PtTo.snd (h.g 0))) rfl fun ci6 hc6 v6 hv6 a h => ?_
  replace hc6 : E.rd (eInt .i64) _ _ ci6 x6.2.1 := hc6
  obtain rfl := hc6
  obtain rfl := Option.some.inj hv6
  obtain ⟨x7, h8, hm⟩ := bnd hm
  refine dir 7 h rfl (h.g 5) rfl rfl h8 fun b8 o7 a h => ?_
  refine dlp 8 true h rfl (h.g 0) rfl fun ci7 hc7 v7 hv7 a h => ?_
  replace hc7 : E.rd e_Rule _ _ ci7 x7 := hc7
  obtain ⟨_, _, rfl, rfl, ⟨_, _, rfl, rfl, ⟨_, _, rfl, rfl, ⟨_, _, rfl, ⟨p5, c5, rfl, f1⟩, ⟨_, _, rfl, rfl, rfl⟩⟩⟩⟩⟩ := hc7
  obtain rfl := Option.some.inj hv7
  have h := h.upd (t := 57) (.agg #[vs x7.1, vb x7.2.1, vi x7.2.2.1, .slice p5 (List.length x7.2.2.2.1) c5, vb x7.2.2.2.2.1, vs x7.2.2.2.2.2]) rfl rfl
  have h := h.add (R.of f1)
  refine d1 9 rfl ?_
  refine b_alloc h rfl fun b9 a w h e => ?_
  refine dn h e ?_
  refine d1 10 rfl ?_
  refine b_store_own 1 h rfl rfl rfl fun a w h e => ?_
  refine dn h e ?_
  refine de (then_n ?_)
  refine wp_seq ?_
  refine sp [(58, vi y4)] h fun a h => ?_
  refine wp_block ?_
  refine sp [(59, vb (y4 == 2))] h fun a h => ?_
  refine cb h rfl (fun hb4 => ?_) (fun hb4 => ?_)
  · replace hm := ifT hb4 hm
    refine seq_j (fun a w => SS A [] w0 83 [(10, vb ((!x7.2.1) && (x1.2.2.2 == r1)))] [[], []] [] a w) ?_ ?_
    · refine reg ?_
      refine pr 1 [(61, .pointer (some ⟨b9, 1, none⟩))] h fun a h => ?_
      refine sl (b_load_own 1 (vb x7.2.1) h rfl rfl fun a h => ?_)
      refine pr 2 [(64, vb (!x7.2.1))] h fun a h => ?_
      rcases Bool.eq_false_or_eq_true (!x7.2.1) with hb5 | hb5
      · have h := h.upd (t := 64) (vb true) rfl (congrArg Value.bool hb5)
        refine pr 3 [(10, vb (x1.2.2.2 == r1))] h fun a h => ?_
        refine ops_end ?_
        have h := h.upd (t := 10) (vb ((!x7.2.1) && (x1.2.2.2 == r1))) rfl (by rw [hb5]; rfl)
        exact then_n (h.tos [900, 901] trivial)
      · have h := h.upd (t := 64) (vb false) rfl (congrArg Value.bool hb5)
        refine pr 3 [(10, vb false)] h fun a h => ?_
        refine ops_end ?_
        have h := h.upd (t := 10) (vb ((!x7.2.1) && (x1.2.2.2 == r1))) rfl (by rw [hb5]; rfl)
        exact then_n (h.tos [900, 901] trivial)
    intro a w hJ
    have h := hJ
    refine wp_ret ?_
    refine inb_r (then_r ?_)
    obtain rfl := Option.some.inj hm
    exact rt1 h rfl rfl ⟨rfl, bk_sel h [] trivial⟩
  replace hm := ifF hb4 hm
  refine sp [(67, vb (y4 == 3))] h fun a h => ?_
  refine cb h rfl (fun hb6 => ?_) (fun hb6 => ?_)
  · replace hm := ifT hb6 hm
    obtain ⟨s2, hx, hm⟩ := bnd hm
    refine seq_j (fun a w => SS A [] w0 83 [(10, vb s2)] [[], []] [] a w) ?_ ?_
    · replace hm := hx
      refine ds' [] [1] h fun w h => ?_
      refine dp 0 (.pointer (some ⟨b9, 1, none⟩)) h rfl fun a h => ?_
      refine dlo 1 1 (vb x7.2.1) h rfl rfl rfl fun a h => ?_
      refine dp 2 (vb (!x7.2.1)) h rfl fun a h => ?_
      refine dp 3 (vb (!x7.2.1)) h rfl fun a h => ?_
      rcases Bool.eq_false_or_eq_true (!x7.2.1) with hb7 | hb7
      · have h := h.upd (t := 72) (vb true) rfl (congrArg Value.bool hb7)
        replace hm := ifT hb7 hm
        refine dp 4 (.slice p4 (List.length y1) c4) h rfl fun a h => ?_
        refine dp 5 (vi y2) h rfl fun a h => ?_
        obtain ⟨x8, h9, hm⟩ := bnd hm
        refine dir 6 h rfl (h.g 9) rfl rfl h9 fun b10 o8 a h => ?_
        refine dp 7 (.pointer (some ⟨b10, (o8 + 3), none⟩)) h rfl fun a h => ?_
        refine dlp 8 true h rfl (PtTo.snd (PtTo.snd (PtTo.snd (h.g 0)))) rfl fun ci8 hc8 v8 hv8 a h => ?_
        replace hc8 : E.rd e_Literal _ _ ci8 x8.2.2.2 := hc8
        obtain ⟨_, _, rfl, rfl, rfl⟩ := hc8
        obtain rfl := Option.some.inj hv8
        have h := h.upd (t := 77) (.agg #[vb x8.2.2.2.1, vs x8.2.2.2.2]) rfl rfl
        refine dp 9 (.pointer (some ⟨b9, 0, none⟩)) h rfl fun a h => ?_
        refine dlo 10 1 (vs x7.1) h rfl rfl rfl fun a h => ?_
        refine dp 11 (.agg #[vb true, vs x7.1]) h rfl fun a h => ?_
        refine dp 12 (vb (x8.2.2.2 == (true, x7.1))) h rfl fun a h => ?_
        refine dp 13 (vb (x8.2.2.2 == (true, x7.1))) h rfl fun a h => ?_
        refine dp 14 (vb (x8.2.2.2 == (true, x7.1))) h rfl fun a h => ?_
        refine de ?_
        obtain rfl := Option.some.inj hm
        exact then_n (h.tos [900, 901] trivial)
      · have h := h.upd (t := 72) (vb false) rfl (congrArg Value.bool hb7)
        replace hm := ifF hb7 hm
        refine dk 4 h rfl fun a h => ?_
        refine dk 5 h rfl fun a h => ?_
        refine dk 6 h rfl fun a h => ?_
        refine dk 7 h rfl fun a h => ?_
        refine dk 8 h rfl fun a h => ?_
        refine dk 9 h rfl fun a h => ?_
        refine dk 10 h rfl fun a h => ?_
        refine dk 11 h rfl fun a h => ?_
        refine dk 12 h rfl fun a h => ?_
        refine dp 13 (vb false) h rfl fun a h => ?_
        refine dp 14 (vb false) h rfl fun a h => ?_
        refine de ?_
        obtain rfl := Option.some.inj hm
        exact then_n (h.tos [900, 901] trivial)
    intro a w hJ
    have h := hJ
    refine wp_ret ?_
    refine inb_r (then_r ?_)
    obtain rfl := Option.some.inj hm
    exact rt1 h rfl rfl ⟨rfl, bk_sel h [] trivial⟩
  replace hm := ifF hb6 hm
  refine wp_skip ?_
  refine inb_n ?_
  refine then_n ?_
  refine sp [(10, vb false)] h fun a h => ?_
  refine wp_ret ?_
  obtain rfl := Option.some.inj hm
  exact rt1 h rfl rfl ⟨rfl, bk_sel h [] trivial⟩

theorem c_ref09_Attacks {A : List Nat} {w0 : World} {y0 : T_Base} {p1 : Option Addr} {c1 : Nat} {p2 : Option Addr} {c2 : Nat} {p3 : Option Addr} {c3 : Nat} {y1 : List T_Argument} {p4 : Option Addr} {c4 : Nat} {r : (List T_Attack)} (hO : Own A w0 []) (hF : All [R e_Premise p1 c1 (List.length y0.1) y0.1, R e_Rule p2 c2 (List.length y0.2.1) y0.2.1, R e_Promotion p3 c3 (List.length y0.2.2) y0.2.2, R e_Argument p4 c4 (List.length y1) y1] (bl [] ++ A) w0) (hm : m_ref09_Attacks y0 y1 = some r) :
    Calls Tryz.prog 13 [.agg #[.slice p1 (List.length y0.1) c1, .slice p2 (List.length y0.2.1) c2, .slice p3 (List.length y0.2.2) c3], .slice p4 (List.length y1) c4].toArray w0 (Ret fun v w => ∃ (p5 : Option Addr) (c5 : Nat), v = .slice p5 (List.length r) c5 ∧ Bk A [] w0 [] [R e_Attack p5 c5 (List.length r) r] w) := by
  unfold m_ref09_Attacks at hm
  refine ent Tryz.func13 rfl hO hF fun a h => ?_
  refine sr ?_
  refine sl (b_box h rfl fun b1 a w h e => ?_)
  refine pr 1 [] h fun a h => ?_
  refine oe ?_
  refine sr ?_
  refine pr 1 [(5, .slice none 0 0)] h fun a h => ?_
  have h := h.room e_Attack 45
  refine oe ?_
  refine wp_seq ?_
  refine sp [(6, vi 0)] h fun a h => ?_
  refine wp_block ?_
  refine loop_m (B := (m_ref09_Attacks_L1 y1 y0)) (fun (s1 : (List T_Attack) × Int) a w => ∃ (p5 : Option Addr) (c5 : Nat) (r_1 : Res), SS A [] w0 51 [(1, .slice p4 (List.length y1) c4), (2, .pointer (some ⟨b1, 0, none⟩)), (5, .slice p5 (List.length s1.1) c5), (6, vi s1.2)] [bx b1 31 [.slice p1 (List.length y0.1) c1, .slice p2 (List.length y0.2.1) c2, .slice p3 (List.length y0.2.2) c3], r_1] [Ar e_Attack 45 r_1 p5 c5 (List.length s1.1) s1.1, R e_Argument p4 c4 (List.length y1) y1, R e_Premise p1 c1 (List.length y0.1) y0.1, R e_Rule p2 c2 (List.length y0.2.1) y0.2.1, R e_Promotion p3 c3 (List.length y0.2.2) y0.2.2] a w) hm ⟨none, 0, [], h.to 2 ⟨(h.g 0), (h.g 4), (h.g 1), (h.g 2), (h.g 3), trivial⟩⟩ ?_
  intro s1 a w o1 hJ hm hr1
  obtain ⟨p5, c5, r_1, h⟩ := hJ
  unfold m_ref09_Attacks_L1 at hm
  refine wp_seq ?_
  refine sp [(14, vb (decide (s1.2 < (len y1))))] h fun a h => ?_
  refine cb h rfl (fun hb1 => ?_) (fun hb1 => ?_)
  · replace hm := ifT hb1 hm
    refine wp_skip ?_
    refine then_n ?_
    refine wp_seq ?_
    refine wp_block ?_
    refine sp [(7, vi 0)] h fun a h => ?_
    refine wp_block ?_
    refine loop_m (B := (m_ref09_Attacks_L2 y1 y0 s1)) (fun (s2 : (List T_Attack) × Int) a w => ∃ (p6 : Option Addr) (c6 : Nat) (r_2 : Res), SS A [] w0 51 [(1, .slice p4 (List.length y1) c4), (2, .pointer (some ⟨b1, 0, none⟩)), (5, .slice p6 (List.length s2.1) c6), (6, vi s1.2), (7, vi s2.2)] [bx b1 31 [.slice p1 (List.length y0.1) c1, .slice p2 (List.length y0.2.1) c2, .slice p3 (List.length y0.2.2) c3], r_2] [Ar e_Attack 45 r_2 p6 c6 (List.length s2.1) s2.1, R e_Argument p4 c4 (List.length y1) y1, R e_Premise p1 c1 (List.length y0.1) y0.1, R e_Rule p2 c2 (List.length y0.2.1) y0.2.1, R e_Promotion p3 c3 (List.length y0.2.2) y0.2.2] a w) hm ⟨p5, c5, r_1, h.to 2 ⟨(h.g 0), (h.g 1), (h.g 2), (h.g 3), (h.g 4), trivial⟩⟩ ?_
    intro s2 a w o2 hJ hm hr2
    obtain ⟨p6, c6, r_2, h⟩ := hJ
    unfold m_ref09_Attacks_L2 at hm
    refine wp_seq ?_
    refine sp [(20, vb (decide (s2.2 < (len y1))))] h fun a h => ?_
    refine cb h rfl (fun hb2 => ?_) (fun hb2 => ?_)
    · replace hm := ifT hb2 hm
      refine wp_skip ?_
      refine then_n ?_
      refine wp_seq ?_
      refine wp_block ?_
      refine sr ?_
      refine pr 2 [(24, vi s2.2), (23, .slice p4 (List.length y1) c4)] h fun a h => ?_
      obtain ⟨r1, h1, hm⟩ := bnd hm
      refine sl (b_call [] [] h Tryz.call23 rfl rfl (c_ref07_Subs (y0 := y1) (y1 := s2.2) (h.po [] []) ⟨(h.pf [] [] 1), trivial⟩ h1) fun v a w hp hc => ?_)
      obtain ⟨p7, c7, rfl, q⟩ := hp
      have h := hc.on q [bx b1 31 [.slice p1 (List.length y0.1) c1, .slice p2 (List.length y0.2.1) c2, .slice p3 (List.length y0.2.2) c3], r_2]
      refine pr 2 [(27, vi 0), (26, vi (len r1))] h fun a h => ?_
      refine oe ?_
      refine wp_block ?_
      refine loop_m (B := (m_ref09_Attacks_L3 r1 y0 y1 s1 s2)) (fun (s3 : (List T_Attack) × Int) a w => ∃ (p8 : Option Addr) (c8 : Nat) (r_3 : Res), SS A [] w0 51 [(1, .slice p4 (List.length y1) c4), (2, .pointer (some ⟨b1, 0, none⟩)), (5, .slice p8 (List.length s3.1) c8), (6, vi s1.2), (7, vi s2.2), (25, .slice p7 (List.length r1) c7), (26, vi (len r1)), (27, vi s3.2)] [bx b1 31 [.slice p1 (List.length y0.1) c1, .slice p2 (List.length y0.2.1) c2, .slice p3 (List.length y0.2.2) c3], r_3] [Ar e_Attack 45 r_3 p8 c8 (List.length s3.1) s3.1, R e_Argument p4 c4 (List.length y1) y1, R (eInt .i64) p7 c7 (List.length r1) r1, R e_Premise p1 c1 (List.length y0.1) y0.1, R e_Rule p2 c2 (List.length y0.2.1) y0.2.1, R e_Promotion p3 c3 (List.length y0.2.2) y0.2.2] a w) hm ⟨p6, c6, r_2, h.to 2 ⟨(h.g 1), (h.g 2), (h.g 0), (h.g 3), (h.g 4), (h.g 5), trivial⟩⟩ ?_
      intro s3 a w o3 hJ hm hr3
      obtain ⟨p8, c8, r_3, h⟩ := hJ
      unfold m_ref09_Attacks_L3 at hm
      refine sp [(28, vb (decide (s3.2 < (len r1))))] h fun a h => ?_
      refine wp_seq ?_
      refine cb h rfl (fun hb3 => ?_) (fun hb3 => ?_)
      · replace hm := ifT hb3 hm
        refine wp_skip ?_
        refine then_n ?_
        refine wp_seq ?_
        refine wp_block ?_
        refine sr ?_
        obtain ⟨x1, h2, hm⟩ := bnd hm
        refine sl (b_index_rd h (h.g 2) rfl rfl h2 fun b2 o4 a h => ?_)
        refine sl (b_load_pt false h (h.g 0) rfl fun ci1 hc1 v1 hv1 a h => ?_)
        replace hc1 : E.rd (eInt .i64) _ _ ci1 x1 := hc1
        obtain rfl := hc1
        obtain rfl := Option.some.inj hv1
        refine pr 1 [(9, vi x1)] h fun a h => ?_
        refine oe ?_
        refine sp [(10, vi 1)] h fun a h => ?_
        refine wp_block ?_
        refine loop_m (B := (m_ref09_Attacks_L4 y0 y1 s1 x1 s2 s3)) (fun (s4 : (List T_Attack) × Int) a w => ∃ (p9 : Option Addr) (c9 : Nat) (r_4 : Res), SS A [] w0 51 [(1, .slice p4 (List.length y1) c4), (2, .pointer (some ⟨b1, 0, none⟩)), (5, .slice p9 (List.length s4.1) c9), (6, vi s1.2), (7, vi s2.2), (9, vi x1), (10, vi s4.2), (25, .slice p7 (List.length r1) c7), (26, vi (len r1)), (27, vi s3.2)] [bx b1 31 [.slice p1 (List.length y0.1) c1, .slice p2 (List.length y0.2.1) c2, .slice p3 (List.length y0.2.2) c3], r_4] [Ar e_Attack 45 r_4 p9 c9 (List.length s4.1) s4.1, R e_Argument p4 c4 (List.length y1) y1, R (eInt .i64) p7 c7 (List.length r1) r1, R e_Premise p1 c1 (List.length y0.1) y0.1, R e_Rule p2 c2 (List.length y0.2.1) y0.2.1, R e_Promotion p3 c3 (List.length y0.2.2) y0.2.2] a w) hm ⟨p8, c8, r_3, h.to 2 ⟨(h.g 1), (h.g 2), (h.g 3), (h.g 4), (h.g 5), (h.g 6), trivial⟩⟩ ?_
        intro s4 a w o5 hJ hm hr4
        obtain ⟨p9, c9, r_4, h⟩ := hJ
        unfold m_ref09_Attacks_L4 at hm
        refine wp_seq ?_
        refine sp [(32, vb (decide (s4.2 ≤ 3)))] h fun a h => ?_
        refine cb h rfl (fun hb4 => ?_) (fun hb4 => ?_)
        · replace hm := ifT hb4 hm
          refine wp_skip ?_
          refine then_n ?_
          refine wp_seq ?_
          refine wp_block ?_
          refine sr ?_
          refine sl (b_load_own 0 (.agg #[.slice p1 (List.length y0.1) c1, .slice p2 (List.length y0.2.1) c2, .slice p3 (List.length y0.2.2) c3]) h rfl rfl fun a h => ?_)
          refine pr 4 [(39, vi s4.2), (38, vi x1), (37, vi s1.2), (36, .slice p4 (List.length y1) c4)] h fun a h => ?_
          obtain ⟨r2, h3, hm⟩ := bnd hm
          refine sl (b_call [] [] h Tryz.call37 rfl rfl (c_ref09_attacks (y0 := y0) (y1 := y1) (y2 := s1.2) (y3 := x1) (y4 := s4.2) (h.po [] []) ⟨(h.pf [] [] 3), (h.pf [] [] 4), (h.pf [] [] 5), (h.pf [] [] 1), trivial⟩ h3) fun v a w hp hc => ?_)
          obtain ⟨rfl, q⟩ := hp
          have h := hc.on q [bx b1 31 [.slice p1 (List.length y0.1) c1, .slice p2 (List.length y0.2.1) c2, .slice p3 (List.length y0.2.2) c3], r_4]
          refine oe ?_
          refine cb h rfl (fun hb5 => ?_) (fun hb5 => ?_)
          · replace hm := ifT hb5 hm
            refine reg ?_
            refine pr 6 [(46, .agg #[vi s1.2, vi s2.2, vi x1, vi s4.2]), (41, .slice p9 (List.length s4.1) c9)] h fun a h => ?_
            refine sl (b_bs_rd (te := 45) (e := e_Attack) [vi s1.2, vi s2.2, vi x1, vi s4.2] ([(s1.2, s2.2, x1, s4.2)] : List T_Attack) h ⟨_, _, rfl, eProd.mk eInt.mk (eProd.mk eInt.mk (eProd.mk eInt.mk eInt.mk)), rfl⟩ fun p10 c10 a w h e => ?_)
            obtain ⟨x2, h4, hm⟩ := bnd hm
            refine sl (b_append_r (te := 45) 1 h (h.g 1) (h.g 0) rfl rfl h4 fun r_5 p11 c11 a w h e => ?_)
            refine pr 1 [(5, .slice p11 (List.length x2) c11)] h fun a h => ?_
            refine ops_end ?_
            refine inb_n ?_
            refine then_n ?_
            refine reg ?_
            refine pr 3 [(10, vi (w64 (s4.2 + 1)))] h fun a h => ?_
            refine ops_end ?_
            obtain rfl := Option.some.inj hm
            exact lp_n rfl ⟨p11, c11, r_5, h.to 2 ⟨(h.g 0), (h.g 3), (h.g 4), (h.g 5), (h.g 6), (h.g 7), trivial⟩⟩
          replace hm := ifF hb5 hm
          refine wp_skip ?_
          refine inb_n ?_
          refine then_n ?_
          refine reg ?_
          refine pr 3 [(10, vi (w64 (s4.2 + 1)))] h fun a h => ?_
          refine ops_end ?_
          obtain rfl := Option.some.inj hm
          exact lp_n rfl ⟨p9, c9, r_4, h.to 2 ⟨(h.g 0), (h.g 1), (h.g 2), (h.g 3), (h.g 4), (h.g 5), trivial⟩⟩
        replace hm := ifF hb4 hm
        refine wp_exit ?_
        refine then_e (lp_e (inb_hit ?_))
        replace hm := loopR hr4 hm
        refine inb_n ?_
        refine then_n ?_
        refine reg ?_
        refine pr 2 [(27, vi (w64 (s3.2 + 1)))] h fun a h => ?_
        refine ops_end ?_
        obtain rfl := Option.some.inj hm
        exact lp_n rfl ⟨p9, c9, r_4, h.to 2 ⟨(h.g 0), (h.g 1), (h.g 2), (h.g 3), (h.g 4), (h.g 5), trivial⟩⟩
      replace hm := ifF hb3 hm
      refine wp_exit ?_
      refine then_e (lp_e (inb_hit ?_))
      replace hm := loopR hr3 hm
      refine inb_n ?_
      refine then_n ?_
      refine reg ?_
      refine pr 3 [(7, vi (w64 (s2.2 + 1)))] h fun a h => ?_
      refine ops_end ?_
      obtain rfl := Option.some.inj hm
      exact lp_n rfl ⟨p8, c8, r_3, h.to 2 ⟨(h.g 0), (h.g 1), (h.g 3), (h.g 4), (h.g 5), trivial⟩⟩
    replace hm := ifF hb2 hm
    refine wp_exit ?_
    refine then_e (lp_e (inb_hit ?_))
    replace hm := loopR hr2 hm
    refine inb_n ?_
    refine then_n ?_
    refine reg ?_
    refine pr 3 [(6, vi (w64 (s1.2 + 1)))] h fun a h => ?_
    refine ops_end ?_
    obtain rfl := Option.some.inj hm
    exact lp_n rfl ⟨p6, c6, r_2, h.to 2 ⟨(h.g 0), (h.g 1), (h.g 2), (h.g 3), (h.g 4), trivial⟩⟩
  replace hm := ifF hb1 hm
  refine wp_exit ?_
  refine then_e (lp_e (inb_hit ?_))
  replace hm := loopR hr1 hm
  refine then_n ?_
  refine sp [(4, .slice p5 (List.length s1.1) c5)] h fun a h => ?_
  refine wp_ret ?_
  obtain rfl := Option.some.inj hm
  have h := h.share 1 (h.g 0)
  exact rt1 h rfl rfl ⟨p5, c5, rfl, bk_sel h [] ⟨(h.g 0), trivial⟩⟩

theorem c_ref07_Premises {A : List Nat} {w0 : World} {y0 : List T_Argument} {p1 : Option Addr} {c1 : Nat} {y1 : Int} {r : (List Int)} (hO : Own A w0 []) (hF : All [R e_Argument p1 c1 (List.length y0) y0] (bl [] ++ A) w0) (hm : m_ref07_Premises y0 y1 = some r) :
    Calls Tryz.prog 48 [.slice p1 (List.length y0) c1, vi y1].toArray w0 (Ret fun v w => ∃ (p2 : Option Addr) (c2 : Nat), v = .slice p2 (List.length r) c2 ∧ Bk A [] w0 [] [R (eInt .i64) p2 c2 (List.length r) r] w) := by
  unfold m_ref07_Premises at hm
  refine ent Tryz.func48 rfl hO hF fun a h => ?_
  refine sp [] h fun a h => ?_
  refine sp [(5, .slice none 0 0)] h fun a h => ?_
  refine wp_seq ?_
  refine sr ?_
  refine pr 2 [(9, vi y1), (8, .slice p1 (List.length y0) c1)] h fun a h => ?_
  obtain ⟨r1, h1, hm⟩ := bnd hm
  refine sl (b_call [] [] h Tryz.call23 rfl rfl (c_ref07_Subs (y0 := y0) (y1 := y1) (h.po [] []) ⟨(h.pf [] [] 0), trivial⟩ h1) fun v a w hp hc => ?_)
  obtain ⟨p2, c2, rfl, q⟩ := hp
  have h := hc.on q []
  refine pr 2 [(12, vi 0), (11, vi (len r1))] h fun a h => ?_
  refine oe ?_
  refine wp_block ?_
  refine loop_m (B := (m_ref07_Premises_L1 r1 y0)) (fun (s1 : (List Int) × Int) a w => ∃ (p3 : Option Addr) (c3 : Nat), SS A [] w0 31 [(0, .slice p1 (List.length y0) c1), (5, .slice p3 (List.length s1.1) c3), (10, .slice p2 (List.length r1) c2), (11, vi (len r1)), (12, vi s1.2)] [] [R (eInt .i64) p3 c3 (List.length s1.1) s1.1, R e_Argument p1 c1 (List.length y0) y0, R (eInt .i64) p2 c2 (List.length r1) r1] a w) hm ⟨none, 0, h.to 0 ⟨(rnil (eInt .i64) _ _ _ _), (h.g 1), (h.g 0), trivial⟩⟩ ?_
  intro s1 a w o1 hJ hm hr1
  obtain ⟨p3, c3, h⟩ := hJ
  unfold m_ref07_Premises_L1 at hm
  refine sp [(13, vb (decide (s1.2 < (len r1))))] h fun a h => ?_
  refine wp_seq ?_
  refine cb h rfl (fun hb1 => ?_) (fun hb1 => ?_)
  · replace hm := ifT hb1 hm
    refine wp_skip ?_
    refine then_n ?_
    refine wp_seq ?_
    refine wp_block ?_
    refine sr ?_
    obtain ⟨x1, h2, hm⟩ := bnd hm
    refine sl (b_index_rd h (h.g 2) rfl rfl h2 fun b1 o2 a h => ?_)
    refine sl (b_load_pt false h (h.g 0) rfl fun ci1 hc1 v1 hv1 a h => ?_)
    replace hc1 : E.rd (eInt .i64) _ _ ci1 x1 := hc1
    obtain rfl := hc1
    obtain rfl := Option.some.inj hv1
    refine pr 1 [(7, vi x1)] h fun a h => ?_
    refine oe ?_
    refine sr ?_
    refine pr 2 [(17, vi x1), (16, .slice p1 (List.length y0) c1)] h fun a h => ?_
    obtain ⟨x2, h3, hm⟩ := bnd hm
    refine sl (b_index_rd h (h.g 2) rfl rfl h3 fun b2 o3 a h => ?_)
    refine pr 1 [(19, .pointer (some ⟨b2, o3, none⟩))] h fun a h => ?_
    refine sl (b_load_pt false h (PtTo.fst (h.g 0)) rfl fun ci2 hc2 v2 hv2 a h => ?_)
    replace hc2 : E.rd (eInt .i64) _ _ ci2 x2.1 := hc2
    obtain rfl := hc2
    obtain rfl := Option.some.inj hv2
    refine pr 1 [(21, vb (decide (0 ≤ x2.1)))] h fun a h => ?_
    refine oe ?_
    refine cb h rfl (fun hb2 => ?_) (fun hb2 => ?_)
    · replace hm := ifT hb2 hm
      refine reg ?_
      refine pr 3 [(24, vi x1), (23, .slice p1 (List.length y0) c1), (22, .slice p3 (List.length s1.1) c3)] h fun a h => ?_
      obtain ⟨x3, h4, hm⟩ := bnd hm
      refine sl (b_index_rd h (h.g 3) rfl rfl h4 fun b3 o4 a h => ?_)
      refine pr 1 [(26, .pointer (some ⟨b3, o4, none⟩))] h fun a h => ?_
      refine sl (b_load_pt false h (PtTo.fst (h.g 0)) rfl fun ci3 hc3 v3 hv3 a h => ?_)
      replace hc3 : E.rd (eInt .i64) _ _ ci3 x3.1 := hc3
      obtain rfl := hc3
      obtain rfl := Option.some.inj hv3
      obtain ⟨r2, h5, hm⟩ := bnd hm
      refine sl (b_call [] [] h Tryz.call81 rfl rfl (c_ref07_insert (y0 := s1.1) (y1 := x3.1) (h.po [] []) ⟨(h.pf [] [] 3), trivial⟩ h5) fun v a w hp hc => ?_)
      obtain ⟨p4, c4, rfl, q⟩ := hp
      have h := hc.on q []
      refine pr 1 [(5, .slice p4 (List.length r2) c4)] h fun a h => ?_
      refine ops_end ?_
      refine inb_n ?_
      refine then_n ?_
      refine reg ?_
      refine pr 2 [(12, vi (w64 (s1.2 + 1)))] h fun a h => ?_
      refine ops_end ?_
      obtain rfl := Option.some.inj hm
      exact lp_n rfl ⟨p4, c4, h.to 0 ⟨(h.g 0), (h.g 5), (h.g 6), trivial⟩⟩
    replace hm := ifF hb2 hm
    refine wp_skip ?_
    refine inb_n ?_
    refine then_n ?_
    refine reg ?_
    refine pr 2 [(12, vi (w64 (s1.2 + 1)))] h fun a h => ?_
    refine ops_end ?_
    obtain rfl := Option.some.inj hm
    exact lp_n rfl ⟨p3, c3, h.to 0 ⟨(h.g 2), (h.g 3), (h.g 4), trivial⟩⟩
  replace hm := ifF hb1 hm
  refine wp_exit ?_
  refine then_e (lp_e (inb_hit ?_))
  replace hm := loopR hr1 hm
  refine then_n ?_
  refine sp [(4, .slice p3 (List.length s1.1) c3)] h fun a h => ?_
  refine wp_ret ?_
  obtain rfl := Option.some.inj hm
  exact rt1 h rfl rfl ⟨p3, c3, rfl, bk_sel h [] ⟨(h.g 0), trivial⟩⟩

theorem c_ref08_Assumes {A : List Nat} {w0 : World} {y0 : T_Base} {p1 : Option Addr} {c1 : Nat} {p2 : Option Addr} {c2 : Nat} {p3 : Option Addr} {c3 : Nat} {y1 : List T_Argument} {p4 : Option Addr} {c4 : Nat} {y2 : Int} {r : Bool} (hO : Own A w0 []) (hF : All [R e_Premise p1 c1 (List.length y0.1) y0.1, R e_Rule p2 c2 (List.length y0.2.1) y0.2.1, R e_Promotion p3 c3 (List.length y0.2.2) y0.2.2, R e_Argument p4 c4 (List.length y1) y1] (bl [] ++ A) w0) (hm : m_ref08_Assumes y0 y1 y2 = some r) :
    Calls Tryz.prog 27 [.agg #[.slice p1 (List.length y0.1) c1, .slice p2 (List.length y0.2.1) c2, .slice p3 (List.length y0.2.2) c3], .slice p4 (List.length y1) c4, vi y2].toArray w0 (Ret fun v w => v = vb r ∧ Bk A [] w0 [] [] w) := by
  unfold m_ref08_Assumes at hm
  refine ent Tryz.func27 rfl hO hF fun a h => ?_
  refine sr ?_
  refine sl (b_box h rfl fun b1 a w h e => ?_)
  refine pr 1 [] h fun a h => ?_
  refine oe ?_
  refine wp_seq ?_
  refine sr ?_
  refine pr 2 [(10, vi y2), (9, .slice p4 (List.length y1) c4)] h fun a h => ?_
  obtain ⟨r1, h1, hm⟩ := bnd hm
  refine sl (b_call [] [] h Tryz.call48 rfl rfl (c_ref07_Premises (y0 := y1) (y1 := y2) (h.po [] []) ⟨(h.pf [] [] 3), trivial⟩ h1) fun v a w hp hc => ?_)
  obtain ⟨p5, c5, rfl, q⟩ := hp
  have h := hc.on q [bx b1 31 [.slice p1 (List.length y0.1) c1, .slice p2 (List.length y0.2.1) c2, .slice p3 (List.length y0.2.2) c3]]
  refine pr 2 [(13, vi 0), (12, vi (len r1))] h fun a h => ?_
  refine oe ?_
  refine wp_block ?_
  refine loop_m (B := (m_ref08_Assumes_L1 r1 y0)) (fun (s1 : Int) a w => SS A [] w0 25 [(3, .pointer (some ⟨b1, 0, none⟩)), (11, .slice p5 (List.length r1) c5), (12, vi (len r1)), (13, vi s1)] [bx b1 31 [.slice p1 (List.length y0.1) c1, .slice p2 (List.length y0.2.1) c2, .slice p3 (List.length y0.2.2) c3]] [R (eInt .i64) p5 c5 (List.length r1) r1, R e_Premise p1 c1 (List.length y0.1) y0.1, R e_Rule p2 c2 (List.length y0.2.1) y0.2.1, R e_Promotion p3 c3 (List.length y0.2.2) y0.2.2] a w) hm (h.to 1 ⟨(h.g 0), (h.g 1), (h.g 2), (h.g 3), trivial⟩) ?_
  intro s1 a w o1 hJ hm hr1
  have h := hJ
  unfold m_ref08_Assumes_L1 at hm
  refine sp [(14, vb (decide (s1 < (len r1))))] h fun a h => ?_
  refine wp_seq ?_
  refine cb h rfl (fun hb1 => ?_) (fun hb1 => ?_)
  · replace hm := ifT hb1 hm
    refine wp_skip ?_
    refine then_n ?_
    refine wp_seq ?_
    refine wp_block ?_
    refine sr ?_
    obtain ⟨x1, h2, hm⟩ := bnd hm
    refine sl (b_index_rd h (h.g 0) rfl rfl h2 fun b2 o2 a h => ?_)
    refine sl (b_load_pt false h (h.g 0) rfl fun ci1 hc1 v1 hv1 a h => ?_)
    replace hc1 : E.rd (eInt .i64) _ _ ci1 x1 := hc1
    obtain rfl := hc1
    obtain rfl := Option.some.inj hv1
    refine pr 1 [(8, vi x1)] h fun a h => ?_
    refine oe ?_
    refine sr ?_
    refine pr 1 [(17, .pointer (some ⟨b1, 0, none⟩))] h fun a h => ?_
    refine sl (b_load_own 0 (.slice p1 (List.length y0.1) c1) h rfl rfl fun a h => ?_)
    refine pr 1 [(19, vi x1)] h fun a h => ?_
    obtain ⟨x2, h3, hm⟩ := bnd hm
    refine sl (b_index_rd h (h.g 2) rfl rfl h3 fun b3 o3 a h => ?_)
    refine pr 1 [(21, .pointer (some ⟨b3, (o3 + 2), none⟩))] h fun a h => ?_
    refine sl (b_load_pt false h (PtTo.fst (PtTo.snd (h.g 0))) rfl fun ci2 hc2 v2 hv2 a h => ?_)
    replace hc2 : E.rd (eInt .i64) _ _ ci2 x2.2.1 := hc2
    obtain rfl := hc2
    obtain rfl := Option.some.inj hv2
    refine pr 1 [(23, vb (x2.2.1 == 3))] h fun a h => ?_
    refine oe ?_
    refine cb h rfl (fun hb2 => ?_) (fun hb2 => ?_)
    · replace hm := ifT hb2 hm
      refine sp [(6, vb true)] h fun a h => ?_
      refine wp_ret ?_
      refine inb_r (then_r (lp_r (inb_r (then_r ?_))))
      replace hm := loopR hr1 hm
      obtain rfl := Option.some.inj hm
      exact rt1 h rfl rfl ⟨rfl, bk_sel h [] trivial⟩
    replace hm := ifF hb2 hm
    refine wp_skip ?_
    refine inb_n ?_
    refine then_n ?_
    refine reg ?_
    refine pr 2 [(13, vi (w64 (s1 + 1)))] h fun a h => ?_
    refine ops_end ?_
    obtain rfl := Option.some.inj hm
    exact lp_n rfl (h.to 1 ⟨(h.g 2), (h.g 3), (h.g 4), (h.g 5), trivial⟩)
  replace hm := ifF hb1 hm
  refine wp_exit ?_
  refine then_e (lp_e (inb_hit ?_))
  replace hm := loopR hr1 hm
  refine then_n ?_
  refine sp [(6, vb false)] h fun a h => ?_
  refine wp_ret ?_
  obtain rfl := Option.some.inj hm
  exact rt1 h rfl rfl ⟨rfl, bk_sel h [] trivial⟩

theorem k_ref07_Last_all (k : Nat) :
    (∀ {A : List Nat} {w0 : World} {y0 : T_Base} {p1 : Option Addr} {c1 : Nat} {p2 : Option Addr} {c2 : Nat} {p3 : Option Addr} {c3 : Nat} {y1 : List T_Argument} {p4 : Option Addr} {c4 : Nat} {y2 : Int} {r : (List Int)} (_hO : Own A w0 []) (_hF : All [R e_Premise p1 c1 (List.length y0.1) y0.1, R e_Rule p2 c2 (List.length y0.2.1) y0.2.1, R e_Promotion p3 c3 (List.length y0.2.2) y0.2.2, R e_Argument p4 c4 (List.length y1) y1] (bl [] ++ A) w0) (_hm : k_ref07_Last k y0 y1 y2 = some r),
    Calls Tryz.prog 111 [.agg #[.slice p1 (List.length y0.1) c1, .slice p2 (List.length y0.2.1) c2, .slice p3 (List.length y0.2.2) c3], .slice p4 (List.length y1) c4, vi y2].toArray w0 (Ret fun v w => ∃ (p5 : Option Addr) (c5 : Nat), v = .slice p5 (List.length r) c5 ∧ Bk A [] w0 [] [R (eInt .i64) p5 c5 (List.length r) r] w)) := by
  induction k with
  | zero => intros; rename_i hm; cases hm
  | succ k ih =>
    have ih_ref07_Last := @ih
    generalize hr_ref07_Last : k_ref07_Last k = rec_ref07_Last at ih_ref07_Last
    intro A w0 y0 p1 c1 p2 c2 p3 c3 y1 p4 c4 y2 r hO hF hm
    replace hm : F_ref07_Last rec_ref07_Last y0 y1 y2 = some r := by rw [← hr_ref07_Last]; exact hm
    unfold F_ref07_Last at hm
    refine ent Tryz.func111 rfl hO hF fun a h => ?_
    refine sr ?_
    refine sl (b_box h rfl fun b1 a w h e => ?_)
    refine pr 1 [] h fun a h => ?_
    refine oe ?_
    refine wp_seq ?_
    obtain ⟨s1, hx, hm⟩ := bnd hm
    refine seq_j (fun a w => SS A [] w0 66 [(1, .slice p4 (List.length y1) c4), (2, vi y2), (3, .pointer (some ⟨b1, 0, none⟩)), (24, vb s1)] [bx b1 31 [.slice p1 (List.length y0.1) c1, .slice p2 (List.length y0.2.1) c2, .slice p3 (List.length y0.2.2) c3]] [R e_Argument p4 c4 (List.length y1) y1, R e_Premise p1 c1 (List.length y0.1) y0.1, R e_Rule p2 c2 (List.length y0.2.1) y0.2.1, R e_Promotion p3 c3 (List.length y0.2.2) y0.2.2] a w) ?_ ?_
    · replace hm := hx
      refine reg ?_
      refine pr 3 [(11, vb (decide (y2 < 0)))] h fun a h => ?_
      rcases Bool.eq_false_or_eq_true (decide (y2 < 0)) with hb1 | hb1
      · have h := h.upd (t := 11) (vb true) rfl (congrArg Value.bool hb1)
        replace hm := ifT hb1 hm
        refine pr 13 [(24, vb true)] h fun a h => ?_
        refine ops_end ?_
        obtain rfl := Option.some.inj hm
        exact then_n (h.to 1 ⟨(h.g 3), (h.g 0), (h.g 1), (h.g 2), trivial⟩)
      · have h := h.upd (t := 11) (vb false) rfl (congrArg Value.bool hb1)
        replace hm := ifF hb1 hm
        refine pr 6 [(17, vb (decide ((len y1) ≤ y2)))] h fun a h => ?_
        rcases Bool.eq_false_or_eq_true (decide ((len y1) ≤ y2)) with hb2 | hb2
        · have h := h.upd (t := 17) (vb true) rfl (congrArg Value.bool hb2)
          replace hm := ifT hb2 hm
          refine pr 7 [(24, vb true)] h fun a h => ?_
          refine ops_end ?_
          obtain rfl := Option.some.inj hm
          exact then_n (h.to 1 ⟨(h.g 3), (h.g 0), (h.g 1), (h.g 2), trivial⟩)
        · have h := h.upd (t := 17) (vb false) rfl (congrArg Value.bool hb2)
          replace hm := ifF hb2 hm
          refine pr 2 [(19, vi y2), (18, .slice p4 (List.length y1) c4)] h fun a h => ?_
          obtain ⟨x1, h1, hm⟩ := bnd hm
          refine sl (b_index_rd h (h.g 3) rfl rfl h1 fun b2 o1 a h => ?_)
          refine pr 1 [(21, .pointer (some ⟨b2, (o1 + 1), none⟩))] h fun a h => ?_
          refine sl (b_load_pt false h (PtTo.fst (PtTo.snd (h.g 0))) rfl fun ci1 hc1 v1 hv1 a h => ?_)
          replace hc1 : E.rd (eInt .i64) _ _ ci1 x1.2.1 := hc1
          obtain rfl := hc1
          obtain rfl := Option.some.inj hv1
          refine pr 2 [(24, vb (decide (x1.2.1 < 0)))] h fun a h => ?_
          refine ops_end ?_
          obtain rfl := Option.some.inj hm
          exact then_n (h.to 1 ⟨(h.g 4), (h.g 1), (h.g 2), (h.g 3), trivial⟩)
    intro a w hJ
    have h := hJ
    refine cb h rfl (fun hb3 => ?_) (fun hb3 => ?_)
    · replace hm := ifT hb3 hm
      refine sp [(6, .slice none 0 0)] h fun a h => ?_
      refine wp_ret ?_
      refine then_r ?_
      obtain rfl := Option.some.inj hm
      exact rt1 h rfl rfl ⟨none, 0, rfl, bk_sel h [] ⟨(rnil (eInt .i64) _ _ _ _), trivial⟩⟩
    replace hm := ifF hb3 hm
    refine wp_skip ?_
    refine then_n ?_
    refine wp_seq ?_
    refine ds [] [0] h fun w h => ?_
    refine dp 0 (.pointer (some ⟨b1, 1, none⟩)) h rfl fun a h => ?_
    refine dlo 1 0 (.slice p2 (List.length y0.2.1) c2) h rfl rfl rfl fun a h => ?_
    refine dp 2 (.slice p4 (List.length y1) c4) h rfl fun a h => ?_
    refine dp 3 (vi y2) h rfl fun a h => ?_
    obtain ⟨x2, h2, hm⟩ := bnd hm
    refine dir 4 h rfl (h.g 0) rfl rfl h2 fun b3 o2 a h => ?_
    refine dp 5 (.pointer (some ⟨b3, (o2 + 1), none⟩)) h rfl fun a h => ?_
    refine dlp 6 false h rfl (PtTo.fst (PtTo.snd (h.g 0))) rfl fun ci2 hc2 v2 hv2 a h => ?_
    replace hc2 : E.rd (eInt .i64) _ _ ci2 x2.2.1 := hc2
    obtain rfl := hc2
    obtain rfl := Option.some.inj hv2
    obtain ⟨x3, h3, hm⟩ := bnd hm
    refine dir 7 h rfl (h.g 3) rfl rfl h3 fun b4 o3 a h => ?_
    refine dp 8 (.pointer (some ⟨b4, (o3 + 1), none⟩)) h rfl fun a h => ?_
    refine dlp 9 false h rfl (PtTo.fst (PtTo.snd (h.g 0))) rfl fun ci3 hc3 v3 hv3 a h => ?_
    replace hc3 : E.rd eBool _ _ ci3 x3.2.1 := hc3
    obtain rfl := hc3
    obtain rfl := Option.some.inj hv3
    refine dp 10 (vb (!x3.2.1)) h rfl fun a h => ?_
    refine de (then_n ?_)
    refine cb h rfl (fun hb4 => ?_) (fun hb4 => ?_)
    · replace hm := ifT hb4 hm
      refine sr ?_
      refine pr 2 [(37, vi y2), (36, .slice p4 (List.length y1) c4)] h fun a h => ?_
      obtain ⟨x4, h4, hm⟩ := bnd hm
      refine sl (b_index_rd h (h.g 2) rfl rfl h4 fun b5 o4 a h => ?_)
      refine pr 1 [(39, .pointer (some ⟨b5, (o4 + 1), none⟩))] h fun a h => ?_
      refine sl (b_load_pt false h (PtTo.fst (PtTo.snd (h.g 0))) rfl fun ci4 hc4 v4 hv4 a h => ?_)
      replace hc4 : E.rd (eInt .i64) _ _ ci4 x4.2.1 := hc4
      obtain rfl := hc4
      obtain rfl := Option.some.inj hv4
      refine sl (b_bs_rd (te := 3) (e := eInt .i64) [vi x4.2.1] ([x4.2.1] : List Int) h ⟨_, _, rfl, eInt.mk, rfl⟩ fun p5 c5 a w h e => ?_)
      refine pr 1 [(6, .slice p5 (List.length ([x4.2.1] : List Int)) c5)] h fun a h => ?_
      refine oe ?_
      refine wp_ret ?_
      refine then_r ?_
      obtain rfl := Option.some.inj hm
      exact rt1 h rfl rfl ⟨p5, c5, rfl, bk_sel h [] ⟨(h.g 0), trivial⟩⟩
    replace hm := ifF hb4 hm
    refine wp_skip ?_
    refine then_n ?_
    refine sp [(7, .slice none 0 0)] h fun a h => ?_
    refine wp_seq ?_
    refine sp [(8, vi 0)] h fun a h => ?_
    refine wp_block ?_
    refine loop_m (B := (m_ref07_Last_L1 y1 y2 rec_ref07_Last y0)) (fun (s2 : (List Int) × Int) a w => ∃ (p6 : Option Addr) (c6 : Nat), SS A [] w0 66 [(1, .slice p4 (List.length y1) c4), (2, vi y2), (3, .pointer (some ⟨b1, 0, none⟩)), (7, .slice p6 (List.length s2.1) c6), (8, vi s2.2)] [bx b1 31 [.slice p1 (List.length y0.1) c1, .slice p2 (List.length y0.2.1) c2, .slice p3 (List.length y0.2.2) c3]] [R (eInt .i64) p6 c6 (List.length s2.1) s2.1, R e_Argument p4 c4 (List.length y1) y1, R e_Premise p1 c1 (List.length y0.1) y0.1, R e_Rule p2 c2 (List.length y0.2.1) y0.2.1, R e_Promotion p3 c3 (List.length y0.2.2) y0.2.2] a w) hm ⟨none, 0, h.to 1 ⟨(rnil (eInt .i64) _ _ _ _), (h.g 2), (h.g 3), (h.g 4), (h.g 5), trivial⟩⟩ ?_
    intro s2 a w o5 hJ hm hr1
    obtain ⟨p6, c6, h⟩ := hJ
    unfold m_ref07_Last_L1 at hm
    refine wp_seq ?_
    refine sr ?_
    refine pr 3 [(44, vi y2), (43, .slice p4 (List.length y1) c4), (42, vi s2.2)] h fun a h => ?_
    obtain ⟨x5, h5, hm⟩ := bnd hm
    refine sl (b_index_rd h (h.g 1) rfl rfl h5 fun b6 o6 a h => ?_)
    refine pr 1 [(46, .pointer (some ⟨b6, (o6 + 2), none⟩))] h fun a h => ?_
    refine sl (b_load_pt false h (PtTo.fst (PtTo.snd (PtTo.snd (h.g 0)))) rfl fun ci5 hc5 v5 hv5 a h => ?_)
    replace hc5 : E.rd (eSlice (eInt .i64)) _ _ ci5 x5.2.2.1 := hc5
    obtain ⟨p7, c7, rfl, f1⟩ := hc5
    obtain rfl := Option.some.inj hv5
    have h := h.upd (t := 47) (.slice p7 (List.length x5.2.2.1) c7) rfl rfl
    have h := h.add (R.of f1)
    refine pr 2 [(49, vb (decide (s2.2 < (len x5.2.2.1))))] h fun a h => ?_
    refine oe ?_
    refine cb h rfl (fun hb5 => ?_) (fun hb5 => ?_)
    · replace hm := ifT hb5 hm
      refine wp_skip ?_
      refine then_n ?_
      refine wp_seq ?_
      refine wp_block ?_
      refine ds' [] [0] h fun w h => ?_
      refine dp 0 (.slice p6 (List.length s2.1) c6) h rfl fun a h => ?_
      refine dlo 1 0 (.agg #[.slice p1 (List.length y0.1) c1, .slice p2 (List.length y0.2.1) c2, .slice p3 (List.length y0.2.2) c3]) h rfl rfl rfl fun a h => ?_
      refine dp 2 (.slice p4 (List.length y1) c4) h rfl fun a h => ?_
      refine dp 3 (.slice p4 (List.length y1) c4) h rfl fun a h => ?_
      refine dp 4 (vi y2) h rfl fun a h => ?_
      obtain ⟨x6, h6, hm⟩ := bnd hm
      refine dir 5 h rfl (h.g 3) rfl rfl h6 fun b7 o7 a h => ?_
      refine dp 6 (.pointer (some ⟨b7, (o7 + 2), none⟩)) h rfl fun a h => ?_
      refine dlp 7 false h rfl (PtTo.fst (PtTo.snd (PtTo.snd (h.g 0)))) rfl fun ci6 hc6 v6 hv6 a h => ?_
      replace hc6 : E.rd (eSlice (eInt .i64)) _ _ ci6 x6.2.2.1 := hc6
      obtain ⟨p8, c8, rfl, f2⟩ := hc6
      obtain rfl := Option.some.inj hv6
      have h := h.upd (t := 59) (.slice p8 (List.length x6.2.2.1) c8) rfl rfl
      have h := h.add (R.of f2)
      refine dp 8 (vi s2.2) h rfl fun a h => ?_
      obtain ⟨x7, h7, hm⟩ := bnd hm
      refine dir 9 h rfl (h.g 0) rfl rfl h7 fun b8 o8 a h => ?_
      refine dlp 10 false h rfl (h.g 0) rfl fun ci7 hc7 v7 hv7 a h => ?_
      replace hc7 : E.rd (eInt .i64) _ _ ci7 x7 := hc7
      obtain rfl := hc7
      obtain rfl := Option.some.inj hv7
      refine d1 11 rfl ?_
      obtain ⟨r1, h8, hm⟩ := bnd hm
      refine b_call [] [] h Tryz.call111 rfl rfl (ih_ref07_Last (y0 := y0) (y1 := y1) (y2 := x7) (h.po [] []) ⟨(h.pf [] [] 7), (h.pf [] [] 8), (h.pf [] [] 9), (h.pf [] [] 6), trivial⟩ h8) fun v a w hp hc => ?_
      obtain ⟨p9, c9, rfl, q⟩ := hp
      have e := hc.st q [bx b1 31 [.slice p1 (List.length y0.1) c1, .slice p2 (List.length y0.2.1) c2, .slice p3 (List.length y0.2.2) c3]]
      have h := hc.on q [bx b1 31 [.slice p1 (List.length y0.1) c1, .slice p2 (List.length y0.2.1) c2, .slice p3 (List.length y0.2.2) c3]]
      refine dn h e ?_
      refine d1 12 rfl ?_
      obtain ⟨r2, h9, hm⟩ := bnd hm
      refine b_call [] [] h Tryz.call47 rfl rfl (c_ref07_union (y0 := s2.1) (y1 := r1) (h.po [] []) ⟨(h.pf [] [] 6), (h.pf [] [] 0), trivial⟩ h9) fun v a w hp hc => ?_
      obtain ⟨p10, c10, rfl, q⟩ := hp
      have e := hc.st q [bx b1 31 [.slice p1 (List.length y0.1) c1, .slice p2 (List.length y0.2.1) c2, .slice p3 (List.length y0.2.2) c3]]
      have h := hc.on q [bx b1 31 [.slice p1 (List.length y0.1) c1, .slice p2 (List.length y0.2.1) c2, .slice p3 (List.length y0.2.2) c3]]
      refine dn h e ?_
      refine dp 13 (.slice p10 (List.length r2) c10) h rfl fun a h => ?_
      refine de ?_
      refine inb_n ?_
      refine then_n ?_
      refine reg ?_
      refine pr 3 [(8, vi (w64 (s2.2 + 1)))] h fun a h => ?_
      refine ops_end ?_
      obtain rfl := Option.some.inj hm
      exact lp_n rfl ⟨p10, c10, h.to 1 ⟨(h.g 0), (h.g 8), (h.g 9), (h.g 10), (h.g 11), trivial⟩⟩
    replace hm := ifF hb5 hm
    refine wp_exit ?_
    refine then_e (lp_e (inb_hit ?_))
    replace hm := loopR hr1 hm
    refine then_n ?_
    refine sp [(6, .slice p6 (List.length s2.1) c6)] h fun a h => ?_
    refine wp_ret ?_
    obtain rfl := Option.some.inj hm
    exact rt1 h rfl rfl ⟨p6, c6, rfl, bk_sel h [] ⟨(h.g 2), trivial⟩⟩

theorem c_ref07_Last {A : List Nat} {w0 : World} {y0 : T_Base} {p1 : Option Addr} {c1 : Nat} {p2 : Option Addr} {c2 : Nat} {p3 : Option Addr} {c3 : Nat} {y1 : List T_Argument} {p4 : Option Addr} {c4 : Nat} {y2 : Int} {r : (List Int)} (hO : Own A w0 []) (hF : All [R e_Premise p1 c1 (List.length y0.1) y0.1, R e_Rule p2 c2 (List.length y0.2.1) y0.2.1, R e_Promotion p3 c3 (List.length y0.2.2) y0.2.2, R e_Argument p4 c4 (List.length y1) y1] (bl [] ++ A) w0) (hm : m_ref07_Last y0 y1 y2 = some r) :
    Calls Tryz.prog 111 [.agg #[.slice p1 (List.length y0.1) c1, .slice p2 (List.length y0.2.1) c2, .slice p3 (List.length y0.2.2) c3], .slice p4 (List.length y1) c4, vi y2].toArray w0 (Ret fun v w => ∃ (p5 : Option Addr) (c5 : Nat), v = .slice p5 (List.length r) c5 ∧ Bk A [] w0 [] [R (eInt .i64) p5 c5 (List.length r) r] w) := by
  obtain ⟨k, hk⟩ := limM_some hm
  exact (k_ref07_Last_all k) hO hF hk

theorem c_ref08_LastRanks {A : List Nat} {w0 : World} {y0 : T_Base} {p1 : Option Addr} {c1 : Nat} {p2 : Option Addr} {c2 : Nat} {p3 : Option Addr} {c3 : Nat} {y1 : List T_Argument} {p4 : Option Addr} {c4 : Nat} {y2 : Int} {r : (List Int)} (hO : Own A w0 []) (hF : All [R e_Premise p1 c1 (List.length y0.1) y0.1, R e_Rule p2 c2 (List.length y0.2.1) y0.2.1, R e_Promotion p3 c3 (List.length y0.2.2) y0.2.2, R e_Argument p4 c4 (List.length y1) y1] (bl [] ++ A) w0) (hm : m_ref08_LastRanks y0 y1 y2 = some r) :
    Calls Tryz.prog 79 [.agg #[.slice p1 (List.length y0.1) c1, .slice p2 (List.length y0.2.1) c2, .slice p3 (List.length y0.2.2) c3], .slice p4 (List.length y1) c4, vi y2].toArray w0 (Ret fun v w => ∃ (p5 : Option Addr) (c5 : Nat), v = .slice p5 (List.length r) c5 ∧ Bk A [] w0 [] [R (eInt .i64) p5 c5 (List.length r) r] w) := by
  unfold m_ref08_LastRanks at hm
  refine ent Tryz.func79 rfl hO hF fun a h => ?_
  refine sr ?_
  refine sl (b_box h rfl fun b1 a w h e => ?_)
  refine pr 1 [] h fun a h => ?_
  refine oe ?_
  refine sr ?_
  refine pr 1 [(7, .slice none 0 0)] h fun a h => ?_
  have h := h.room (eInt .i64) 3
  refine oe ?_
  refine wp_seq ?_
  refine sr ?_
  refine sl (b_load_own 0 (.agg #[.slice p1 (List.length y0.1) c1, .slice p2 (List.length y0.2.1) c2, .slice p3 (List.length y0.2.2) c3]) h rfl rfl fun a h => ?_)
  refine pr 2 [(12, vi y2), (11, .slice p4 (List.length y1) c4)] h fun a h => ?_
  obtain ⟨r1, h1, hm⟩ := bnd hm
  refine sl (b_call [] [] h Tryz.call111 rfl rfl (c_ref07_Last (y0 := y0) (y1 := y1) (y2 := y2) (h.po [] []) ⟨(h.pf [] [] 1), (h.pf [] [] 2), (h.pf [] [] 3), (h.pf [] [] 4), trivial⟩ h1) fun v a w hp hc => ?_)
  obtain ⟨p5, c5, rfl, q⟩ := hp
  have h := hc.on q [bx b1 31 [.slice p1 (List.length y0.1) c1, .slice p2 (List.length y0.2.1) c2, .slice p3 (List.length y0.2.2) c3], []]
  refine pr 2 [(15, vi 0), (14, vi (len r1))] h fun a h => ?_
  refine oe ?_
  refine wp_block ?_
  refine loop_m (B := (m_ref08_LastRanks_L1 r1 y0)) (fun (s1 : (List Int) × Int) a w => ∃ (p6 : Option Addr) (c6 : Nat) (r_1 : Res), SS A [] w0 30 [(3, .pointer (some ⟨b1, 0, none⟩)), (7, .slice p6 (List.length s1.1) c6), (13, .slice p5 (List.length r1) c5), (14, vi (len r1)), (15, vi s1.2)] [bx b1 31 [.slice p1 (List.length y0.1) c1, .slice p2 (List.length y0.2.1) c2, .slice p3 (List.length y0.2.2) c3], r_1] [Ar (eInt .i64) 3 r_1 p6 c6 (List.length s1.1) s1.1, R (eInt .i64) p5 c5 (List.length r1) r1, R e_Premise p1 c1 (List.length y0.1) y0.1, R e_Rule p2 c2 (List.length y0.2.1) y0.2.1, R e_Promotion p3 c3 (List.length y0.2.2) y0.2.2] a w) hm ⟨none, 0, [], h.to 2 ⟨(h.g 1), (h.g 0), (h.g 2), (h.g 3), (h.g 4), trivial⟩⟩ ?_
  intro s1 a w o1 hJ hm hr1
  obtain ⟨p6, c6, r_1, h⟩ := hJ
  unfold m_ref08_LastRanks_L1 at hm
  refine sp [(16, vb (decide (s1.2 < (len r1))))] h fun a h => ?_
  refine wp_seq ?_
  refine cb h rfl (fun hb1 => ?_) (fun hb1 => ?_)
  · replace hm := ifT hb1 hm
    refine wp_skip ?_
    refine then_n ?_
    refine wp_seq ?_
    refine wp_block ?_
    refine sr ?_
    obtain ⟨x1, h2, hm⟩ := bnd hm
    refine sl (b_index_rd h (h.g 1) rfl rfl h2 fun b2 o2 a h => ?_)
    refine sl (b_load_pt false h (h.g 0) rfl fun ci1 hc1 v1 hv1 a h => ?_)
    replace hc1 : E.rd (eInt .i64) _ _ ci1 x1 := hc1
    obtain rfl := hc1
    obtain rfl := Option.some.inj hv1
    refine pr 1 [(9, vi x1)] h fun a h => ?_
    refine oe ?_
    refine reg ?_
    refine pr 2 [(20, .pointer (some ⟨b1, 1, none⟩)), (19, .slice p6 (List.length s1.1) c6)] h fun a h => ?_
    refine sl (b_load_own 0 (.slice p2 (List.length y0.2.1) c2) h rfl rfl fun a h => ?_)
    refine pr 1 [(22, vi x1)] h fun a h => ?_
    obtain ⟨x2, h3, hm⟩ := bnd hm
    refine sl (b_index_rd h (h.g 4) rfl rfl h3 fun b3 o3 a h => ?_)
    refine pr 1 [(24, .pointer (some ⟨b3, (o3 + 2), none⟩))] h fun a h => ?_
    refine sl (b_load_pt false h (PtTo.fst (PtTo.snd (PtTo.snd (h.g 0)))) rfl fun ci2 hc2 v2 hv2 a h => ?_)
    replace hc2 : E.rd (eInt .i64) _ _ ci2 x2.2.2.1 := hc2
    obtain rfl := hc2
    obtain rfl := Option.some.inj hv2
    refine sl (b_bs_rd (te := 3) (e := eInt .i64) [vi x2.2.2.1] ([x2.2.2.1] : List Int) h ⟨_, _, rfl, eInt.mk, rfl⟩ fun p7 c7 a w h e => ?_)
    obtain ⟨x3, h4, hm⟩ := bnd hm
    refine sl (b_append_r (te := 3) 1 h (h.g 3) (h.g 0) rfl rfl h4 fun r_2 p8 c8 a w h e => ?_)
    refine pr 1 [(7, .slice p8 (List.length x3) c8)] h fun a h => ?_
    refine ops_end ?_
    refine inb_n ?_
    refine then_n ?_
    refine reg ?_
    refine pr 2 [(15, vi (w64 (s1.2 + 1)))] h fun a h => ?_
    refine ops_end ?_
    obtain rfl := Option.some.inj hm
    exact lp_n rfl ⟨p8, c8, r_2, h.to 2 ⟨(h.g 0), (h.g 5), (h.g 6), (h.g 7), (h.g 8), trivial⟩⟩
  replace hm := ifF hb1 hm
  refine wp_exit ?_
  refine then_e (lp_e (inb_hit ?_))
  replace hm := loopR hr1 hm
  refine then_n ?_
  refine sp [(6, .slice p6 (List.length s1.1) c6)] h fun a h => ?_
  refine wp_ret ?_
  obtain rfl := Option.some.inj hm
  have h := h.share 1 (h.g 0)
  exact rt1 h rfl rfl ⟨p6, c6, rfl, bk_sel h [] ⟨(h.g 0), trivial⟩⟩

theorem c_ref08_PremiseRanks {A : List Nat} {w0 : World} {y0 : T_Base} {p1 : Option Addr} {c1 : Nat} {p2 : Option Addr} {c2 : Nat} {p3 : Option Addr} {c3 : Nat} {y1 : List T_Argument} {p4 : Option Addr} {c4 : Nat} {y2 : Int} {r : (List Int)} (hO : Own A w0 []) (hF : All [R e_Premise p1 c1 (List.length y0.1) y0.1, R e_Rule p2 c2 (List.length y0.2.1) y0.2.1, R e_Promotion p3 c3 (List.length y0.2.2) y0.2.2, R e_Argument p4 c4 (List.length y1) y1] (bl [] ++ A) w0) (hm : m_ref08_PremiseRanks y0 y1 y2 = some r) :
    Calls Tryz.prog 25 [.agg #[.slice p1 (List.length y0.1) c1, .slice p2 (List.length y0.2.1) c2, .slice p3 (List.length y0.2.2) c3], .slice p4 (List.length y1) c4, vi y2].toArray w0 (Ret fun v w => ∃ (p5 : Option Addr) (c5 : Nat), v = .slice p5 (List.length r) c5 ∧ Bk A [] w0 [] [R (eInt .i64) p5 c5 (List.length r) r] w) := by
  unfold m_ref08_PremiseRanks at hm
  refine ent Tryz.func25 rfl hO hF fun a h => ?_
  refine sr ?_
  refine sl (b_box h rfl fun b1 a w h e => ?_)
  refine pr 1 [] h fun a h => ?_
  refine oe ?_
  refine sr ?_
  refine pr 1 [(7, .slice none 0 0)] h fun a h => ?_
  have h := h.room (eInt .i64) 3
  refine oe ?_
  refine wp_seq ?_
  refine sr ?_
  refine pr 2 [(11, vi y2), (10, .slice p4 (List.length y1) c4)] h fun a h => ?_
  obtain ⟨r1, h1, hm⟩ := bnd hm
  refine sl (b_call [] [] h Tryz.call48 rfl rfl (c_ref07_Premises (y0 := y1) (y1 := y2) (h.po [] []) ⟨(h.pf [] [] 4), trivial⟩ h1) fun v a w hp hc => ?_)
  obtain ⟨p5, c5, rfl, q⟩ := hp
  have h := hc.on q [bx b1 31 [.slice p1 (List.length y0.1) c1, .slice p2 (List.length y0.2.1) c2, .slice p3 (List.length y0.2.2) c3], []]
  refine pr 2 [(14, vi 0), (13, vi (len r1))] h fun a h => ?_
  refine oe ?_
  refine wp_block ?_
  refine loop_m (B := (m_ref08_PremiseRanks_L1 r1 y0)) (fun (s1 : (List Int) × Int) a w => ∃ (p6 : Option Addr) (c6 : Nat) (r_1 : Res), SS A [] w0 42 [(3, .pointer (some ⟨b1, 0, none⟩)), (7, .slice p6 (List.length s1.1) c6), (12, .slice p5 (List.length r1) c5), (13, vi (len r1)), (14, vi s1.2)] [bx b1 31 [.slice p1 (List.length y0.1) c1, .slice p2 (List.length y0.2.1) c2, .slice p3 (List.length y0.2.2) c3], r_1] [Ar (eInt .i64) 3 r_1 p6 c6 (List.length s1.1) s1.1, R (eInt .i64) p5 c5 (List.length r1) r1, R e_Premise p1 c1 (List.length y0.1) y0.1, R e_Rule p2 c2 (List.length y0.2.1) y0.2.1, R e_Promotion p3 c3 (List.length y0.2.2) y0.2.2] a w) hm ⟨none, 0, [], h.to 2 ⟨(h.g 1), (h.g 0), (h.g 2), (h.g 3), (h.g 4), trivial⟩⟩ ?_
  intro s1 a w o1 hJ hm hr1
  obtain ⟨p6, c6, r_1, h⟩ := hJ
  unfold m_ref08_PremiseRanks_L1 at hm
  refine sp [(15, vb (decide (s1.2 < (len r1))))] h fun a h => ?_
  refine wp_seq ?_
  refine cb h rfl (fun hb1 => ?_) (fun hb1 => ?_)
  · replace hm := ifT hb1 hm
    refine wp_skip ?_
    refine then_n ?_
    refine wp_seq ?_
    refine wp_block ?_
    refine sr ?_
    obtain ⟨x1, h2, hm⟩ := bnd hm
    refine sl (b_index_rd h (h.g 1) rfl rfl h2 fun b2 o2 a h => ?_)
    refine sl (b_load_pt false h (h.g 0) rfl fun ci1 hc1 v1 hv1 a h => ?_)
    replace hc1 : E.rd (eInt .i64) _ _ ci1 x1 := hc1
    obtain rfl := hc1
    obtain rfl := Option.some.inj hv1
    refine pr 1 [(9, vi x1)] h fun a h => ?_
    refine oe ?_
    refine sr ?_
    refine pr 1 [(18, .pointer (some ⟨b1, 0, none⟩))] h fun a h => ?_
    refine sl (b_load_own 0 (.slice p1 (List.length y0.1) c1) h rfl rfl fun a h => ?_)
    refine pr 1 [(20, vi x1)] h fun a h => ?_
    obtain ⟨x2, h3, hm⟩ := bnd hm
    refine sl (b_index_rd h (h.g 3) rfl rfl h3 fun b3 o3 a h => ?_)
    refine pr 1 [(22, .pointer (some ⟨b3, (o3 + 2), none⟩))] h fun a h => ?_
    refine sl (b_load_pt false h (PtTo.fst (PtTo.snd (h.g 0))) rfl fun ci2 hc2 v2 hv2 a h => ?_)
    replace hc2 : E.rd (eInt .i64) _ _ ci2 x2.2.1 := hc2
    obtain rfl := hc2
    obtain rfl := Option.some.inj hv2
    refine oe ?_
    refine wp_block ?_
    refine sp [(24, vb (x2.2.1 == 2))] h fun a h => ?_
    refine cb h rfl (fun hb2 => ?_) (fun hb2 => ?_)
    · replace hm := ifT hb2 hm
      refine reg ?_
      refine pr 2 [(27, .pointer (some ⟨b1, 0, none⟩)), (26, .slice p6 (List.length s1.1) c6)] h fun a h => ?_
      refine sl (b_load_own 0 (.slice p1 (List.length y0.1) c1) h rfl rfl fun a h => ?_)
      refine pr 1 [(29, vi x1)] h fun a h => ?_
      obtain ⟨x3, h4, hm⟩ := bnd hm
      refine sl (b_index_rd h (h.g 4) rfl rfl h4 fun b4 o4 a h => ?_)
      refine pr 1 [(31, .pointer (some ⟨b4, (o4 + 3), none⟩))] h fun a h => ?_
      refine sl (b_load_pt false h (PtTo.fst (PtTo.snd (PtTo.snd (h.g 0)))) rfl fun ci3 hc3 v3 hv3 a h => ?_)
      replace hc3 : E.rd (eInt .i64) _ _ ci3 x3.2.2.1 := hc3
      obtain rfl := hc3
      obtain rfl := Option.some.inj hv3
      refine sl (b_bs_rd (te := 3) (e := eInt .i64) [vi x3.2.2.1] ([x3.2.2.1] : List Int) h ⟨_, _, rfl, eInt.mk, rfl⟩ fun p7 c7 a w h e => ?_)
      obtain ⟨x4, h5, hm⟩ := bnd hm
      refine sl (b_append_r (te := 3) 1 h (h.g 4) (h.g 0) rfl rfl h5 fun r_2 p8 c8 a w h e => ?_)
      refine pr 1 [(7, .slice p8 (List.length x4) c8)] h fun a h => ?_
      refine ops_end ?_
      refine inb_n ?_
      refine inb_n ?_
      refine then_n ?_
      refine reg ?_
      refine pr 2 [(14, vi (w64 (s1.2 + 1)))] h fun a h => ?_
      refine ops_end ?_
      obtain rfl := Option.some.inj hm
      exact lp_n rfl ⟨p8, c8, r_2, h.to 2 ⟨(h.g 0), (h.g 6), (h.g 7), (h.g 8), (h.g 9), trivial⟩⟩
    replace hm := ifF hb2 hm
    refine sp [(35, vb (x2.2.1 == 3))] h fun a h => ?_
    refine cb h rfl (fun hb3 => ?_) (fun hb3 => ?_)
    · replace hm := ifT hb3 hm
      refine reg ?_
      refine pr 1 [(37, .slice p6 (List.length s1.1) c6)] h fun a h => ?_
      refine sl (b_bs_rd (te := 3) (e := eInt .i64) [vi (-1)] ([(-1)] : List Int) h ⟨_, _, rfl, eInt.mk, rfl⟩ fun p9 c9 a w h e => ?_)
      obtain ⟨x5, h6, hm⟩ := bnd hm
      refine sl (b_append_r (te := 3) 1 h (h.g 3) (h.g 0) rfl rfl h6 fun r_3 p10 c10 a w h e => ?_)
      refine pr 1 [(7, .slice p10 (List.length x5) c10)] h fun a h => ?_
      refine ops_end ?_
      refine inb_n ?_
      refine inb_n ?_
      refine then_n ?_
      refine reg ?_
      refine pr 2 [(14, vi (w64 (s1.2 + 1)))] h fun a h => ?_
      refine ops_end ?_
      obtain rfl := Option.some.inj hm
      exact lp_n rfl ⟨p10, c10, r_3, h.to 2 ⟨(h.g 0), (h.g 5), (h.g 6), (h.g 7), (h.g 8), trivial⟩⟩
    replace hm := ifF hb3 hm
    refine wp_skip ?_
    refine inb_n ?_
    refine inb_n ?_
    refine then_n ?_
    refine reg ?_
    refine pr 2 [(14, vi (w64 (s1.2 + 1)))] h fun a h => ?_
    refine ops_end ?_
    obtain rfl := Option.some.inj hm
    exact lp_n rfl ⟨p6, c6, r_1, h.to 2 ⟨(h.g 2), (h.g 3), (h.g 4), (h.g 5), (h.g 6), trivial⟩⟩
  replace hm := ifF hb1 hm
  refine wp_exit ?_
  refine then_e (lp_e (inb_hit ?_))
  replace hm := loopR hr1 hm
  refine then_n ?_
  refine sp [(6, .slice p6 (List.length s1.1) c6)] h fun a h => ?_
  refine wp_ret ?_
  obtain rfl := Option.some.inj hm
  have h := h.share 1 (h.g 0)
  exact rt1 h rfl rfl ⟨p6, c6, rfl, bk_sel h [] ⟨(h.g 0), trivial⟩⟩

theorem c_ref08_RuleRanks {A : List Nat} {w0 : World} {y0 : T_Base} {p1 : Option Addr} {c1 : Nat} {p2 : Option Addr} {c2 : Nat} {p3 : Option Addr} {c3 : Nat} {y1 : List T_Argument} {p4 : Option Addr} {c4 : Nat} {y2 : Int} {r : (List Int)} (hO : Own A w0 []) (hF : All [R e_Premise p1 c1 (List.length y0.1) y0.1, R e_Rule p2 c2 (List.length y0.2.1) y0.2.1, R e_Promotion p3 c3 (List.length y0.2.2) y0.2.2, R e_Argument p4 c4 (List.length y1) y1] (bl [] ++ A) w0) (hm : m_ref08_RuleRanks y0 y1 y2 = some r) :
    Calls Tryz.prog 26 [.agg #[.slice p1 (List.length y0.1) c1, .slice p2 (List.length y0.2.1) c2, .slice p3 (List.length y0.2.2) c3], .slice p4 (List.length y1) c4, vi y2].toArray w0 (Ret fun v w => ∃ (p5 : Option Addr) (c5 : Nat), v = .slice p5 (List.length r) c5 ∧ Bk A [] w0 [] [R (eInt .i64) p5 c5 (List.length r) r] w) := by
  unfold m_ref08_RuleRanks at hm
  refine ent Tryz.func26 rfl hO hF fun a h => ?_
  refine sr ?_
  refine sl (b_box h rfl fun b1 a w h e => ?_)
  refine pr 1 [] h fun a h => ?_
  refine oe ?_
  refine sr ?_
  refine pr 1 [(7, .slice none 0 0)] h fun a h => ?_
  have h := h.room (eInt .i64) 3
  refine oe ?_
  refine wp_seq ?_
  refine sr ?_
  refine sl (b_load_own 0 (.agg #[.slice p1 (List.length y0.1) c1, .slice p2 (List.length y0.2.1) c2, .slice p3 (List.length y0.2.2) c3]) h rfl rfl fun a h => ?_)
  refine pr 2 [(12, vi y2), (11, .slice p4 (List.length y1) c4)] h fun a h => ?_
  obtain ⟨r1, h1, hm⟩ := bnd hm
  refine sl (b_call [] [] h Tryz.call49 rfl rfl (c_ref07_Defeasible (y0 := y0) (y1 := y1) (y2 := y2) (h.po [] []) ⟨(h.pf [] [] 1), (h.pf [] [] 2), (h.pf [] [] 3), (h.pf [] [] 4), trivial⟩ h1) fun v a w hp hc => ?_)
  obtain ⟨p5, c5, rfl, q⟩ := hp
  have h := hc.on q [bx b1 31 [.slice p1 (List.length y0.1) c1, .slice p2 (List.length y0.2.1) c2, .slice p3 (List.length y0.2.2) c3], []]
  refine pr 2 [(15, vi 0), (14, vi (len r1))] h fun a h => ?_
  refine oe ?_
  refine wp_block ?_
  refine loop_m (B := (m_ref08_RuleRanks_L1 r1 y0)) (fun (s1 : (List Int) × Int) a w => ∃ (p6 : Option Addr) (c6 : Nat) (r_1 : Res), SS A [] w0 30 [(3, .pointer (some ⟨b1, 0, none⟩)), (7, .slice p6 (List.length s1.1) c6), (13, .slice p5 (List.length r1) c5), (14, vi (len r1)), (15, vi s1.2)] [bx b1 31 [.slice p1 (List.length y0.1) c1, .slice p2 (List.length y0.2.1) c2, .slice p3 (List.length y0.2.2) c3], r_1] [Ar (eInt .i64) 3 r_1 p6 c6 (List.length s1.1) s1.1, R (eInt .i64) p5 c5 (List.length r1) r1, R e_Premise p1 c1 (List.length y0.1) y0.1, R e_Rule p2 c2 (List.length y0.2.1) y0.2.1, R e_Promotion p3 c3 (List.length y0.2.2) y0.2.2] a w) hm ⟨none, 0, [], h.to 2 ⟨(h.g 1), (h.g 0), (h.g 2), (h.g 3), (h.g 4), trivial⟩⟩ ?_
  intro s1 a w o1 hJ hm hr1
  obtain ⟨p6, c6, r_1, h⟩ := hJ
  unfold m_ref08_RuleRanks_L1 at hm
  refine sp [(16, vb (decide (s1.2 < (len r1))))] h fun a h => ?_
  refine wp_seq ?_
  refine cb h rfl (fun hb1 => ?_) (fun hb1 => ?_)
  · replace hm := ifT hb1 hm
    refine wp_skip ?_
    refine then_n ?_
    refine wp_seq ?_
    refine wp_block ?_
    refine sr ?_
    obtain ⟨x1, h2, hm⟩ := bnd hm
    refine sl (b_index_rd h (h.g 1) rfl rfl h2 fun b2 o2 a h => ?_)
    refine sl (b_load_pt false h (h.g 0) rfl fun ci1 hc1 v1 hv1 a h => ?_)
    replace hc1 : E.rd (eInt .i64) _ _ ci1 x1 := hc1
    obtain rfl := hc1
    obtain rfl := Option.some.inj hv1
    refine pr 1 [(9, vi x1)] h fun a h => ?_
    refine oe ?_
    refine reg ?_
    refine pr 2 [(20, .pointer (some ⟨b1, 1, none⟩)), (19, .slice p6 (List.length s1.1) c6)] h fun a h => ?_
    refine sl (b_load_own 0 (.slice p2 (List.length y0.2.1) c2) h rfl rfl fun a h => ?_)
    refine pr 1 [(22, vi x1)] h fun a h => ?_
    obtain ⟨x2, h3, hm⟩ := bnd hm
    refine sl (b_index_rd h (h.g 4) rfl rfl h3 fun b3 o3 a h => ?_)
    refine pr 1 [(24, .pointer (some ⟨b3, (o3 + 2), none⟩))] h fun a h => ?_
    refine sl (b_load_pt false h (PtTo.fst (PtTo.snd (PtTo.snd (h.g 0)))) rfl fun ci2 hc2 v2 hv2 a h => ?_)
    replace hc2 : E.rd (eInt .i64) _ _ ci2 x2.2.2.1 := hc2
    obtain rfl := hc2
    obtain rfl := Option.some.inj hv2
    refine sl (b_bs_rd (te := 3) (e := eInt .i64) [vi x2.2.2.1] ([x2.2.2.1] : List Int) h ⟨_, _, rfl, eInt.mk, rfl⟩ fun p7 c7 a w h e => ?_)
    obtain ⟨x3, h4, hm⟩ := bnd hm
    refine sl (b_append_r (te := 3) 1 h (h.g 3) (h.g 0) rfl rfl h4 fun r_2 p8 c8 a w h e => ?_)
    refine pr 1 [(7, .slice p8 (List.length x3) c8)] h fun a h => ?_
    refine ops_end ?_
    refine inb_n ?_
    refine then_n ?_
    refine reg ?_
    refine pr 2 [(15, vi (w64 (s1.2 + 1)))] h fun a h => ?_
    refine ops_end ?_
    obtain rfl := Option.some.inj hm
    exact lp_n rfl ⟨p8, c8, r_2, h.to 2 ⟨(h.g 0), (h.g 5), (h.g 6), (h.g 7), (h.g 8), trivial⟩⟩
  replace hm := ifF hb1 hm
  refine wp_exit ?_
  refine then_e (lp_e (inb_hit ?_))
  replace hm := loopR hr1 hm
  refine then_n ?_
  refine sp [(6, .slice p6 (List.length s1.1) c6)] h fun a h => ?_
  refine wp_ret ?_
  obtain rfl := Option.some.inj hm
  have h := h.share 1 (h.g 0)
  exact rt1 h rfl rfl ⟨p6, c6, rfl, bk_sel h [] ⟨(h.g 0), trivial⟩⟩

theorem c_ref08_extremes {A : List Nat} {w0 : World} {y0 : List Int} {p1 : Option Addr} {c1 : Nat} {r : Int × Int} (hO : Own A w0 []) (hF : All [R (eInt .i64) p1 c1 (List.length y0) y0] (bl [] ++ A) w0) (hm : m_ref08_extremes y0 = some r) :
    Calls Tryz.prog 110 [.slice p1 (List.length y0) c1].toArray w0 (Ret fun v w => v = .tuple #[vi r.1, vi r.2] ∧ Bk A [] w0 [] [] w) := by
  unfold m_ref08_extremes at hm
  refine ent Tryz.func110 rfl hO hF fun a h => ?_
  refine sp [] h fun a h => ?_
  refine ds [] [] h fun w h => ?_
  refine dp 0 (.slice p1 (List.length y0) c1) h rfl fun a h => ?_
  obtain ⟨x1, h1, hm⟩ := bnd hm
  refine dir 1 h rfl (h.g 0) rfl rfl h1 fun b1 o1 a h => ?_
  refine dlp 2 false h rfl (h.g 0) rfl fun ci1 hc1 v1 hv1 a h => ?_
  replace hc1 : E.rd (eInt .i64) _ _ ci1 x1 := hc1
  obtain rfl := hc1
  obtain rfl := Option.some.inj hv1
  refine dp 3 (.slice p1 (List.length y0) c1) h rfl fun a h => ?_
  obtain ⟨x2, h2, hm⟩ := bnd hm
  refine dir 4 h rfl (h.g 1) rfl rfl h2 fun b2 o2 a h => ?_
  refine dlp 5 false h rfl (h.g 0) rfl fun ci2 hc2 v2 hv2 a h => ?_
  replace hc2 : E.rd (eInt .i64) _ _ ci2 x2 := hc2
  obtain rfl := hc2
  obtain rfl := Option.some.inj hv2
  refine dp 6 (vi x1) h rfl fun a h => ?_
  refine dp 7 (vi x2) h rfl fun a h => ?_
  refine de (then_n ?_)
  refine wp_seq ?_
  refine sp [(6, vi 1)] h fun a h => ?_
  refine wp_block ?_
  refine loop_m (B := (m_ref08_extremes_L1 y0)) (fun (s1 : Int × Int × Int) a w => SS A [] w0 33 [(0, .slice p1 (List.length y0) c1), (4, vi s1.1), (5, vi s1.2.1), (6, vi s1.2.2)] [] [R (eInt .i64) p1 c1 (List.length y0) y0] a w) hm (h.to 0 ⟨(h.g 2), trivial⟩) ?_
  intro s1 a w o3 hJ hm hr1
  have h := hJ
  unfold m_ref08_extremes_L1 at hm
  refine wp_seq ?_
  refine sp [(16, vb (decide (s1.2.2 < (len y0))))] h fun a h => ?_
  refine cb h rfl (fun hb1 => ?_) (fun hb1 => ?_)
  · replace hm := ifT hb1 hm
    refine wp_skip ?_
    refine then_n ?_
    refine wp_seq ?_
    refine wp_block ?_
    refine ds' [] [] h fun w h => ?_
    refine dp 0 (vi s1.1) h rfl fun a h => ?_
    refine dp 1 (.slice p1 (List.length y0) c1) h rfl fun a h => ?_
    refine dp 2 (vi s1.2.2) h rfl fun a h => ?_
    obtain ⟨x3, h3, hm⟩ := bnd hm
    refine dir 3 h rfl (h.g 0) rfl rfl h3 fun b3 o4 a h => ?_
    refine dlp 4 false h rfl (h.g 0) rfl fun ci3 hc3 v3 hv3 a h => ?_
    replace hc3 : E.rd (eInt .i64) _ _ ci3 x3 := hc3
    obtain rfl := hc3
    obtain rfl := Option.some.inj hv3
    refine dp 5 (vi (if x3 < s1.1 then x3 else s1.1)) h rfl fun a h => ?_
    refine dp 6 (vi s1.2.1) h rfl fun a h => ?_
    refine dp 7 (.slice p1 (List.length y0) c1) h rfl fun a h => ?_
    refine dp 8 (vi s1.2.2) h rfl fun a h => ?_
    obtain ⟨x4, h4, hm⟩ := bnd hm
    refine dir 9 h rfl (h.g 1) rfl rfl h4 fun b4 o5 a h => ?_
    refine dlp 10 false h rfl (h.g 0) rfl fun ci4 hc4 v4 hv4 a h => ?_
    replace hc4 : E.rd (eInt .i64) _ _ ci4 x4 := hc4
    obtain rfl := hc4
    obtain rfl := Option.some.inj hv4
    refine dp 11 (vi (if x4 > s1.2.1 then x4 else s1.2.1)) h rfl fun a h => ?_
    refine dp 12 (vi (if x3 < s1.1 then x3 else s1.1)) h rfl fun a h => ?_
    refine dp 13 (vi (if x4 > s1.2.1 then x4 else s1.2.1)) h rfl fun a h => ?_
    refine de ?_
    refine inb_n ?_
    refine then_n ?_
    refine reg ?_
    refine pr 3 [(6, vi (w64 (s1.2.2 + 1)))] h fun a h => ?_
    refine ops_end ?_
    obtain rfl := Option.some.inj hm
    exact lp_n rfl (h.to 0 ⟨(h.g 2), trivial⟩)
  replace hm := ifF hb1 hm
  refine wp_exit ?_
  refine then_e (lp_e (inb_hit ?_))
  replace hm := loopR hr1 hm
  refine then_n ?_
  refine sp [(3, vi s1.2.1), (2, vi s1.1)] h fun a h => ?_
  refine wp_ret ?_
  obtain rfl := Option.some.inj hm
  exact rtg h rfl (vs := [vi s1.1, vi s1.2.1]) (resT rfl (resT rfl resN)) ⟨rfl, bk_sel h [] trivial⟩

theorem c_ref08_SetLess {A : List Nat} {w0 : World} {y0 : List Int} {p1 : Option Addr} {c1 : Nat} {y1 : List Int} {p2 : Option Addr} {c2 : Nat} {y2 : Int} {r : Bool} (hO : Own A w0 []) (hF : All [R (eInt .i64) p1 c1 (List.length y0) y0, R (eInt .i64) p2 c2 (List.length y1) y1] (bl [] ++ A) w0) (hm : m_ref08_SetLess y0 y1 y2 = some r) :
    Calls Tryz.prog 78 [.slice p1 (List.length y0) c1, .slice p2 (List.length y1) c2, vi y2].toArray w0 (Ret fun v w => v = vb r ∧ Bk A [] w0 [] [] w) := by
  unfold m_ref08_SetLess at hm
  refine ent Tryz.func78 rfl hO hF fun a h => ?_
  refine sp [] h fun a h => ?_
  refine wp_seq ?_
  refine seq_j (fun a w => SS A [] w0 43 [(0, .slice p1 (List.length y0) c1), (1, .slice p2 (List.length y1) c2), (2, vi y2), (21, vb (if y2 != 1 then (y2 != 2) || ((len y0) == 0) else (len y0) == 0))] [] [R (eInt .i64) p1 c1 (List.length y0) y0, R (eInt .i64) p2 c2 (List.length y1) y1] a w) ?_ ?_
  · refine reg ?_
    refine pr 3 [(13, vb (y2 != 1))] h fun a h => ?_
    rcases Bool.eq_false_or_eq_true (y2 != 1) with hb1 | hb1
    · have h := h.upd (t := 13) (vb true) rfl (congrArg Value.bool hb1)
      refine pr 4 [(17, vb (y2 != 2))] h fun a h => ?_
      rcases Bool.eq_false_or_eq_true (y2 != 2) with hb2 | hb2
      · have h := h.upd (t := 17) (vb true) rfl (congrArg Value.bool hb2)
        refine pr 4 [(21, vb true)] h fun a h => ?_
        refine ops_end ?_
        have h := h.upd (t := 21) (vb (if y2 != 1 then (y2 != 2) || ((len y0) == 0) else (len y0) == 0)) rfl (by rw [hb1, hb2]; rfl)
        exact then_n (h.to 0 ⟨(h.g 0), (h.g 1), trivial⟩)
      · have h := h.upd (t := 17) (vb false) rfl (congrArg Value.bool hb2)
        refine pr 4 [(21, vb ((len y0) == 0))] h fun a h => ?_
        refine ops_end ?_
        have h := h.upd (t := 21) (vb (if y2 != 1 then (y2 != 2) || ((len y0) == 0) else (len y0) == 0)) rfl (by rw [hb1, hb2]; rfl)
        exact then_n (h.to 0 ⟨(h.g 0), (h.g 1), trivial⟩)
    · have h := h.upd (t := 13) (vb false) rfl (congrArg Value.bool hb1)
      refine pr 8 [(21, vb ((len y0) == 0))] h fun a h => ?_
      refine ops_end ?_
      have h := h.upd (t := 21) (vb (if y2 != 1 then (y2 != 2) || ((len y0) == 0) else (len y0) == 0)) rfl (by rw [hb1]; rfl)
      exact then_n (h.to 0 ⟨(h.g 0), (h.g 1), trivial⟩)
  intro a w hJ
  have h := hJ
  refine cb h rfl (fun hb3 => ?_) (fun hb3 => ?_)
  · replace hm := ifT hb3 hm
    refine sp [(6, vb false)] h fun a h => ?_
    refine wp_ret ?_
    refine then_r ?_
    obtain rfl := Option.some.inj hm
    exact rt1 h rfl rfl ⟨rfl, bk_sel h [] trivial⟩
  replace hm := ifF hb3 hm
  refine wp_skip ?_
  refine then_n ?_
  refine wp_seq ?_
  refine sp [(24, vb ((len y1) == 0))] h fun a h => ?_
  refine cb h rfl (fun hb4 => ?_) (fun hb4 => ?_)
  · replace hm := ifT hb4 hm
    refine sp [(6, vb true)] h fun a h => ?_
    refine wp_ret ?_
    refine then_r ?_
    obtain rfl := Option.some.inj hm
    exact rt1 h rfl rfl ⟨rfl, bk_sel h [] trivial⟩
  replace hm := ifF hb4 hm
  refine wp_skip ?_
  refine then_n ?_
  refine sr ?_
  refine pr 1 [(26, .slice p1 (List.length y0) c1)] h fun a h => ?_
  obtain ⟨r1, h1, hm⟩ := bnd hm
  refine sl (b_call [] [] h Tryz.call110 rfl rfl (c_ref08_extremes (y0 := y0) (h.po [] []) ⟨(h.pf [] [] 0), trivial⟩ h1) fun v a w hp hc => ?_)
  obtain ⟨rfl, q⟩ := hp
  have h := hc.on q []
  refine pr 5 [(8, vi r1.2), (7, vi r1.1)] h fun a h => ?_
  refine oe ?_
  refine sr ?_
  refine pr 1 [(31, .slice p2 (List.length y1) c2)] h fun a h => ?_
  obtain ⟨r2, h2, hm⟩ := bnd hm
  refine sl (b_call [] [] h Tryz.call110 rfl rfl (c_ref08_extremes (y0 := y1) (h.po [] []) ⟨(h.pf [] [] 1), trivial⟩ h2) fun v a w hp hc => ?_)
  obtain ⟨rfl, q⟩ := hp
  have h := hc.on q []
  refine pr 5 [(10, vi r2.2), (9, vi r2.1)] h fun a h => ?_
  refine oe ?_
  refine wp_seq ?_
  refine sp [(36, vb (y2 == 1))] h fun a h => ?_
  refine cb h rfl (fun hb5 => ?_) (fun hb5 => ?_)
  · replace hm := ifT hb5 hm
    refine sp [(6, vb (decide (r1.1 < r2.1)))] h fun a h => ?_
    refine wp_ret ?_
    refine then_r ?_
    obtain rfl := Option.some.inj hm
    exact rt1 h rfl rfl ⟨rfl, bk_sel h [] trivial⟩
  replace hm := ifF hb5 hm
  refine wp_skip ?_
  refine then_n ?_
  refine sp [(6, vb (decide (r1.2 < r2.2)))] h fun a h => ?_
  refine wp_ret ?_
  obtain rfl := Option.some.inj hm
  exact rt1 h rfl rfl ⟨rfl, bk_sel h [] trivial⟩

theorem c_ref08_Less {A : List Nat} {w0 : World} {y0 : T_Base} {p1 : Option Addr} {c1 : Nat} {p2 : Option Addr} {c2 : Nat} {p3 : Option Addr} {c3 : Nat} {y1 : List T_Argument} {p4 : Option Addr} {c4 : Nat} {y2 : Int} {y3 : Int} {y4 : T_Ordering} {r : Bool} (hO : Own A w0 []) (hF : All [R e_Premise p1 c1 (List.length y0.1) y0.1, R e_Rule p2 c2 (List.length y0.2.1) y0.2.1, R e_Promotion p3 c3 (List.length y0.2.2) y0.2.2, R e_Argument p4 c4 (List.length y1) y1] (bl [] ++ A) w0) (hm : m_ref08_Less y0 y1 y2 y3 y4 = some r) :
    Calls Tryz.prog 41 [.agg #[.slice p1 (List.length y0.1) c1, .slice p2 (List.length y0.2.1) c2, .slice p3 (List.length y0.2.2) c3], .slice p4 (List.length y1) c4, vi y2, vi y3, .agg #[vi y4.1, vi y4.2]].toArray w0 (Ret fun v w => v = vb r ∧ Bk A [] w0 [] [] w) := by
  unfold m_ref08_Less at hm
  refine ent Tryz.func41 rfl hO hF fun a h => ?_
  refine sr ?_
  refine sl (b_box h rfl fun b1 a w h e => ?_)
  refine sl (b_box h rfl fun b2 a w h e => ?_)
  refine pr 1 [] h fun a h => ?_
  refine oe ?_
  refine wp_seq ?_
  obtain ⟨s1, hx, hm⟩ := bnd hm
  refine seq_j (fun a w => SS A [] w0 125 [(1, .slice p4 (List.length y1) c4), (2, vi y2), (3, vi y3), (5, .pointer (some ⟨b1, 0, none⟩)), (9, .pointer (some ⟨b2, 0, none⟩)), (40, vb s1)] [bx b1 31 [.slice p1 (List.length y0.1) c1, .slice p2 (List.length y0.2.1) c2, .slice p3 (List.length y0.2.2) c3], bx b2 24 [vi y4.1, vi y4.2]] [R e_Argument p4 c4 (List.length y1) y1, R e_Premise p1 c1 (List.length y0.1) y0.1, R e_Rule p2 c2 (List.length y0.2.1) y0.2.1, R e_Promotion p3 c3 (List.length y0.2.2) y0.2.2] a w) ?_ ?_
  · replace hm := hx
    refine reg ?_
    refine pr 3 [(19, vb (decide (y2 < 0)))] h fun a h => ?_
    rcases Bool.eq_false_or_eq_true (decide (y2 < 0)) with hb1 | hb1
    · have h := h.upd (t := 19) (vb true) rfl (congrArg Value.bool hb1)
      replace hm := ifT hb1 hm
      refine pr 21 [(40, vb true)] h fun a h => ?_
      refine ops_end ?_
      obtain rfl := Option.some.inj hm
      exact then_n (h.to 2 ⟨(h.g 3), (h.g 0), (h.g 1), (h.g 2), trivial⟩)
    · have h := h.upd (t := 19) (vb false) rfl (congrArg Value.bool hb1)
      replace hm := ifF hb1 hm
      refine pr 6 [(25, vb (decide ((len y1) ≤ y2)))] h fun a h => ?_
      rcases Bool.eq_false_or_eq_true (decide ((len y1) ≤ y2)) with hb2 | hb2
      · have h := h.upd (t := 25) (vb true) rfl (congrArg Value.bool hb2)
        replace hm := ifT hb2 hm
        refine pr 15 [(40, vb true)] h fun a h => ?_
        refine ops_end ?_
        obtain rfl := Option.some.inj hm
        exact then_n (h.to 2 ⟨(h.g 3), (h.g 0), (h.g 1), (h.g 2), trivial⟩)
      · have h := h.upd (t := 25) (vb false) rfl (congrArg Value.bool hb2)
        replace hm := ifF hb2 hm
        refine pr 4 [(29, vb (decide (y3 < 0)))] h fun a h => ?_
        rcases Bool.eq_false_or_eq_true (decide (y3 < 0)) with hb3 | hb3
        · have h := h.upd (t := 29) (vb true) rfl (congrArg Value.bool hb3)
          replace hm := ifT hb3 hm
          refine pr 11 [(40, vb true)] h fun a h => ?_
          refine ops_end ?_
          obtain rfl := Option.some.inj hm
          exact then_n (h.to 2 ⟨(h.g 3), (h.g 0), (h.g 1), (h.g 2), trivial⟩)
        · have h := h.upd (t := 29) (vb false) rfl (congrArg Value.bool hb3)
          replace hm := ifF hb3 hm
          refine pr 6 [(35, vb (decide ((len y1) ≤ y3)))] h fun a h => ?_
          rcases Bool.eq_false_or_eq_true (decide ((len y1) ≤ y3)) with hb4 | hb4
          · have h := h.upd (t := 35) (vb true) rfl (congrArg Value.bool hb4)
            replace hm := ifT hb4 hm
            refine pr 5 [(40, vb true)] h fun a h => ?_
            refine ops_end ?_
            obtain rfl := Option.some.inj hm
            exact then_n (h.to 2 ⟨(h.g 3), (h.g 0), (h.g 1), (h.g 2), trivial⟩)
          · have h := h.upd (t := 35) (vb false) rfl (congrArg Value.bool hb4)
            replace hm := ifF hb4 hm
            refine sl (b_load_own 0 (.agg #[.slice p1 (List.length y0.1) c1, .slice p2 (List.length y0.2.1) c2, .slice p3 (List.length y0.2.2) c3]) h rfl rfl fun a h => ?_)
            refine pr 2 [(38, vi y3), (37, .slice p4 (List.length y1) c4)] h fun a h => ?_
            obtain ⟨r1, h1, hm⟩ := bnd hm
            refine sl (b_call [] [] h Tryz.call27 rfl rfl (c_ref08_Assumes (y0 := y0) (y1 := y1) (y2 := y3) (h.po [] []) ⟨(h.pf [] [] 0), (h.pf [] [] 1), (h.pf [] [] 2), (h.pf [] [] 3), trivial⟩ h1) fun v a w hp hc => ?_)
            obtain ⟨rfl, q⟩ := hp
            have h := hc.on q [bx b1 31 [.slice p1 (List.length y0.1) c1, .slice p2 (List.length y0.2.1) c2, .slice p3 (List.length y0.2.2) c3], bx b2 24 [vi y4.1, vi y4.2]]
            refine pr 1 [(40, vb r1)] h fun a h => ?_
            refine ops_end ?_
            obtain rfl := Option.some.inj hm
            exact then_n (h.to 2 ⟨(h.g 3), (h.g 0), (h.g 1), (h.g 2), trivial⟩)
  intro a w hJ
  have h := hJ
  refine cb h rfl (fun hb5 => ?_) (fun hb5 => ?_)
  · replace hm := ifT hb5 hm
    refine sp [(10, vb false)] h fun a h => ?_
    refine wp_ret ?_
    refine then_r ?_
    obtain rfl := Option.some.inj hm
    exact rt1 h rfl rfl ⟨rfl, bk_sel h [] trivial⟩
  replace hm := ifF hb5 hm
  refine wp_skip ?_
  refine then_n ?_
  refine ds [] [0, 1] h fun w h => ?_
  refine dlo 0 0 (.agg #[.slice p1 (List.length y0.1) c1, .slice p2 (List.length y0.2.1) c2, .slice p3 (List.length y0.2.2) c3]) h rfl rfl rfl fun a h => ?_
  refine dp 1 (.slice p4 (List.length y1) c4) h rfl fun a h => ?_
  refine dp 2 (vi y2) h rfl fun a h => ?_
  refine dlo 4 0 (.agg #[.slice p1 (List.length y0.1) c1, .slice p2 (List.length y0.2.1) c2, .slice p3 (List.length y0.2.2) c3]) h rfl rfl rfl fun a h => ?_
  refine dp 5 (.slice p4 (List.length y1) c4) h rfl fun a h => ?_
  refine dp 6 (vi y3) h rfl fun a h => ?_
  refine dp 8 (.pointer (some ⟨b2, 1, none⟩)) h rfl fun a h => ?_
  refine dlo 9 1 (vi y4.2) h rfl rfl rfl fun a h => ?_
  refine d1 3 rfl ?_
  obtain ⟨r2, h2, hm⟩ := bnd hm
  refine b_call [] [] h Tryz.call25 rfl rfl (c_ref08_PremiseRanks (y0 := y0) (y1 := y1) (y2 := y2) (h.po [] []) ⟨(h.pf [] [] 1), (h.pf [] [] 2), (h.pf [] [] 3), (h.pf [] [] 0), trivial⟩ h2) fun v a w hp hc => ?_
  obtain ⟨p5, c5, rfl, q⟩ := hp
  have e := hc.st q [bx b1 31 [.slice p1 (List.length y0.1) c1, .slice p2 (List.length y0.2.1) c2, .slice p3 (List.length y0.2.2) c3], bx b2 24 [vi y4.1, vi y4.2]]
  have h := hc.on q [bx b1 31 [.slice p1 (List.length y0.1) c1, .slice p2 (List.length y0.2.1) c2, .slice p3 (List.length y0.2.2) c3], bx b2 24 [vi y4.1, vi y4.2]]
  refine dn h e ?_
  refine d1 7 rfl ?_
  obtain ⟨r3, h3, hm⟩ := bnd hm
  refine b_call [] [] h Tryz.call25 rfl rfl (c_ref08_PremiseRanks (y0 := y0) (y1 := y1) (y2 := y3) (h.po [] []) ⟨(h.pf [] [] 2), (h.pf [] [] 3), (h.pf [] [] 4), (h.pf [] [] 1), trivial⟩ h3) fun v a w hp hc => ?_
  obtain ⟨p6, c6, rfl, q⟩ := hp
  have e := hc.st q [bx b1 31 [.slice p1 (List.length y0.1) c1, .slice p2 (List.length y0.2.1) c2, .slice p3 (List.length y0.2.2) c3], bx b2 24 [vi y4.1, vi y4.2]]
  have h := hc.on q [bx b1 31 [.slice p1 (List.length y0.1) c1, .slice p2 (List.length y0.2.1) c2, .slice p3 (List.length y0.2.2) c3], bx b2 24 [vi y4.1, vi y4.2]]
  refine dn h e ?_
  refine d1 10 rfl ?_
  obtain ⟨r4, h4, hm⟩ := bnd hm
  refine b_call [] [] h Tryz.call78 rfl rfl (c_ref08_SetLess (y0 := r2) (y1 := r3) (y2 := y4.2) (h.po [] []) ⟨(h.pf [] [] 1), (h.pf [] [] 0), trivial⟩ h4) fun v a w hp hc => ?_
  obtain ⟨rfl, q⟩ := hp
  have e := hc.st q [bx b1 31 [.slice p1 (List.length y0.1) c1, .slice p2 (List.length y0.2.1) c2, .slice p3 (List.length y0.2.2) c3], bx b2 24 [vi y4.1, vi y4.2]]
  have h := hc.on q [bx b1 31 [.slice p1 (List.length y0.1) c1, .slice p2 (List.length y0.2.1) c2, .slice p3 (List.length y0.2.2) c3], bx b2 24 [vi y4.1, vi y4.2]]
  refine dn h e ?_
  refine dp 11 (vb r4) h rfl fun a h => ?_
  refine de (then_n ?_)
  refine wp_seq ?_
  refine sr ?_
  refine pr 1 [(52, .pointer (some ⟨b2, 0, none⟩))] h fun a h => ?_
  refine sl (b_load_own 1 (vi y4.1) h rfl rfl fun a h => ?_)
  refine oe ?_
  refine wp_block ?_
  refine sp [(54, vb (y4.1 == 1))] h fun a h => ?_
  refine cb h rfl (fun hb6 => ?_) (fun hb6 => ?_)
  · replace hm := ifT hb6 hm
    refine ds [] [0] h fun w h => ?_
    refine dlo 0 0 (.agg #[.slice p1 (List.length y0.1) c1, .slice p2 (List.length y0.2.1) c2, .slice p3 (List.length y0.2.2) c3]) h rfl rfl rfl fun a h => ?_
    refine dp 1 (.slice p4 (List.length y1) c4) h rfl fun a h => ?_
    refine dp 2 (vi y2) h rfl fun a h => ?_
    refine dlo 4 0 (.agg #[.slice p1 (List.length y0.1) c1, .slice p2 (List.length y0.2.1) c2, .slice p3 (List.length y0.2.2) c3]) h rfl rfl rfl fun a h => ?_
    refine dp 5 (.slice p4 (List.length y1) c4) h rfl fun a h => ?_
    refine dp 6 (vi y3) h rfl fun a h => ?_
    refine d1 3 rfl ?_
    obtain ⟨r5, h5, hm⟩ := bnd hm
    refine b_call [] [] h Tryz.call79 rfl rfl (c_ref08_LastRanks (y0 := y0) (y1 := y1) (y2 := y2) (h.po [] []) ⟨(h.pf [] [] 3), (h.pf [] [] 4), (h.pf [] [] 5), (h.pf [] [] 2), trivial⟩ h5) fun v a w hp hc => ?_
    obtain ⟨p7, c7, rfl, q⟩ := hp
    have e := hc.st q [bx b1 31 [.slice p1 (List.length y0.1) c1, .slice p2 (List.length y0.2.1) c2, .slice p3 (List.length y0.2.2) c3], bx b2 24 [vi y4.1, vi y4.2]]
    have h := hc.on q [bx b1 31 [.slice p1 (List.length y0.1) c1, .slice p2 (List.length y0.2.1) c2, .slice p3 (List.length y0.2.2) c3], bx b2 24 [vi y4.1, vi y4.2]]
    refine dn h e ?_
    refine d1 7 rfl ?_
    obtain ⟨r6, h6, hm⟩ := bnd hm
    refine b_call [] [] h Tryz.call79 rfl rfl (c_ref08_LastRanks (y0 := y0) (y1 := y1) (y2 := y3) (h.po [] []) ⟨(h.pf [] [] 4), (h.pf [] [] 5), (h.pf [] [] 6), (h.pf [] [] 3), trivial⟩ h6) fun v a w hp hc => ?_
    obtain ⟨p8, c8, rfl, q⟩ := hp
    have e := hc.st q [bx b1 31 [.slice p1 (List.length y0.1) c1, .slice p2 (List.length y0.2.1) c2, .slice p3 (List.length y0.2.2) c3], bx b2 24 [vi y4.1, vi y4.2]]
    have h := hc.on q [bx b1 31 [.slice p1 (List.length y0.1) c1, .slice p2 (List.length y0.2.1) c2, .slice p3 (List.length y0.2.2) c3], bx b2 24 [vi y4.1, vi y4.2]]
    refine dn h e ?_
    refine dp 8 (.slice p7 (List.length r5) c7) h rfl fun a h => ?_
    refine dp 9 (.slice p8 (List.length r6) c8) h rfl fun a h => ?_
    refine de (then_n ?_)
    obtain ⟨s2, hx, hm⟩ := bnd hm
    refine seq_j (fun a w => SS A [] w0 125 [(10, vb s2)] [[], []] [] a w) ?_ ?_
    · replace hm := hx
      refine reg ?_
      refine pr 3 [(66, .pointer (some ⟨b2, 1, none⟩)), (65, .slice p8 (List.length r6) c8), (64, .slice p7 (List.length r5) c7)] h fun a h => ?_
      refine sl (b_load_own 1 (vi y4.2) h rfl rfl fun a h => ?_)
      obtain ⟨r7, h7, hm⟩ := bnd hm
      refine sl (b_call [] [] h Tryz.call78 rfl rfl (c_ref08_SetLess (y0 := r5) (y1 := r6) (y2 := y4.2) (h.po [] []) ⟨(h.pf [] [] 1), (h.pf [] [] 0), trivial⟩ h7) fun v a w hp hc => ?_)
      obtain ⟨rfl, q⟩ := hp
      have h := hc.on q [bx b1 31 [.slice p1 (List.length y0.1) c1, .slice p2 (List.length y0.2.1) c2, .slice p3 (List.length y0.2.2) c3], bx b2 24 [vi y4.1, vi y4.2]]
      refine pr 1 [(69, vb r7)] h fun a h => ?_
      rcases Bool.eq_false_or_eq_true r7 with hb7 | hb7
      · have h := h.upd (t := 69) (vb true) rfl (congrArg Value.bool hb7)
        replace hm := ifT hb7 hm
        refine pr 13 [(10, vb true)] h fun a h => ?_
        refine ops_end ?_
        obtain rfl := Option.some.inj hm
        exact then_n (h.tos [900, 901] trivial)
      · have h := h.upd (t := 69) (vb false) rfl (congrArg Value.bool hb7)
        replace hm := ifF hb7 hm
        refine pr 4 [(73, vb ((len r5) == 0))] h fun a h => ?_
        rcases Bool.eq_false_or_eq_true ((len r5) == 0) with hb8 | hb8
        · have h := h.upd (t := 73) (vb true) rfl (congrArg Value.bool hb8)
          replace hm := ifT hb8 hm
          refine pr 5 [(78, vb ((len r6) == 0))] h fun a h => ?_
          rcases Bool.eq_false_or_eq_true ((len r6) == 0) with hb9 | hb9
          · have h := h.upd (t := 78) (vb true) rfl (congrArg Value.bool hb9)
            replace hm := ifT hb9 hm
            refine pr 4 [(10, vb r4)] h fun a h => ?_
            refine ops_end ?_
            obtain rfl := Option.some.inj hm
            exact then_n (h.tos [900, 901] trivial)
          · have h := h.upd (t := 78) (vb false) rfl (congrArg Value.bool hb9)
            replace hm := ifF hb9 hm
            refine pr 4 [(10, vb false)] h fun a h => ?_
            refine ops_end ?_
            obtain rfl := Option.some.inj hm
            exact then_n (h.tos [900, 901] trivial)
        · have h := h.upd (t := 73) (vb false) rfl (congrArg Value.bool hb8)
          replace hm := ifF hb8 hm
          refine pr 9 [(10, vb false)] h fun a h => ?_
          refine ops_end ?_
          obtain rfl := Option.some.inj hm
          exact then_n (h.tos [900, 901] trivial)
    intro a w hJ
    have h := hJ
    refine wp_ret ?_
    refine inb_r (then_r ?_)
    obtain rfl := Option.some.inj hm
    exact rt1 h rfl rfl ⟨rfl, bk_sel h [] trivial⟩
  replace hm := ifF hb6 hm
  refine sp [(82, vb (y4.1 == 2))] h fun a h => ?_
  refine cb h rfl (fun hb10 => ?_) (fun hb10 => ?_)
  · replace hm := ifT hb10 hm
    refine ds [] [0] h fun w h => ?_
    refine dlo 0 0 (.agg #[.slice p1 (List.length y0.1) c1, .slice p2 (List.length y0.2.1) c2, .slice p3 (List.length y0.2.2) c3]) h rfl rfl rfl fun a h => ?_
    refine dp 1 (.slice p4 (List.length y1) c4) h rfl fun a h => ?_
    refine dp 2 (vi y2) h rfl fun a h => ?_
    refine dlo 4 0 (.agg #[.slice p1 (List.length y0.1) c1, .slice p2 (List.length y0.2.1) c2, .slice p3 (List.length y0.2.2) c3]) h rfl rfl rfl fun a h => ?_
    refine dp 5 (.slice p4 (List.length y1) c4) h rfl fun a h => ?_
    refine dp 6 (vi y3) h rfl fun a h => ?_
    refine d1 3 rfl ?_
    obtain ⟨r8, h8, hm⟩ := bnd hm
    refine b_call [] [] h Tryz.call26 rfl rfl (c_ref08_RuleRanks (y0 := y0) (y1 := y1) (y2 := y2) (h.po [] []) ⟨(h.pf [] [] 3), (h.pf [] [] 4), (h.pf [] [] 5), (h.pf [] [] 2), trivial⟩ h8) fun v a w hp hc => ?_
    obtain ⟨p9, c9, rfl, q⟩ := hp
    have e := hc.st q [bx b1 31 [.slice p1 (List.length y0.1) c1, .slice p2 (List.length y0.2.1) c2, .slice p3 (List.length y0.2.2) c3], bx b2 24 [vi y4.1, vi y4.2]]
    have h := hc.on q [bx b1 31 [.slice p1 (List.length y0.1) c1, .slice p2 (List.length y0.2.1) c2, .slice p3 (List.length y0.2.2) c3], bx b2 24 [vi y4.1, vi y4.2]]
    refine dn h e ?_
    refine d1 7 rfl ?_
    obtain ⟨r9, h9, hm⟩ := bnd hm
    refine b_call [] [] h Tryz.call26 rfl rfl (c_ref08_RuleRanks (y0 := y0) (y1 := y1) (y2 := y3) (h.po [] []) ⟨(h.pf [] [] 4), (h.pf [] [] 5), (h.pf [] [] 6), (h.pf [] [] 3), trivial⟩ h9) fun v a w hp hc => ?_
    obtain ⟨p10, c10, rfl, q⟩ := hp
    have e := hc.st q [bx b1 31 [.slice p1 (List.length y0.1) c1, .slice p2 (List.length y0.2.1) c2, .slice p3 (List.length y0.2.2) c3], bx b2 24 [vi y4.1, vi y4.2]]
    have h := hc.on q [bx b1 31 [.slice p1 (List.length y0.1) c1, .slice p2 (List.length y0.2.1) c2, .slice p3 (List.length y0.2.2) c3], bx b2 24 [vi y4.1, vi y4.2]]
    refine dn h e ?_
    refine dp 8 (.slice p9 (List.length r8) c9) h rfl fun a h => ?_
    refine dp 9 (.slice p10 (List.length r9) c10) h rfl fun a h => ?_
    refine de (then_n ?_)
    refine wp_seq ?_
    refine seq_j (fun a w => SS A [] w0 125 [(1, .slice p4 (List.length y1) c4), (2, vi y2), (3, vi y3), (5, .pointer (some ⟨b1, 0, none⟩)), (9, .pointer (some ⟨b2, 0, none⟩)), (11, vb r4), (14, .slice p9 (List.length r8) c9), (15, .slice p10 (List.length r9) c10), (99, vb (((len r8) == 0) && ((len r9) == 0)))] [bx b1 31 [.slice p1 (List.length y0.1) c1, .slice p2 (List.length y0.2.1) c2, .slice p3 (List.length y0.2.2) c3], bx b2 24 [vi y4.1, vi y4.2]] [R e_Argument p4 c4 (List.length y1) y1, R (eInt .i64) p9 c9 (List.length r8) r8, R (eInt .i64) p10 c10 (List.length r9) r9, R e_Premise p1 c1 (List.length y0.1) y0.1, R e_Rule p2 c2 (List.length y0.2.1) y0.2.1, R e_Promotion p3 c3 (List.length y0.2.2) y0.2.2] a w) ?_ ?_
    · refine reg ?_
      refine pr 4 [(95, vb ((len r8) == 0))] h fun a h => ?_
      rcases Bool.eq_false_or_eq_true ((len r8) == 0) with hb11 | hb11
      · have h := h.upd (t := 95) (vb true) rfl (congrArg Value.bool hb11)
        refine pr 4 [(99, vb ((len r9) == 0))] h fun a h => ?_
        refine ops_end ?_
        have h := h.upd (t := 99) (vb (((len r8) == 0) && ((len r9) == 0))) rfl (by rw [hb11]; rfl)
        exact then_n (h.to 2 ⟨(h.g 4), (h.g 1), (h.g 0), (h.g 5), (h.g 6), (h.g 7), trivial⟩)
      · have h := h.upd (t := 95) (vb false) rfl (congrArg Value.bool hb11)
        refine pr 4 [(99, vb false)] h fun a h => ?_
        refine ops_end ?_
        have h := h.upd (t := 99) (vb (((len r8) == 0) && ((len r9) == 0))) rfl (by rw [hb11]; rfl)
        exact then_n (h.to 2 ⟨(h.g 4), (h.g 1), (h.g 0), (h.g 5), (h.g 6), (h.g 7), trivial⟩)
    intro a w hJ
    have h := hJ
    refine cb h rfl (fun hb12 => ?_) (fun hb12 => ?_)
    · replace hm := ifT hb12 hm
      refine sp [(10, vb r4)] h fun a h => ?_
      refine wp_ret ?_
      refine then_r (inb_r (then_r ?_))
      obtain rfl := Option.some.inj hm
      exact rt1 h rfl rfl ⟨rfl, bk_sel h [] trivial⟩
    replace hm := ifF hb12 hm
    refine wp_skip ?_
    refine then_n ?_
    refine sr ?_
    refine pr 3 [(103, .pointer (some ⟨b2, 1, none⟩)), (102, .slice p10 (List.length r9) c10), (101, .slice p9 (List.length r8) c9)] h fun a h => ?_
    refine sl (b_load_own 1 (vi y4.2) h rfl rfl fun a h => ?_)
    obtain ⟨r10, h10, hm⟩ := bnd hm
    refine sl (b_call [] [] h Tryz.call78 rfl rfl (c_ref08_SetLess (y0 := r8) (y1 := r9) (y2 := y4.2) (h.po [] []) ⟨(h.pf [] [] 1), (h.pf [] [] 2), trivial⟩ h10) fun v a w hp hc => ?_)
    obtain ⟨rfl, q⟩ := hp
    have h := hc.on q [bx b1 31 [.slice p1 (List.length y0.1) c1, .slice p2 (List.length y0.2.1) c2, .slice p3 (List.length y0.2.2) c3], bx b2 24 [vi y4.1, vi y4.2]]
    refine pr 1 [(16, vb r10)] h fun a h => ?_
    refine oe ?_
    refine wp_seq ?_
    obtain ⟨s3, hx, hm⟩ := bnd hm
    refine seq_j (fun a w => SS A [] w0 125 [(11, vb r4), (16, vb r10), (119, vb s3)] [[], []] [] a w) ?_ ?_
    · replace hm := hx
      refine reg ?_
      refine sl (b_load_own 0 (.agg #[.slice p1 (List.length y0.1) c1, .slice p2 (List.length y0.2.1) c2, .slice p3 (List.length y0.2.2) c3]) h rfl rfl fun a h => ?_)
      refine pr 2 [(108, vi y2), (107, .slice p4 (List.length y1) c4)] h fun a h => ?_
      obtain ⟨r11, h11, hm⟩ := bnd hm
      refine sl (b_call [] [] h Tryz.call25 rfl rfl (c_ref08_PremiseRanks (y0 := y0) (y1 := y1) (y2 := y2) (h.po [] []) ⟨(h.pf [] [] 3), (h.pf [] [] 4), (h.pf [] [] 5), (h.pf [] [] 0), trivial⟩ h11) fun v a w hp hc => ?_)
      obtain ⟨p11, c11, rfl, q⟩ := hp
      have h := hc.on q [bx b1 31 [.slice p1 (List.length y0.1) c1, .slice p2 (List.length y0.2.1) c2, .slice p3 (List.length y0.2.2) c3], bx b2 24 [vi y4.1, vi y4.2]]
      refine pr 3 [(112, vb ((len r11) == 0))] h fun a h => ?_
      rcases Bool.eq_false_or_eq_true ((len r11) == 0) with hb13 | hb13
      · have h := h.upd (t := 112) (vb true) rfl (congrArg Value.bool hb13)
        replace hm := ifT hb13 hm
        refine sl (b_load_own 0 (.agg #[.slice p1 (List.length y0.1) c1, .slice p2 (List.length y0.2.1) c2, .slice p3 (List.length y0.2.2) c3]) h rfl rfl fun a h => ?_)
        refine pr 2 [(115, vi y3), (114, .slice p4 (List.length y1) c4)] h fun a h => ?_
        obtain ⟨r12, h12, hm⟩ := bnd hm
        refine sl (b_call [] [] h Tryz.call25 rfl rfl (c_ref08_PremiseRanks (y0 := y0) (y1 := y1) (y2 := y3) (h.po [] []) ⟨(h.pf [] [] 4), (h.pf [] [] 5), (h.pf [] [] 6), (h.pf [] [] 1), trivial⟩ h12) fun v a w hp hc => ?_)
        obtain ⟨p12, c12, rfl, q⟩ := hp
        have h := hc.on q [bx b1 31 [.slice p1 (List.length y0.1) c1, .slice p2 (List.length y0.2.1) c2, .slice p3 (List.length y0.2.2) c3], bx b2 24 [vi y4.1, vi y4.2]]
        refine pr 3 [(119, vb ((len r12) == 0))] h fun a h => ?_
        refine ops_end ?_
        obtain rfl := Option.some.inj hm
        exact then_n (h.tos [900, 901] trivial)
      · have h := h.upd (t := 112) (vb false) rfl (congrArg Value.bool hb13)
        replace hm := ifF hb13 hm
        refine pr 7 [(119, vb false)] h fun a h => ?_
        refine ops_end ?_
        obtain rfl := Option.some.inj hm
        exact then_n (h.tos [900, 901] trivial)
    intro a w hJ
    have h := hJ
    refine cb h rfl (fun hb14 => ?_) (fun hb14 => ?_)
    · replace hm := ifT hb14 hm
      refine sp [(10, vb r10)] h fun a h => ?_
      refine wp_ret ?_
      refine then_r (inb_r (then_r ?_))
      obtain rfl := Option.some.inj hm
      exact rt1 h rfl rfl ⟨rfl, bk_sel h [] trivial⟩
    replace hm := ifF hb14 hm
    refine wp_skip ?_
    refine then_n ?_
    refine seq_j (fun a w => SS A [] w0 125 [(10, vb (r4 && r10))] [[], []] [] a w) ?_ ?_
    · refine reg ?_
      refine pr 2 [(122, vb r4)] h fun a h => ?_
      rcases Bool.eq_false_or_eq_true r4 with hb15 | hb15
      · have h := h.upd (t := 122) (vb true) rfl (congrArg Value.bool hb15)
        refine pr 3 [(10, vb r10)] h fun a h => ?_
        refine ops_end ?_
        have h := h.upd (t := 10) (vb (r4 && r10)) rfl (by rw [hb15]; rfl)
        exact then_n (h.tos [900, 901] trivial)
      · have h := h.upd (t := 122) (vb false) rfl (congrArg Value.bool hb15)
        refine pr 3 [(10, vb false)] h fun a h => ?_
        refine ops_end ?_
        have h := h.upd (t := 10) (vb (r4 && r10)) rfl (by rw [hb15]; rfl)
        exact then_n (h.tos [900, 901] trivial)
    intro a w hJ
    have h := hJ
    refine wp_ret ?_
    refine inb_r (then_r ?_)
    obtain rfl := Option.some.inj hm
    exact rt1 h rfl rfl ⟨rfl, bk_sel h [] trivial⟩
  replace hm := ifF hb10 hm
  refine wp_skip ?_
  refine inb_n ?_
  refine then_n ?_
  refine sp [(10, vb false)] h fun a h => ?_
  refine wp_ret ?_
  obtain rfl := Option.some.inj hm
  exact rt1 h rfl rfl ⟨rfl, bk_sel h [] trivial⟩

theorem c_ref09_Defeats {A : List Nat} {w0 : World} {y0 : T_Base} {p1 : Option Addr} {c1 : Nat} {p2 : Option Addr} {c2 : Nat} {p3 : Option Addr} {c3 : Nat} {y1 : List T_Argument} {p4 : Option Addr} {c4 : Nat} {y2 : T_Ordering} {r : (List T_Attack)} (hO : Own A w0 []) (hF : All [R e_Premise p1 c1 (List.length y0.1) y0.1, R e_Rule p2 c2 (List.length y0.2.1) y0.2.1, R e_Promotion p3 c3 (List.length y0.2.2) y0.2.2, R e_Argument p4 c4 (List.length y1) y1] (bl [] ++ A) w0) (hm : m_ref09_Defeats y0 y1 y2 = some r) :
    Calls Tryz.prog 16 [.agg #[.slice p1 (List.length y0.1) c1, .slice p2 (List.length y0.2.1) c2, .slice p3 (List.length y0.2.2) c3], .slice p4 (List.length y1) c4, .agg #[vi y2.1, vi y2.2]].toArray w0 (Ret fun v w => ∃ (p5 : Option Addr) (c5 : Nat), v = .slice p5 (List.length r) c5 ∧ Bk A [] w0 [] [R e_Attack p5 c5 (List.length r) r] w) := by
  unfold m_ref09_Defeats at hm
  refine ent Tryz.func16 rfl hO hF fun a h => ?_
  refine sr ?_
  refine sl (b_box h rfl fun b1 a w h e => ?_)
  refine sl (b_box h rfl fun b2 a w h e => ?_)
  refine pr 1 [] h fun a h => ?_
  refine oe ?_
  refine sr ?_
  refine pr 1 [(7, .slice none 0 0)] h fun a h => ?_
  have h := h.room e_Attack 45
  refine oe ?_
  refine sr ?_
  refine sl (b_load_own 0 (.agg #[.slice p1 (List.length y0.1) c1, .slice p2 (List.length y0.2.1) c2, .slice p3 (List.length y0.2.2) c3]) h rfl rfl fun a h => ?_)
  refine pr 1 [(11, .slice p4 (List.length y1) c4)] h fun a h => ?_
  obtain ⟨r1, h1, hm⟩ := bnd hm
  refine sl (b_call [] [] h Tryz.call13 rfl rfl (c_ref09_Attacks (y0 := y0) (y1 := y1) (h.po [] []) ⟨(h.pf [] [] 1), (h.pf [] [] 2), (h.pf [] [] 3), (h.pf [] [] 4), trivial⟩ h1) fun v a w hp hc => ?_)
  obtain ⟨p5, c5, rfl, q⟩ := hp
  have h := hc.on q [bx b1 31 [.slice p1 (List.length y0.1) c1, .slice p2 (List.length y0.2.1) c2, .slice p3 (List.length y0.2.2) c3], bx b2 24 [vi y2.1, vi y2.2], []]
  refine pr 1 [(8, .slice p5 (List.length r1) c5)] h fun a h => ?_
  refine oe ?_
  refine wp_seq ?_
  refine sp [(9, vi 0)] h fun a h => ?_
  refine wp_block ?_
  refine loop_m (B := (m_ref09_Defeats_L1 r1 y0 y1 y2)) (fun (s1 : (List T_Attack) × Int) a w => ∃ (p6 : Option Addr) (c6 : Nat) (r_1 : Res), SS A [] w0 50 [(1, .slice p4 (List.length y1) c4), (3, .pointer (some ⟨b1, 0, none⟩)), (5, .pointer (some ⟨b2, 0, none⟩)), (7, .slice p6 (List.length s1.1) c6), (8, .slice p5 (List.length r1) c5), (9, vi s1.2)] [bx b1 31 [.slice p1 (List.length y0.1) c1, .slice p2 (List.length y0.2.1) c2, .slice p3 (List.length y0.2.2) c3], bx b2 24 [vi y2.1, vi y2.2], r_1] [Ar e_Attack 45 r_1 p6 c6 (List.length s1.1) s1.1, R e_Argument p4 c4 (List.length y1) y1, R e_Attack p5 c5 (List.length r1) r1, R e_Premise p1 c1 (List.length y0.1) y0.1, R e_Rule p2 c2 (List.length y0.2.1) y0.2.1, R e_Promotion p3 c3 (List.length y0.2.2) y0.2.2] a w) hm ⟨none, 0, [], h.to 3 ⟨(h.g 1), (h.g 5), (h.g 0), (h.g 2), (h.g 3), (h.g 4), trivial⟩⟩ ?_
  intro s1 a w o1 hJ hm hr1
  obtain ⟨p6, c6, r_1, h⟩ := hJ
  unfold m_ref09_Defeats_L1 at hm
  refine wp_seq ?_
  refine sp [(16, vb (decide (s1.2 < (len r1))))] h fun a h => ?_
  refine cb h rfl (fun hb1 => ?_) (fun hb1 => ?_)
  · replace hm := ifT hb1 hm
    refine wp_skip ?_
    refine then_n ?_
    refine wp_seq ?_
    refine wp_block ?_
    obtain ⟨s2, hx, hm⟩ := bnd hm
    refine seq_j (fun a w => SS A [] w0 50 [(1, .slice p4 (List.length y1) c4), (3, .pointer (some ⟨b1, 0, none⟩)), (5, .pointer (some ⟨b2, 0, none⟩)), (7, .slice p6 (List.length s1.1) c6), (8, .slice p5 (List.length r1) c5), (9, vi s1.2), (41, vb s2)] [bx b1 31 [.slice p1 (List.length y0.1) c1, .slice p2 (List.length y0.2.1) c2, .slice p3 (List.length y0.2.2) c3], bx b2 24 [vi y2.1, vi y2.2], r_1] [R e_Argument p4 c4 (List.length y1) y1, Ar e_Attack 45 r_1 p6 c6 (List.length s1.1) s1.1, R e_Attack p5 c5 (List.length r1) r1, R e_Premise p1 c1 (List.length y0.1) y0.1, R e_Rule p2 c2 (List.length y0.2.1) y0.2.1, R e_Promotion p3 c3 (List.length y0.2.2) y0.2.2] a w) ?_ ?_
    · replace hm := hx
      refine ds' [] [0, 1] h fun w h => ?_
      refine dp 0 (.slice p5 (List.length r1) c5) h rfl fun a h => ?_
      refine dp 1 (vi s1.2) h rfl fun a h => ?_
      obtain ⟨x1, h2, hm⟩ := bnd hm
      refine dir 2 h rfl (h.g 2) rfl rfl h2 fun b3 o2 a h => ?_
      refine dp 3 (.pointer (some ⟨b3, (o2 + 3), none⟩)) h rfl fun a h => ?_
      refine dlp 4 false h rfl (PtTo.snd (PtTo.snd (PtTo.snd (h.g 0)))) rfl fun ci1 hc1 v1 hv1 a h => ?_
      replace hc1 : E.rd (eInt .i64) _ _ ci1 x1.2.2.2 := hc1
      obtain rfl := hc1
      obtain rfl := Option.some.inj hv1
      refine dp 5 (vb (x1.2.2.2 == 3)) h rfl fun a h => ?_
      refine dp 6 (vb (x1.2.2.2 == 3)) h rfl fun a h => ?_
      rcases Bool.eq_false_or_eq_true (x1.2.2.2 == 3) with hb2 | hb2
      · have h := h.upd (t := 25) (vb true) rfl (congrArg Value.bool hb2)
        replace hm := ifT hb2 hm
        refine dk 7 h rfl fun a h => ?_
        refine dk 8 h rfl fun a h => ?_
        refine dk 9 h rfl fun a h => ?_
        refine dk 10 h rfl fun a h => ?_
        refine dk 11 h rfl fun a h => ?_
        refine dk 12 h rfl fun a h => ?_
        refine dk 13 h rfl fun a h => ?_
        refine dk 14 h rfl fun a h => ?_
        refine dk 15 h rfl fun a h => ?_
        refine dk 16 h rfl fun a h => ?_
        refine dk 17 h rfl fun a h => ?_
        refine dk 18 h rfl fun a h => ?_
        refine dk 19 h rfl fun a h => ?_
        refine dk 20 h rfl fun a h => ?_
        refine dk 21 h rfl fun a h => ?_
        refine dp 22 (vb true) h rfl fun a h => ?_
        refine de ?_
        obtain rfl := Option.some.inj hm
        exact then_n (h.to 3 ⟨(h.g 2), (h.g 1), (h.g 3), (h.g 4), (h.g 5), (h.g 6), trivial⟩)
      · have h := h.upd (t := 25) (vb false) rfl (congrArg Value.bool hb2)
        replace hm := ifF hb2 hm
        refine dlo 7 0 (.agg #[.slice p1 (List.length y0.1) c1, .slice p2 (List.length y0.2.1) c2, .slice p3 (List.length y0.2.2) c3]) h rfl rfl rfl fun a h => ?_
        refine dp 8 (.slice p4 (List.length y1) c4) h rfl fun a h => ?_
        refine dp 9 (.slice p5 (List.length r1) c5) h rfl fun a h => ?_
        refine dp 10 (vi s1.2) h rfl fun a h => ?_
        obtain ⟨x2, h3, hm⟩ := bnd hm
        refine dir 11 h rfl (h.g 3) rfl rfl h3 fun b4 o3 a h => ?_
        refine dp 12 (.pointer (some ⟨b4, o3, none⟩)) h rfl fun a h => ?_
        refine dlp 13 false h rfl (PtTo.fst (h.g 0)) rfl fun ci2 hc2 v2 hv2 a h => ?_
        replace hc2 : E.rd (eInt .i64) _ _ ci2 x2.1 := hc2
        obtain rfl := hc2
        obtain rfl := Option.some.inj hv2
        refine dp 14 (.slice p5 (List.length r1) c5) h rfl fun a h => ?_
        refine dp 15 (vi s1.2) h rfl fun a h => ?_
        obtain ⟨x3, h4, hm⟩ := bnd hm
        refine dir 16 h rfl (h.g 4) rfl rfl h4 fun b5 o4 a h => ?_
        refine dp 17 (.pointer (some ⟨b5, (o4 + 2), none⟩)) h rfl fun a h => ?_
        refine dlp 18 false h rfl (PtTo.fst (PtTo.snd (PtTo.snd (h.g 0)))) rfl fun ci3 hc3 v3 hv3 a h => ?_
        replace hc3 : E.rd (eInt .i64) _ _ ci3 x3.2.2.1 := hc3
        obtain rfl := hc3
        obtain rfl := Option.some.inj hv3
        refine dlo 19 1 (.agg #[vi y2.1, vi y2.2]) h rfl rfl rfl fun a h => ?_
        refine d1 20 rfl ?_
        obtain ⟨r2, h5, hm⟩ := bnd hm
        refine b_call [] [] h Tryz.call41 rfl rfl (c_ref08_Less (y0 := y0) (y1 := y1) (y2 := x2.1) (y3 := x3.2.2.1) (y4 := y2) (h.po [] []) ⟨(h.pf [] [] 6), (h.pf [] [] 7), (h.pf [] [] 8), (h.pf [] [] 4), trivial⟩ h5) fun v a w hp hc => ?_
        obtain ⟨rfl, q⟩ := hp
        have e := hc.st q [bx b1 31 [.slice p1 (List.length y0.1) c1, .slice p2 (List.length y0.2.1) c2, .slice p3 (List.length y0.2.2) c3], bx b2 24 [vi y2.1, vi y2.2], r_1]
        have h := hc.on q [bx b1 31 [.slice p1 (List.length y0.1) c1, .slice p2 (List.length y0.2.1) c2, .slice p3 (List.length y0.2.2) c3], bx b2 24 [vi y2.1, vi y2.2], r_1]
        refine dn h e ?_
        refine dp 21 (vb (!r2)) h rfl fun a h => ?_
        refine dp 22 (vb (!r2)) h rfl fun a h => ?_
        refine de ?_
        obtain rfl := Option.some.inj hm
        exact then_n (h.to 3 ⟨(h.g 4), (h.g 3), (h.g 5), (h.g 6), (h.g 7), (h.g 8), trivial⟩)
    intro a w hJ
    have h := hJ
    refine cb h rfl (fun hb3 => ?_) (fun hb3 => ?_)
    · replace hm := ifT hb3 hm
      refine reg ?_
      refine pr 3 [(44, vi s1.2), (43, .slice p5 (List.length r1) c5), (42, .slice p6 (List.length s1.1) c6)] h fun a h => ?_
      obtain ⟨x4, h6, hm⟩ := bnd hm
      refine sl (b_index_rd h (h.g 2) rfl rfl h6 fun b6 o5 a h => ?_)
      refine sl (b_load_pt true h (h.g 0) rfl fun ci4 hc4 v4 hv4 a h => ?_)
      replace hc4 : E.rd e_Attack _ _ ci4 x4 := hc4
      obtain ⟨_, _, rfl, rfl, ⟨_, _, rfl, rfl, ⟨_, _, rfl, rfl, rfl⟩⟩⟩ := hc4
      obtain rfl := Option.some.inj hv4
      have h := h.upd (t := 46) (.agg #[vi x4.1, vi x4.2.1, vi x4.2.2.1, vi x4.2.2.2]) rfl rfl
      refine sl (b_bs_rd (te := 45) (e := e_Attack) [vi x4.1, vi x4.2.1, vi x4.2.2.1, vi x4.2.2.2] ([x4] : List T_Attack) h ⟨_, _, rfl, eProd.mk eInt.mk (eProd.mk eInt.mk (eProd.mk eInt.mk eInt.mk)), rfl⟩ fun p7 c7 a w h e => ?_)
      obtain ⟨x5, h7, hm⟩ := bnd hm
      refine sl (b_append_r (te := 45) 2 h (h.g 3) (h.g 0) rfl rfl h7 fun r_2 p8 c8 a w h e => ?_)
      refine pr 1 [(7, .slice p8 (List.length x5) c8)] h fun a h => ?_
      refine ops_end ?_
      refine inb_n ?_
      refine then_n ?_
      refine reg ?_
      refine pr 3 [(9, vi (w64 (s1.2 + 1)))] h fun a h => ?_
      refine ops_end ?_
      obtain rfl := Option.some.inj hm
      exact lp_n rfl ⟨p8, c8, r_2, h.to 3 ⟨(h.g 0), (h.g 3), (h.g 5), (h.g 6), (h.g 7), (h.g 8), trivial⟩⟩
    replace hm := ifF hb3 hm
    refine wp_skip ?_
    refine inb_n ?_
    refine then_n ?_
    refine reg ?_
    refine pr 3 [(9, vi (w64 (s1.2 + 1)))] h fun a h => ?_
    refine ops_end ?_
    obtain rfl := Option.some.inj hm
    exact lp_n rfl ⟨p6, c6, r_1, h.to 3 ⟨(h.g 1), (h.g 0), (h.g 2), (h.g 3), (h.g 4), (h.g 5), trivial⟩⟩
  replace hm := ifF hb1 hm
  refine wp_exit ?_
  refine then_e (lp_e (inb_hit ?_))
  replace hm := loopR hr1 hm
  refine then_n ?_
  refine sp [(6, .slice p6 (List.length s1.1) c6)] h fun a h => ?_
  refine wp_ret ?_
  obtain rfl := Option.some.inj hm
  have h := h.share 2 (h.g 0)
  exact rt1 h rfl rfl ⟨p6, c6, rfl, bk_sel h [] ⟨(h.g 0), trivial⟩⟩

theorem c_ref09_Same {A : List Nat} {w0 : World} {y0 : List T_Attack} {p1 : Option Addr} {c1 : Nat} {y1 : List T_Attack} {p2 : Option Addr} {c2 : Nat} {r : Bool} (hO : Own A w0 []) (hF : All [R e_Attack p1 c1 (List.length y0) y0, R e_Attack p2 c2 (List.length y1) y1] (bl [] ++ A) w0) (hm : m_ref09_Same y0 y1 = some r) :
    Calls Tryz.prog 11 [.slice p1 (List.length y0) c1, .slice p2 (List.length y1) c2].toArray w0 (Ret fun v w => v = vb r ∧ Bk A [] w0 [] [] w) := by
  unfold m_ref09_Same at hm
  refine ent Tryz.func11 rfl hO hF fun a h => ?_
  refine sp [] h fun a h => ?_
  refine wp_seq ?_
  refine sp [(10, vb ((len y0) != (len y1)))] h fun a h => ?_
  refine cb h rfl (fun hb1 => ?_) (fun hb1 => ?_)
  · replace hm := ifT hb1 hm
    refine sp [(4, vb false)] h fun a h => ?_
    refine wp_ret ?_
    refine then_r ?_
    obtain rfl := Option.some.inj hm
    exact rt1 h rfl rfl ⟨rfl, bk_sel h [] trivial⟩
  replace hm := ifF hb1 hm
  refine wp_skip ?_
  refine then_n ?_
  refine wp_seq ?_
  refine sp [(5, vi 0)] h fun a h => ?_
  refine wp_block ?_
  refine loop_m (B := (m_ref09_Same_L1 y0 y1)) (fun (s1 : Int) a w => SS A [] w0 26 [(0, .slice p1 (List.length y0) c1), (1, .slice p2 (List.length y1) c2), (5, vi s1)] [] [R e_Attack p1 c1 (List.length y0) y0, R e_Attack p2 c2 (List.length y1) y1] a w) hm (h.to 0 ⟨(h.g 0), (h.g 1), trivial⟩) ?_
  intro s1 a w o1 hJ hm hr1
  have h := hJ
  unfold m_ref09_Same_L1 at hm
  refine wp_seq ?_
  refine sp [(14, vb (decide (s1 < (len y0))))] h fun a h => ?_
  refine cb h rfl (fun hb2 => ?_) (fun hb2 => ?_)
  · replace hm := ifT hb2 hm
    refine wp_skip ?_
    refine then_n ?_
    refine wp_seq ?_
    refine wp_block ?_
    refine ds [] [] h fun w h => ?_
    refine dp 0 (.slice p1 (List.length y0) c1) h rfl fun a h => ?_
    refine dp 1 (vi s1) h rfl fun a h => ?_
    obtain ⟨x1, h1, hm⟩ := bnd hm
    refine dir 2 h rfl (h.g 0) rfl rfl h1 fun b1 o2 a h => ?_
    refine dlp 3 true h rfl (h.g 0) rfl fun ci1 hc1 v1 hv1 a h => ?_
    replace hc1 : E.rd e_Attack _ _ ci1 x1 := hc1
    obtain ⟨_, _, rfl, rfl, ⟨_, _, rfl, rfl, ⟨_, _, rfl, rfl, rfl⟩⟩⟩ := hc1
    obtain rfl := Option.some.inj hv1
    have h := h.upd (t := 20) (.agg #[vi x1.1, vi x1.2.1, vi x1.2.2.1, vi x1.2.2.2]) rfl rfl
    refine dp 4 (.slice p2 (List.length y1) c2) h rfl fun a h => ?_
    refine dp 5 (vi s1) h rfl fun a h => ?_
    obtain ⟨x2, h2, hm⟩ := bnd hm
    refine dir 6 h rfl (h.g 2) rfl rfl h2 fun b2 o3 a h => ?_
    refine dlp 7 true h rfl (h.g 0) rfl fun ci2 hc2 v2 hv2 a h => ?_
    replace hc2 : E.rd e_Attack _ _ ci2 x2 := hc2
    obtain ⟨_, _, rfl, rfl, ⟨_, _, rfl, rfl, ⟨_, _, rfl, rfl, rfl⟩⟩⟩ := hc2
    obtain rfl := Option.some.inj hv2
    have h := h.upd (t := 24) (.agg #[vi x2.1, vi x2.2.1, vi x2.2.2.1, vi x2.2.2.2]) rfl rfl
    refine dp 8 (vb (!(x1 == x2))) h rfl fun a h => ?_
    refine de (then_n ?_)
    refine cb h rfl (fun hb3 => ?_) (fun hb3 => ?_)
    · replace hm := ifT hb3 hm
      refine sp [(4, vb false)] h fun a h => ?_
      refine wp_ret ?_
      refine inb_r (then_r (lp_r (inb_r (then_r ?_))))
      replace hm := loopR hr1 hm
      obtain rfl := Option.some.inj hm
      exact rt1 h rfl rfl ⟨rfl, bk_sel h [] trivial⟩
    replace hm := ifF hb3 hm
    refine wp_skip ?_
    refine inb_n ?_
    refine then_n ?_
    refine reg ?_
    refine pr 3 [(5, vi (w64 (s1 + 1)))] h fun a h => ?_
    refine ops_end ?_
    obtain rfl := Option.some.inj hm
    exact lp_n rfl (h.to 0 ⟨(h.g 2), (h.g 3), trivial⟩)
  replace hm := ifF hb2 hm
  refine wp_exit ?_
  refine then_e (lp_e (inb_hit ?_))
  replace hm := loopR hr1 hm
  refine then_n ?_
  refine sp [(4, vb true)] h fun a h => ?_
  refine wp_ret ?_
  obtain rfl := Option.some.inj hm
  exact rt1 h rfl rfl ⟨rfl, bk_sel h [] trivial⟩

theorem c_law09_AttackFinds {A : List Nat} {w0 : World} {y0 : List Int} {p1 : Option Addr} {c1 : Nat} {y1 : T_Ordering} {r : Bool} (hO : Own A w0 []) (hF : All [R (eInt .i64) p1 c1 (List.length y0) y0] (bl [] ++ A) w0) (hm : m_law09_AttackFinds y0 y1 = some r) :
    Calls Tryz.prog 3 [.slice p1 (List.length y0) c1, .agg #[vi y1.1, vi y1.2]].toArray w0 (Ret fun v w => v = vb r ∧ Bk A [] w0 [] [] w) := by
  unfold m_law09_AttackFinds at hm
  refine ent Tryz.func3 rfl hO hF fun a h => ?_
  refine sr ?_
  refine sl (b_box h rfl fun b1 a w h e => ?_)
  refine pr 1 [] h fun a h => ?_
  refine oe ?_
  refine sr ?_
  refine pr 1 [(10, .slice p1 (List.length y0) c1)] h fun a h => ?_
  obtain ⟨r1, h1, hm⟩ := bnd hm
  refine sl (b_call [] [] h Tryz.call9 rfl rfl (c_keep_New (y0 := y0) (h.po [] []) ⟨(h.pf [] [] 0), trivial⟩ h1) fun v a w hp hc => ?_)
  obtain ⟨b2, p2, c2, rfl, q⟩ := hp
  have h := hc.on q [bx b1 24 [vi y1.1, vi y1.2], bx b2 71 [.slice p2 (List.length r1.1) c2, vi r1.2]]
  refine pr 1 [(5, .pointer (some ⟨b2, 0, none⟩))] h fun a h => ?_
  refine oe ?_
  refine sr ?_
  refine pr 1 [(13, .pointer (some ⟨b2, 0, none⟩))] h fun a h => ?_
  obtain ⟨r2, h2, hm⟩ := bnd hm
  refine sl (b_call [1] [] h Tryz.call10 rfl rfl (c_law09_built (y0 := r1) (h.po [1] []) ⟨(h.pf [1] [] 0), trivial⟩ h2) fun v a w hp hc => ?_)
  obtain ⟨p3, c3, p4, c4, p5, c5, p6, c6, rfl, q⟩ := hp
  have h := hc.on q [bx b1 24 [vi y1.1, vi y1.2], bx b2 71 [.slice p2 (List.length r1.1) c2, vi r2.2.2]]
  refine pr 3 [(16, .slice p6 (List.length r2.2.1) c6), (15, .agg #[.slice p3 (List.length r2.1.1) c3, .slice p4 (List.length r2.1.2.1) c4, .slice p5 (List.length r2.1.2.2) c5])] h fun a h => ?_
  refine sl (b_alloc h rfl fun b3 a w h e => ?_)
  refine sl (b_store_own 2 h rfl rfl rfl fun a w h e => ?_)
  refine pr 1 [(7, .slice p6 (List.length r2.2.1) c6)] h fun a h => ?_
  refine oe ?_
  refine wp_seq ?_
  refine ds [] [2] h fun w h => ?_
  refine dlo 0 2 (.agg #[.slice p3 (List.length r2.1.1) c3, .slice p4 (List.length r2.1.2.1) c4, .slice p5 (List.length r2.1.2.2) c5]) h rfl rfl rfl fun a h => ?_
  refine dp 1 (.slice p6 (List.length r2.2.1) c6) h rfl fun a h => ?_
  refine dlo 3 2 (.agg #[.slice p3 (List.length r2.1.1) c3, .slice p4 (List.length r2.1.2.1) c4, .slice p5 (List.length r2.1.2.2) c5]) h rfl rfl rfl fun a h => ?_
  refine dp 4 (.slice p6 (List.length r2.2.1) c6) h rfl fun a h => ?_
  refine d1 2 rfl ?_
  obtain ⟨r3, h3, hm⟩ := bnd hm
  refine b_call [] [] h Tryz.call12 rfl rfl (c_attack_Attacks (y0 := r2.1) (y1 := r2.2.1) (h.po [] []) ⟨(h.pf [] [] 0), (h.pf [] [] 1), (h.pf [] [] 2), (h.pf [] [] 3), trivial⟩ h3) fun v a w hp hc => ?_
  obtain ⟨p7, c7, r_1, rfl, q⟩ := hp
  have e := hc.st q [bx b1 24 [vi y1.1, vi y1.2], bx b2 71 [.slice p2 (List.length r1.1) c2, vi r2.2.2], bx b3 31 [.slice p3 (List.length r2.1.1) c3, .slice p4 (List.length r2.1.2.1) c4, .slice p5 (List.length r2.1.2.2) c5], r_1]
  have h := hc.on q [bx b1 24 [vi y1.1, vi y1.2], bx b2 71 [.slice p2 (List.length r1.1) c2, vi r2.2.2], bx b3 31 [.slice p3 (List.length r2.1.1) c3, .slice p4 (List.length r2.1.2.1) c4, .slice p5 (List.length r2.1.2.2) c5], r_1]
  refine dn h e ?_
  refine d1 5 rfl ?_
  obtain ⟨r4, h4, hm⟩ := bnd hm
  refine b_call [] [] h Tryz.call13 rfl rfl (c_ref09_Attacks (y0 := r2.1) (y1 := r2.2.1) (h.po [] []) ⟨(h.pf [] [] 1), (h.pf [] [] 2), (h.pf [] [] 3), (h.pf [] [] 4), trivial⟩ h4) fun v a w hp hc => ?_
  obtain ⟨p8, c8, rfl, q⟩ := hp
  have e := hc.st q [bx b1 24 [vi y1.1, vi y1.2], bx b2 71 [.slice p2 (List.length r1.1) c2, vi r2.2.2], bx b3 31 [.slice p3 (List.length r2.1.1) c3, .slice p4 (List.length r2.1.2.1) c4, .slice p5 (List.length r2.1.2.2) c5], r_1]
  have h := hc.on q [bx b1 24 [vi y1.1, vi y1.2], bx b2 71 [.slice p2 (List.length r1.1) c2, vi r2.2.2], bx b3 31 [.slice p3 (List.length r2.1.1) c3, .slice p4 (List.length r2.1.2.1) c4, .slice p5 (List.length r2.1.2.2) c5], r_1]
  refine dn h e ?_
  refine d1 6 rfl ?_
  obtain ⟨r5, h5, hm⟩ := bnd hm
  refine b_call [] [3] h Tryz.call11 rfl rfl (c_ref09_Same (y0 := r3) (y1 := r4) (h.po [] [3]) ⟨(h.pl [] [3] 3 (h.g 1)), (h.pf [] [3] 0), trivial⟩ h5) fun v a w hp hc => ?_
  obtain ⟨rfl, q⟩ := hp
  have e := hc.st q [bx b1 24 [vi y1.1, vi y1.2], bx b2 71 [.slice p2 (List.length r1.1) c2, vi r2.2.2], bx b3 31 [.slice p3 (List.length r2.1.1) c3, .slice p4 (List.length r2.1.2.1) c4, .slice p5 (List.length r2.1.2.2) c5], r_1]
  have h := hc.on q [bx b1 24 [vi y1.1, vi y1.2], bx b2 71 [.slice p2 (List.length r1.1) c2, vi r2.2.2], bx b3 31 [.slice p3 (List.length r2.1.1) c3, .slice p4 (List.length r2.1.2.1) c4, .slice p5 (List.length r2.1.2.2) c5], r_1]
  refine dn h e ?_
  refine dp 7 (vb (!r5)) h rfl fun a h => ?_
  refine de (then_n ?_)
  refine cb h rfl (fun hb1 => ?_) (fun hb1 => ?_)
  · replace hm := ifT hb1 hm
    refine sp [(4, vb false)] h fun a h => ?_
    refine wp_ret ?_
    refine then_r ?_
    obtain rfl := Option.some.inj hm
    exact rt1 h rfl rfl ⟨rfl, bk_sel h [] trivial⟩
  replace hm := ifF hb1 hm
  refine wp_skip ?_
  refine then_n ?_
  obtain ⟨os1, hx, hm⟩ := bnd hm
  refine seq_j (fun a w => ∃ s1 : Unit, os1 = .inl s1 ∧ (SS A [] w0 46 [] [[], [], [], []] [] a w)) ?_ ?_
  · have hm2 := hm
    replace hm := hx
    obtain ⟨s2, hx, hm⟩ := bnd hm
    refine seq_j (fun a w => ∃ (p9 : Option Addr) (c9 : Nat) (r_2 : Res), SS A [] w0 46 [(6, .pointer (some ⟨b3, 0, none⟩)), (7, .slice p6 (List.length r2.2.1) c6), (28, .slice p9 (List.length s2.1) c9), (29, vi s2.2.1), (30, vi s2.2.2)] [[], [], bx b3 31 [.slice p3 (List.length r2.1.1) c3, .slice p4 (List.length r2.1.2.1) c4, .slice p5 (List.length r2.1.2.2) c5], [], r_2] [Ar e_Ordering 24 r_2 p9 c9 (List.length s2.1) s2.1, R e_Argument p6 c6 (List.length r2.2.1) r2.2.1, R e_Premise p3 c3 (List.length r2.1.1) r2.1.1, R e_Rule p4 c4 (List.length r2.1.2.1) r2.1.2.1, R e_Promotion p5 c5 (List.length r2.1.2.2) r2.1.2.2] a w) ?_ ?_
    · replace hm := hx
      refine ds' [] [0] h fun w h => ?_
      refine dlo 1 0 (.agg #[vi y1.1, vi y1.2]) h rfl rfl rfl fun a h => ?_
      refine dp 5 (vi 0) h rfl fun a h => ?_
      refine d2 0 2 rfl rfl ?_ ?_
      · obtain ⟨r6, h6, hm⟩ := bnd hm
        refine b_call [] [] h Tryz.call14 rfl rfl (c_keep_Orderings (h.po [] []) trivial h6) fun v a w hp hc => ?_
        obtain ⟨p10, c10, r_3, rfl, q⟩ := hp
        have e := hc.st q [bx b1 24 [vi y1.1, vi y1.2], bx b2 71 [.slice p2 (List.length r1.1) c2, vi r2.2.2], bx b3 31 [.slice p3 (List.length r2.1.1) c3, .slice p4 (List.length r2.1.2.1) c4, .slice p5 (List.length r2.1.2.2) c5], r_1, r_3]
        have h := hc.on q [bx b1 24 [vi y1.1, vi y1.2], bx b2 71 [.slice p2 (List.length r1.1) c2, vi r2.2.2], bx b3 31 [.slice p3 (List.length r2.1.1) c3, .slice p4 (List.length r2.1.2.1) c4, .slice p5 (List.length r2.1.2.2) c5], r_1, r_3]
        refine dn h e ?_
        refine d1 2 rfl ?_
        refine b_bs_rd (te := 24) (e := e_Ordering) [vi y1.1, vi y1.2] ([y1] : List T_Ordering) h ⟨_, _, rfl, eProd.mk eInt.mk eInt.mk, rfl⟩ fun p11 c11 a w h e => ?_
        refine dn h e ?_
        refine d1 3 rfl ?_
        obtain ⟨x1, h7, hm⟩ := bnd hm
        refine b_append_r (te := 24) 4 h (h.g 1) (h.g 0) rfl rfl h7 fun r_4 p12 c12 a w h e => ?_
        refine dn h e ?_
        refine dp 4 (vi (len x1)) h rfl fun a h => ?_
        refine de ?_
        obtain rfl := Option.some.inj hm
        exact then_n ⟨p12, c12, r_4, h.tos [900, 901, 2, 903, 4] ⟨(h.g 0), (h.g 8), (h.g 5), (h.g 6), (h.g 7), trivial⟩⟩
      · refine b_bs_rd (te := 24) (e := e_Ordering) [vi y1.1, vi y1.2] ([y1] : List T_Ordering) h ⟨_, _, rfl, eProd.mk eInt.mk eInt.mk, rfl⟩ fun p13 c13 a w h e => ?_
        refine dn h e ?_
        refine d1 0 rfl ?_
        obtain ⟨r7, h8, hm⟩ := bnd hm
        refine b_call [] [] h Tryz.call14 rfl rfl (c_keep_Orderings (h.po [] []) trivial h8) fun v a w hp hc => ?_
        obtain ⟨p14, c14, r_5, rfl, q⟩ := hp
        have e := hc.st q [bx b1 24 [vi y1.1, vi y1.2], bx b2 71 [.slice p2 (List.length r1.1) c2, vi r2.2.2], bx b3 31 [.slice p3 (List.length r2.1.1) c3, .slice p4 (List.length r2.1.2.1) c4, .slice p5 (List.length r2.1.2.2) c5], r_1, r_5]
        have h := hc.on q [bx b1 24 [vi y1.1, vi y1.2], bx b2 71 [.slice p2 (List.length r1.1) c2, vi r2.2.2], bx b3 31 [.slice p3 (List.length r2.1.1) c3, .slice p4 (List.length r2.1.2.1) c4, .slice p5 (List.length r2.1.2.2) c5], r_1, r_5]
        refine dn h e ?_
        refine d1 3 rfl ?_
        obtain ⟨x2, h9, hm⟩ := bnd hm
        refine b_append_r (te := 24) 4 h (h.g 0) (h.g 1) rfl rfl h9 fun r_6 p15 c15 a w h e => ?_
        refine dn h e ?_
        refine dp 4 (vi (len x2)) h rfl fun a h => ?_
        refine de ?_
        obtain rfl := Option.some.inj hm
        exact then_n ⟨p15, c15, r_6, h.tos [900, 901, 2, 903, 4] ⟨(h.g 0), (h.g 8), (h.g 5), (h.g 6), (h.g 7), trivial⟩⟩
    intro a w hJ
    obtain ⟨p9, c9, r_2, h⟩ := hJ
    refine wp_block ?_
    refine loop_m (B := (m_law09_AttackFinds_L1 s2 r2)) (fun (s3 : Int) a w => SS A [] w0 46 [(6, .pointer (some ⟨b3, 0, none⟩)), (7, .slice p6 (List.length r2.2.1) c6), (28, .slice p9 (List.length s2.1) c9), (29, vi s2.2.1), (30, vi s3)] [[], [], bx b3 31 [.slice p3 (List.length r2.1.1) c3, .slice p4 (List.length r2.1.2.1) c4, .slice p5 (List.length r2.1.2.2) c5], [], r_2] [R e_Argument p6 c6 (List.length r2.2.1) r2.2.1, Ar e_Ordering 24 r_2 p9 c9 (List.length s2.1) s2.1, R e_Premise p3 c3 (List.length r2.1.1) r2.1.1, R e_Rule p4 c4 (List.length r2.1.2.1) r2.1.2.1, R e_Promotion p5 c5 (List.length r2.1.2.2) r2.1.2.2] a w) hm (h.tos [900, 901, 2, 903, 4] ⟨(h.g 1), (h.g 0), (h.g 2), (h.g 3), (h.g 4), trivial⟩) ?_
    intro s3 a w o1 hJ hm hr1
    have h := hJ
    unfold m_law09_AttackFinds_L1 at hm
    refine sp [(31, vb (decide (s3 < s2.2.1)))] h fun a h => ?_
    refine wp_seq ?_
    refine cb h rfl (fun hb2 => ?_) (fun hb2 => ?_)
    · replace hm := ifT hb2 hm
      refine wp_skip ?_
      refine then_n ?_
      refine wp_seq ?_
      refine wp_block ?_
      refine sr ?_
      obtain ⟨x3, h10, hm⟩ := bnd hm
      refine sl (b_index_arr h (h.g 1) rfl rfl h10 fun b4 hp1 a h => ?_)
      refine sl (b_load_arr 4 ((Sub.id e_Ordering)) true h (h.g 1) hp1 h10 rfl fun ci1 hc1 v1 hv1 a h => ?_)
      replace hc1 : E.rd e_Ordering _ _ ci1 x3 := hc1
      obtain ⟨_, _, rfl, rfl, rfl⟩ := hc1
      obtain rfl := Option.some.inj hv1
      have h := h.upd (t := 33) (.agg #[vi x3.1, vi x3.2]) rfl rfl
      refine sl (b_alloc h rfl fun b5 a w h e => ?_)
      refine sl (b_store_own 5 h rfl rfl rfl fun a w h e => ?_)
      refine oe ?_
      refine ds [] [2, 5] h fun w h => ?_
      refine dlo 0 2 (.agg #[.slice p3 (List.length r2.1.1) c3, .slice p4 (List.length r2.1.2.1) c4, .slice p5 (List.length r2.1.2.2) c5]) h rfl rfl rfl fun a h => ?_
      refine dp 1 (.slice p6 (List.length r2.2.1) c6) h rfl fun a h => ?_
      refine dlo 2 5 (.agg #[vi x3.1, vi x3.2]) h rfl rfl rfl fun a h => ?_
      refine dlo 4 2 (.agg #[.slice p3 (List.length r2.1.1) c3, .slice p4 (List.length r2.1.2.1) c4, .slice p5 (List.length r2.1.2.2) c5]) h rfl rfl rfl fun a h => ?_
      refine dp 5 (.slice p6 (List.length r2.2.1) c6) h rfl fun a h => ?_
      refine dlo 6 5 (.agg #[vi x3.1, vi x3.2]) h rfl rfl rfl fun a h => ?_
      refine d1 3 rfl ?_
      obtain ⟨r8, h11, hm⟩ := bnd hm
      refine b_call [] [] h Tryz.call15 rfl rfl (c_attack_Defeats (y0 := r2.1) (y1 := r2.2.1) (y2 := x3) (h.po [] []) ⟨(h.pf [] [] 2), (h.pf [] [] 3), (h.pf [] [] 4), (h.pf [] [] 0), trivial⟩ h11) fun v a w hp hc => ?_
      obtain ⟨p16, c16, rfl, q⟩ := hp
      have e := hc.st q [[], [], bx b3 31 [.slice p3 (List.length r2.1.1) c3, .slice p4 (List.length r2.1.2.1) c4, .slice p5 (List.length r2.1.2.2) c5], [], r_2, bx b5 24 [vi x3.1, vi x3.2]]
      have h := hc.on q [[], [], bx b3 31 [.slice p3 (List.length r2.1.1) c3, .slice p4 (List.length r2.1.2.1) c4, .slice p5 (List.length r2.1.2.2) c5], [], r_2, bx b5 24 [vi x3.1, vi x3.2]]
      refine dn h e ?_
      refine d1 7 rfl ?_
      obtain ⟨r9, h12, hm⟩ := bnd hm
      refine b_call [] [] h Tryz.call16 rfl rfl (c_ref09_Defeats (y0 := r2.1) (y1 := r2.2.1) (y2 := x3) (h.po [] []) ⟨(h.pf [] [] 3), (h.pf [] [] 4), (h.pf [] [] 5), (h.pf [] [] 1), trivial⟩ h12) fun v a w hp hc => ?_
      obtain ⟨p17, c17, rfl, q⟩ := hp
      have e := hc.st q [[], [], bx b3 31 [.slice p3 (List.length r2.1.1) c3, .slice p4 (List.length r2.1.2.1) c4, .slice p5 (List.length r2.1.2.2) c5], [], r_2, bx b5 24 [vi x3.1, vi x3.2]]
      have h := hc.on q [[], [], bx b3 31 [.slice p3 (List.length r2.1.1) c3, .slice p4 (List.length r2.1.2.1) c4, .slice p5 (List.length r2.1.2.2) c5], [], r_2, bx b5 24 [vi x3.1, vi x3.2]]
      refine dn h e ?_
      refine d1 8 rfl ?_
      obtain ⟨r10, h13, hm⟩ := bnd hm
      refine b_call [] [] h Tryz.call11 rfl rfl (c_ref09_Same (y0 := r8) (y1 := r9) (h.po [] []) ⟨(h.pf [] [] 1), (h.pf [] [] 0), trivial⟩ h13) fun v a w hp hc => ?_
      obtain ⟨rfl, q⟩ := hp
      have e := hc.st q [[], [], bx b3 31 [.slice p3 (List.length r2.1.1) c3, .slice p4 (List.length r2.1.2.1) c4, .slice p5 (List.length r2.1.2.2) c5], [], r_2, bx b5 24 [vi x3.1, vi x3.2]]
      have h := hc.on q [[], [], bx b3 31 [.slice p3 (List.length r2.1.1) c3, .slice p4 (List.length r2.1.2.1) c4, .slice p5 (List.length r2.1.2.2) c5], [], r_2, bx b5 24 [vi x3.1, vi x3.2]]
      refine dn h e ?_
      refine dp 9 (vb (!r10)) h rfl fun a h => ?_
      refine de (then_n ?_)
      refine cb h rfl (fun hb3 => ?_) (fun hb3 => ?_)
      · replace hm := ifT hb3 hm
        refine sp [(4, vb false)] h fun a h => ?_
        refine wp_ret ?_
        refine inb_r (then_r (lp_r (inb_r (then_r ?_))))
        replace hm := loopR hr1 hm
        obtain rfl := Option.some.inj hm
        replace hm := hm2
        obtain rfl := Option.some.inj hm
        exact rt1 h rfl rfl ⟨rfl, bk_sel h [] trivial⟩
      replace hm := ifF hb3 hm
      refine wp_skip ?_
      refine inb_n ?_
      refine then_n ?_
      refine reg ?_
      refine pr 2 [(30, vi (w64 (s3 + 1)))] h fun a h => ?_
      refine ops_end ?_
      obtain rfl := Option.some.inj hm
      exact lp_n rfl (h.tos [900, 901, 2, 903, 4] ⟨(h.g 2), (h.g 3), (h.g 4), (h.g 5), (h.g 6), trivial⟩)
    replace hm := ifF hb2 hm
    refine wp_exit ?_
    refine then_e (lp_e (inb_hit ?_))
    replace hm := loopR hr1 hm
    obtain rfl := Option.some.inj hm
    exact then_n ⟨_, rfl, h.tos [900, 901, 902, 903] trivial⟩
  intro a w hJ
  obtain ⟨s1, rfl, h⟩ := hJ
  refine sr ?_
  obtain ⟨r11, h14, hm⟩ := bnd hm
  refine sl (b_call [] [] h Tryz.call17 rfl rfl (c_law09_awake (h.po [] []) trivial h14) fun v a w hp hc => ?_)
  obtain ⟨rfl, q⟩ := hp
  have h := hc.on q [[], [], [], []]
  refine pr 1 [(4, vb r11)] h fun a h => ?_
  refine oe ?_
  refine wp_ret ?_
  obtain rfl := Option.some.inj hm
  exact rt1 h rfl rfl ⟨rfl, bk_sel h [] trivial⟩

theorem c_ref09_Graph {A : List Nat} {w0 : World} {y0 : Int} {y1 : List T_Attack} {p1 : Option Addr} {c1 : Nat} {r : T_Graph × Int} (hO : Own A w0 []) (hF : All [R e_Attack p1 c1 (List.length y1) y1] (bl [] ++ A) w0) (hm : m_ref09_Graph y0 y1 = some r) :
    Calls Tryz.prog 21 [vi y0, .slice p1 (List.length y1) c1].toArray w0 (Ret fun v w => ∃ (p2 : Option Addr) (c2 : Nat), v = .tuple #[.agg #[vi r.1.1, .slice p2 (List.length r.1.2) c2], vi r.2] ∧ Bk A [] w0 [] [R e_Pair p2 c2 (List.length r.1.2) r.1.2] w) := by
  unfold m_ref09_Graph at hm
  refine ent Tryz.func21 rfl hO hF fun a h => ?_
  refine sr ?_
  refine sl (b_alloc h rfl fun b1 a w h e => ?_)
  refine pr 1 [] h fun a h => ?_
  refine oe ?_
  refine wp_seq ?_
  refine seq_j (fun a w => SS A [] w0 105 [(0, vi y0), (1, .slice p1 (List.length y1) c1), (4, .pointer (some ⟨b1, 0, none⟩)), (17, vb ((decide (y0 < 0)) || (decide (40 < y0))))] [bx b1 50 [vi 0, .slice none 0 0]] [R e_Attack p1 c1 (List.length y1) y1] a w) ?_ ?_
  · refine reg ?_
    refine pr 3 [(14, vb (decide (y0 < 0)))] h fun a h => ?_
    rcases Bool.eq_false_or_eq_true (decide (y0 < 0)) with hb1 | hb1
    · have h := h.upd (t := 14) (vb true) rfl (congrArg Value.bool hb1)
      refine pr 3 [(17, vb true)] h fun a h => ?_
      refine ops_end ?_
      have h := h.upd (t := 17) (vb ((decide (y0 < 0)) || (decide (40 < y0)))) rfl (by rw [hb1]; rfl)
      exact then_n (h.to 1 ⟨(h.g 0), trivial⟩)
    · have h := h.upd (t := 14) (vb false) rfl (congrArg Value.bool hb1)
      refine pr 3 [(17, vb (decide (40 < y0)))] h fun a h => ?_
      refine ops_end ?_
      have h := h.upd (t := 17) (vb ((decide (y0 < 0)) || (decide (40 < y0)))) rfl (by rw [hb1]; rfl)
      exact then_n (h.to 1 ⟨(h.g 0), trivial⟩)
  intro a w hJ
  have h := hJ
  refine cb h rfl (fun hb2 => ?_) (fun hb2 => ?_)
  · replace hm := ifT hb2 hm
    refine sr ?_
    refine pr 1 [(18, .agg #[vi 0, .slice none 0 0])] h fun a h => ?_
    refine sl (b_store_own 0 h rfl rfl rfl fun a w h e => ?_)
    refine pr 1 [(5, vi 1)] h fun a h => ?_
    refine oe ?_
    refine wp_ret ?_
    refine then_r ?_
    obtain rfl := Option.some.inj hm
    exact rtg h rfl (vs := [.agg #[vi 0, .slice none 0 0], vi 1]) (rtc 0 h rfl rfl (resT rfl resN)) ⟨none, 0, rfl, bk_sel h [] ⟨(rnil e_Pair _ _ _ _), trivial⟩⟩
  replace hm := ifF hb2 hm
  refine wp_skip ?_
  refine then_n ?_
  obtain ⟨os1, hx, hm⟩ := bnd hm
  refine seq_j (fun a w => ∃ s1 : Unit, os1 = .inl s1 ∧ (SS A [] w0 105 [(0, vi y0), (1, .slice p1 (List.length y1) c1), (4, .pointer (some ⟨b1, 0, none⟩))] [bx b1 50 [vi 0, .slice none 0 0]] [R e_Attack p1 c1 (List.length y1) y1] a w)) ?_ ?_
  · have hm2 := hm
    replace hm := hx
    refine sp [(6, vi 0)] h fun a h => ?_
    refine wp_block ?_
    refine loop_m (B := (m_ref09_Graph_L1 y1 y0)) (fun (s2 : Int) a w => SS A [] w0 105 [(0, vi y0), (1, .slice p1 (List.length y1) c1), (4, .pointer (some ⟨b1, 0, none⟩)), (6, vi s2)] [bx b1 50 [vi 0, .slice none 0 0]] [R e_Attack p1 c1 (List.length y1) y1] a w) hm (h.to 1 ⟨(h.g 0), trivial⟩) ?_
    intro s2 a w o1 hJ hm hr1
    have h := hJ
    unfold m_ref09_Graph_L1 at hm
    refine wp_seq ?_
    refine sp [(22, vb (decide (s2 < (len y1))))] h fun a h => ?_
    refine cb h rfl (fun hb3 => ?_) (fun hb3 => ?_)
    · replace hm := ifT hb3 hm
      refine wp_skip ?_
      refine then_n ?_
      refine wp_seq ?_
      refine wp_block ?_
      obtain ⟨s3, hx, hm⟩ := bnd hm
      refine seq_j (fun a w => SS A [] w0 105 [(0, vi y0), (1, .slice p1 (List.length y1) c1), (4, .pointer (some ⟨b1, 0, none⟩)), (6, vi s2), (56, vb s3)] [bx b1 50 [vi 0, .slice none 0 0]] [R e_Attack p1 c1 (List.length y1) y1] a w) ?_ ?_
      · replace hm := hx
        refine reg ?_
        refine pr 2 [(26, vi s2), (25, .slice p1 (List.length y1) c1)] h fun a h => ?_
        obtain ⟨x1, h1, hm⟩ := bnd hm
        refine sl (b_index_rd h (h.g 0) rfl rfl h1 fun b2 o2 a h => ?_)
        refine pr 1 [(28, .pointer (some ⟨b2, o2, none⟩))] h fun a h => ?_
        refine sl (b_load_pt false h (PtTo.fst (h.g 0)) rfl fun ci1 hc1 v1 hv1 a h => ?_)
        replace hc1 : E.rd (eInt .i64) _ _ ci1 x1.1 := hc1
        obtain rfl := hc1
        obtain rfl := Option.some.inj hv1
        refine pr 2 [(31, vb (decide (x1.1 < 0)))] h fun a h => ?_
        rcases Bool.eq_false_or_eq_true (decide (x1.1 < 0)) with hb4 | hb4
        · have h := h.upd (t := 31) (vb true) rfl (congrArg Value.bool hb4)
          replace hm := ifT hb4 hm
          refine pr 25 [(56, vb true)] h fun a h => ?_
          refine ops_end ?_
          obtain rfl := Option.some.inj hm
          exact then_n (h.to 1 ⟨(h.g 1), trivial⟩)
        · have h := h.upd (t := 31) (vb false) rfl (congrArg Value.bool hb4)
          replace hm := ifF hb4 hm
          refine pr 2 [(33, vi s2), (32, .slice p1 (List.length y1) c1)] h fun a h => ?_
          obtain ⟨x2, h2, hm⟩ := bnd hm
          refine sl (b_index_rd h (h.g 1) rfl rfl h2 fun b3 o3 a h => ?_)
          refine pr 1 [(35, .pointer (some ⟨b3, o3, none⟩))] h fun a h => ?_
          refine sl (b_load_pt false h (PtTo.fst (h.g 0)) rfl fun ci2 hc2 v2 hv2 a h => ?_)
          replace hc2 : E.rd (eInt .i64) _ _ ci2 x2.1 := hc2
          obtain rfl := hc2
          obtain rfl := Option.some.inj hv2
          refine pr 4 [(40, vb (decide (y0 ≤ x2.1)))] h fun a h => ?_
          rcases Bool.eq_false_or_eq_true (decide (y0 ≤ x2.1)) with hb5 | hb5
          · have h := h.upd (t := 40) (vb true) rfl (congrArg Value.bool hb5)
            replace hm := ifT hb5 hm
            refine pr 16 [(56, vb true)] h fun a h => ?_
            refine ops_end ?_
            obtain rfl := Option.some.inj hm
            exact then_n (h.to 1 ⟨(h.g 2), trivial⟩)
          · have h := h.upd (t := 40) (vb false) rfl (congrArg Value.bool hb5)
            replace hm := ifF hb5 hm
            refine pr 2 [(42, vi s2), (41, .slice p1 (List.length y1) c1)] h fun a h => ?_
            obtain ⟨x3, h3, hm⟩ := bnd hm
            refine sl (b_index_rd h (h.g 2) rfl rfl h3 fun b4 o4 a h => ?_)
            refine pr 1 [(44, .pointer (some ⟨b4, (o4 + 1), none⟩))] h fun a h => ?_
            refine sl (b_load_pt false h (PtTo.fst (PtTo.snd (h.g 0))) rfl fun ci3 hc3 v3 hv3 a h => ?_)
            replace hc3 : E.rd (eInt .i64) _ _ ci3 x3.2.1 := hc3
            obtain rfl := hc3
            obtain rfl := Option.some.inj hv3
            refine pr 3 [(48, vb (decide (x3.2.1 < 0)))] h fun a h => ?_
            rcases Bool.eq_false_or_eq_true (decide (x3.2.1 < 0)) with hb6 | hb6
            · have h := h.upd (t := 48) (vb true) rfl (congrArg Value.bool hb6)
              replace hm := ifT hb6 hm
              refine pr 8 [(56, vb true)] h fun a h => ?_
              refine ops_end ?_
              obtain rfl := Option.some.inj hm
              exact then_n (h.to 1 ⟨(h.g 3), trivial⟩)
            · have h := h.upd (t := 48) (vb false) rfl (congrArg Value.bool hb6)
              replace hm := ifF hb6 hm
              refine pr 2 [(50, vi s2), (49, .slice p1 (List.length y1) c1)] h fun a h => ?_
              obtain ⟨x4, h4, hm⟩ := bnd hm
              refine sl (b_index_rd h (h.g 3) rfl rfl h4 fun b5 o5 a h => ?_)
              refine pr 1 [(52, .pointer (some ⟨b5, (o5 + 1), none⟩))] h fun a h => ?_
              refine sl (b_load_pt false h (PtTo.fst (PtTo.snd (h.g 0))) rfl fun ci4 hc4 v4 hv4 a h => ?_)
              replace hc4 : E.rd (eInt .i64) _ _ ci4 x4.2.1 := hc4
              obtain rfl := hc4
              obtain rfl := Option.some.inj hv4
              refine pr 3 [(56, vb (decide (y0 ≤ x4.2.1)))] h fun a h => ?_
              refine ops_end ?_
              obtain rfl := Option.some.inj hm
              exact then_n (h.to 1 ⟨(h.g 4), trivial⟩)
      intro a w hJ
      have h := hJ
      refine cb h rfl (fun hb7 => ?_) (fun hb7 => ?_)
      · replace hm := ifT hb7 hm
        refine sr ?_
        refine pr 1 [(57, .agg #[vi 0, .slice none 0 0])] h fun a h => ?_
        refine sl (b_store_own 0 h rfl rfl rfl fun a w h e => ?_)
        refine pr 1 [(5, vi 1)] h fun a h => ?_
        refine oe ?_
        refine wp_ret ?_
        refine inb_r (then_r (lp_r (inb_r (then_r ?_))))
        replace hm := loopR hr1 hm
        obtain rfl := Option.some.inj hm
        replace hm := hm2
        obtain rfl := Option.some.inj hm
        exact rtg h rfl (vs := [.agg #[vi 0, .slice none 0 0], vi 1]) (rtc 0 h rfl rfl (resT rfl resN)) ⟨none, 0, rfl, bk_sel h [] ⟨(rnil e_Pair _ _ _ _), trivial⟩⟩
      replace hm := ifF hb7 hm
      refine wp_skip ?_
      refine inb_n ?_
      refine then_n ?_
      refine reg ?_
      refine pr 3 [(6, vi (w64 (s2 + 1)))] h fun a h => ?_
      refine ops_end ?_
      obtain rfl := Option.some.inj hm
      exact lp_n rfl (h.to 1 ⟨(h.g 0), trivial⟩)
    replace hm := ifF hb3 hm
    refine wp_exit ?_
    refine then_e (lp_e (inb_hit ?_))
    replace hm := loopR hr1 hm
    obtain rfl := Option.some.inj hm
    exact then_n ⟨_, rfl, h.to 1 ⟨(h.g 0), trivial⟩⟩
  intro a w hJ
  obtain ⟨s1, rfl, h⟩ := hJ
  refine sr ?_
  refine pr 2 [(59, .agg #[vi y0, .slice none 0 0])] h fun a h => ?_
  have h := h.room e_Pair 87
  refine sl (b_alloc h rfl fun b6 a w h e => ?_)
  refine sl (b_store_own 2 h rfl rfl rfl fun a w h e => ?_)
  refine oe ?_
  obtain ⟨s4, hx, hm⟩ := bnd hm
  refine seq_j (fun a w => ∃ (p2 : Option Addr) (c2 : Nat) (r_1 : Res), SS A [] w0 105 [(4, .pointer (some ⟨b1, 0, none⟩)), (7, .pointer (some ⟨b6, 0, none⟩))] [bx b1 50 [vi 0, .slice none 0 0], r_1, bx b6 50 [vi y0, .slice p2 (List.length s4) c2]] [Ar e_Pair 87 r_1 p2 c2 (List.length s4) s4] a w) ?_ ?_
  · have hm2 := hm
    replace hm := hx
    refine sp [(8, vi 0)] h fun a h => ?_
    refine wp_block ?_
    refine loop_m (B := (m_ref09_Graph_L2 y0 y1)) (fun (s5 : Int × (List T_Pair)) a w => ∃ (p3 : Option Addr) (c3 : Nat) (r_2 : Res), SS A [] w0 105 [(0, vi y0), (1, .slice p1 (List.length y1) c1), (4, .pointer (some ⟨b1, 0, none⟩)), (7, .pointer (some ⟨b6, 0, none⟩)), (8, vi s5.1)] [bx b1 50 [vi 0, .slice none 0 0], r_2, bx b6 50 [vi y0, .slice p3 (List.length s5.2) c3]] [Ar e_Pair 87 r_2 p3 c3 (List.length s5.2) s5.2, R e_Attack p1 c1 (List.length y1) y1] a w) hm ⟨none, 0, [], h.to 3 ⟨(h.g 0), (h.g 1), trivial⟩⟩ ?_
    intro s5 a w o6 hJ hm hr2
    obtain ⟨p3, c3, r_2, h⟩ := hJ
    unfold m_ref09_Graph_L2 at hm
    refine wp_seq ?_
    refine sp [(62, vb (decide (s5.1 < y0)))] h fun a h => ?_
    refine cb h rfl (fun hb8 => ?_) (fun hb8 => ?_)
    · replace hm := ifT hb8 hm
      refine wp_skip ?_
      refine then_n ?_
      refine wp_seq ?_
      refine wp_block ?_
      refine sp [(9, vi 0)] h fun a h => ?_
      refine wp_block ?_
      refine loop_m (B := (m_ref09_Graph_L3 y0 y1 s5)) (fun (s6 : Int × (List T_Pair)) a w => ∃ (p4 : Option Addr) (c4 : Nat) (r_3 : Res), SS A [] w0 105 [(0, vi y0), (1, .slice p1 (List.length y1) c1), (4, .pointer (some ⟨b1, 0, none⟩)), (7, .pointer (some ⟨b6, 0, none⟩)), (8, vi s5.1), (9, vi s6.1)] [bx b1 50 [vi 0, .slice none 0 0], r_3, bx b6 50 [vi y0, .slice p4 (List.length s6.2) c4]] [Ar e_Pair 87 r_3 p4 c4 (List.length s6.2) s6.2, R e_Attack p1 c1 (List.length y1) y1] a w) hm ⟨p3, c3, r_2, h.to 3 ⟨(h.g 0), (h.g 1), trivial⟩⟩ ?_
      intro s6 a w o7 hJ hm hr3
      obtain ⟨p4, c4, r_3, h⟩ := hJ
      unfold m_ref09_Graph_L3 at hm
      refine wp_seq ?_
      refine sp [(67, vb (decide (s6.1 < y0)))] h fun a h => ?_
      refine cb h rfl (fun hb9 => ?_) (fun hb9 => ?_)
      · replace hm := ifT hb9 hm
        refine wp_skip ?_
        refine then_n ?_
        refine wp_seq ?_
        refine wp_block ?_
        refine sp [(10, vb false)] h fun a h => ?_
        obtain ⟨s7, hx, hm⟩ := bnd hm
        refine seq_j (fun a w => SS A [] w0 105 [(0, vi y0), (1, .slice p1 (List.length y1) c1), (4, .pointer (some ⟨b1, 0, none⟩)), (7, .pointer (some ⟨b6, 0, none⟩)), (8, vi s5.1), (9, vi s6.1), (10, vb s7)] [bx b1 50 [vi 0, .slice none 0 0], r_3, bx b6 50 [vi y0, .slice p4 (List.length s6.2) c4]] [R e_Attack p1 c1 (List.length y1) y1, Ar e_Pair 87 r_3 p4 c4 (List.length s6.2) s6.2] a w) ?_ ?_
        · have hm2 := hm
          replace hm := hx
          refine sp [(11, vi 0)] h fun a h => ?_
          refine wp_block ?_
          refine loop_m (B := (m_ref09_Graph_L4 y1 s5 s6)) (fun (s8 : Bool × Int) a w => SS A [] w0 105 [(0, vi y0), (1, .slice p1 (List.length y1) c1), (4, .pointer (some ⟨b1, 0, none⟩)), (7, .pointer (some ⟨b6, 0, none⟩)), (8, vi s5.1), (9, vi s6.1), (10, vb s8.1), (11, vi s8.2)] [bx b1 50 [vi 0, .slice none 0 0], r_3, bx b6 50 [vi y0, .slice p4 (List.length s6.2) c4]] [R e_Attack p1 c1 (List.length y1) y1, Ar e_Pair 87 r_3 p4 c4 (List.length s6.2) s6.2] a w) hm (h.to 3 ⟨(h.g 1), (h.g 0), trivial⟩) ?_
          intro s8 a w o8 hJ hm hr4
          have h := hJ
          unfold m_ref09_Graph_L4 at hm
          refine wp_seq ?_
          refine sp [(73, vb (decide (s8.2 < (len y1))))] h fun a h => ?_
          refine cb h rfl (fun hb10 => ?_) (fun hb10 => ?_)
          · replace hm := ifT hb10 hm
            refine wp_skip ?_
            refine then_n ?_
            refine wp_seq ?_
            refine wp_block ?_
            obtain ⟨s9, hx, hm⟩ := bnd hm
            refine code_j (fun a w => SS A [] w0 105 [(0, vi y0), (1, .slice p1 (List.length y1) c1), (4, .pointer (some ⟨b1, 0, none⟩)), (7, .pointer (some ⟨b6, 0, none⟩)), (8, vi s5.1), (9, vi s6.1), (10, vb s9), (11, vi s8.2)] [bx b1 50 [vi 0, .slice none 0 0], r_3, bx b6 50 [vi y0, .slice p4 (List.length s6.2) c4]] [R e_Attack p1 c1 (List.length y1) y1, Ar e_Pair 87 r_3 p4 c4 (List.length s6.2) s6.2] a w) ?_ ?_
            · replace hm := hx
              refine reg ?_
              refine pr 2 [(77, vb s8.1)] h fun a h => ?_
              rcases Bool.eq_false_or_eq_true s8.1 with hb11 | hb11
              · have h := h.upd (t := 77) (vb true) rfl (congrArg Value.bool hb11)
                replace hm := ifT hb11 hm
                refine pr 18 [(10, vb true)] h fun a h => ?_
                refine ops_end ?_
                obtain rfl := Option.some.inj hm
                exact then_n (h.to 3 ⟨(h.g 0), (h.g 1), trivial⟩)
              · have h := h.upd (t := 77) (vb false) rfl (congrArg Value.bool hb11)
                replace hm := ifF hb11 hm
                refine pr 2 [(79, vi s8.2), (78, .slice p1 (List.length y1) c1)] h fun a h => ?_
                obtain ⟨x5, h5, hm⟩ := bnd hm
                refine sl (b_index_rd h (h.g 0) rfl rfl h5 fun b7 o9 a h => ?_)
                refine pr 1 [(81, .pointer (some ⟨b7, o9, none⟩))] h fun a h => ?_
                refine sl (b_load_pt false h (PtTo.fst (h.g 0)) rfl fun ci5 hc5 v5 hv5 a h => ?_)
                replace hc5 : E.rd (eInt .i64) _ _ ci5 x5.1 := hc5
                obtain rfl := hc5
                obtain rfl := Option.some.inj hv5
                refine pr 3 [(85, vb (x5.1 == s5.1))] h fun a h => ?_
                rcases Bool.eq_false_or_eq_true (x5.1 == s5.1) with hb12 | hb12
                · have h := h.upd (t := 85) (vb true) rfl (congrArg Value.bool hb12)
                  replace hm := ifT hb12 hm
                  refine pr 2 [(87, vi s8.2), (86, .slice p1 (List.length y1) c1)] h fun a h => ?_
                  obtain ⟨x6, h6, hm⟩ := bnd hm
                  refine sl (b_index_rd h (h.g 1) rfl rfl h6 fun b8 o10 a h => ?_)
                  refine pr 1 [(89, .pointer (some ⟨b8, (o10 + 1), none⟩))] h fun a h => ?_
                  refine sl (b_load_pt false h (PtTo.fst (PtTo.snd (h.g 0))) rfl fun ci6 hc6 v6 hv6 a h => ?_)
                  replace hc6 : E.rd (eInt .i64) _ _ ci6 x6.2.1 := hc6
                  obtain rfl := hc6
                  obtain rfl := Option.some.inj hv6
                  refine pr 5 [(10, vb (x6.2.1 == s6.1))] h fun a h => ?_
                  refine ops_end ?_
                  obtain rfl := Option.some.inj hm
                  exact then_n (h.to 3 ⟨(h.g 2), (h.g 3), trivial⟩)
                · have h := h.upd (t := 85) (vb false) rfl (congrArg Value.bool hb12)
                  replace hm := ifF hb12 hm
                  refine pr 10 [(10, vb false)] h fun a h => ?_
                  refine ops_end ?_
                  obtain rfl := Option.some.inj hm
                  exact then_n (h.to 3 ⟨(h.g 1), (h.g 2), trivial⟩)
            intro a w hJ
            have h := hJ
            refine inb_n ?_
            refine then_n ?_
            refine reg ?_
            refine pr 3 [(11, vi (w64 (s8.2 + 1)))] h fun a h => ?_
            refine ops_end ?_
            obtain rfl := Option.some.inj hm
            exact lp_n rfl (h.to 3 ⟨(h.g 0), (h.g 1), trivial⟩)
          replace hm := ifF hb10 hm
          refine wp_exit ?_
          refine then_e (lp_e (inb_hit ?_))
          replace hm := loopR hr4 hm
          obtain rfl := Option.some.inj hm
          exact then_n (h.to 3 ⟨(h.g 0), (h.g 1), trivial⟩)
        intro a w hJ
        have h := hJ
        refine sp [(95, vb s7)] h fun a h => ?_
        refine cb h rfl (fun hb13 => ?_) (fun hb13 => ?_)
        · replace hm := ifT hb13 hm
          refine reg ?_
          refine pr 1 [(96, .pointer (some ⟨b6, 1, none⟩))] h fun a h => ?_
          refine sl (b_load_own 2 (.slice p4 (List.length s6.2) c4) h rfl rfl fun a h => ?_)
          refine pr 3 [(100, .agg #[vi s5.1, vi s6.1])] h fun a h => ?_
          refine sl (b_bs_rd (te := 87) (e := e_Pair) [vi s5.1, vi s6.1] ([(s5.1, s6.1)] : List T_Pair) h ⟨_, _, rfl, eProd.mk eInt.mk eInt.mk, rfl⟩ fun p5 c5 a w h e => ?_)
          obtain ⟨x7, h7, hm⟩ := bnd hm
          refine sl (b_append_r (te := 87) 1 h (h.g 2) (h.g 0) rfl rfl h7 fun r_4 p6 c6 a w h e => ?_)
          refine pr 1 [(103, .pointer (some ⟨b6, 1, none⟩))] h fun a h => ?_
          refine sl (b_store_own 2 h rfl rfl rfl fun a w h e => ?_)
          refine ops_end ?_
          refine inb_n ?_
          refine then_n ?_
          refine reg ?_
          refine pr 3 [(9, vi (w64 (s6.1 + 1)))] h fun a h => ?_
          refine ops_end ?_
          obtain rfl := Option.some.inj hm
          exact lp_n rfl ⟨p6, c6, r_4, h.to 3 ⟨(h.g 0), (h.g 2), trivial⟩⟩
        replace hm := ifF hb13 hm
        refine wp_skip ?_
        refine inb_n ?_
        refine then_n ?_
        refine reg ?_
        refine pr 3 [(9, vi (w64 (s6.1 + 1)))] h fun a h => ?_
        refine ops_end ?_
        obtain rfl := Option.some.inj hm
        exact lp_n rfl ⟨p4, c4, r_3, h.to 3 ⟨(h.g 1), (h.g 0), trivial⟩⟩
      replace hm := ifF hb9 hm
      refine wp_exit ?_
      refine then_e (lp_e (inb_hit ?_))
      replace hm := loopR hr3 hm
      refine inb_n ?_
      refine then_n ?_
      refine reg ?_
      refine pr 3 [(8, vi (w64 (s5.1 + 1)))] h fun a h => ?_
      refine ops_end ?_
      obtain rfl := Option.some.inj hm
      exact lp_n rfl ⟨p4, c4, r_3, h.to 3 ⟨(h.g 0), (h.g 1), trivial⟩⟩
    replace hm := ifF hb8 hm
    refine wp_exit ?_
    refine then_e (lp_e (inb_hit ?_))
    replace hm := loopR hr2 hm
    obtain rfl := Option.some.inj hm
    exact then_n ⟨p3, c3, r_2, h.to 3 ⟨(h.g 0), trivial⟩⟩
  intro a w hJ
  obtain ⟨p2, c2, r_1, h⟩ := hJ
  refine sr ?_
  refine sl (b_load_own 2 (.agg #[vi y0, .slice p2 (List.length s4) c2]) h rfl rfl fun a h => ?_)
  refine sl (b_store_own 0 h rfl rfl rfl fun a w h e => ?_)
  refine pr 1 [(5, vi 0)] h fun a h => ?_
  refine oe ?_
  refine wp_ret ?_
  obtain rfl := Option.some.inj hm
  have h := h.share 1 (h.g 0)
  exact rtg h rfl (vs := [.agg #[vi y0, .slice p2 (List.length s4) c2], vi 0]) (rtc 0 h rfl rfl (resT rfl resN)) ⟨p2, c2, rfl, bk_sel h [] ⟨(h.g 0), trivial⟩⟩

theorem c_ref09_SameGraph {A : List Nat} {w0 : World} {y0 : T_Graph} {p1 : Option Addr} {c1 : Nat} {y1 : T_Graph} {p2 : Option Addr} {c2 : Nat} {r : Bool} (hO : Own A w0 []) (hF : All [R e_Pair p1 c1 (List.length y0.2) y0.2, R e_Pair p2 c2 (List.length y1.2) y1.2] (bl [] ++ A) w0) (hm : m_ref09_SameGraph y0 y1 = some r) :
    Calls Tryz.prog 22 [.agg #[vi y0.1, .slice p1 (List.length y0.2) c1], .agg #[vi y1.1, .slice p2 (List.length y1.2) c2]].toArray w0 (Ret fun v w => v = vb r ∧ Bk A [] w0 [] [] w) := by
  unfold m_ref09_SameGraph at hm
  refine ent Tryz.func22 rfl hO hF fun a h => ?_
  refine sr ?_
  refine sl (b_box h rfl fun b1 a w h e => ?_)
  refine sl (b_box h rfl fun b2 a w h e => ?_)
  refine pr 1 [] h fun a h => ?_
  refine oe ?_
  refine wp_seq ?_
  refine seq_j (fun a w => SS A [] w0 38 [(2, .pointer (some ⟨b1, 0, none⟩)), (3, .pointer (some ⟨b2, 0, none⟩)), (19, vb ((y0.1 != y1.1) || ((len y0.2) != (len y1.2))))] [bx b1 50 [vi y0.1, .slice p1 (List.length y0.2) c1], bx b2 50 [vi y1.1, .slice p2 (List.length y1.2) c2]] [R e_Pair p1 c1 (List.length y0.2) y0.2, R e_Pair p2 c2 (List.length y1.2) y1.2] a w) ?_ ?_
  · refine reg ?_
    refine pr 1 [(6, .pointer (some ⟨b1, 0, none⟩))] h fun a h => ?_
    refine sl (b_load_own 0 (vi y0.1) h rfl rfl fun a h => ?_)
    refine pr 1 [(8, .pointer (some ⟨b2, 0, none⟩))] h fun a h => ?_
    refine sl (b_load_own 1 (vi y1.1) h rfl rfl fun a h => ?_)
    refine pr 2 [(11, vb (y0.1 != y1.1))] h fun a h => ?_
    rcases Bool.eq_false_or_eq_true (y0.1 != y1.1) with hb1 | hb1
    · have h := h.upd (t := 11) (vb true) rfl (congrArg Value.bool hb1)
      refine pr 8 [(19, vb true)] h fun a h => ?_
      refine ops_end ?_
      have h := h.upd (t := 19) (vb ((y0.1 != y1.1) || ((len y0.2) != (len y1.2)))) rfl (by rw [hb1]; rfl)
      exact then_n (h.to 2 ⟨(h.g 0), (h.g 1), trivial⟩)
    · have h := h.upd (t := 11) (vb false) rfl (congrArg Value.bool hb1)
      refine pr 1 [(12, .pointer (some ⟨b1, 1, none⟩))] h fun a h => ?_
      refine sl (b_load_own 0 (.slice p1 (List.length y0.2) c1) h rfl rfl fun a h => ?_)
      refine pr 2 [(15, .pointer (some ⟨b2, 1, none⟩)), (14, vi (len y0.2))] h fun a h => ?_
      refine sl (b_load_own 1 (.slice p2 (List.length y1.2) c2) h rfl rfl fun a h => ?_)
      refine pr 3 [(19, vb ((len y0.2) != (len y1.2)))] h fun a h => ?_
      refine ops_end ?_
      have h := h.upd (t := 19) (vb ((y0.1 != y1.1) || ((len y0.2) != (len y1.2)))) rfl (by rw [hb1]; rfl)
      exact then_n (h.to 2 ⟨(h.g 0), (h.g 1), trivial⟩)
  intro a w hJ
  have h := hJ
  refine cb h rfl (fun hb2 => ?_) (fun hb2 => ?_)
  · replace hm := ifT hb2 hm
    refine sp [(4, vb false)] h fun a h => ?_
    refine wp_ret ?_
    refine then_r ?_
    obtain rfl := Option.some.inj hm
    exact rt1 h rfl rfl ⟨rfl, bk_sel h [] trivial⟩
  replace hm := ifF hb2 hm
  refine wp_skip ?_
  refine then_n ?_
  refine wp_seq ?_
  refine sp [(5, vi 0)] h fun a h => ?_
  refine wp_block ?_
  refine loop_m (B := (m_ref09_SameGraph_L1 y0 y1)) (fun (s1 : Int) a w => SS A [] w0 38 [(2, .pointer (some ⟨b1, 0, none⟩)), (3, .pointer (some ⟨b2, 0, none⟩)), (5, vi s1)] [bx b1 50 [vi y0.1, .slice p1 (List.length y0.2) c1], bx b2 50 [vi y1.1, .slice p2 (List.length y1.2) c2]] [R e_Pair p1 c1 (List.length y0.2) y0.2, R e_Pair p2 c2 (List.length y1.2) y1.2] a w) hm (h.to 2 ⟨(h.g 0), (h.g 1), trivial⟩) ?_
  intro s1 a w o1 hJ hm hr1
  have h := hJ
  unfold m_ref09_SameGraph_L1 at hm
  refine wp_seq ?_
  refine sr ?_
  refine pr 2 [(21, .pointer (some ⟨b1, 1, none⟩)), (20, vi s1)] h fun a h => ?_
  refine sl (b_load_own 0 (.slice p1 (List.length y0.2) c1) h rfl rfl fun a h => ?_)
  refine pr 2 [(24, vb (decide (s1 < (len y0.2))))] h fun a h => ?_
  refine oe ?_
  refine cb h rfl (fun hb3 => ?_) (fun hb3 => ?_)
  · replace hm := ifT hb3 hm
    refine wp_skip ?_
    refine then_n ?_
    refine wp_seq ?_
    refine wp_block ?_
    refine ds [] [0, 1] h fun w h => ?_
    refine dp 0 (.pointer (some ⟨b1, 1, none⟩)) h rfl fun a h => ?_
    refine dlo 1 0 (.slice p1 (List.length y0.2) c1) h rfl rfl rfl fun a h => ?_
    refine dp 2 (vi s1) h rfl fun a h => ?_
    obtain ⟨x1, h1, hm⟩ := bnd hm
    refine dir 3 h rfl (h.g 0) rfl rfl h1 fun b3 o2 a h => ?_
    refine dlp 4 true h rfl (h.g 0) rfl fun ci1 hc1 v1 hv1 a h => ?_
    replace hc1 : E.rd e_Pair _ _ ci1 x1 := hc1
    obtain ⟨_, _, rfl, rfl, rfl⟩ := hc1
    obtain rfl := Option.some.inj hv1
    have h := h.upd (t := 31) (.agg #[vi x1.1, vi x1.2]) rfl rfl
    refine dp 5 (.pointer (some ⟨b2, 1, none⟩)) h rfl fun a h => ?_
    refine dlo 6 1 (.slice p2 (List.length y1.2) c2) h rfl rfl rfl fun a h => ?_
    refine dp 7 (vi s1) h rfl fun a h => ?_
    obtain ⟨x2, h2, hm⟩ := bnd hm
    refine dir 8 h rfl (h.g 2) rfl rfl h2 fun b4 o3 a h => ?_
    refine dlp 9 true h rfl (h.g 0) rfl fun ci2 hc2 v2 hv2 a h => ?_
    replace hc2 : E.rd e_Pair _ _ ci2 x2 := hc2
    obtain ⟨_, _, rfl, rfl, rfl⟩ := hc2
    obtain rfl := Option.some.inj hv2
    have h := h.upd (t := 36) (.agg #[vi x2.1, vi x2.2]) rfl rfl
    refine dp 10 (vb (!(x1 == x2))) h rfl fun a h => ?_
    refine de (then_n ?_)
    refine cb h rfl (fun hb4 => ?_) (fun hb4 => ?_)
    · replace hm := ifT hb4 hm
      refine sp [(4, vb false)] h fun a h => ?_
      refine wp_ret ?_
      refine inb_r (then_r (lp_r (inb_r (then_r ?_))))
      replace hm := loopR hr1 hm
      obtain rfl := Option.some.inj hm
      exact rt1 h rfl rfl ⟨rfl, bk_sel h [] trivial⟩
    replace hm := ifF hb4 hm
    refine wp_skip ?_
    refine inb_n ?_
    refine then_n ?_
    refine reg ?_
    refine pr 3 [(5, vi (w64 (s1 + 1)))] h fun a h => ?_
    refine ops_end ?_
    obtain rfl := Option.some.inj hm
    exact lp_n rfl (h.to 2 ⟨(h.g 2), (h.g 3), trivial⟩)
  replace hm := ifF hb3 hm
  refine wp_exit ?_
  refine then_e (lp_e (inb_hit ?_))
  replace hm := loopR hr1 hm
  refine then_n ?_
  refine sp [(4, vb true)] h fun a h => ?_
  refine wp_ret ?_
  obtain rfl := Option.some.inj hm
  exact rt1 h rfl rfl ⟨rfl, bk_sel h [] trivial⟩

theorem c_law09_AttackGraphs {A : List Nat} {w0 : World} {y0 : Int} {y1 : List T_Attack} {p1 : Option Addr} {c1 : Nat} {y2 : List Int} {p2 : Option Addr} {c2 : Nat} {r : Bool} (hO : Own A w0 []) (hF : All [R e_Attack p1 c1 (List.length y1) y1, R (eInt .i64) p2 c2 (List.length y2) y2] (bl [] ++ A) w0) (hm : m_law09_AttackGraphs y0 y1 y2 = some r) :
    Calls Tryz.prog 4 [vi y0, .slice p1 (List.length y1) c1, .slice p2 (List.length y2) c2].toArray w0 (Ret fun v w => v = vb r ∧ Bk A [] w0 [] [] w) := by
  unfold m_law09_AttackGraphs at hm
  refine ent Tryz.func4 rfl hO hF fun a h => ?_
  refine sp [] h fun a h => ?_
  refine wp_seq ?_
  refine sp [(20, vb (decide (60 < (len y1))))] h fun a h => ?_
  refine cb h rfl (fun hb1 => ?_) (fun hb1 => ?_)
  · replace hm := ifT hb1 hm
    refine sp [(6, vb true)] h fun a h => ?_
    refine wp_ret ?_
    refine then_r ?_
    obtain rfl := Option.some.inj hm
    exact rt1 h rfl rfl ⟨rfl, bk_sel h [] trivial⟩
  replace hm := ifF hb1 hm
  refine wp_skip ?_
  refine then_n ?_
  refine sr ?_
  refine pr 1 [(21, .slice p2 (List.length y2) c2)] h fun a h => ?_
  obtain ⟨r1, h1, hm⟩ := bnd hm
  refine sl (b_call [] [] h Tryz.call9 rfl rfl (c_keep_New (y0 := y2) (h.po [] []) ⟨(h.pf [] [] 1), trivial⟩ h1) fun v a w hp hc => ?_)
  obtain ⟨b1, p3, c3, rfl, q⟩ := hp
  have h := hc.on q [bx b1 71 [.slice p3 (List.length r1.1) c3, vi r1.2]]
  refine pr 1 [(7, .pointer (some ⟨b1, 0, none⟩))] h fun a h => ?_
  refine oe ?_
  refine sr ?_
  refine pr 1 [(8, .slice none 0 0)] h fun a h => ?_
  have h := h.room e_Attack 45
  refine oe ?_
  obtain ⟨s1, hx, hm⟩ := bnd hm
  refine seq_j (fun a w => ∃ (p4 : Option Addr) (c4 : Nat) (r_1 : Res), SS A [] w0 86 [(0, vi y0), (1, .slice p1 (List.length y1) c1), (7, .pointer (some ⟨b1, 0, none⟩)), (8, .slice p4 (List.length s1.1) c4)] [bx b1 71 [.slice p3 (List.length r1.1) c3, vi s1.2], r_1] [Ar e_Attack 45 r_1 p4 c4 (List.length s1.1) s1.1, R e_Attack p1 c1 (List.length y1) y1, R (eInt .i64) p3 c3 (List.length r1.1) r1.1] a w) ?_ ?_
  · have hm2 := hm
    replace hm := hx
    refine sr ?_
    refine pr 1 [(23, .pointer (some ⟨b1, 0, none⟩))] h fun a h => ?_
    obtain ⟨r2, h2, hm⟩ := bnd hm
    refine sl (b_call [0] [] h Tryz.call18 rfl rfl (c_keep_Src_N (y0 := r1) (y1 := 20) (h.po [0] []) ⟨(h.pf [0] [] 1), trivial⟩ h2) fun v a w hp hc => ?_)
    obtain ⟨rfl, q⟩ := hp
    have h := hc.on q [bx b1 71 [.slice p3 (List.length r1.1) c3, vi r2.2], []]
    refine pr 1 [(9, vi r2.1)] h fun a h => ?_
    refine oe ?_
    refine wp_block ?_
    refine loop_m (B := (m_law09_AttackGraphs_L1 r1)) (fun (s2 : (List T_Attack) × Int × Int) a w => ∃ (p5 : Option Addr) (c5 : Nat) (r_2 : Res), SS A [] w0 86 [(0, vi y0), (1, .slice p1 (List.length y1) c1), (7, .pointer (some ⟨b1, 0, none⟩)), (8, .slice p5 (List.length s2.1) c5), (9, vi s2.2.1)] [bx b1 71 [.slice p3 (List.length r1.1) c3, vi s2.2.2], r_2] [Ar e_Attack 45 r_2 p5 c5 (List.length s2.1) s2.1, R e_Attack p1 c1 (List.length y1) y1, R (eInt .i64) p3 c3 (List.length r1.1) r1.1] a w) hm ⟨none, 0, [], h.to 2 ⟨(h.g 0), (h.g 2), (h.g 1), trivial⟩⟩ ?_
    intro s2 a w o1 hJ hm hr1
    obtain ⟨p5, c5, r_2, h⟩ := hJ
    unfold m_law09_AttackGraphs_L1 at hm
    refine wp_seq ?_
    refine sp [(26, vb (decide (0 < s2.2.1)))] h fun a h => ?_
    refine cb h rfl (fun hb2 => ?_) (fun hb2 => ?_)
    · replace hm := ifT hb2 hm
      refine wp_skip ?_
      refine then_n ?_
      refine wp_seq ?_
      refine wp_block ?_
      refine reg ?_
      refine pr 2 [(30, .pointer (some ⟨b1, 0, none⟩)), (29, .slice p5 (List.length s2.1) c5)] h fun a h => ?_
      obtain ⟨r3, h3, hm⟩ := bnd hm
      refine sl (b_call [0] [] h Tryz.call18 rfl rfl (c_keep_Src_N (y0 := (r1.1, s2.2.2)) (y1 := 8) (h.po [0] []) ⟨(h.pf [0] [] 2), trivial⟩ h3) fun v a w hp hc => ?_)
      obtain ⟨rfl, q⟩ := hp
      have h := hc.on q [bx b1 71 [.slice p3 (List.length r1.1) c3, vi r3.2], r_2]
      refine pr 1 [(32, .pointer (some ⟨b1, 0, none⟩))] h fun a h => ?_
      obtain ⟨r4, h4, hm⟩ := bnd hm
      refine sl (b_call [0] [] h Tryz.call18 rfl rfl (c_keep_Src_N (y0 := (r1.1, r3.2)) (y1 := 8) (h.po [0] []) ⟨(h.pf [0] [] 2), trivial⟩ h4) fun v a w hp hc => ?_)
      obtain ⟨rfl, q⟩ := hp
      have h := hc.on q [bx b1 71 [.slice p3 (List.length r1.1) c3, vi r4.2], r_2]
      refine pr 1 [(34, .pointer (some ⟨b1, 0, none⟩))] h fun a h => ?_
      obtain ⟨r5, h5, hm⟩ := bnd hm
      refine sl (b_call [0] [] h Tryz.call18 rfl rfl (c_keep_Src_N (y0 := (r1.1, r4.2)) (y1 := 3) (h.po [0] []) ⟨(h.pf [0] [] 2), trivial⟩ h5) fun v a w hp hc => ?_)
      obtain ⟨rfl, q⟩ := hp
      have h := hc.on q [bx b1 71 [.slice p3 (List.length r1.1) c3, vi r5.2], r_2]
      refine pr 1 [(36, .pointer (some ⟨b1, 0, none⟩))] h fun a h => ?_
      obtain ⟨r6, h6, hm⟩ := bnd hm
      refine sl (b_call [0] [] h Tryz.call18 rfl rfl (c_keep_Src_N (y0 := (r1.1, r5.2)) (y1 := 3) (h.po [0] []) ⟨(h.pf [0] [] 2), trivial⟩ h6) fun v a w hp hc => ?_)
      obtain ⟨rfl, q⟩ := hp
      have h := hc.on q [bx b1 71 [.slice p3 (List.length r1.1) c3, vi r6.2], r_2]
      refine pr 2 [(39, .agg #[vi r3.1, vi r4.1, vi r5.1, vi (w64 (1 + r6.1))])] h fun a h => ?_
      refine sl (b_bs_rd (te := 45) (e := e_Attack) [vi r3.1, vi r4.1, vi r5.1, vi (w64 (1 + r6.1))] ([(r3.1, r4.1, r5.1, w64 (1 + r6.1))] : List T_Attack) h ⟨_, _, rfl, eProd.mk eInt.mk (eProd.mk eInt.mk (eProd.mk eInt.mk eInt.mk)), rfl⟩ fun p6 c6 a w h e => ?_)
      obtain ⟨x1, h7, hm⟩ := bnd hm
      refine sl (b_append_r (te := 45) 1 h (h.g 1) (h.g 0) rfl rfl h7 fun r_3 p7 c7 a w h e => ?_)
      refine pr 1 [(8, .slice p7 (List.length x1) c7)] h fun a h => ?_
      refine ops_end ?_
      refine inb_n ?_
      refine then_n ?_
      refine reg ?_
      refine pr 3 [(9, vi (w64 (s2.2.1 - 1)))] h fun a h => ?_
      refine ops_end ?_
      obtain rfl := Option.some.inj hm
      exact lp_n rfl ⟨p7, c7, r_3, h.to 2 ⟨(h.g 0), (h.g 3), (h.g 4), trivial⟩⟩
    replace hm := ifF hb2 hm
    refine wp_exit ?_
    refine then_e (lp_e (inb_hit ?_))
    replace hm := loopR hr1 hm
    obtain rfl := Option.some.inj hm
    exact then_n ⟨p5, c5, r_2, h.to 2 ⟨(h.g 0), (h.g 1), (h.g 2), trivial⟩⟩
  intro a w hJ
  obtain ⟨p4, c4, r_1, h⟩ := hJ
  obtain ⟨os3, hx, hm⟩ := bnd hm
  refine seq_j (fun a w => ∃ s3 : Unit, os3 = .inl s3 ∧ (SS A [] w0 86 [] [[], []] [] a w)) ?_ ?_
  · have hm2 := hm
    replace hm := hx
    refine sr ?_
    refine pr 2 [(43, .slice p4 (List.length s1.1) c4), (42, .slice p1 (List.length y1) c1)] h fun a h => ?_
    have h := h.share 1 (h.g 0)
    refine sl (b_bs_rd (te := 36) (e := eSlice e_Attack) [.slice p1 (List.length y1) c1, .slice p4 (List.length s1.1) c4] ([y1, s1.1] : List (List T_Attack)) h ⟨_, _, rfl, R.cell (h.g 2), ⟨_, _, rfl, R.cell (h.g 0), rfl⟩⟩ fun p8 c8 a w h e => ?_)
    refine pr 2 [(46, vi 0), (45, vi (len ([y1, s1.1] : List (List T_Attack))))] h fun a h => ?_
    refine oe ?_
    refine wp_block ?_
    refine loop_m (B := (m_law09_AttackGraphs_L2 y1 s1 r1 y0)) (fun (s4 : Int × Int) a w => SS A [] w0 86 [(0, vi y0), (7, .pointer (some ⟨b1, 0, none⟩)), (44, .slice p8 (List.length ([y1, s1.1] : List (List T_Attack))) c8), (45, vi (len ([y1, s1.1] : List (List T_Attack)))), (46, vi s4.1)] [bx b1 71 [.slice p3 (List.length r1.1) c3, vi s4.2], []] [R (eSlice e_Attack) p8 c8 (List.length ([y1, s1.1] : List (List T_Attack))) ([y1, s1.1] : List (List T_Attack)), R (eInt .i64) p3 c3 (List.length r1.1) r1.1] a w) hm (h.tos [0, 901] ⟨(h.g 0), (h.g 4), trivial⟩) ?_
    intro s4 a w o2 hJ hm hr2
    have h := hJ
    unfold m_law09_AttackGraphs_L2 at hm
    refine sp [(47, vb (decide (s4.1 < (len ([y1, s1.1] : List (List T_Attack))))))] h fun a h => ?_
    refine wp_seq ?_
    refine cb h rfl (fun hb3 => ?_) (fun hb3 => ?_)
    · replace hm := ifT hb3 hm
      refine wp_skip ?_
      refine then_n ?_
      refine wp_seq ?_
      refine wp_block ?_
      refine sr ?_
      obtain ⟨x2, h8, hm⟩ := bnd hm
      refine sl (b_index_rd h (h.g 0) rfl rfl h8 fun b2 o3 a h => ?_)
      refine sl (b_load_pt false h (h.g 0) rfl fun ci1 hc1 v1 hv1 a h => ?_)
      replace hc1 : E.rd (eSlice e_Attack) _ _ ci1 x2 := hc1
      obtain ⟨p9, c9, rfl, f1⟩ := hc1
      obtain rfl := Option.some.inj hv1
      have h := h.upd (t := 49) (.slice p9 (List.length x2) c9) rfl rfl
      have h := h.add (R.of f1)
      refine pr 1 [(11, .slice p9 (List.length x2) c9)] h fun a h => ?_
      refine oe ?_
      refine sr ?_
      refine pr 2 [(51, .pointer (some ⟨b1, 0, none⟩)), (50, vi y0)] h fun a h => ?_
      obtain ⟨r7, h9, hm⟩ := bnd hm
      refine sl (b_call [0] [] h Tryz.call18 rfl rfl (c_keep_Src_N (y0 := (r1.1, s4.2)) (y1 := 9) (h.po [0] []) ⟨(h.pf [0] [] 3), trivial⟩ h9) fun v a w hp hc => ?_)
      obtain ⟨rfl, q⟩ := hp
      have h := hc.on q [bx b1 71 [.slice p3 (List.length r1.1) c3, vi r7.2], []]
      refine pr 1 [(53, .pointer (some ⟨b1, 0, none⟩))] h fun a h => ?_
      refine sl (b_bs_rd (te := 3) (e := eInt .i64) [vi (-1), vi 40, vi 41] ([(-1), 40, 41] : List Int) h ⟨_, _, rfl, eInt.mk, ⟨_, _, rfl, eInt.mk, ⟨_, _, rfl, eInt.mk, rfl⟩⟩⟩ fun p10 c10 a w h e => ?_)
      obtain ⟨r8, h10, hm⟩ := bnd hm
      refine sl (b_call [0] [] h Tryz.call19 rfl rfl (c_keep_Src_Pick (y0 := (r1.1, r7.2)) (y1 := ([(-1), 40, 41] : List Int)) (h.po [0] []) ⟨(h.pf [0] [] 4), (h.pf [0] [] 0), trivial⟩ h10) fun v a w hp hc => ?_)
      obtain ⟨rfl, q⟩ := hp
      have h := hc.on q [bx b1 71 [.slice p3 (List.length r1.1) c3, vi r8.2], []]
      refine sl (b_bs_rd (te := 3) (e := eInt .i64) [vi y0, vi 8, vi r7.1, vi r8.1] ([y0, 8, r7.1, r8.1] : List Int) h ⟨_, _, rfl, eInt.mk, ⟨_, _, rfl, eInt.mk, ⟨_, _, rfl, eInt.mk, ⟨_, _, rfl, eInt.mk, rfl⟩⟩⟩⟩ fun p11 c11 a w h e => ?_)
      refine pr 2 [(58, vi 0), (57, vi (len ([y0, 8, r7.1, r8.1] : List Int)))] h fun a h => ?_
      refine oe ?_
      refine wp_block ?_
      refine loop_m (B := (m_law09_AttackGraphs_L3 y0 r7 r8 x2 s4)) (fun (s5 : Int) a w => SS A [] w0 86 [(0, vi y0), (7, .pointer (some ⟨b1, 0, none⟩)), (11, .slice p9 (List.length x2) c9), (44, .slice p8 (List.length ([y1, s1.1] : List (List T_Attack))) c8), (45, vi (len ([y1, s1.1] : List (List T_Attack)))), (46, vi s4.1), (56, .slice p11 (List.length ([y0, 8, r7.1, r8.1] : List Int)) c11), (57, vi (len ([y0, 8, r7.1, r8.1] : List Int))), (58, vi s5)] [bx b1 71 [.slice p3 (List.length r1.1) c3, vi r8.2], []] [R (eSlice e_Attack) p8 c8 (List.length ([y1, s1.1] : List (List T_Attack))) ([y1, s1.1] : List (List T_Attack)), R e_Attack p9 c9 (List.length x2) x2, R (eInt .i64) p11 c11 (List.length ([y0, 8, r7.1, r8.1] : List Int)) ([y0, 8, r7.1, r8.1] : List Int), R (eInt .i64) p3 c3 (List.length r1.1) r1.1] a w) hm (h.tos [0, 901] ⟨(h.g 4), (h.g 2), (h.g 0), (h.g 5), trivial⟩) ?_
      intro s5 a w o4 hJ hm hr3
      have h := hJ
      unfold m_law09_AttackGraphs_L3 at hm
      refine sp [(59, vb (decide (s5 < (len ([y0, 8, r7.1, r8.1] : List Int)))))] h fun a h => ?_
      refine wp_seq ?_
      refine cb h rfl (fun hb4 => ?_) (fun hb4 => ?_)
      · replace hm := ifT hb4 hm
        refine wp_skip ?_
        refine then_n ?_
        refine wp_seq ?_
        refine wp_block ?_
        refine sr ?_
        obtain ⟨x3, h11, hm⟩ := bnd hm
        refine sl (b_index_rd h (h.g 2) rfl rfl h11 fun b3 o5 a h => ?_)
        refine sl (b_load_pt false h (h.g 0) rfl fun ci2 hc2 v2 hv2 a h => ?_)
        replace hc2 : E.rd (eInt .i64) _ _ ci2 x3 := hc2
        obtain rfl := hc2
        obtain rfl := Option.some.inj hv2
        refine pr 1 [(13, vi x3)] h fun a h => ?_
        refine oe ?_
        refine sr ?_
        refine pr 2 [(64, .slice p9 (List.length x2) c9), (63, vi x3)] h fun a h => ?_
        obtain ⟨r9, h12, hm⟩ := bnd hm
        refine sl (b_call [] [] h Tryz.call20 rfl rfl (c_attack_Graph (y0 := x3) (y1 := x2) (h.po [] []) ⟨(h.pf [] [] 2), trivial⟩ h12) fun v a w hp hc => ?_)
        obtain ⟨p12, c12, rfl, q⟩ := hp
        have h := hc.on q [bx b1 71 [.slice p3 (List.length r1.1) c3, vi r8.2], []]
        refine pr 3 [(67, vi r9.2), (66, .agg #[vi r9.1.1, .slice p12 (List.length r9.1.2) c12])] h fun a h => ?_
        refine sl (b_alloc h rfl fun b4 a w h e => ?_)
        refine sl (b_store_own 2 h rfl rfl rfl fun a w h e => ?_)
        refine pr 1 [(15, vi r9.2)] h fun a h => ?_
        refine oe ?_
        refine sr ?_
        refine pr 2 [(70, .slice p9 (List.length x2) c9), (69, vi x3)] h fun a h => ?_
        obtain ⟨r10, h13, hm⟩ := bnd hm
        refine sl (b_call [] [] h Tryz.call21 rfl rfl (c_ref09_Graph (y0 := x3) (y1 := x2) (h.po [] []) ⟨(h.pf [] [] 3), trivial⟩ h13) fun v a w hp hc => ?_)
        obtain ⟨p13, c13, rfl, q⟩ := hp
        have h := hc.on q [bx b1 71 [.slice p3 (List.length r1.1) c3, vi r8.2], [], bx b4 50 [vi r9.1.1, .slice p12 (List.length r9.1.2) c12]]
        refine pr 3 [(73, vi r10.2), (72, .agg #[vi r10.1.1, .slice p13 (List.length r10.1.2) c13])] h fun a h => ?_
        refine sl (b_alloc h rfl fun b5 a w h e => ?_)
        refine sl (b_store_own 3 h rfl rfl rfl fun a w h e => ?_)
        refine pr 1 [(17, vi r10.2)] h fun a h => ?_
        refine oe ?_
        obtain ⟨s6, hx, hm⟩ := bnd hm
        refine seq_j (fun a w => SS A [] w0 86 [(0, vi y0), (7, .pointer (some ⟨b1, 0, none⟩)), (11, .slice p9 (List.length x2) c9), (44, .slice p8 (List.length ([y1, s1.1] : List (List T_Attack))) c8), (45, vi (len ([y1, s1.1] : List (List T_Attack)))), (46, vi s4.1), (56, .slice p11 (List.length ([y0, 8, r7.1, r8.1] : List Int)) c11), (57, vi (len ([y0, 8, r7.1, r8.1] : List Int))), (58, vi s5), (82, vb s6)] [bx b1 71 [.slice p3 (List.length r1.1) c3, vi r8.2], [], [], []] [R (eSlice e_Attack) p8 c8 (List.length ([y1, s1.1] : List (List T_Attack))) ([y1, s1.1] : List (List T_Attack)), R e_Attack p9 c9 (List.length x2) x2, R (eInt .i64) p11 c11 (List.length ([y0, 8, r7.1, r8.1] : List Int)) ([y0, 8, r7.1, r8.1] : List Int), R (eInt .i64) p3 c3 (List.length r1.1) r1.1] a w) ?_ ?_
        · replace hm := hx
          refine reg ?_
          refine pr 4 [(77, vb (r9.2 != r10.2))] h fun a h => ?_
          rcases Bool.eq_false_or_eq_true (r9.2 != r10.2) with hb5 | hb5
          · have h := h.upd (t := 77) (vb true) rfl (congrArg Value.bool hb5)
            replace hm := ifT hb5 hm
            refine pr 5 [(82, vb true)] h fun a h => ?_
            refine ops_end ?_
            obtain rfl := Option.some.inj hm
            exact then_n (h.tos [0, 901, 902, 903] ⟨(h.g 3), (h.g 4), (h.g 5), (h.g 6), trivial⟩)
          · have h := h.upd (t := 77) (vb false) rfl (congrArg Value.bool hb5)
            replace hm := ifF hb5 hm
            refine sl (b_load_own 2 (.agg #[vi r9.1.1, .slice p12 (List.length r9.1.2) c12]) h rfl rfl fun a h => ?_)
            refine sl (b_load_own 3 (.agg #[vi r10.1.1, .slice p13 (List.length r10.1.2) c13]) h rfl rfl fun a h => ?_)
            obtain ⟨r11, h14, hm⟩ := bnd hm
            refine sl (b_call [] [] h Tryz.call22 rfl rfl (c_ref09_SameGraph (y0 := r9.1) (y1 := r10.1) (h.po [] []) ⟨(h.pf [] [] 1), (h.pf [] [] 0), trivial⟩ h14) fun v a w hp hc => ?_)
            obtain ⟨rfl, q⟩ := hp
            have h := hc.on q [bx b1 71 [.slice p3 (List.length r1.1) c3, vi r8.2], [], bx b4 50 [vi r9.1.1, .slice p12 (List.length r9.1.2) c12], bx b5 50 [vi r10.1.1, .slice p13 (List.length r10.1.2) c13]]
            refine pr 2 [(82, vb (!r11))] h fun a h => ?_
            refine ops_end ?_
            obtain rfl := Option.some.inj hm
            exact then_n (h.tos [0, 901, 902, 903] ⟨(h.g 3), (h.g 4), (h.g 5), (h.g 6), trivial⟩)
        intro a w hJ
        have h := hJ
        refine cb h rfl (fun hb6 => ?_) (fun hb6 => ?_)
        · replace hm := ifT hb6 hm
          refine sp [(6, vb false)] h fun a h => ?_
          refine wp_ret ?_
          refine inb_r (then_r (lp_r (inb_r (inb_r (then_r (lp_r (inb_r (then_r ?_))))))))
          replace hm := loopR hr3 hm
          replace hm := loopR hr2 hm
          obtain rfl := Option.some.inj hm
          replace hm := hm2
          obtain rfl := Option.some.inj hm
          exact rt1 h rfl rfl ⟨rfl, bk_sel h [] trivial⟩
        replace hm := ifF hb6 hm
        refine wp_skip ?_
        refine inb_n ?_
        refine then_n ?_
        refine reg ?_
        refine pr 2 [(58, vi (w64 (s5 + 1)))] h fun a h => ?_
        refine ops_end ?_
        obtain rfl := Option.some.inj hm
        exact lp_n rfl (h.tos [0, 901] ⟨(h.g 0), (h.g 1), (h.g 2), (h.g 3), trivial⟩)
      replace hm := ifF hb4 hm
      refine wp_exit ?_
      refine then_e (lp_e (inb_hit ?_))
      replace hm := loopR hr3 hm
      refine inb_n ?_
      refine then_n ?_
      refine reg ?_
      refine pr 2 [(46, vi (w64 (s4.1 + 1)))] h fun a h => ?_
      refine ops_end ?_
      obtain rfl := Option.some.inj hm
      exact lp_n rfl (h.tos [0, 901] ⟨(h.g 0), (h.g 3), trivial⟩)
    replace hm := ifF hb3 hm
    refine wp_exit ?_
    refine then_e (lp_e (inb_hit ?_))
    replace hm := loopR hr2 hm
    obtain rfl := Option.some.inj hm
    exact then_n ⟨_, rfl, h.tos [900, 901] trivial⟩
  intro a w hJ
  obtain ⟨s3, rfl, h⟩ := hJ
  refine sr ?_
  obtain ⟨r12, h15, hm⟩ := bnd hm
  refine sl (b_call [] [] h Tryz.call17 rfl rfl (c_law09_awake (h.po [] []) trivial h15) fun v a w hp hc => ?_)
  obtain ⟨rfl, q⟩ := hp
  have h := hc.on q [[], []]
  refine pr 1 [(6, vb r12)] h fun a h => ?_
  refine oe ?_
  refine wp_ret ?_
  obtain rfl := Option.some.inj hm
  exact rt1 h rfl rfl ⟨rfl, bk_sel h [] trivial⟩

theorem c_law09_has {A : List Nat} {w0 : World} {y0 : List T_Attack} {p1 : Option Addr} {c1 : Nat} {y1 : Int} {y2 : Int} {y3 : Int} {r : Bool} (hO : Own A w0 []) (hF : All [R e_Attack p1 c1 (List.length y0) y0] (bl [] ++ A) w0) (hm : m_law09_has y0 y1 y2 y3 = some r) :
    Calls Tryz.prog 24 [.slice p1 (List.length y0) c1, vi y1, vi y2, vi y3].toArray w0 (Ret fun v w => v = vb r ∧ Bk A [] w0 [] [] w) := by
  unfold m_law09_has at hm
  refine ent Tryz.func24 rfl hO hF fun a h => ?_
  refine sp [] h fun a h => ?_
  refine wp_seq ?_
  refine sp [(12, vi 0), (11, vi (len y0))] h fun a h => ?_
  refine wp_block ?_
  refine loop_m (B := (m_law09_has_L1 y0 y1 y2 y3)) (fun (s1 : Int) a w => SS A [] w0 41 [(0, .slice p1 (List.length y0) c1), (1, vi y1), (2, vi y2), (3, vi y3), (11, vi (len y0)), (12, vi s1)] [] [R e_Attack p1 c1 (List.length y0) y0] a w) hm (h.to 0 ⟨(h.g 0), trivial⟩) ?_
  intro s1 a w o1 hJ hm hr1
  have h := hJ
  unfold m_law09_has_L1 at hm
  refine sp [(13, vb (decide (s1 < (len y0))))] h fun a h => ?_
  refine wp_seq ?_
  refine cb h rfl (fun hb1 => ?_) (fun hb1 => ?_)
  · replace hm := ifT hb1 hm
    refine wp_skip ?_
    refine then_n ?_
    refine wp_seq ?_
    refine wp_block ?_
    refine sp [(9, vi s1)] h fun a h => ?_
    obtain ⟨s2, hx, hm⟩ := bnd hm
    refine seq_j (fun a w => SS A [] w0 41 [(0, .slice p1 (List.length y0) c1), (1, vi y1), (2, vi y2), (3, vi y3), (11, vi (len y0)), (12, vi s1), (39, vb s2)] [] [R e_Attack p1 c1 (List.length y0) y0] a w) ?_ ?_
    · replace hm := hx
      refine reg ?_
      refine pr 2 [(16, vi s1), (15, .slice p1 (List.length y0) c1)] h fun a h => ?_
      obtain ⟨x1, h1, hm⟩ := bnd hm
      refine sl (b_index_rd h (h.g 0) rfl rfl h1 fun b1 o2 a h => ?_)
      refine pr 1 [(18, .pointer (some ⟨b1, o2, none⟩))] h fun a h => ?_
      refine sl (b_load_pt false h (PtTo.fst (h.g 0)) rfl fun ci1 hc1 v1 hv1 a h => ?_)
      replace hc1 : E.rd (eInt .i64) _ _ ci1 x1.1 := hc1
      obtain rfl := hc1
      obtain rfl := Option.some.inj hv1
      refine pr 3 [(22, vb (x1.1 == y1))] h fun a h => ?_
      rcases Bool.eq_false_or_eq_true (x1.1 == y1) with hb2 | hb2
      · have h := h.upd (t := 22) (vb true) rfl (congrArg Value.bool hb2)
        replace hm := ifT hb2 hm
        refine pr 2 [(24, vi s1), (23, .slice p1 (List.length y0) c1)] h fun a h => ?_
        obtain ⟨x2, h2, hm⟩ := bnd hm
        refine sl (b_index_rd h (h.g 1) rfl rfl h2 fun b2 o3 a h => ?_)
        refine pr 1 [(26, .pointer (some ⟨b2, (o3 + 1), none⟩))] h fun a h => ?_
        refine sl (b_load_pt false h (PtTo.fst (PtTo.snd (h.g 0))) rfl fun ci2 hc2 v2 hv2 a h => ?_)
        replace hc2 : E.rd (eInt .i64) _ _ ci2 x2.2.1 := hc2
        obtain rfl := hc2
        obtain rfl := Option.some.inj hv2
        refine pr 4 [(31, vb (x2.2.1 == y2))] h fun a h => ?_
        rcases Bool.eq_false_or_eq_true (x2.2.1 == y2) with hb3 | hb3
        · have h := h.upd (t := 31) (vb true) rfl (congrArg Value.bool hb3)
          replace hm := ifT hb3 hm
          refine pr 2 [(33, vi s1), (32, .slice p1 (List.length y0) c1)] h fun a h => ?_
          obtain ⟨x3, h3, hm⟩ := bnd hm
          refine sl (b_index_rd h (h.g 2) rfl rfl h3 fun b3 o4 a h => ?_)
          refine pr 1 [(35, .pointer (some ⟨b3, (o4 + 2), none⟩))] h fun a h => ?_
          refine sl (b_load_pt false h (PtTo.fst (PtTo.snd (PtTo.snd (h.g 0)))) rfl fun ci3 hc3 v3 hv3 a h => ?_)
          replace hc3 : E.rd (eInt .i64) _ _ ci3 x3.2.2.1 := hc3
          obtain rfl := hc3
          obtain rfl := Option.some.inj hv3
          refine pr 3 [(39, vb (x3.2.2.1 == y3))] h fun a h => ?_
          refine ops_end ?_
          obtain rfl := Option.some.inj hm
          exact then_n (h.to 0 ⟨(h.g 3), trivial⟩)
        · have h := h.upd (t := 31) (vb false) rfl (congrArg Value.bool hb3)
          replace hm := ifF hb3 hm
          refine pr 8 [(39, vb false)] h fun a h => ?_
          refine ops_end ?_
          obtain rfl := Option.some.inj hm
          exact then_n (h.to 0 ⟨(h.g 2), trivial⟩)
      · have h := h.upd (t := 22) (vb false) rfl (congrArg Value.bool hb2)
        replace hm := ifF hb2 hm
        refine pr 17 [(39, vb false)] h fun a h => ?_
        refine ops_end ?_
        obtain rfl := Option.some.inj hm
        exact then_n (h.to 0 ⟨(h.g 1), trivial⟩)
    intro a w hJ
    have h := hJ
    refine cb h rfl (fun hb4 => ?_) (fun hb4 => ?_)
    · replace hm := ifT hb4 hm
      refine sp [(8, vb true)] h fun a h => ?_
      refine wp_ret ?_
      refine inb_r (then_r (lp_r (inb_r (then_r ?_))))
      replace hm := loopR hr1 hm
      obtain rfl := Option.some.inj hm
      exact rt1 h rfl rfl ⟨rfl, bk_sel h [] trivial⟩
    replace hm := ifF hb4 hm
    refine wp_skip ?_
    refine inb_n ?_
    refine then_n ?_
    refine reg ?_
    refine pr 2 [(12, vi (w64 (s1 + 1)))] h fun a h => ?_
    refine ops_end ?_
    obtain rfl := Option.some.inj hm
    exact lp_n rfl (h.to 0 ⟨(h.g 0), trivial⟩)
  replace hm := ifF hb1 hm
  refine wp_exit ?_
  refine then_e (lp_e (inb_hit ?_))
  replace hm := loopR hr1 hm
  refine then_n ?_
  refine sp [(8, vb false)] h fun a h => ?_
  refine wp_ret ?_
  obtain rfl := Option.some.inj hm
  exact rt1 h rfl rfl ⟨rfl, bk_sel h [] trivial⟩

end Go.Proofs.YtofgcpbdgokpjaaGreat
