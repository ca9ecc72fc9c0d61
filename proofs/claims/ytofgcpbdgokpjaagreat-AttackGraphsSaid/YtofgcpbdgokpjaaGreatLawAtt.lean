/- The laws of layer 9, in plain Lean: graphs. Conditions: none. -/
import Derived.Test.YtofgcpbdgokpjaaGreatTwinB
import Derived.Test.YtofgcpbdgokpjaaGreatJoin
namespace Go.GD
set_option autoImplicit false

theorem att_awake : m_law09_awake = some true := (le_law09_awake 60).el true (by rfl)

theorem keep_Pick {s : T_keep_Src} {l : List Int} (h : SrcOk s) (h0 : l ≠ []) (h1 : l.length ≤ 1000) : ∃ x k, m_keep_Src_Pick s l = some (x, k) ∧ x ∈ l ∧ SrcOk (s.1, k) := by
  have hp := List.length_pos_iff.2 h0
  obtain ⟨v, k, hr, h2, h3, hk⟩ := keep_N (n := len l) h (by simp [len]; omega) (by simp [len]; omega)
  obtain ⟨x, hx, hx2⟩ := idx_some h2 h3
  exact ⟨x, k, by simp [m_keep_Src_Pick, hr, hx], List.mem_of_getElem? hx2, hk⟩

theorem graphS_len (n : Int) (l : List T_Attack) (hl : l.length ≤ 100) : (graphS n l).1.2.length < 4294967000 := by
  unfold graphS
  split
  · simp
  · split
    · simp
    · have := nrm_len lt2 (pairsOf l)
      have h2 : (pairsOf l).length = l.length := by simp [pairsOf]
      show (nrm lt2 (pairsOf l)).length < _
      omega

theorem graphs_L1 (l : List Int) (v k : Int) (h0 : 0 ≤ v) (h1 : v < 20) (hk : SrcOk (l, k)) :
    ∃ r, loop (m_law09_AttackGraphs_L1 (l, 0)) ([], v, k) = some r ∧ (r.1.length ≤ 20 ∧ SrcOk (l, r.2)) := by
  refine loop_nat (fun s => s.2.1.toNat) (fun s => 0 ≤ s.2.1 ∧ (s.1.length : Int) + s.2.1 ≤ 20 ∧ SrcOk (l, s.2.2)) _ (fun s hs => ?_) _ ⟨h0, by simp; omega, hk⟩
  obtain ⟨acc, v, k⟩ := s
  obtain ⟨a0, a1, a2⟩ := hs
  simp only at a0 a1 a2
  unfold m_law09_AttackGraphs_L1
  by_cases hv : 0 < v
  · obtain ⟨u1, k1, e1, _, _, s1⟩ := keep_N (n := 8) a2 (by omega) (by omega)
    obtain ⟨u2, k2, e2, _, _, s2⟩ := keep_N (n := 8) s1 (by omega) (by omega)
    obtain ⟨u3, k3, e3, _, _, s3⟩ := keep_N (n := 3) s2 (by omega) (by omega)
    obtain ⟨u4, k4, e4, _, _, s4⟩ := keep_N (n := 3) s3 (by omega) (by omega)
    simp only at e2 e3 e4
    refine .inl ⟨(acc ++ [(u1, u2, u3, w64 (1 + u4))], v - 1, k4), ?_, ⟨by show 0 ≤ v - 1; omega, by simp; omega, s4⟩, by show (v - 1).toNat < v.toNat; omega⟩
    simp only [hv, decide_true, if_true, e1, e2, e3, e4, Option.bind_some]
    rw [app_ok (by simp; omega), w64_id (x := v - 1) (by omega) (by omega)]
    rfl
  · exact .inr ⟨(acc, k), by simp [hv], by simp only; omega, a2⟩

theorem p_law09_AttackGraphs (y0 : Int) (y1 : List T_Attack) (y2 : List Int) (_w0 : wInt .i64 y0) (_w1 : wList (wProd (wInt .i64) (wProd (wInt .i64) (wProd (wInt .i64) (wInt .i64)))) y1) (_w2 : wList (wInt .i64) y2) : m_law09_AttackGraphs y0 y1 y2 = some true := by
  unfold m_law09_AttackGraphs
  by_cases hbig : decide (60 < len y1) = true
  · rw [if_pos hbig]
  rw [if_neg hbig, keep_New]
  simp only [decide_eq_true_eq, len] at hbig
  simp only [Option.bind_some]
  obtain ⟨v, k, hN, v0, v1, hk⟩ := keep_N (srcOk_New y2) (n := 20) (by omega) (by omega)
  rw [hN]
  simp only [Option.bind_some]
  obtain ⟨⟨good, src⟩, hL1, hgood, hsrc⟩ := graphs_L1 _ v k v0 v1 hk
  rw [hL1]
  simp only [Option.bind_some]
  have hL2 : ∃ r, loop (m_law09_AttackGraphs_L2 y1 (good, src) (y2.take 2000, 0) y0) (0, src) = some r ∧ r = .inl () := by
    refine loop_forI (B := m_law09_AttackGraphs_L2 y1 (good, src) (y2.take 2000, 0) y0) (fun i (s : Int) => ((i : Int), s)) [y1, good] (fun _ s => SrcOk (y2.take 2000, s)) (fun r => r = .inl ()) (fun i x s hx hI => ?_) (fun s hI => ?_) src hsrc
    · have hi := (List.getElem?_eq_some_iff.1 hx).1
      have hxl : x.length ≤ 100 := by
        have hm := List.mem_of_getElem? hx
        simp only [List.mem_cons, List.not_mem_nil, or_false] at hm
        rcases hm with rfl | rfl
        · omega
        · simp only at hgood; omega
      obtain ⟨u1, k1, e1, _, _, s1⟩ := keep_N (n := 9) hI (by omega) (by omega)
      obtain ⟨u2, k2, e2, _, s2⟩ := keep_Pick (l := [(-1), 40, 41]) s1 (by simp) (by simp)
      simp only at e2
      refine .inl ⟨k2, ?_, s2⟩
      unfold m_law09_AttackGraphs_L2
      have hlt : decide ((i : Int) < len [y1, good]) = true := by simp [len] at hi ⊢; omega
      simp only [hlt, if_true, idx_nat, hx, Option.bind_some, e1, e2]
      have hi2 : i < 2 := hi
      refine loop_for (l := [y0, 8, u1, u2]) (fun j z hz => ?_) ?_
      · have hj := (List.getElem?_eq_some_iff.1 hz).1
        unfold m_law09_AttackGraphs_L3
        have hlt : decide ((j : Int) < len [y0, 8, u1, u2]) = true := by simp [len] at hj ⊢; omega
        simp only [hlt, if_true, idx_nat, hz, Option.bind_some, attack_Graph z x (by omega), ref_Graph z x (by omega), bne_self_eq_false, Bool.false_eq_true, if_false, ref_SameGraph _ (graphS_len z x hxl), Bool.not_true]
        simp at hj
        rw [w64_succ j (by omega)]
      · unfold m_law09_AttackGraphs_L3
        simp [len, w64_succ i (by omega)]
    · refine ⟨.inl (), ?_, rfl⟩
      unfold m_law09_AttackGraphs_L2
      simp [len]
  obtain ⟨r, hr, rfl⟩ := hL2
  simp only [hr, seqE, Option.bind_some, att_awake]

end Go.GD
