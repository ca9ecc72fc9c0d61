/- The laws of layer 1 on lists, in plain Lean. Conditions: none. -/
import Derived.Test.YtfocdgbdeacgaaaLit3
import Derived.Test.YtfocdgbdeacgaaaLawLit
namespace Go.GD
set_option autoImplicit false

theorem names_count (l : List T_Literal) : ((litNames l).length = (nrm litLt l).length) ↔ consistent l = true := by
  rw [names_dedup]
  obtain ⟨h1, h2⟩ := nrm_spec ord_lit l
  generalize nrm litLt l = n at h1 h2
  have hs := names_sorted h1
  constructor
  · intro hlen
    have heq : dedup (n.map (·.2)) = n.map (·.2) := (dedup_sub (n.map (·.2))).eq_of_length (by simpa using hlen)
    obtain ⟨h3, _⟩ := asc_dedup ord_str hs
    rw [heq] at h3
    rw [consistent, List.all_eq_true]
    intro x hx
    simp only [Bool.not_eq_true', decide_eq_false_iff_not]
    intro hc
    obtain ⟨i, hi⟩ := List.mem_iff_getElem?.1 ((h2 x).2 hx)
    obtain ⟨j, hj⟩ := List.mem_iff_getElem?.1 ((h2 _).2 hc)
    have hij : i ≠ j := fun e => by
      subst e; rw [hi] at hj
      have := congrArg Prod.fst (Option.some.inj hj)
      simp [compl] at this
    have hpw := List.pairwise_iff_getElem.1 h3
    obtain ⟨hil, hi'⟩ := List.getElem?_eq_some_iff.1 hi
    obtain ⟨hjl, hj'⟩ := List.getElem?_eq_some_iff.1 hj
    rcases Nat.lt_or_gt_of_ne hij with h | h
    · have := hpw i j (by simpa using hil) (by simpa using hjl) h
      simp [hi', hj', compl, sless_irrefl] at this
    · have := hpw j i (by simpa using hjl) (by simpa using hil) h
      simp [hi', hj', compl, sless_irrefl] at this
  · intro hc
    rw [consistent, List.all_eq_true] at hc
    have h3 : Asc sless (n.map (·.2)) := by
      rw [Asc, List.pairwise_map]
      have hpw := List.pairwise_iff_getElem.1 h1
      refine List.pairwise_iff_getElem.2 fun i j hi hj hij => ?_
      have hlt := hpw i j hi hj hij
      have hmi := (h2 n[i]).1 (List.getElem_mem hi)
      have hmj := (h2 n[j]).1 (List.getElem_mem hj)
      simp only [litLt, Bool.or_eq_true, Bool.and_eq_true, beq_iff_eq, Bool.not_eq_true'] at hlt
      rcases hlt with h | ⟨h, h', h''⟩
      · exact h
      · have := hc _ hmi
        simp only [Bool.not_eq_true', decide_eq_false_iff_not] at this
        exact absurd (by rw [show compl n[i] = n[j] from Prod.ext (by simp [compl, h', h'']) h]; exact hmj) this
    have : dedup (n.map (·.2)) = n.map (·.2) := Asc.ext ord_str (asc_dedup ord_str hs).1 h3 (asc_dedup ord_str hs).2
    rw [this]; simp

theorem consistent_part {l m : List T_Literal} (h : ∀ x ∈ m, x ∈ l) (hc : consistent l = true) : consistent m = true := by
  rw [consistent, List.all_eq_true] at *
  intro x hx
  have := hc x (h x hx)
  simp only [Bool.not_eq_true', decide_eq_false_iff_not] at *
  exact fun hm => this (h _ hm)

theorem p_law01_LiteralConsistent (y0 : List Int) (_w0 : wList (wInt .i64) y0) : m_law01_LiteralConsistent y0 = some true := by
  unfold m_law01_LiteralConsistent
  obtain ⟨l, k, h1, hlen, _, hk⟩ := keep_Literals (m := 8) (n := 5) (srcOk_New y0) (by omega) (by omega) (by omega) (by omega)
  rw [keep_New]
  simp only [Option.bind_some, h1]
  rw [lit_consistent (by omega), lit_names (by omega), lit_normal (by omega)]
  simp only [Option.bind_some]
  have hcount : (consistent l == ((len (litNames l)) == (len (nrm litLt l)))) = true := by
    rw [beq_iff_eq, Bool.eq_iff_iff, ← names_count]
    simp [len]; omega
  simp only [hcount, Bool.not_true, Bool.false_eq_true, if_false]
  have hloop : ∃ r, loop (m_law01_LiteralConsistent_L1 (l, k) (y0.take 2000, 0)) (([] : List T_Literal), 0, k) = some r ∧ r.length ≤ 8 ∧ ∀ x ∈ r, x ∈ l := by
    refine loop_forI (B := m_law01_LiteralConsistent_L1 (l, k) (y0.take 2000, 0)) (fun i (s : List T_Literal × Int) => (s.1, (i : Int), s.2)) l (fun i s => SrcOk (y0.take 2000, s.2) ∧ s.1.length ≤ i ∧ ∀ x ∈ s.1, x ∈ l) _ ?_ ?_ (([] : List T_Literal), k) ⟨hk, Nat.le_refl _, by simp⟩
    · rintro i x ⟨s, q⟩ hx ⟨t1, t2, t3⟩
      dsimp only at t1 t2 t3
      have hi := (List.getElem?_eq_some_iff.1 hx).1
      have hlt : decide ((i : Int) < len l) = true := by simp [len]; omega
      obtain ⟨v, q', hr, _, _, hq⟩ := keep_N (n := 2) t1 (by omega) (by omega)
      unfold m_law01_LiteralConsistent_L1
      simp only [hlt, if_true, hr, Option.bind_some]
      cases hv : v == 0 with
      | true =>
        refine .inl ⟨(s ++ [x], q'), ?_, hq, by simp; omega, fun z hz => ?_⟩
        · simp only [if_true, idx_nat, hx, Option.bind_some]
          rw [app_ok (by simp; omega), w64_succ i (by omega)]
          rfl
        · rcases List.mem_append.1 hz with hz | hz
          · exact t3 z hz
          · simp at hz; subst hz; exact List.mem_of_getElem? hx
      | false => exact .inl ⟨(s, q'), by simp [w64_succ i (by omega)], hq, by dsimp only; omega, t3⟩
    · rintro ⟨s, q⟩ ⟨_, t2, t3⟩
      exact ⟨s, by unfold m_law01_LiteralConsistent_L1; simp [len], by dsimp only at t2; omega, t3⟩
  obtain ⟨r, hr, hr1, hr2⟩ := hloop
  simp only [hr, Option.bind_some]
  rw [lit_consistent (l := r) (by omega)]
  simp only [Option.bind_some, lit_awake]
  cases hc : consistent r with
  | true => rfl
  | false =>
    have : consistent l = false := by
      cases h : consistent l with
      | false => rfl
      | true => rw [consistent_part hr2 h] at hc; cases hc
    simp [this]

theorem p_law01_LiteralSets (y0 : List T_Literal) (y1 : T_Literal) (y2 : List Int) (_w0 : wList (wProd wBool wStr) y0) (_w1 : wProd wBool wStr y1) (_w2 : wList (wInt .i64) y2) : m_law01_LiteralSets y0 y1 y2 = some true := by
  unfold m_law01_LiteralSets
  by_cases hbig : decide (40 < len y0) = true
  · rw [if_pos hbig]
  rw [if_neg hbig]
  simp only [decide_eq_true_eq, len] at hbig
  obtain ⟨l, k, h1, hlen, _, hk⟩ := keep_Literals (m := 12) (n := 4) (srcOk_New y2) (by omega) (by omega) (by omega) (by omega)
  rw [keep_New]
  simp only [Option.bind_some, h1]
  rw [sub_suf (l := l) (i := 0) (by omega) (by omega)]
  simp only [Option.bind_some, Int.toNat_zero, List.drop_zero]
  rw [app_ok (by omega)]
  simp only [Option.bind_some]
  have hloop : loop (m_law01_LiteralSets_L1 y0 (l, k) (l ++ y0) (y2.take 2000, 0) y1) (0, k) = some (.inl ()) := by
    obtain ⟨r, hr, rfl⟩ := loop_forI (B := m_law01_LiteralSets_L1 y0 (l, k) (l ++ y0) (y2.take 2000, 0) y1) (fun i (s : Int) => ((i : Int), s)) [y0, l, l ++ y0] (fun _ s => SrcOk (y2.take 2000, s)) (fun r => r = .inl ()) (fun i z s hz hs => by
      have hi := (List.getElem?_eq_some_iff.1 hz).1
      have hi3 : i < 3 := hi
      have hzl : z.length ≤ 100 := by
        have hm := List.mem_of_getElem? hz
        simp only [List.mem_cons, List.not_mem_nil, or_false] at hm
        rcases hm with rfl | rfl | rfl
        · omega
        · omega
        · simp; omega
      have hlt : decide ((i : Int) < len ([y0, l, l ++ y0] : List (List T_Literal))) = true := by simp [len]; omega
      unfold m_law01_LiteralSets_L1
      simp only [hlt, if_true, idx_nat, hz, Option.bind_some]
      rw [lit_names (by omega), ref_names (by omega), lit_normal (by omega), ref_normal (by omega)]
      simp only [Option.bind_some]
      have hnl := nrm_len litLt z
      rw [ref_same _ _ (by omega), lit_consistent (by omega), ref_consistent (by omega)]
      simp only [decide_true, Bool.not_true, Bool.false_eq_true, if_false, Option.bind_some, beq_self_eq_true, bne_self_eq_false]
      have hL2 : loop (m_law01_LiteralSets_L2 (litNames z) (litNames z)) 0 = some (.inl ()) := by
        have hll := litNames_len z
        refine loop_for (l := litNames z) (fun q t ht => ?_) ?_
        · have hq := (List.getElem?_eq_some_iff.1 ht).1
          have hqlt : decide ((q : Int) < len (litNames z)) = true := by simp [len]; omega
          unfold m_law01_LiteralSets_L2
          simp only [hqlt, if_true, idx_nat, ht, Option.bind_some, beq_self_eq_true, Bool.not_true, Bool.false_eq_true, if_false]
          rw [w64_succ q (by omega)]
        · unfold m_law01_LiteralSets_L2
          simp [len]
      obtain ⟨g, j, k', h3, _, hk'⟩ := keep_Literal (n := 4) hs (by omega) (by omega)
      simp only [hL2, seqE, Option.bind_some, h3]
      rw [app_ok (by simp; omega)]
      simp only [Option.bind_some]
      refine .inl ⟨k', ?_, hk'⟩
      refine loop_for (l := [y1, (g, atomN j)] ++ z) (fun q t ht => ?_) ?_
      · have hq := (List.getElem?_eq_some_iff.1 ht).1
        have hqlt : decide ((q : Int) < len ([y1, (g, atomN j)] ++ z)) = true := by simp [len] at hq ⊢; omega
        unfold m_law01_LiteralSets_L3
        simp only [hqlt, if_true, idx_nat, ht, Option.bind_some]
        rw [lit_has _ (by omega), ref_has _ (by omega)]
        simp only [Option.bind_some, beq_self_eq_true, Bool.not_true, Bool.false_eq_true, if_false]
        rw [w64_succ q (by simp at hq; omega)]
      · unfold m_law01_LiteralSets_L3
        simp only [len, Int.lt_irrefl, decide_false, Bool.false_eq_true, if_false]
        rw [w64_succ i (by omega)]) (fun s _ => ⟨.inl (), by unfold m_law01_LiteralSets_L1; simp [len], rfl⟩) k hk
    exact hr
  simp only [hloop, seqE, Option.bind_some, lit_awake]

theorem swap_perm {α : Type} {l : List α} {i j : Nat} {x y : α} (hi : l[i]? = some x) (hj : l[j]? = some y) : ((l.set i y).set j x).Perm l := by
  obtain ⟨h1, rfl⟩ := List.getElem?_eq_some_iff.1 hi
  obtain ⟨h2, rfl⟩ := List.getElem?_eq_some_iff.1 hj
  exact List.set_set_perm h1 h2

theorem p_law01_LiteralNormal (y0 : List Int) (y1 : List Int) (_w0 : wList (wInt .i64) y0) (_w1 : wList (wInt .i64) y1) : m_law01_LiteralNormal y0 y1 = some true := by
  unfold m_law01_LiteralNormal
  obtain ⟨l, k, h1, hlen, _, hk⟩ := keep_Literals (m := 10) (n := 4) (srcOk_New y0) (by omega) (by omega) (by omega) (by omega)
  rw [keep_New]
  simp only [Option.bind_some, h1]
  rw [app_ok (by simp; omega)]
  simp only [Option.bind_some, List.nil_append]
  have hloop : ∃ r, loop (m_law01_LiteralNormal_L1 l y1) (l, 0) = some r ∧ r.Perm l := by
    refine loop_forI (B := m_law01_LiteralNormal_L1 l y1) (fun i (s : List T_Literal) => (s, (i : Int))) l (fun i s => s.Perm l) _ ?_ ?_ l (List.Perm.refl _)
    · intro i x s hx hs
      have hi := (List.getElem?_eq_some_iff.1 hx).1
      have hsl := hs.length_eq
      have hlt : decide ((i : Int) < len l) = true := by simp [len]; omega
      unfold m_law01_LiteralNormal_L1
      simp only [hlt, if_true]
      by_cases hy : (i : Int) < len y1
      · obtain ⟨v, hv, _⟩ := idx_some (l := y1) (i := (i : Int)) (by omega) hy
        obtain ⟨m, hm, hm0, hm1⟩ := keep_Mod (x := v) (n := len l) (by simp [len]; omega) (by simp [len]; omega)
        obtain ⟨j, rfl⟩ := Int.eq_ofNat_of_zero_le hm0
        have hj : j < s.length := by simp [len] at hm1; omega
        have hxi : s[i]? = some s[i] := List.getElem?_eq_getElem (by omega)
        have hxj : s[j]? = some s[j] := List.getElem?_eq_getElem hj
        have hjs : j < (s.set i s[j]).length := by simpa using hj
        have hset : (s.set i s[j])[j]? = some (s.set i s[j])[j] := List.getElem?_eq_getElem hjs
        refine .inl ⟨(s.set i s[j]).set j s[i], ?_, (swap_perm hxi hxj).trans hs⟩
        simp only [hy, decide_true, if_true, hv, Option.bind_some, hm, idx_nat, hxi, hxj, Int.toNat_natCast, hset]
        rw [w64_succ i (by omega)]
      · exact .inl ⟨s, by simp only [hy, decide_false, Bool.false_eq_true, if_false]; rw [w64_succ i (by omega)], hs⟩
    · intro s hs
      exact ⟨s, by unfold m_law01_LiteralNormal_L1; simp [len], hs⟩
  obtain ⟨r, hr, hp⟩ := hloop
  have hrl := hp.length_eq
  simp only [hr, Option.bind_some]
  have happ : ∃ z, (if decide (0 < len r) = true then (m_keep_Src_N (y0.take 2000, k) (len r)).bind fun r4 => (idx r r4.1).bind fun x7 => (app r ([x7] : List T_Literal)).bind fun x8 => some x8 else some r : Option (List T_Literal)) = some z ∧ (∀ x, x ∈ z ↔ x ∈ l) ∧ z.length ≤ 11 := by
    by_cases h0 : 0 < len r
    · obtain ⟨v, q, hv, hv0, hv1, _⟩ := keep_N (n := len r) hk (by omega) (by simp [len]; omega)
      obtain ⟨x, hx, hx2⟩ := idx_some (l := r) hv0 hv1
      refine ⟨r ++ [x], ?_, fun y => ?_, by simp; omega⟩
      · simp only [h0, decide_true, if_true, hv, Option.bind_some, hx]
        rw [app_ok (by simp; omega)]
        rfl
      · rw [List.mem_append, List.mem_singleton, hp.mem_iff]
        constructor
        · rintro (h | rfl)
          · exact h
          · exact hp.mem_iff.1 (List.mem_of_getElem? hx2)
        · exact .inl
    · exact ⟨r, by simp only [h0, decide_false, Bool.false_eq_true, if_false], fun y => hp.mem_iff, by omega⟩
  obtain ⟨z, hz, hzm, hzl⟩ := happ
  rw [hz]
  simp only [Option.bind_some]
  rw [lit_normal (l := l) (by omega), lit_normal (l := z) (by omega), nrm_congr ord_lit hzm]
  obtain ⟨g1, g2⟩ := nrm_spec ord_lit l
  have gl := nrm_len litLt l
  have hself : nrm litLt (nrm litLt l) = nrm litLt l := nrm_eq ord_lit g1 fun x => Iff.rfl
  generalize hn : nrm litLt l = n at g1 g2 gl hself
  simp only [Option.bind_some]
  rw [ref_same n n (by omega), lit_normal (l := n) (by omega), hself]
  simp only [Option.bind_some, decide_true, Bool.not_true, Bool.false_eq_true, if_false]
  rw [ref_same n n (by omega)]
  simp only [Option.bind_some, decide_true, Bool.not_true, Bool.false_eq_true, if_false]
  have hL2 : loop (m_law01_LiteralNormal_L2 n (l, k)) 0 = some (.inl ()) := by
    refine loop_for (l := n) (fun i x hx => ?_) ?_
    · have hi := (List.getElem?_eq_some_iff.1 hx).1
      have hlt : decide ((i : Int) < len n) = true := by simp [len]; omega
      have hin : x ∈ l := (g2 x).1 (List.mem_of_getElem? hx)
      unfold m_law01_LiteralNormal_L2
      simp only [hlt, if_true, idx_nat, hx, Option.bind_some]
      rw [lit_has x (by omega)]
      cases i with
      | zero =>
        have h0 : decide (0 < ((0 : Nat) : Int)) = false := rfl
        simp only [h0, Bool.false_eq_true, if_false, Option.bind_some, hin, decide_true, Bool.not_true]
        rw [w64_succ 0 (by omega)]
      | succ i =>
        have hy : n[i]? = some n[i] := List.getElem?_eq_getElem (by omega)
        have h0 : decide (0 < ((i + 1 : Nat) : Int)) = true := by simp
        have hw : w64 (((i + 1 : Nat) : Int) - 1) = (i : Nat) := by rw [w64_id (by omega) (by omega)]; omega
        have hasc : litLt n[i] x = true := by
          have := List.pairwise_iff_getElem.1 g1 i (i + 1) (by omega) hi (by omega)
          rwa [(List.getElem?_eq_some_iff.1 hx).2] at this
        have hc : decide (0 ≤ litCmp n[i] x) = false := by simp [litCmp, hasc]
        simp only [h0, if_true, hw, idx_nat, hy, Option.bind_some, lit_compare, hc, Bool.false_eq_true, if_false, hin, decide_true, Bool.not_true]
        rw [w64_succ (i + 1) (by omega)]
    · unfold m_law01_LiteralNormal_L2
      simp [len]
  have hL3 : loop (m_law01_LiteralNormal_L3 (l, k) n) 0 = some (.inl ()) := by
    refine loop_for (l := l) (fun i x hx => ?_) ?_
    · have hi := (List.getElem?_eq_some_iff.1 hx).1
      have hlt : decide ((i : Int) < len l) = true := by simp [len]; omega
      have hin : x ∈ n := (g2 x).2 (List.mem_of_getElem? hx)
      unfold m_law01_LiteralNormal_L3
      simp only [hlt, if_true, idx_nat, hx, Option.bind_some]
      rw [lit_has x (by omega)]
      simp only [Option.bind_some, hin, decide_true, Bool.not_true, Bool.false_eq_true, if_false]
      rw [w64_succ i (by omega)]
    · unfold m_law01_LiteralNormal_L3
      simp [len]
  simp only [hL2, hL3, seqE, Option.bind_some, lit_awake]

end Go.GD
