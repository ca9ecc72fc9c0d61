/- The laws of layer 1, in plain Lean. Conditions: none. -/
import Derived.Test.YtfocdgbdeacgaaaLit2
import Derived.Test.YtfocdgbdeacgaaaJoin
namespace Go.GD
set_option autoImplicit false

theorem p_law01_LiteralTexts (y0 : Str) (y1 : T_Literal) (y2 : List Int) (_w0 : wStr y0) (_w1 : wProd wBool wStr y1) (_w2 : wList (wInt .i64) y2) : m_law01_LiteralTexts y0 y1 y2 = some true := by
  unfold m_law01_LiteralTexts
  by_cases hbig : ((decide (200 < (len y0))) || (decide (200 < (len y1.2)))) = true
  · rw [if_pos hbig]
  rw [if_neg hbig]
  simp only [Bool.or_eq_true, decide_eq_true_eq, not_or, len] at hbig
  obtain ⟨g, x, k, h2, hx, hk⟩ := keep_Odd (srcOk_New y2)
  obtain ⟨g', j, k', h3, hj, hk'⟩ := keep_Literal (n := 26) hk (by omega) (by omega)
  rw [keep_New]
  simp only [Option.bind_some, h2, h3]
  have hloop : loop (m_law01_LiteralTexts_L1 y1 ((g, x), k) ((g', atomN j), k') y0) 0 = some (.inl ()) := by
    refine loop_for (l := [y1, (g, x), (g', atomN j), (false, y0), (true, y0)]) (fun i z hz => ?_) ?_
    · have hi := (List.getElem?_eq_some_iff.1 hz).1
      have hlen : z.2.length ≤ 200 := by
        have hm := List.mem_of_getElem? hz
        simp only [List.mem_cons, List.not_mem_nil, or_false] at hm
        rcases hm with rfl | rfl | rfl | rfl | rfl
        · omega
        · show x.length ≤ 200; omega
        · show (atomN j).length ≤ 200; simp [atomN]
        · show y0.length ≤ 200; omega
        · show y0.length ≤ 200; omega
      have hlt : decide ((i : Int) < len ([y1, (g, x), (g', atomN j), (false, y0), (true, y0)] : List T_Literal)) = true := by simp [len] at hi ⊢; omega
      unfold m_law01_LiteralTexts_L1
      simp only [hlt, if_true, idx_nat, hz, Option.bind_some, validName, ref_validName, beq_self_eq_true, Bool.not_true, Bool.false_eq_true, if_false, lit_valid, ref_valid, lit_format, ref_format]
      rw [cat_ok (l := [126]) (m := z.2) (by simp; omega)]
      simp only [Option.bind_some]
      refine loop_for (l := [y0, z.2, [126] ++ z.2, litText z]) (fun q t ht => ?_) ?_
      · have hq := (List.getElem?_eq_some_iff.1 ht).1
        have hqlt : decide ((q : Int) < len ([y0, z.2, [126] ++ z.2, litText z] : List Str)) = true := by simp [len] at hq ⊢; omega
        unfold m_law01_LiteralTexts_L2
        simp only [hqlt, if_true, idx_nat, ht, Option.bind_some, lit_parse, ref_parse]
        rw [w64_succ q (by simp at hq; omega)]
        simp
      · unfold m_law01_LiteralTexts_L2
        simp only [len, Int.lt_irrefl, decide_false, Bool.false_eq_true, if_false]
        rw [w64_succ i (by simp at hi; omega)]
    · unfold m_law01_LiteralTexts_L1
      simp [len]
  simp only [hloop, seqE, Option.bind_some, lit_awake]

theorem litCmp_self (a : T_Literal) : litCmp a a = 0 := by simp [litCmp, litLt_irrefl]
theorem litCmp_neg (a b : T_Literal) : litCmp a b = -litCmp b a := by
  unfold litCmp
  rcases litLt_tri a b with h | rfl | h
  · simp [h, litLt_asymm h, (litLt_ne h).symm]
  · simp [litLt_irrefl]
  · simp [h, litLt_asymm h, (litLt_ne h).symm]
theorem litCmp_zero (a b : T_Literal) : litCmp a b = 0 ↔ a = b := by
  unfold litCmp
  cases h : litLt a b with
  | true => simp [litLt_ne h]
  | false => by_cases he : a = b <;> simp [he]
theorem litCmp_le (a b : T_Literal) : litCmp a b ≤ 0 ↔ litLt b a = false := by
  unfold litCmp
  rcases litLt_tri a b with h | rfl | h
  · simp [h, litLt_asymm h]
  · simp [litLt_irrefl]
  · simp [h, litLt_asymm h, (litLt_ne h).symm]
theorem litCmp_pos (a b : T_Literal) : 0 < litCmp a b ↔ litLt b a = true := by
  unfold litCmp
  rcases litLt_tri a b with h | rfl | h
  · simp [h, litLt_asymm h]
  · simp [litLt_irrefl]
  · simp [h, litLt_asymm h, (litLt_ne h).symm]
theorem litCmp_bound (a b : T_Literal) : -1 ≤ litCmp a b ∧ litCmp a b ≤ 1 := by
  unfold litCmp
  split
  · omega
  · split <;> omega

theorem p_law01_LiteralOrder (y0 : T_Literal) (y1 : T_Literal) (y2 : T_Literal) (y3 : List Int) (_w0 : wProd wBool wStr y0) (_w1 : wProd wBool wStr y1) (_w2 : wProd wBool wStr y2) (_w3 : wList (wInt .i64) y3) : m_law01_LiteralOrder y0 y1 y2 y3 = some true := by
  unfold m_law01_LiteralOrder
  obtain ⟨g1, j1, k1, h1, _, hk1⟩ := keep_Literal (n := 3) (srcOk_New y3) (by omega) (by omega)
  obtain ⟨g2, j2, k2, h2, _, hk2⟩ := keep_Literal (n := 3) hk1 (by omega) (by omega)
  obtain ⟨g3, x3, k3, h3, _, _⟩ := keep_Odd hk2
  rw [keep_New]
  simp only [Option.bind_some, h1, h2, h3]
  generalize hl : ([y0, y1, y2, (g1, atomN j1), (g2, atomN j2), (g3, x3), (!y0.1, y0.2)] : List T_Literal) = l
  have hll : l.length = 7 := by rw [← hl]; rfl
  have hloop : loop (m_law01_LiteralOrder_L1 y0 y1 y2 ((g1, atomN j1), k1) ((g2, atomN j2), k2) ((g3, x3), k3)) 0 = some (.inl ()) := by
    refine loop_for (l := l) (fun i a ha => ?_) ?_
    · have hi := (List.getElem?_eq_some_iff.1 ha).1
      have hlt : decide ((i : Int) < len l) = true := by simp [len]; omega
      unfold m_law01_LiteralOrder_L1
      simp only [hl, hlt, if_true, idx_nat, ha, Option.bind_some, lit_complement, show ∀ z : T_Literal, m_ref01_Complement z = some (compl z) from fun _ => rfl, beq_self_eq_true, Bool.not_true, Bool.false_eq_true, if_false, compl_compl]
      refine loop_for (l := l) (fun q b hb => ?_) ?_
      · have hq := (List.getElem?_eq_some_iff.1 hb).1
        have hqlt : decide ((q : Int) < len l) = true := by simp [len]; omega
        unfold m_law01_LiteralOrder_L2
        have hneg : w64 (0 - litCmp b a) = litCmp a b := by
          have := litCmp_bound b a
          rw [w64_id (by omega) (by omega), litCmp_neg a b]; omega
        have hz : ((litCmp a b == 0) == (a == b)) = true := by
          rw [beq_iff_eq, Bool.eq_iff_iff]
          simp [litCmp_zero]
        simp only [hl, hqlt, if_true, idx_nat, hb, Option.bind_some, lit_compare, ref_compare, bne_self_eq_false, Bool.false_eq_true, if_false, hneg, hz, Bool.not_true, lit_complement]
        have hc : (if (!(a.2 == b.2)) = true then some (litCmp (compl a) b != litCmp a b) else some false : Option Bool) = some false := by
          by_cases hab : a.2 = b.2
          · simp [hab]
          · have hab' : (a.2 == b.2) = false := beq_eq_false_iff_ne.2 hab
            have e1 : litLt (compl a) b = litLt a b := by simp [litLt, compl, hab']
            have e2 : (compl a = b) = (a = b) := by
              apply propext
              constructor <;> intro h <;> (exfalso; apply hab; first | (rw [← h]; done) | (rw [← h]; rfl))
            simp [hab', litCmp, e1, e2]
        rw [hc]
        simp only [Option.bind_some, Bool.false_eq_true, if_false]
        refine loop_for (l := l) (fun p c hcp => ?_) ?_
        · have hp := (List.getElem?_eq_some_iff.1 hcp).1
          have hplt : decide ((p : Int) < len l) = true := by simp [len]; omega
          unfold m_law01_LiteralOrder_L3
          simp only [hl, hplt, if_true, idx_nat, hcp, Option.bind_some, lit_compare]
          have hno : (if decide (litCmp a b ≤ 0) = true then if decide (litCmp b c ≤ 0) = true then some (decide (0 < litCmp a c)) else some false else some false : Option Bool) = some false := by
            by_cases h1 : litCmp a b ≤ 0
            · by_cases h2 : litCmp b c ≤ 0
              · have h3 : ¬ 0 < litCmp a c := by
                  rw [litCmp_pos]
                  intro h
                  rw [litCmp_le] at h1 h2
                  rcases litLt_tri b c with h4 | rfl | h4
                  · have := litLt_trans h4 h; rw [this] at h1; cases h1
                  · rw [h] at h1; cases h1
                  · rw [h4] at h2; cases h2
                simp [h1, h2, h3]
              · simp [h1, h2]
            · simp [h1]
          rw [hno]
          simp [w64_succ p (by omega)]
        · unfold m_law01_LiteralOrder_L3
          simp only [hl, len, Int.lt_irrefl, decide_false, Bool.false_eq_true, if_false]
          rw [w64_succ q (by omega)]
      · unfold m_law01_LiteralOrder_L2
        simp only [hl, len, Int.lt_irrefl, decide_false, Bool.false_eq_true, if_false]
        rw [w64_succ i (by omega)]
    · unfold m_law01_LiteralOrder_L1
      simp only [hl, len, Int.lt_irrefl, decide_false, Bool.false_eq_true, if_false]
  simp only [hloop, seqE, Option.bind_some, lit_awake]

theorem vName_atom {j : Nat} (h : j < 26) : vName (atomN j) = true := by
  have : ∀ j, j < 26 → vName (atomN j) = true := by decide
  exact this j h
theorem parse_text {x : T_Literal} (h : vName x.2 = true) : litParse (litText x) = (x, 0) := by
  obtain ⟨g, x⟩ := x
  have h' : vName x = true := h
  cases g with
  | true => simp [litText, h', litParse_tilde]
  | false =>
    have hne : ∀ r, x ≠ 126 :: r := fun r e => by subst e; simp [vName, loB] at h'
    simp [litText, h', litParse_plain hne]
theorem text_parse {s : Str} (h : (litParse s).2 = 0) : litText (litParse s).1 = s := by
  by_cases ht : ∃ r, s = 126 :: r
  · obtain ⟨r, rfl⟩ := ht
    rw [litParse_tilde] at h ⊢
    cases hv : vName r with
    | true => simp [litText, hv]
    | false => simp [hv] at h
  · have hne : ∀ r, s ≠ 126 :: r := fun r e => ht ⟨r, e⟩
    rw [litParse_plain hne] at h ⊢
    cases hv : vName s with
    | true => simp [litText, hv]
    | false => simp [hv] at h

theorem p_law01_LiteralBack (y0 : Str) (y1 : List Int) (_w0 : wStr y0) (_w1 : wList (wInt .i64) y1) : m_law01_LiteralBack y0 y1 = some true := by
  unfold m_law01_LiteralBack
  rw [keep_New]
  simp only [Option.bind_some]
  have hloop : loop (m_law01_LiteralBack_L1 (y1.take 2000, 0)) (0, 0) = some (.inl ()) := by
    obtain ⟨r, hr, rfl⟩ := loop_forI (B := m_law01_LiteralBack_L1 (y1.take 2000, 0)) (fun i (k : Int) => ((i : Int), k)) (List.replicate 4 ()) (fun _ k => SrcOk (y1.take 2000, k)) (fun r => r = .inl ()) (fun i _ k hi hk => by
      have hi4 : i < 4 := by have := (List.getElem?_eq_some_iff.1 hi).1; simpa using this
      obtain ⟨g, j, k', h, hj, hk'⟩ := keep_Literal (n := 26) hk (by omega) (by omega)
      have hlt : decide ((i : Int) < 4) = true := by simp; omega
      have hv : vName (atomN j) = true := vName_atom (by omega)
      refine .inl ⟨k', ?_, hk'⟩
      unfold m_law01_LiteralBack_L1
      simp only [hlt, if_true, h, Option.bind_some, lit_format, lit_parse, parse_text (x := (g, atomN j)) hv]
      simp [w64_succ i (by omega)]) (fun k _ => ⟨.inl (), by unfold m_law01_LiteralBack_L1; simp, rfl⟩) 0 (srcOk_New y1)
    exact hr
  simp only [hloop, seqE, Option.bind_some, lit_parse, lit_format, lit_awake]
  by_cases h : (litParse y0).2 = 0
  · simp [h, text_parse h]
  · simp [h]

theorem keep_Literals {s : T_keep_Src} {m n : Int} (h : SrcOk s) (h0 : 0 ≤ m) (hm : m ≤ 1000000) (h1 : 1 ≤ n) (h2 : n ≤ 26) : ∃ (l : List T_Literal) (k : Int), m_keep_Src_Literals s m n = some (l, k) ∧ (l.length : Int) ≤ m ∧ (∀ x ∈ l, ∃ j : Nat, (j : Int) < n ∧ x.2 = atomN j) ∧ SrcOk (s.1, k) := by
  obtain ⟨v, k, hr, hv0, hv1, hk⟩ := keep_N (n := m + 1) h (by omega) (by omega)
  unfold m_keep_Src_Literals
  rw [w64_id (x := m + 1) (by omega) (by omega), hr]
  simp only [Option.bind_some]
  obtain ⟨r, h3, h4⟩ := loop_spec (B := m_keep_Src_Literals_L1 s n) (fun t => 0 ≤ t.2.1 ∧ (t.1.length : Int) + t.2.1 = v ∧ (∀ x ∈ t.1, ∃ j : Nat, (j : Int) < n ∧ x.2 = atomN j) ∧ SrcOk (s.1, t.2.2)) (fun t => t.2.1.toNat)
    (fun r => (r.1.length : Int) ≤ m ∧ (∀ x ∈ r.1, ∃ j : Nat, (j : Int) < n ∧ x.2 = atomN j) ∧ SrcOk (s.1, r.2)) (fun t ht => by
      obtain ⟨l, q, k⟩ := t
      obtain ⟨t1, t2, t3, t4⟩ := ht
      dsimp only at t1 t2 t3 t4
      unfold m_keep_Src_Literals_L1
      by_cases hq : 0 < q
      · obtain ⟨g, j, k', h5, hj, hk'⟩ := keep_Literal t4 h1 h2
        refine .inl ⟨(l ++ [(g, atomN j)], q - 1, k'), ?_, ⟨by show 0 ≤ q - 1; omega, by simp; omega, fun x hx => ?_, hk'⟩, by show (q - 1).toNat < q.toNat; omega⟩
        · simp only [hq, decide_true, if_true, h5, Option.bind_some]
          rw [app_ok (by simp; omega), w64_id (by omega) (by omega)]
          rfl
        · rcases List.mem_append.1 hx with hx | hx
          · exact t3 x hx
          · simp at hx; subst hx; exact ⟨j, hj, rfl⟩
      · refine .inr ⟨(l, k), by simp [hq], by dsimp only; omega, t3, t4⟩) (([] : List T_Literal), v, k) ⟨hv0, by simp, by simp, hk⟩
  obtain ⟨l, k'⟩ := r
  exact ⟨l, k', h3, h4.1, h4.2.1, h4.2.2⟩

end Go.GD
