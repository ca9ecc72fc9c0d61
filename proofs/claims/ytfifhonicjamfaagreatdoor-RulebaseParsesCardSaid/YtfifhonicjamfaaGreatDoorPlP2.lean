/- The plain law: what the models compute, in plain Lean. Conditions: none. -/
import Derived.Test.YtfifhonicjamfaaGreatDoorPlP1
namespace Go.GD
set_option autoImplicit false

section
/-- a loop that writes the lines of a list, by strings -/
theorem fmt_loopR {α : Type} {B : Str × Int → Option ((Str × Int) ⊕ Str)} (l : List α) (ln : α → Str) (hB : ∀ (i : Nat) x (t : Str), l[i]? = some x → t.length ≤ 1000000 → B (t, (i : Int)) = some (.inl (t ++ (ln x ++ [10]), ((i + 1 : Nat) : Int))))
    (he : ∀ t, B (t, (l.length : Int)) = some (.inr t)) (c : Nat) (hc : c ≤ 400) (hl : ∀ x ∈ l, (ln x).length ≤ c) (hn : l.length ≤ 100) (t0 : Str) (h0 : t0.length ≤ 500000) : loop B (t0, 0) = some (t0 ++ l.flatMap fun x => ln x ++ [10]) := by
  have h := loop_forI (B := B) (fun i (t : Str) => (t, (i : Int))) l (fun i t => t = t0 ++ (l.take i).flatMap fun x => ln x ++ [10]) (fun o => o = t0 ++ l.flatMap fun x => ln x ++ [10]) ?_ ?_ t0 (by simp)
  · obtain ⟨o, h1, rfl⟩ := h
    exact h1
  · intro i x t hx ht
    have hi := (List.getElem?_eq_some_iff.1 hx).1
    have hs := txl_len ln c (l.take i) fun y hy => hl y (List.mem_of_mem_take hy)
    refine .inl ⟨t ++ (ln x ++ [10]), hB i x t hx ?_, ?_⟩
    · subst ht
      rw [List.length_append]
      have h1 : (l.take i).length ≤ 100 := by rw [List.length_take]; omega
      have h2 : (c + 1) * (l.take i).length ≤ 401 * 100 := Nat.mul_le_mul (by omega) h1
      omega
    · subst ht
      rw [List.take_add_one, hx]
      simp
  · intro t ht
    subst ht
    exact ⟨_, he _, by rw [List.take_of_length_le (Nat.le_refl _)]⟩
theorem ref_Format {b : T_Base} (h : Cnt b) (hV : ValidB b) : m_ref05_Format b = some (fmtT b, 0) := by
  obtain ⟨hP, hR, hT⟩ := okB_parts hV
  have hs := fmt_short hV
  have hf : (b.1.flatMap fun p => jn (premW p) ++ [10]) ++ (b.2.1.flatMap fun r => jn (ruleW r) ++ [10]) ++ (b.2.2.flatMap fun p => jn (promW p) ++ [10]) = fmtT b := by unfold fmtT; rw [List.append_assoc]
  have hs' := hs
  rw [← hf, List.length_append, List.length_append] at hs'
  unfold m_ref05_Format
  rw [ref_Validate h, validS_iff.2 hV]
  simp only [Option.bind_some, bne_self_eq_false, Bool.false_eq_true, if_false]
  rw [fmt_loopR (B := m_ref05_Format_L1 b) b.1 (fun p => jn (premW p)) (fun i p t hx ht => by
    have ho := hP p (List.mem_of_getElem? hx)
    have hlen := premW_jn_len ho
    have hi := (List.getElem?_eq_some_iff.1 hx).1
    have := hV.np
    unfold m_ref05_Format_L1
    have h1 : decide ((i : Int) < len b.1) = true := decide_eq_true (show (i : Int) < (b.1.length : Int) by omega)
    simp only [h1, if_true, idx_nat, hx, Option.bind_some, ref_premLine ho]
    rw [cat_ok (by omega)]
    simp only [Option.bind_some]
    rw [cat_ok (by simp only [List.length_append, List.length_cons, List.length_nil]; omega), w64_succ i (by omega)]
    simp) (fun t => by unfold m_ref05_Format_L1; simp) 200 (by omega) (fun p hp => premW_jn_len (hP p hp)) (by have := hV.np; omega) [] (by simp)]
  simp only [Option.bind_some, List.nil_append]
  rw [fmt_loopR (B := m_ref05_Format_L2 b) b.2.1 (fun p => jn (ruleW p)) (fun i p t hx ht => by
    obtain ⟨ho, hb⟩ := hR p (List.mem_of_getElem? hx)
    have hlen := ruleW_jn_len ho hb
    have hnl := (vName_len ho.1).2
    have hi := (List.getElem?_eq_some_iff.1 hx).1
    have := hV.nr
    unfold m_ref05_Format_L2
    have h1 : decide ((i : Int) < len b.2.1) = true := decide_eq_true (show (i : Int) < (b.2.1.length : Int) by omega)
    simp only [h1, if_true, idx_nat, hx, Option.bind_some, ref_ruleLine ho.2.2.1 ho.2.2.2.1 (by omega) (by omega)]
    rw [cat_ok (by omega)]
    simp only [Option.bind_some]
    rw [cat_ok (by simp only [List.length_append, List.length_cons, List.length_nil]; omega), w64_succ i (by omega)]
    simp) (fun t => by unfold m_ref05_Format_L2; simp) 400 (by omega) (fun p hp => ruleW_jn_len (hR p hp).1 (hR p hp).2) (by have := hV.nr; omega) _ (by omega)]
  simp only [Option.bind_some]
  rw [fmt_loopR (B := m_ref05_Format_L3 b) b.2.2 (fun p => jn (promW p)) (fun i p t hx ht => by
    have ho := hT p (List.mem_of_getElem? hx)
    have hlen := promW_jn_len ho
    have hnl := (vName_len ho.1).2
    have hi := (List.getElem?_eq_some_iff.1 hx).1
    have := hV.nm
    unfold m_ref05_Format_L3
    have h1 : decide ((i : Int) < len b.2.2) = true := decide_eq_true (show (i : Int) < (b.2.2.length : Int) by omega)
    simp only [h1, if_true, idx_nat, hx, Option.bind_some, ref_promLine ho.2.1 ho.2.2.1 (by omega)]
    rw [cat_ok (by omega)]
    simp only [Option.bind_some]
    rw [cat_ok (by simp only [List.length_append, List.length_cons, List.length_nil]; omega), w64_succ i (by omega)]
    simp) (fun t => by unfold m_ref05_Format_L3; simp) 200 (by omega) (fun p hp => promW_jn_len (hT p hp)) (by have := hV.nm; omega) _ (by rw [List.length_append]; omega)]
  rw [hf]
  have : decide ((4096 : Int) < len (fmtT b)) = false := decide_eq_false (show ¬ (4096 : Int) < ((fmtT b).length : Int) by omega)
  simp only [Option.bind_some, this, Bool.false_eq_true, if_false]
theorem rbP_awake : m_law05_awake = some true := (le_law05_awake 200).el true (by kernel_rfl)
theorem parseS_cnt (s : Str) : Cnt (parseS s).1 := by
  unfold parseS
  split
  · exact ⟨by simp, by simp, by simp, by simp⟩
  · split
    · rename_i b hg
      split
      · exact ⟨by simp, by simp, by simp, by simp⟩
      · obtain ⟨h1, h2, h3, h5⟩ := parseGo_cnt _ _ _ _ _ _ (by omega) (by simp) hg
        simp only [List.length_nil, Nat.zero_add] at h1 h2 h3
        exact ⟨by simp only; omega, by simp only; omega, by simp only; omega, fun r hr => by have := h5 r hr; omega⟩
    · exact ⟨by simp, by simp, by simp, by simp⟩
theorem p_law05_RulebaseParses (y0 : Str) (y1 : List Int) (y2 y3 : Int) (_w0 : wStr y0) (_w1 : wList (wInt .i64) y1) (_w2 : wInt .i64 y2) (w3 : wInt .u8 y3) : m_law05_RulebaseParses y0 y1 y2 y3 = some true := by
  unfold m_law05_RulebaseParses
  by_cases h3 : 300 < y0.length
  · have : decide ((300 : Int) < len y0) = true := decide_eq_true (show (300 : Int) < (y0.length : Int) by omega)
    rw [this]; rfl
  · have : decide ((300 : Int) < len y0) = false := decide_eq_false (show ¬ (300 : Int) < (y0.length : Int) by omega)
    rw [this]
    simp only [Bool.false_eq_true, if_false]
    rw [keep_New]
    obtain ⟨b, k, e1, hk, hd⟩ := keep_Base (srcOk_New y1) (n := 4) (p := 5) (q := 6) (by omega) (by omega) (by omega) (by omega) (by omega) (by omega)
    simp only [Option.bind_some, e1]
    have hV := hd.valid
    have hc : Cnt b := ⟨by have := hV.np; omega, by have := hV.nr; omega, by have := hV.nm; omega, fun r hr => by have := hd.bd r hr; omega⟩
    have hs := fmt_short hV
    rw [ref_Format hc hV]
    simp only [Option.bind_some]
    have hs1 : ∃ s1, (if decide (0 < (len (fmtT b))) = true then (m_keep_Mod y2 (len (fmtT b))).bind fun r4 => (idx (fmtT b) r4).bind fun _ => (bset (fmtT b) r4 y3).bind fun x2 => some x2 else some (fmtT b) : Option Str) = some s1 := by
      split
      · rename_i h0
        have h0' : (0 : Int) < ((fmtT b).length : Int) := of_decide_eq_true h0
        obtain ⟨v, hv, hv0, hv1⟩ := keep_Mod (x := y2) (n := len (fmtT b)) (show (1 : Int) ≤ ((fmtT b).length : Int) by omega) (show ((fmtT b).length : Int) ≤ _ by omega)
        have hv1' : v < ((fmtT b).length : Int) := hv1
        obtain ⟨x, hx, _⟩ := idx_some hv0 hv1'
        have hw : 0 ≤ y3 ∧ y3 < 256 := by
          have this : (Lit.int IntKind.u8 y3).wf = true := w3
          simp [Lit.wf, IntKind.min, IntKind.max, IntKind.signed, IntKind.bits] at this
          omega
        rw [hv]
        simp only [Option.bind_some, hx]
        unfold bset
        rw [if_pos ⟨⟨hv0, by omega⟩, hw⟩]
        exact ⟨_, rfl⟩
      · exact ⟨_, rfl⟩
    obtain ⟨s1, e2⟩ := hs1
    rw [e2]
    obtain ⟨v, k2, e3, hv0, hv1, hk2⟩ := keep_N (n := 10) hk (by omega) (by omega)
    have hs2 : ∃ o, loop (m_law05_RulebaseParses_L1 (List.take 2000 y1, 0)) (([] : Str), v, k2) = some o ∧ o.1.length ≤ 10000 ∧ SrcOk (List.take 2000 y1, o.2) := by
      refine loop_nat (B := m_law05_RulebaseParses_L1 (List.take 2000 y1, 0)) (fun s => s.2.1.toNat) (fun s => (s.1.length : Int) + 100 * s.2.1 ≤ 10000 ∧ 0 ≤ s.2.1 ∧ SrcOk (List.take 2000 y1, s.2.2)) (fun o => o.1.length ≤ 10000 ∧ SrcOk (List.take 2000 y1, o.2)) ?_ _ ⟨by simp; omega, hv0, hk2⟩
      rintro ⟨t, q, kk⟩ ⟨h1, h2, h4⟩
      simp only at h1 h2 h4
      unfold m_law05_RulebaseParses_L1
      by_cases hq : 0 < q
      · obtain ⟨x, k3, e4, hx, hk3⟩ := keep_Text (l := ([[97, 120, 105, 111, 109, 32, 112], [112, 114, 101, 109, 105, 115, 101, 32, 113, 32, 51], [32, 102, 114, 111, 109, 32, 97, 110, 110], [97, 115, 115, 117, 109, 101, 32, 126, 112], [115, 116, 114, 105, 99, 116, 32, 115, 58, 32, 112, 32, 45, 62, 32, 113], [115, 116, 114, 105, 99, 116, 32, 115, 58, 32, 45, 62, 32, 113], [114, 117, 108, 101, 32, 100, 32, 50, 58, 32, 61, 62, 32, 112], [114, 117, 108, 101, 32, 100, 32, 50, 58, 32, 112, 44, 32, 113, 32, 61, 62, 32, 126, 100], [112, 114, 111, 109, 111, 116, 101, 32, 100, 32, 53, 32, 105, 102, 32, 113], [10], [10], [10], [32], [44], [120]] : List Str)) h4 (by simp) (by simp)
        have hxl : x.length ≤ 100 := by
          simp only [List.mem_cons, List.not_mem_nil, or_false] at hx
          rcases hx with h | h | h | h | h | h | h | h | h | h | h | h | h | h | h <;> rw [h] <;> decide
        have hd1 : decide (0 < q) = true := decide_eq_true hq
        simp only [hd1, if_true, e4, Option.bind_some]
        rw [cat_ok (by omega), w64_id (by omega) (by omega)]
        exact .inl ⟨_, rfl, ⟨by simp only [List.length_append]; omega, by simp only; omega, hk3⟩, by simp only; omega⟩
      · have hd1 : decide (0 < q) = false := decide_eq_false hq
        simp only [hd1, Bool.false_eq_true, if_false]
        exact .inr ⟨_, rfl, by simp only; omega, h4⟩
    obtain ⟨o, e4, ho, hko⟩ := hs2
    have e3' : m_keep_Src_N ((List.take 2000 y1, 0).1, k) 10 = some (v, k2) := e3
    simp only [Option.bind_some, e3', e4]
    have hw1 : w64 (len (fmtT b) + 1) = ((fmtT b).length : Int) + 1 := w64_id (x := ((fmtT b).length : Int) + 1) (by omega) (by omega)
    obtain ⟨v7, k7, e7, hv7, hv7', _⟩ := keep_N (n := ((fmtT b).length : Int) + 1) hko (by omega) (by omega)
    have e7' : m_keep_Src_N ((List.take 2000 y1, 0).1, o.2) (((fmtT b).length : Int) + 1) = some (v7, k7) := e7
    have hloop : ∀ L : List Str, L.length ≤ 100 → loop (m_law05_RulebaseParses_L2 (L, (L.length : Int), 0)) 0 = some (.inl ()) := by
      intro L hL
      have h := loop_forI (B := m_law05_RulebaseParses_L2 (L, (L.length : Int), 0)) (fun i (_ : Unit) => (i : Int)) L (fun _ _ => True) (fun r => r = .inl ()) (fun i x _ hx _ => .inl ⟨(), by
        have hi := (List.getElem?_eq_some_iff.1 hx).1
        unfold m_law05_RulebaseParses_L2
        have hd1 : decide ((i : Int) < (L.length : Int)) = true := decide_eq_true (by omega)
        simp only [hd1, if_true, idx_nat, hx, Option.bind_some, rb_Parse, ref_ParseS, bne_self_eq_false, Bool.false_eq_true, if_false, ref_SameB _ (parseS_cnt x), decide_true, Bool.not_true, w64_succ i (by omega)], trivial⟩) (fun _ _ => ⟨_, by
        unfold m_law05_RulebaseParses_L2
        have hd1 : decide ((L.length : Int) < (L.length : Int)) = false := decide_eq_false (by omega)
        simp only [hd1, Bool.false_eq_true, if_false], rfl⟩) () trivial
      obtain ⟨r, h1, rfl⟩ := h
      exact h1
    rw [cat_ok (by simp only [List.length_cons, List.length_nil]; omega)]
    simp only [Option.bind_some]
    rw [cat_ok (by omega)]
    simp only [Option.bind_some]
    rw [cat_ok (by simp only [List.length_cons, List.length_nil]; omega)]
    simp only [Option.bind_some, hw1, e7']
    rw [sub_pre (by omega) (by omega)]
    simp only [Option.bind_some]
    have hl := hloop [y0, fmtT b, s1, o.1, o.1 ++ [10], fmtT b ++ y0, (fmtT b).take v7.toNat, [97, 120, 105, 111, 109, 32, 112, 10, 112, 114, 101, 109, 105, 115, 101, 32, 113, 32, 51, 32, 102, 114, 111, 109, 32, 97, 110, 110, 10, 115, 116, 114, 105, 99, 116, 32, 115, 49, 58, 32, 112, 44, 32, 113, 32, 45, 62, 32, 114, 10, 114, 117, 108, 101, 32, 100, 49, 32, 50, 58, 32, 114, 32, 61, 62, 32, 126, 116, 10, 112, 114, 111, 109, 111, 116, 101, 32, 100, 49, 32, 53, 32, 105, 102, 32, 113, 10] ++ fmtT b] (by simp)
    rw [hl]
    simp only [seqE, Option.bind_some, rbP_awake]
end

end Go.GD
