/- The plain law: what the models compute, in plain Lean. Conditions: none. -/
import Derived.Test.YtegdfdnjenffnaaGreatDoorPlR1
namespace Go.GD
set_option autoImplicit false

section
set_option linter.unusedVariables false
theorem line30_ok {m : T_Move} (h : plnB m = true) : m_ref30_line m = some (lnS (mvW m)) := by
  obtain ⟨q0, q1, q2, q3⟩ := pln_nums h
  have k1 := itoa_len (n := m.2.2.1) q1.1 (by omega)
  have k2 := itoa_len (n := m.2.2.2) q2.1 (by omega)
  have d1 := digits_ok (n := m.2.2.1) q1.1 (by omega)
  have d2 := digits_ok (n := m.2.2.2) q2.1 (by omega)
  have htab : idx ([[], [80, 32], [79, 32]] : List Str) m.1 = some (plS m.1 ++ [32]) := by
    rcases q0 with e | e <;> rw [e] <;> rfl
  have hp := plS_len m.1
  unfold m_ref30_line
  rw [htab, Option.bind_some]
  generalize hP : plS m.1 = p at hp
  rcases q3 with ⟨c1, _⟩ | c2 | ⟨c3, _⟩ | ⟨c4, _, _⟩
  · have e1 : (m.2.1 == 1) = true := by simpa using c1
    simp only [e1, if_true, d1, Option.bind_some]
    rw [cat_ok (by simp; omega), Option.bind_some, cat_ok (by simp; omega), Option.bind_some, cat_ok (by simp; omega), Option.bind_some]
    unfold mvW lnS
    rw [if_pos c1, hP]
    simp [jn]
  · have e1 : (m.2.1 == 1) = false := by rw [c2]; rfl
    have e2 : (m.2.1 == 2) = true := by simpa using c2
    simp only [e1, Bool.false_eq_true, if_false, e2, if_true, d1, d2, Option.bind_some]
    rw [cat_ok (by simp; omega), Option.bind_some, cat_ok (by simp; omega), Option.bind_some, cat_ok (by simp; omega), Option.bind_some, cat_ok (by simp; omega), Option.bind_some, cat_ok (by simp; omega), Option.bind_some]
    unfold mvW lnS
    rw [if_neg (by omega), if_pos c2, hP]
    simp [jn]
  · have e1 : (m.2.1 == 1) = false := by rw [c3]; rfl
    have e2 : (m.2.1 == 2) = false := by rw [c3]; rfl
    have e3 : (m.2.1 == 3) = true := by simpa using c3
    simp only [e1, Bool.false_eq_true, if_false, e2, e3, if_true, d2, Option.bind_some]
    rw [cat_ok (by simp; omega), Option.bind_some, cat_ok (by simp; omega), Option.bind_some, cat_ok (by simp; omega), Option.bind_some]
    unfold mvW lnS
    rw [if_neg (by omega), if_neg (by omega), if_pos c3, hP]
    simp [jn]
  · have e1 : (m.2.1 == 1) = false := by rw [c4]; rfl
    have e2 : (m.2.1 == 2) = false := by rw [c4]; rfl
    have e3 : (m.2.1 == 3) = false := by rw [c4]; rfl
    simp only [e1, Bool.false_eq_true, if_false, e2, e3]
    rw [cat_ok (by simp; omega), Option.bind_some]
    unfold mvW lnS
    rw [if_neg (by omega), if_neg (by omega), if_neg (by omega), hP]
    simp [jn]
theorem format30_ok {t : T_Transcript} (h : Lt t) : m_ref30_Format t = some (fmS t) := by
  unfold m_ref30_Format fmS
  rw [plain30_ok h, Option.bind_some]
  by_cases hc : chkS t = 0
  · have hw := wr_of h hc
    have hce : (chkS t != 0) = false := by simpa using hc
    simp only [hce, Bool.false_eq_true, if_false]
    rw [if_neg (by simpa using hc)]
    obtain ⟨N, hN, hG⟩ := hw.n
    have hN40 := hG.hN
    have hLl := hG.len
    have hml := hw.len
    have hr := hw.r
    have ha := hw.a
    have hb := hw.b
    have lN := itoa_len (n := t.1.1) (by omega) (by omega)
    have lr := itoa_len (n := t.2.1) hr.1 (by omega)
    have la := itoa_len (n := t.2.2.1.1) ha.1 (by omega)
    have lb := itoa_len (n := t.2.2.1.2) hb.1 (by omega)
    rw [digits_ok (n := t.1.1) (by omega) (by omega), Option.bind_some, cat_ok (by simp; omega), Option.bind_some, cat_ok (by simp; omega), Option.bind_some]
    have e1 : [110, 111, 100, 101, 115, 32] ++ Lib.itoa t.1.1 ++ [10] = lnS [wNodes, Lib.itoa t.1.1] := by simp [lnS, jn]
    rw [e1]
    have l1 : (lnS [wNodes, Lib.itoa t.1.1]).length ≤ 1011 := by rw [← e1]; simp; omega
    generalize hA : lnS [wNodes, Lib.itoa t.1.1] = A at l1
    have hL1 : loop (m_ref30_Format_L1 t) (A, 0) = some (A ++ (t.1.2.map atW).flatMap lnS) := by
      have h1 := loop_forI (B := m_ref30_Format_L1 t) (fun i (z : Str) => (z, (i : Int))) t.1.2 (fun i z => z = A ++ ((t.1.2.take i).map atW).flatMap lnS) (fun r => r = A ++ (t.1.2.map atW).flatMap lnS) ?_ ?_ A (by simp)
      · obtain ⟨r, h1, rfl⟩ := h1; exact h1
      · rintro i p z hp rfl
        have hi := at_lt hp
        obtain ⟨q1, q2⟩ := ed_nums hG (mem_at hp)
        have k1 := itoa_len (n := p.1) q1.1 (by omega)
        have k2 := itoa_len (n := p.2) q2.1 (by omega)
        have hfl := flat_len2 ((t.1.2.take i).map atW) (fun ws hws => by
          obtain ⟨p', hp', rfl⟩ := List.mem_map.1 hws
          exact atW_ok hG (List.mem_of_mem_take hp'))
        have hfl2 : 1011 * ((t.1.2.take i).map atW).length ≤ 1011 * 1600 := Nat.mul_le_mul_left _ (by rw [List.length_map, List.length_take]; omega)
        refine .inl ⟨A ++ ((t.1.2.take (i + 1)).map atW).flatMap lnS, ?_, rfl⟩
        have hres : A ++ ((t.1.2.take (i + 1)).map atW).flatMap lnS = A ++ ((t.1.2.take i).map atW).flatMap lnS ++ lnS (atW p) := by
          rw [take_suc hp]
          simp only [List.map_append, List.map_cons, List.map_nil, List.flatMap_append, List.flatMap_cons, List.flatMap_nil, List.append_nil, List.append_assoc]
        have hZ : (A ++ ((t.1.2.take i).map atW).flatMap lnS).length ≤ 5000000 := by rw [List.length_append]; omega
        rw [hres]
        generalize A ++ ((t.1.2.take i).map atW).flatMap lnS = Z at hZ
        unfold m_ref30_Format_L1
        simp only [at_dec hp, if_true, at_idx hp, Option.bind_some, digits_ok (n := p.1) q1.1 (by omega), digits_ok (n := p.2) q2.1 (by omega)]
        rw [cat_ok (by simp; omega), Option.bind_some, cat_ok (by simp; omega), Option.bind_some, cat_ok (by simp; omega), Option.bind_some, cat_ok (by simp; omega), Option.bind_some, cat_ok (by simp; omega), Option.bind_some, at_suc hp h.g]
        congr 3
        simp [lnS, jn, atW]
      · rintro z rfl
        rw [List.take_length]
        refine ⟨_, ?_, rfl⟩
        unfold m_ref30_Format_L1
        simp only [end_dec, Bool.false_eq_true, if_false]
    rw [hL1, Option.bind_some]
    have hfA := flat_len2 (t.1.2.map atW) (fun ws hws => by
      obtain ⟨p', hp', rfl⟩ := List.mem_map.1 hws
      exact atW_ok hG hp')
    have hfA2 : 1011 * (t.1.2.map atW).length ≤ 1011 * 1600 := Nat.mul_le_mul_left _ (by rw [List.length_map]; omega)
    generalize hB : A ++ (t.1.2.map atW).flatMap lnS = B
    have lB : B.length ≤ 2000000 := by rw [← hB, List.length_append]; omega
    rw [digits_ok (n := t.2.1) hr.1 (by omega), Option.bind_some, cat_ok (by simp; omega), Option.bind_some, cat_ok (by simp; omega), Option.bind_some]
    rw [digits_ok (n := t.2.2.1.1) ha.1 (by omega), Option.bind_some, cat_ok (by simp; omega), Option.bind_some, cat_ok (by simp; omega), Option.bind_some]
    rw [digits_ok (n := t.2.2.1.2) hb.1 (by omega), Option.bind_some, cat_ok (by simp; omega), Option.bind_some, cat_ok (by simp; omega), Option.bind_some, cat_ok (by simp; omega), Option.bind_some]
    have e2 : B ++ ([114, 111, 111, 116, 32] ++ Lib.itoa t.2.1 ++ [10, 108, 105, 109, 105, 116, 115, 32] ++ Lib.itoa t.2.2.1.1 ++ [32] ++ Lib.itoa t.2.2.1.2 ++ [10]) = B ++ lnS [wRoot, Lib.itoa t.2.1] ++ lnS [wLimits, Lib.itoa t.2.2.1.1, Lib.itoa t.2.2.1.2] := by simp [lnS, jn]
    rw [e2]
    have lC : (B ++ lnS [wRoot, Lib.itoa t.2.1] ++ lnS [wLimits, Lib.itoa t.2.2.1.1, Lib.itoa t.2.2.1.2]).length ≤ 3000000 := by rw [← e2]; simp; omega
    generalize hC : B ++ lnS [wRoot, Lib.itoa t.2.1] ++ lnS [wLimits, Lib.itoa t.2.2.1.1, Lib.itoa t.2.2.1.2] = C at lC
    have hL2 : loop (m_ref30_Format_L2 t) (C, 0) = some (C ++ (t.2.2.2.map mvW).flatMap lnS) := by
      have h1 := loop_forI (B := m_ref30_Format_L2 t) (fun i (z : Str) => (z, (i : Int))) t.2.2.2 (fun i z => z = C ++ ((t.2.2.2.take i).map mvW).flatMap lnS) (fun r => r = C ++ (t.2.2.2.map mvW).flatMap lnS) ?_ ?_ C (by simp)
      · obtain ⟨r, h1, rfl⟩ := h1; exact h1
      · rintro i m z hm rfl
        have hi := at_lt hm
        have hpm := hw.m m (mem_at hm)
        have hfl := flat_len2 ((t.2.2.2.take i).map mvW) (fun ws hws => by
          obtain ⟨p', hp', rfl⟩ := List.mem_map.1 hws
          exact mvW_ok (hw.m p' (List.mem_of_mem_take hp')))
        have hfl2 : 1011 * ((t.2.2.2.take i).map mvW).length ≤ 1011 * 200 := Nat.mul_le_mul_left _ (by rw [List.length_map, List.length_take]; omega)
        refine .inl ⟨C ++ ((t.2.2.2.take (i + 1)).map mvW).flatMap lnS, ?_, rfl⟩
        have hres : C ++ ((t.2.2.2.take (i + 1)).map mvW).flatMap lnS = C ++ ((t.2.2.2.take i).map mvW).flatMap lnS ++ lnS (mvW m) := by
          rw [take_suc hm]
          simp only [List.map_append, List.map_cons, List.map_nil, List.flatMap_append, List.flatMap_cons, List.flatMap_nil, List.append_nil, List.append_assoc]
        have hZ : (C ++ ((t.2.2.2.take i).map mvW).flatMap lnS).length ≤ 5000000 := by rw [List.length_append]; omega
        have hml2 := lnS_len (mvW_ok hpm).1 (mvW_ok hpm).2
        rw [hres]
        generalize C ++ ((t.2.2.2.take i).map mvW).flatMap lnS = Z at hZ
        unfold m_ref30_Format_L2
        simp only [at_dec hm, if_true, at_idx hm, Option.bind_some, line30_ok hpm]
        rw [cat_ok (by omega), Option.bind_some, at_suc hm (show t.2.2.2.length < 4294967296 by omega)]
      · rintro z rfl
        rw [List.take_length]
        refine ⟨_, ?_, rfl⟩
        unfold m_ref30_Format_L2
        simp only [end_dec, Bool.false_eq_true, if_false]
    rw [hL2, Option.bind_some]
    have htxt : C ++ (t.2.2.2.map mvW).flatMap lnS = fmtR t := by
      unfold fmtR linesR
      rw [← hC, ← hB, ← hA]
      simp only [List.flatMap_append, List.flatMap_cons, List.nil_append, List.append_assoc, List.cons_append]
    rw [htxt]
    by_cases hlen : 4096 < (fmtR t).length
    · have : decide (4096 < len (fmtR t)) = true := by simp [len]; omega
      rw [if_pos hlen, if_pos this]
    · have : ¬ decide (4096 < len (fmtR t)) = true := by simp [len]; omega
      rw [if_neg hlen, if_neg this]
  · have hce : (chkS t != 0) = true := by simpa using hc
    rw [if_pos hc, if_pos hce]
end
section
set_option linter.unusedVariables false
def spl : Str → Str → List Str × Str
  | w, [] => ([], w)
  | w, x :: r => if x = 32 then (w :: (spl [] r).1, (spl [] r).2) else spl (w ++ [x]) r
def preW (w : Str) : List Str → List Str
  | [] => [w]
  | v :: vs => (w ++ v) :: vs
theorem splitC_ne (c : UInt8) (s : Str) : splitC c s ≠ [] := fun e => by have := splitC_len c s; rw [e] at this; simp at this
theorem preW_cons (w : Str) (x : UInt8) {l : List Str} (h : l ≠ []) : preW w (consH x l) = preW (w ++ [x]) l := by
  cases l with
  | nil => exact absurd rfl h
  | cons v vs => simp [preW, consH]
theorem spl_eq : ∀ (r w : Str), (spl w r).1 ++ [(spl w r).2] = preW w (splitC 32 r)
  | [], w => by simp [spl, splitC, preW]
  | x :: r, w => by
    rw [spl, splitC_cons]
    by_cases h : x = 32
    · rw [if_pos h, if_pos h]
      have := spl_eq r []
      have hne := splitC_ne 32 r
      cases hs : splitC 32 r with
      | nil => exact absurd hs hne
      | cons v vs =>
        rw [hs] at this
        simp only [preW, List.nil_append, List.append_nil] at this ⊢
        rw [List.cons_append, this]
    · rw [if_neg h, if_neg h, spl_eq r (w ++ [x]), preW_cons w x (splitC_ne 32 r)]
theorem spl_zero (s : Str) : (spl [] s).1 ++ [(spl [] s).2] = splitC 32 s := by
  rw [spl_eq]
  have hne := splitC_ne 32 s
  cases hs : splitC 32 s with
  | nil => exact absurd hs hne
  | cons v vs => simp [preW]
theorem words_loop (s : Str) (hs : s.length ≤ 5000) : ∀ (r w : Str) (i : Nat) (out : List Str), s.drop i = r → i ≤ s.length → w.length ≤ i → out.length ≤ i →
    loop (m_ref30_words_L1 s) (out, w, (i : Int)) = some (out ++ (spl w r).1, (spl w r).2)
  | [], w, i, out, hr, hi, hw, ho => by
    have hil : i = s.length := by have := congrArg List.length hr; simp at this; omega
    have hd : decide ((i : Int) < len s) = false := by rw [hil]; exact end_dec s
    have hstep : m_ref30_words_L1 s (out, w, (i : Int)) = some (.inr (out, w)) := by
      unfold m_ref30_words_L1
      simp only [hd, Bool.false_eq_true, if_false]
    rw [loop_eq, hstep]
    simp [spl]
  | x :: r, w, i, out, hr, hi, hw, ho => by
    have hx : s[i]? = some x := by have := congrArg (fun l => l[0]?) hr; simpa using this
    have hlt := at_lt hx
    have hr2 : s.drop (i + 1) = r := by rw [← List.drop_drop, hr]; rfl
    have hsx : sidx s (i : Int) = some ((x.toNat : Nat) : Int) := by rw [sidx_nat, hx]; rfl
    by_cases h : x = 32
    · have hb : (((x.toNat : Nat) : Int) == 32) = true := by rw [h]; rfl
      have hstep : m_ref30_words_L1 s (out, w, (i : Int)) = some (.inl (out ++ [w], [], ((i + 1 : Nat) : Int))) := by
        unfold m_ref30_words_L1
        simp only [at_dec hx, if_true, hsx, Option.bind_some, hb]
        rw [app_ok (by simp; omega), Option.bind_some, at_suc hx (by omega)]
      rw [loop_eq, hstep]
      dsimp only
      rw [words_loop s hs r [] (i + 1) (out ++ [w]) hr2 (by omega) (by simp) (by simp; omega)]
      rw [spl, if_pos h]
      simp
    · have hb : (((x.toNat : Nat) : Int) == 32) = false := by
        rw [beq_eq_false_iff_ne]
        intro e
        apply h
        apply UInt8.toNat_inj.1
        have h32 : (32 : UInt8).toNat = 32 := rfl
        omega
      have hsub : sub s (i : Int) (w64 ((i : Int) + 1)) = some [x] := by
        rw [at_suc hx (by omega), sub_ok (by omega) (by omega) (by omega)]
        have : (s.take (i + 1)).drop i = [x] := by
          rw [take_suc hx, List.drop_append_of_le_length (by rw [List.length_take]; omega), List.drop_eq_nil_of_le (by rw [List.length_take]; omega)]
          rfl
        simpa using this
      have hstep : m_ref30_words_L1 s (out, w, (i : Int)) = some (.inl (out, w ++ [x], ((i + 1 : Nat) : Int))) := by
        unfold m_ref30_words_L1
        simp only [at_dec hx, if_true, hsx, Option.bind_some, hb, Bool.false_eq_true, if_false, hsub]
        rw [cat_ok (by simp; omega), Option.bind_some, at_suc hx (by omega)]
      rw [loop_eq, hstep]
      dsimp only
      rw [words_loop s hs r (w ++ [x]) (i + 1) out hr2 (by omega) (by simp; omega) (by omega)]
      rw [spl, if_neg h]
theorem words_ok {s : Str} (hs : s.length ≤ 5000) : m_ref30_words s = some (splitC 32 s) := by
  unfold m_ref30_words
  have h := words_loop s hs s [] 0 [] rfl (by omega) (by simp) (by simp)
  rw [show loop (m_ref30_words_L1 s) ([], [], 0) = _ from h, Option.bind_some]
  have hl : (splitC 32 s).length ≤ 5001 := by rw [splitC_len]; have : s.count 32 ≤ s.length := List.count_le_length; omega
  rw [← spl_zero] at hl
  simp only [List.length_append, List.length_singleton] at hl
  rw [app_ok (by simp; omega), Option.bind_some, List.nil_append, spl_zero]
theorem splitC_wlen (c : UInt8) : ∀ (s : Str), ∀ w ∈ splitC c s, w.length ≤ s.length
  | [], w, h => by simp [splitC] at h; simp [h]
  | x :: r, w, h => by
    have ih := splitC_wlen c r
    rw [splitC_cons] at h
    split at h
    · rcases List.mem_cons.1 h with rfl | h
      · simp
      · have := ih w h; simp; omega
    · have hne := splitC_ne c r
      cases hs : splitC c r with
      | nil => exact absurd hs hne
      | cons v vs =>
        rw [hs] at h ih
        rcases List.mem_cons.1 h with rfl | h
        · have := ih v (by simp); simp; omega
        · have := ih w (by simp [h]); simp; omega
theorem number_ok {w : Str} (hw : w.length ≤ 5000) : m_ref30_number w = some ((numS w).getD (-1)) := by
  unfold m_ref30_number
  cases w with
  | nil =>
    have : numS [] = none := by unfold numS canon; simp
    rw [this]
    rfl
  | cons c r =>
    have d1 : decide (len (c :: r) < 1) = false := by simp [len]; omega
    simp only [d1, Bool.false_eq_true, if_false]
    by_cases hl : (c :: r).length ≤ 4
    · have d2 : decide (4 < len (c :: r)) = false := by simp [len] at hl ⊢; omega
      simp only [d2, Bool.false_eq_true, if_false]
      have hs0 : sidx (c :: r) 0 = some ((c.toNat : Nat) : Int) := rfl
      have hif : (if decide (1 < len (c :: r)) = true then (sidx (c :: r) 0).bind fun x1 => some (x1 == 48) else some false) = some (decide (1 < (c :: r).length) && c == 48) := by
        have h48 : (((c.toNat : Nat) : Int) == 48) = (c == 48) := by
          rw [Bool.eq_iff_iff, beq_iff_eq, beq_iff_eq]
          constructor
          · intro h
            apply UInt8.toNat_inj.1
            have h32 : (48 : UInt8).toNat = 48 := rfl
            omega
          · intro h; rw [h]; rfl
        by_cases h1 : 1 < (c :: r).length
        · have : decide (1 < len (c :: r)) = true := by simp [len] at h1 ⊢; omega
          rw [if_pos this, hs0, Option.bind_some, h48]
          simp only [decide_eq_true h1, Bool.true_and]
        · have : ¬ decide (1 < len (c :: r)) = true := by rw [decide_eq_true_eq]; show ¬ (1 : Int) < ((c :: r).length : Int); omega
          rw [if_neg this]
          simp only [decide_eq_false h1, Bool.false_and]
      rw [hif, Option.bind_some]
      by_cases hz : (decide (1 < (c :: r).length) && c == 48) = true
      · rw [if_pos hz]
        have hz' := hz
        simp only [Bool.and_eq_true, decide_eq_true_eq, beq_iff_eq] at hz'
        have : numS (c :: r) = none := by
          unfold numS canon
          rw [if_neg]
          intro h
          simp only [Bool.and_eq_true, Bool.or_eq_true, decide_eq_true_eq, List.head?_cons] at h
          rcases h.1.2 with h2 | h2
          · omega
          · rw [hz'.2] at h2; simp at h2
        rw [this]
        rfl
      · rw [if_neg hz]
        have hlp := loop_forI (B := m_ref30_number_L1 (c :: r)) (fun i (v : Nat) => ((v : Int), (i : Int))) (c :: r) (fun i v => v = valD 0 ((c :: r).take i) ∧ ∀ x ∈ (c :: r).take i, isDig x = true)
          (fun o => o = (if (c :: r).all isDig = true then ((valD 0 (c :: r) : Nat) : Int) else -1)) ?_ ?_ 0 (by simp [valD_nil])
        · obtain ⟨o, h1, rfl⟩ := hlp
          rw [show loop (m_ref30_number_L1 (c :: r)) (0, 0) = _ from h1]
          congr 1
          unfold numS
          have hcan : canon (c :: r) = (c :: r).all isDig := by
            unfold canon
            have h2 : (decide ((c :: r).length = 1) || !((c :: r).head? == some 48)) = true := by
              rw [Bool.or_eq_true, decide_eq_true_eq]
              by_cases h3 : (c :: r).length = 1
              · exact .inl h3
              · right
                have h4 : 1 < (c :: r).length := by simp at h3 ⊢; cases r with | nil => simp at h3 | cons _ _ => simp
                simp only [decide_eq_true h4, Bool.true_and] at hz
                simpa using hz
            rw [h2]
            simp
          rw [hcan]
          by_cases ha : (c :: r).all isDig = true
          · rw [if_pos ha, if_pos ⟨ha, hl⟩]; rfl
          · rw [if_neg ha, if_neg (fun h => ha h.1)]; rfl
        · rintro i x v hx ⟨rfl, hI⟩
          have hi := at_lt hx
          have hsx : sidx (c :: r) (i : Int) = some ((x.toNat : Nat) : Int) := by rw [sidx_nat, hx]; rfl
          have hv := valD_lt ((c :: r).take i) 0 hI
          have hpow : 10 ^ ((c :: r).take i).length ≤ 10 ^ 4 := Nat.pow_le_pow_right (by omega) (by rw [List.length_take]; omega)
          by_cases hd : isDig x = true
          · have hd2 := hd
            unfold isDig at hd2
            simp only [Bool.and_eq_true, decide_eq_true_eq] at hd2
            refine .inl ⟨valD 0 ((c :: r).take (i + 1)), ?_, rfl, fun y hy => ?_⟩
            · have e1 : decide (((x.toNat : Nat) : Int) < 48) = false := by rw [decide_eq_false_iff_not]; omega
              have e2 : decide ((57 : Int) < ((x.toNat : Nat) : Int)) = false := by rw [decide_eq_false_iff_not]; omega
              have hwr : IntKind.u8.wrap (((x.toNat : Nat) : Int) - 48) = ((x.toNat - 48 : Nat) : Int) := by
                simp only [IntKind.wrap, IntKind.signed, IntKind.bits]
                simp; omega
              unfold m_ref30_number_L1
              simp only [at_dec hx, if_true, hsx, Option.bind_some, e1, Bool.false_eq_true, if_false, e2, at_suc hx (show (c :: r).length < 4294967296 by omega)]
              rw [hwr, w64_id (x := ((valD 0 ((c :: r).take i) : Nat) : Int) * 10) (by omega) (by omega), w64_nat _ (by omega), w64_id (by omega) (by omega)]
              rw [take_suc hx, valD_snoc]
              congr 4 <;> omega
            · rw [take_suc hx, List.mem_append, List.mem_singleton] at hy
              rcases hy with hy | rfl
              · exact hI y hy
              · exact hd
          · refine .inr ⟨-1, ?_, ?_⟩
            · have hb : (if decide (((x.toNat : Nat) : Int) < 48) = true then some true else (sidx (c :: r) (i : Int)).bind fun x3 => some (decide (57 < x3))) = some true := by
                by_cases h48 : x.toNat < 48
                · have : decide (((x.toNat : Nat) : Int) < 48) = true := by rw [decide_eq_true_eq]; omega
                  rw [if_pos this]
                · have : ¬ decide (((x.toNat : Nat) : Int) < 48) = true := by rw [decide_eq_true_eq]; omega
                  rw [if_neg this, hsx, Option.bind_some]
                  congr 1
                  rw [decide_eq_true_eq]
                  unfold isDig at hd
                  simp only [Bool.and_eq_true, decide_eq_true_eq] at hd
                  omega
              unfold m_ref30_number_L1
              simp only [at_dec hx, if_true, hsx, Option.bind_some]
              rw [hsx] at hb
              simp only [Option.bind_some] at hb
              rw [hb]
              rfl
            · rw [if_neg]
              intro h
              exact hd (List.all_eq_true.1 h x (mem_at hx))
        · rintro v ⟨rfl, hI⟩
          rw [List.take_length] at hI ⊢
          refine ⟨_, ?_, rfl⟩
          rw [if_pos (List.all_eq_true.2 hI)]
          unfold m_ref30_number_L1
          simp only [end_dec, Bool.false_eq_true, if_false]
    · have d2 : decide (4 < len (c :: r)) = true := by simp [len] at hl ⊢; omega
      have : numS (c :: r) = none := by
        unfold numS
        rw [if_neg fun h => hl h.2]
      rw [this]
      simp only [d2, if_true]
      rfl
theorem atoi_bd {l : Str} {v : Int} (h : Lib.atoiAll l = .ok v) : -9223372036854775808 ≤ v ∧ v ≤ 9223372036854775807 := by
  unfold Lib.atoiAll at h
  split at h
  · cases h
  · dsimp only at h
    split at h
    · cases h
    · cases h
    · split at h
      · cases h
      · split at h
        · cases h
        · injection h with h
          subst h
          split <;> omega
/-- what the program finds in a word that should be a number -/
theorem num_prog {w : Str} (hw : w.length ≤ 5000) : ∃ (v : Int) (b : Bool), m_strconv_Atoi w = some (v, b) ∧ (∀ u, numS w = some u → v = u) ∧
    (if b = true then some true else if decide (4 < len w) = true then some true else (m_strconv_Itoa v).bind fun r4 => if (!(r4 == w)) = true then some true else some (decide (v < 0))) = some (numS w).isNone := by
  have hlen : w.length ≤ 281474976710656 := by omega
  unfold m_strconv_Atoi atoiM
  rw [if_pos hlen]
  by_cases hc : canon w = true ∧ w.length ≤ 4
  · have h1 := atoi_canon hc.1 hc.2
    have h2 : numS w = some ((valD 0 w : Nat) : Int) := by unfold numS; rw [if_pos hc]
    have hdig : ∀ c ∈ w, isDig c = true := by
      have h3 := hc.1
      unfold canon at h3
      simp only [Bool.and_eq_true, List.all_eq_true] at h3
      exact h3.1.2
    have hv := valD_lt w 0 hdig
    have hpow : 10 ^ w.length ≤ 10 ^ 4 := Nat.pow_le_pow_right (by omega) hc.2
    refine ⟨((valD 0 w : Nat) : Int), false, by rw [h1], fun u hu => by rw [h2] at hu; exact Option.some.inj hu, ?_⟩
    have d : decide (4 < len w) = false := by rw [decide_eq_false_iff_not]; show ¬ (4 : Int) < (w.length : Int); omega
    rw [h2, if_neg (by simp), d, itoa_any (by omega) (by omega), Option.bind_some]
    have hit : Lib.itoa ((valD 0 w : Nat) : Int) = w := by
      unfold Lib.itoa
      rw [if_neg (by omega), Int.toNat_natCast]
      exact canon_dec _ w rfl hc.1
    have hn : decide (((valD 0 w : Nat) : Int) < 0) = false := by rw [decide_eq_false_iff_not]; omega
    rw [hit, hn]
    simp
  · have h2 : numS w = none := by unfold numS; rw [if_neg hc]
    rw [h2]
    have key : ∀ v : Int, (if decide (4 < len w) = true then some true else (m_strconv_Itoa v).bind fun r4 => if (!(r4 == w)) = true then some true else some (decide (v < 0))) = some true ∨ ¬ (-9223372036854775808 ≤ v ∧ v ≤ 9223372036854775807) := by
      intro v
      by_cases hb : -9223372036854775808 ≤ v ∧ v ≤ 9223372036854775807
      · left
        by_cases hl : 4 < w.length
        · have : decide (4 < len w) = true := by rw [decide_eq_true_eq]; show (4 : Int) < (w.length : Int); omega
          rw [if_pos this]
        · have : ¬ decide (4 < len w) = true := by rw [decide_eq_true_eq]; show ¬ (4 : Int) < (w.length : Int); omega
          rw [if_neg this, itoa_any hb.1 hb.2, Option.bind_some]
          by_cases he : Lib.itoa v = w
          · by_cases hv : v < 0
            · simp [he, hv]
            · exfalso
              apply hc
              refine ⟨?_, by omega⟩
              rw [← he]
              unfold Lib.itoa
              rw [if_neg hv]
              exact dec_canon _
          · have : (Lib.itoa v == w) = false := by simpa using he
            rw [this]
            rfl
      · exact .inr hb
    cases ha : Lib.atoiAll w with
    | ok v =>
      refine ⟨v, false, rfl, (fun u hu => by cases hu), ?_⟩
      rcases key v with h | h
      · rw [if_neg (by simp)]; exact h
      · exfalso
        apply h
        obtain ⟨h3, h4⟩ := atoi_bd ha
        omega
    | «syntax» => exact ⟨0, true, rfl, (fun u hu => by cases hu), rfl⟩
    | range => exact ⟨_, true, rfl, (fun u hu => by cases hu), rfl⟩
def mtS : List Str → List Str → List Int → List Int × Bool
  | [], [], acc => (acc, true)
  | w :: ws, p :: ps, acc => if p = [35] then (match numS w with | some v => mtS ws ps (acc ++ [v]) | none => ([], false)) else if w = p then mtS ws ps acc else ([], false)
  | _, _, _ => ([], false)
theorem mtS_len : ∀ (ws ps : List Str) (acc : List Int), ws.length ≠ ps.length → mtS ws ps acc = ([], false)
  | [], [], acc, h => absurd rfl h
  | [], p :: ps, acc, _ => rfl
  | w :: ws, [], acc, _ => rfl
  | w :: ws, p :: ps, acc, h => by
    have h2 : ws.length ≠ ps.length := by simpa using h
    rw [mtS]
    by_cases hp : p = [35]
    · rw [if_pos hp]
      cases numS w with
      | none => rfl
      | some v => exact mtS_len ws ps _ h2
    · rw [if_neg hp]
      by_cases hw : w = p
      · rw [if_pos hw]; exact mtS_len ws ps _ h2
      · rw [if_neg hw]
theorem matches_ok {ws ps : List Str} (hw : ∀ w ∈ ws, w.length ≤ 5000) (hl : ws.length ≤ 6000) : m_ref30_matches ws ps = some (mtS ws ps []) := by
  unfold m_ref30_matches
  by_cases h : ws.length = ps.length
  · have hne : (len ws != len ps) = false := by simp [len, h]
    simp only [hne, Bool.false_eq_true, if_false]
    have key : ∀ (r q : List Str) (i : Nat) (acc : List Int), ws.drop i = r → ps.drop i = q → i ≤ ws.length → acc.length ≤ i → loop (m_ref30_matches_L1 ws ps) (acc, (i : Int)) = some (mtS r q acc) := by
      intro r
      induction r with
      | nil =>
        intro q i acc hr hq hi ha
        have hil : i = ws.length := by have := congrArg List.length hr; simp at this; omega
        have hq0 : q = [] := by rw [← hq]; exact List.drop_eq_nil_of_le (by omega)
        subst hq0
        have hd : decide ((i : Int) < len ws) = false := by rw [hil]; exact end_dec ws
        have hstep : m_ref30_matches_L1 ws ps (acc, (i : Int)) = some (.inr (acc, true)) := by
          unfold m_ref30_matches_L1
          simp only [hd, Bool.false_eq_true, if_false]
        rw [loop_eq, hstep]
        rfl
      | cons w r ih =>
        intro q i acc hr hq hi ha
        have hx : ws[i]? = some w := by have := congrArg (fun l => l[0]?) hr; simpa using this
        have hlt := at_lt hx
        have hr2 : ws.drop (i + 1) = r := by rw [← List.drop_drop, hr]; rfl
        have hpx : ps[i]? = some ps[i] := List.getElem?_eq_getElem (by omega)
        generalize hpp : ps[i] = p at hpx
        have hq2 : q = p :: ps.drop (i + 1) := by rw [← hq, List.drop_eq_getElem_cons (by omega), hpp]
        rw [hq2, mtS]
        have hwl := hw w (mem_at hx)
        have hsuc := at_suc hx (show ws.length < 4294967296 by omega)
        by_cases hp : p = [35]
        · have hb : (p == [35]) = true := by simpa using hp
          rw [if_pos hp]
          cases hn : numS w with
          | none =>
            have hstep : m_ref30_matches_L1 ws ps (acc, (i : Int)) = some (.inr ([], false)) := by
              unfold m_ref30_matches_L1
              simp only [at_dec hx, if_true, at_idx hx, at_idx hpx, Option.bind_some, hb, Bool.not_true, Bool.false_eq_true, if_false, number_ok hwl, hn]
              rfl
            rw [loop_eq, hstep]
          | some v =>
            have hv0 : 0 ≤ v := by
              unfold numS at hn
              split at hn
              · have := Option.some.inj hn; omega
              · cases hn
            have hd0 : decide (v < 0) = false := by rw [decide_eq_false_iff_not]; omega
            have hstep : m_ref30_matches_L1 ws ps (acc, (i : Int)) = some (.inl (acc ++ [v], ((i + 1 : Nat) : Int))) := by
              unfold m_ref30_matches_L1
              simp only [at_dec hx, if_true, at_idx hx, at_idx hpx, Option.bind_some, hb, Bool.not_true, Bool.false_eq_true, if_false, number_ok hwl, hn, Option.getD_some, hd0]
              rw [app_ok (by simp; omega), Option.bind_some, hsuc]
            rw [loop_eq, hstep]
            dsimp only
            rw [ih (ps.drop (i + 1)) (i + 1) (acc ++ [v]) hr2 rfl (by omega) (by simp; omega)]
        · have hb : (p == [35]) = false := by simpa using hp
          rw [if_neg hp]
          by_cases hwp : w = p
          · have hb2 : (w == p) = true := by simpa using hwp
            rw [if_pos hwp]
            have hstep : m_ref30_matches_L1 ws ps (acc, (i : Int)) = some (.inl (acc, ((i + 1 : Nat) : Int))) := by
              unfold m_ref30_matches_L1
              simp only [at_dec hx, if_true, at_idx hx, at_idx hpx, Option.bind_some, hb, Bool.not_false, hb2, Bool.not_true, Bool.false_eq_true, if_false, hsuc]
            rw [loop_eq, hstep]
            dsimp only
            rw [ih (ps.drop (i + 1)) (i + 1) acc hr2 rfl (by omega) (by omega)]
          · have hb2 : (w == p) = false := by simpa using hwp
            rw [if_neg hwp]
            have hstep : m_ref30_matches_L1 ws ps (acc, (i : Int)) = some (.inr ([], false)) := by
              unfold m_ref30_matches_L1
              simp only [at_dec hx, if_true, at_idx hx, at_idx hpx, Option.bind_some, hb, Bool.not_false, hb2]
            rw [loop_eq, hstep]
    exact key ws ps 0 [] rfl rfl (by omega) (by simp)
  · have hne : (len ws != len ps) = true := by simp [len]; omega
    simp only [hne, if_true]
    rw [mtS_len ws ps [] h]
theorem numbers_ok {s p : Str} (hs : s.length ≤ 5000) (hp : p.length ≤ 5000) : m_referee_numbers s p = some (mtS (splitC 32 s) (splitC 32 p) []) := by
  unfold m_referee_numbers
  rw [split_ok 32 (by omega), split_ok 32 (by omega), Option.bind_some, Option.bind_some]
  have hwl := splitC_wlen 32 s
  have hcl : s.count 32 ≤ s.length := List.count_le_length
  have hsl : (splitC 32 s).length ≤ 5001 := by rw [splitC_len]; omega
  generalize splitC 32 s = ws at hwl hsl
  generalize splitC 32 p = ps
  by_cases h : ws.length = ps.length
  · have hne : (len ws != len ps) = false := by simp [len, h]
    simp only [hne, Bool.false_eq_true, if_false]
    have key : ∀ (r q : List Str) (i : Nat) (acc : List Int), ws.drop i = r → ps.drop i = q → i ≤ ws.length → acc.length ≤ i → loop (m_referee_numbers_L1 ps ws) (acc, (i : Int)) = some (mtS r q acc) := by
      intro r
      induction r with
      | nil =>
        intro q i acc hr hq hi ha
        have hil : i = ps.length := by have := congrArg List.length hr; simp at this; omega
        have hq0 : q = [] := by rw [← hq]; exact List.drop_eq_nil_of_le (by omega)
        subst hq0
        have hd : decide ((i : Int) < len ps) = false := by rw [hil]; exact end_dec ps
        have hstep : m_referee_numbers_L1 ps ws (acc, (i : Int)) = some (.inr (acc, true)) := by
          unfold m_referee_numbers_L1
          simp only [hd, Bool.false_eq_true, if_false]
        rw [loop_eq, hstep]
        rfl
      | cons w r ih =>
        intro q i acc hr hq hi ha
        have hx : ws[i]? = some w := by have := congrArg (fun l => l[0]?) hr; simpa using this
        have hlt := at_lt hx
        have hr2 : ws.drop (i + 1) = r := by rw [← List.drop_drop, hr]; rfl
        have hpx : ps[i]? = some ps[i] := List.getElem?_eq_getElem (by omega)
        generalize hpp : ps[i] = p at hpx
        have hq2 : q = p :: ps.drop (i + 1) := by rw [← hq, List.drop_eq_getElem_cons (by omega), hpp]
        rw [hq2, mtS]
        have hwl2 := hwl w (mem_at hx)
        have hsuc := at_suc hpx (show ps.length < 4294967296 by omega)
        by_cases hp : p = [35]
        · have hb : (p == [35]) = true := by simpa using hp
          rw [if_pos hp]
          obtain ⟨v, b, a1, a2, a3⟩ := num_prog (w := w) (by omega)
          cases hn : numS w with
          | none =>
            rw [hn] at a3
            have hstep : m_referee_numbers_L1 ps ws (acc, (i : Int)) = some (.inr ([], false)) := by
              unfold m_referee_numbers_L1
              simp only [at_dec hpx, if_true, at_idx hx, at_idx hpx, Option.bind_some, hb, Bool.not_true, Bool.false_eq_true, if_false, a1, a3]
              rfl
            rw [loop_eq, hstep]
          | some u =>
            obtain rfl := a2 u hn
            rw [hn] at a3
            have hstep : m_referee_numbers_L1 ps ws (acc, (i : Int)) = some (.inl (acc ++ [v], ((i + 1 : Nat) : Int))) := by
              unfold m_referee_numbers_L1
              simp only [at_dec hpx, if_true, at_idx hx, at_idx hpx, Option.bind_some, hb, Bool.not_true, Bool.false_eq_true, if_false, a1, a3, Option.isNone_some]
              rw [app_ok (by simp; omega), Option.bind_some, hsuc]
            rw [loop_eq, hstep]
            dsimp only
            rw [ih (ps.drop (i + 1)) (i + 1) (acc ++ [v]) hr2 rfl (by omega) (by simp; omega)]
        · have hb : (p == [35]) = false := by simpa using hp
          rw [if_neg hp]
          by_cases hwp : w = p
          · have hb2 : (w == p) = true := by simpa using hwp
            rw [if_pos hwp]
            have hstep : m_referee_numbers_L1 ps ws (acc, (i : Int)) = some (.inl (acc, ((i + 1 : Nat) : Int))) := by
              unfold m_referee_numbers_L1
              simp only [at_dec hpx, if_true, at_idx hx, at_idx hpx, Option.bind_some, hb, Bool.not_false, hb2, Bool.not_true, Bool.false_eq_true, if_false, hsuc]
            rw [loop_eq, hstep]
            dsimp only
            rw [ih (ps.drop (i + 1)) (i + 1) acc hr2 rfl (by omega) (by omega)]
          · have hb2 : (w == p) = false := by simpa using hwp
            rw [if_neg hwp]
            have hstep : m_referee_numbers_L1 ps ws (acc, (i : Int)) = some (.inr ([], false)) := by
              unfold m_referee_numbers_L1
              simp only [at_dec hpx, if_true, at_idx hx, at_idx hpx, Option.bind_some, hb, Bool.not_false, hb2]
            rw [loop_eq, hstep]
    exact key ws ps 0 [] rfl rfl (by omega) (by simp)
  · have hne : (len ws != len ps) = true := by simp [len]; omega
    simp only [hne, if_true]
    rw [mtS_len ws ps [] h]
end
section
set_option linter.unusedVariables false
/-- how many numbers a pattern has -/
def nums (ps : List Str) : Nat := (ps.filter fun p => decide (p = [35])).length
theorem mtS_nums : ∀ (ws ps : List Str) (acc : List Int), (mtS ws ps acc).2 = true → (mtS ws ps acc).1.length = acc.length + nums ps
  | [], [], acc, _ => by simp [mtS, nums]
  | [], p :: ps, acc, h => by simp [mtS] at h
  | w :: ws, [], acc, h => by simp [mtS] at h
  | w :: ws, p :: ps, acc, h => by
    rw [mtS] at h ⊢
    by_cases hp : p = [35]
    · rw [if_pos hp] at h ⊢
      cases hn : numS w with
      | none => rw [hn] at h; simp at h
      | some v =>
        rw [hn] at h
        dsimp only at h ⊢
        rw [mtS_nums ws ps _ h]
        simp [nums, hp]; omega
    · rw [if_neg hp] at h ⊢
      by_cases hw : w = p
      · rw [if_pos hw] at h ⊢
        rw [mtS_nums ws ps _ h]
        simp [nums, hp]
      · rw [if_neg hw] at h; simp at h
theorem one_num {l : List Int} (h : l.length = 1) : ∃ a, l = [a] := by
  match l, h with
  | [a], _ => exact ⟨a, rfl⟩
theorem two_num {l : List Int} (h : l.length = 2) : ∃ a b, l = [a, b] := by
  match l, h with
  | [a, b], _ => exact ⟨a, b, rfl⟩
abbrev pClaims : List Str := [wClaims, [35]]
abbrev pMoves : List Str := [wMoves, [35], wAgainst, [35]]
abbrev pRetracts : List Str := [wRetracts, [35]]
abbrev pNodes : List Str := [wNodes, [35]]
abbrev pAttack : List Str := [wAttack, [35], [35]]
abbrev pRoot : List Str := [wRoot, [35]]
abbrev pLimits : List Str := [wLimits, [35], [35]]
def mvB (by_ : Int) (r : List Str) : T_Move × Bool :=
  if (mtS r pClaims []).2 = true then ((by_, 1, (mtS r pClaims []).1.headD 0, 0), true)
  else if (mtS r pMoves []).2 = true then ((by_, 2, (mtS r pMoves []).1.headD 0, (mtS r pMoves []).1.tail.headD 0), true)
  else if (mtS r pRetracts []).2 = true then ((by_, 3, 0, (mtS r pRetracts []).1.headD 0), true)
  else ((by_, 4, 0, 0), decide (r = [wConcedes]))
def mvP (ws : List Str) : T_Move × Bool := if ws.headD [] = [79] then mvB 2 ws.tail else if ws.headD [] = [80] then mvB 1 ws.tail else ((1, 0, 0, 0), false)
theorem mvP_cons (h : Str) (r : List Str) : mvP (h :: r) = if h = [79] then mvB 2 r else if h = [80] then mvB 1 r else ((1, 0, 0, 0), false) := rfl
theorem mt_con (r : List Str) : (mtS r [wConcedes] []).2 = decide (r = [wConcedes]) := by
  match r with
  | [] => rfl
  | [w] =>
    rw [mtS, if_neg (by decide)]
    by_cases h : w = wConcedes
    · rw [if_pos h, h]; rfl
    · rw [if_neg h]
      have : ¬ [w] = [wConcedes] := fun e => h (by simpa using e)
      rw [decide_eq_false this]
  | w :: v :: r =>
    rw [mtS_len _ _ _ (by simp)]
    have : ¬ (w :: v :: r) = [wConcedes] := fun e => by simp at e
    rw [decide_eq_false this]
theorem mvB_parts (r : List Str) : ((mtS r pClaims []).2 = true → ∃ a, (mtS r pClaims []).1 = [a]) ∧ ((mtS r pMoves []).2 = true → ∃ a b, (mtS r pMoves []).1 = [a, b]) ∧ ((mtS r pRetracts []).2 = true → ∃ a, (mtS r pRetracts []).1 = [a]) :=
  ⟨fun h => one_num (by rw [mtS_nums _ _ _ h]; decide), fun h => two_num (by rw [mtS_nums _ _ _ h]; decide), fun h => one_num (by rw [mtS_nums _ _ _ h]; decide)⟩
theorem move30_ok {ws : List Str} (hne : ws ≠ []) (hw : ∀ w ∈ ws, w.length ≤ 5000) (hl : ws.length ≤ 6000) : m_ref30_move ws = some (mvP ws) := by
  obtain ⟨h, r, rfl⟩ := List.exists_cons_of_ne_nil hne
  have hwr : ∀ w ∈ r, w.length ≤ 5000 := fun w hm => hw w (by simp [hm])
  have hlr : r.length ≤ 6000 := by simp at hl; omega
  have hi : idx (h :: r) 0 = some h := by simp [idx]
  have hsub : sub (h :: r) 1 (len (h :: r)) = some r := by
    rw [sub_suf (by omega) (by simp; omega)]; rfl
  obtain ⟨p1, p2, p3⟩ := mvB_parts r
  have hbody : ∀ b : Int, ((sub (h :: r) 1 (len (h :: r))).bind fun x3 => (m_ref30_matches x3 ([[99, 108, 97, 105, 109, 115], [35]] : List Str)).bind fun r1 => if r1.2 = true then (idx r1.1 0).bind fun x4 => some (((b, 1, x4, 0) : T_Move), true) else
      (m_ref30_matches x3 ([[109, 111, 118, 101, 115], [35], [97, 103, 97, 105, 110, 115, 116], [35]] : List Str)).bind fun r2 => if r2.2 = true then (idx r2.1 0).bind fun x5 => (idx r2.1 1).bind fun x6 => some ((b, 2, x5, x6), true) else
      (m_ref30_matches x3 ([[114, 101, 116, 114, 97, 99, 116, 115], [35]] : List Str)).bind fun r3 => if r3.2 = true then (idx r3.1 0).bind fun x7 => some ((b, 3, 0, x7), true) else
      (m_ref30_matches x3 ([[99, 111, 110, 99, 101, 100, 101, 115]] : List Str)).bind fun r4 => some ((b, 4, 0, 0), r4.2)) = some (mvB b r) := by
    intro b
    rw [hsub, Option.bind_some, matches_ok hwr hlr, Option.bind_some]
    unfold mvB
    by_cases c1 : (mtS r pClaims []).2 = true
    · obtain ⟨a, ha⟩ := p1 c1
      rw [if_pos c1, if_pos c1, ha]; rfl
    · rw [if_neg c1, if_neg c1, matches_ok hwr hlr, Option.bind_some]
      by_cases c2 : (mtS r pMoves []).2 = true
      · obtain ⟨a, a', ha⟩ := p2 c2
        rw [if_pos c2, if_pos c2, ha]; rfl
      · rw [if_neg c2, if_neg c2, matches_ok hwr hlr, Option.bind_some]
        by_cases c3 : (mtS r pRetracts []).2 = true
        · obtain ⟨a, ha⟩ := p3 c3
          rw [if_pos c3, if_pos c3, ha]; rfl
        · rw [if_neg c3, if_neg c3, matches_ok hwr hlr, Option.bind_some, mt_con]
  rw [mvP_cons]
  unfold m_ref30_move
  rw [hi]
  simp only [Option.bind_some]
  by_cases h1 : h = [79]
  · have e1 : (h == [79]) = true := by simpa using h1
    rw [if_pos h1]
    simp only [e1, if_true, seqE]
    exact hbody 2
  · have e1 : (h == [79]) = false := by simpa using h1
    rw [if_neg h1]
    simp only [e1, Bool.false_eq_true, if_false]
    by_cases h2 : h = [80]
    · have e2 : (h == [80]) = true := by simpa using h2
      rw [if_pos h2]
      simp only [e2, Bool.not_true, Bool.false_eq_true, if_false, seqE]
      exact hbody 1
    · have e2 : (h == [80]) = false := by simpa using h2
      rw [if_neg h2]
      simp only [e2, Bool.not_false, if_true]
      rfl
theorem jn_split : ∀ s : Str, jn (splitC 32 s) = s
  | [] => rfl
  | x :: r => by
    have ih := jn_split r
    have hne := splitC_ne 32 r
    rw [splitC_cons]
    cases hs : splitC 32 r with
    | nil => exact absurd hs hne
    | cons v vs =>
      rw [hs] at ih
      by_cases h : x = 32
      · rw [if_pos h, jn, ih, h]; rfl
      · rw [if_neg h]
        cases vs with
        | nil => simp [consH, jn] at ih ⊢; exact ih
        | cons u us =>
          simp only [consH, jn] at ih ⊢
          rw [List.cons_append, ih]
theorem move_ok {s : Str} (hs : s.length ≤ 5000) : m_referee_move s = some (mvP (splitC 32 s)) := by
  have hcut := splitC_cut 32 s
  have heq := congrArg List.length (cutC_eq 32 s)
  rw [List.length_append] at heq
  -- head and rest
  obtain ⟨r, hr1, hr2, hr3⟩ : ∃ r : List Str, splitC 32 s = (cutC 32 s).1 :: r ∧ (∀ ps : List Str, ps ≠ [] → ps.headD [] ≠ [] → ps.headD [] ≠ [35] → mtS (splitC 32 (cutC 32 s).2.1) ps [] = mtS r ps []) ∧ ((cutC 32 s).2.1 = wConcedes ↔ r = [wConcedes]) := by
    cases hf : (cutC 32 s).2.2 with
    | true =>
      rw [hf] at hcut
      refine ⟨splitC 32 (cutC 32 s).2.1, hcut, fun _ _ _ _ => rfl, ?_⟩
      constructor
      · intro h; rw [h]; rfl
      · intro h
        have := jn_split (cutC 32 s).2.1
        rw [h] at this
        exact this.symm
    | false =>
      rw [hf] at hcut
      have h2 := cutC_end 32 s hf
      have h1 : (cutC 32 s).1 = s := by
        have := cutC_eq 32 s
        rw [hf] at this
        simpa using this.symm
      refine ⟨[], by rw [hcut, h1]; rfl, fun ps hne h0 h35 => ?_, by rw [h2]; simp⟩
      rw [h2]
      obtain ⟨p, ps, rfl⟩ := List.exists_cons_of_ne_nil hne
      simp only [List.headD_cons] at h0 h35
      show mtS ([] :: []) (p :: ps) [] = ([], false)
      rw [mtS, if_neg h35, if_neg (fun e => h0 e.symm)]
  have hrl : (cutC 32 s).2.1.length ≤ 5000 := by
    cases hf : (cutC 32 s).2.2 with
    | true => have := cutC_less 32 hf; omega
    | false => rw [cutC_end 32 s hf]; simp
  obtain ⟨p1, p2, p3⟩ := mvB_parts r
  have n1 : m_referee_numbers (cutC 32 s).2.1 [99, 108, 97, 105, 109, 115, 32, 35] = some (mtS r pClaims []) := by
    rw [numbers_ok hrl (by simp)]
    rw [show splitC 32 [99, 108, 97, 105, 109, 115, 32, 35] = pClaims from rfl, hr2 pClaims (by simp) (by simp) (by decide)]
  have n2 : m_referee_numbers (cutC 32 s).2.1 [109, 111, 118, 101, 115, 32, 35, 32, 97, 103, 97, 105, 110, 115, 116, 32, 35] = some (mtS r pMoves []) := by
    rw [numbers_ok hrl (by simp)]
    rw [show splitC 32 [109, 111, 118, 101, 115, 32, 35, 32, 97, 103, 97, 105, 110, 115, 116, 32, 35] = pMoves from rfl, hr2 pMoves (by simp) (by simp) (by decide)]
  have n3 : m_referee_numbers (cutC 32 s).2.1 [114, 101, 116, 114, 97, 99, 116, 115, 32, 35] = some (mtS r pRetracts []) := by
    rw [numbers_ok hrl (by simp)]
    rw [show splitC 32 [114, 101, 116, 114, 97, 99, 116, 115, 32, 35] = pRetracts from rfl, hr2 pRetracts (by simp) (by simp) (by decide)]
  have hcon : ((cutC 32 s).2.1 == ([99, 111, 110, 99, 101, 100, 101, 115] : Str)) = decide (r = [wConcedes]) := by
    rw [Bool.eq_iff_iff, beq_iff_eq, decide_eq_true_eq]
    exact hr3
  have hbody : ∀ b : Int, ((m_referee_numbers (cutC 32 s).2.1 [99, 108, 97, 105, 109, 115, 32, 35]).bind fun r2 => if r2.2 = true then (idx r2.1 0).bind fun x3 => some (((b, 1, x3, 0) : T_Move), true) else
      (m_referee_numbers (cutC 32 s).2.1 [109, 111, 118, 101, 115, 32, 35, 32, 97, 103, 97, 105, 110, 115, 116, 32, 35]).bind fun r3 => if r3.2 = true then (idx r3.1 0).bind fun x4 => (idx r3.1 1).bind fun x5 => some ((b, 2, x4, x5), true) else
      (m_referee_numbers (cutC 32 s).2.1 [114, 101, 116, 114, 97, 99, 116, 115, 32, 35]).bind fun r4 => if r4.2 = true then (idx r4.1 0).bind fun x6 => some ((b, 3, 0, x6), true) else
      some ((b, 4, 0, 0), (cutC 32 s).2.1 == ([99, 111, 110, 99, 101, 100, 101, 115] : Str))) = some (mvB b r) := by
    intro b
    rw [n1, n2, n3, hcon, Option.bind_some, Option.bind_some, Option.bind_some]
    unfold mvB
    by_cases c1 : (mtS r pClaims []).2 = true
    · obtain ⟨a, ha⟩ := p1 c1
      rw [if_pos c1, if_pos c1, ha]; rfl
    · rw [if_neg c1, if_neg c1]
      by_cases c2 : (mtS r pMoves []).2 = true
      · obtain ⟨a, a', ha⟩ := p2 c2
        rw [if_pos c2, if_pos c2, ha]; rfl
      · rw [if_neg c2, if_neg c2]
        by_cases c3 : (mtS r pRetracts []).2 = true
        · obtain ⟨a, ha⟩ := p3 c3
          rw [if_pos c3, if_pos c3, ha]; rfl
        · rw [if_neg c3, if_neg c3]
  have t1 : idx tab_referee_players 1 = some [80] := rfl
  have t2 : idx tab_referee_players 2 = some [79] := rfl
  rw [hr1, mvP_cons]
  unfold m_referee_move
  rw [cut_okC 32 (by omega), Option.bind_some, t1, t2]
  simp only [Option.bind_some]
  by_cases h1 : (cutC 32 s).1 = [79]
  · have e1 : ((cutC 32 s).1 == [80]) = false := by rw [h1]; rfl
    have e2 : ((cutC 32 s).1 == [79]) = true := by simpa using h1
    rw [if_pos h1]
    simp only [e1, e2, Bool.false_eq_true, if_false, if_true, seqE]
    exact hbody 2
  · have e2 : ((cutC 32 s).1 == [79]) = false := by simpa using h1
    rw [if_neg h1]
    by_cases h2 : (cutC 32 s).1 = [80]
    · have e1 : ((cutC 32 s).1 == [80]) = true := by simpa using h2
      rw [if_pos h2]
      simp only [e1, if_true, seqE]
      exact hbody 1
    · have e1 : ((cutC 32 s).1 == [80]) = false := by simpa using h2
      rw [if_neg h2]
      simp only [e1, e2, Bool.false_eq_true, if_false]
      rfl
/-- a line is read -/
def stepS (p : Int) (t : T_Transcript) (ws : List Str) : Option (Int × T_Transcript) :=
  if p = 0 then (if (mtS ws pNodes []).2 = true then some (1, (((mtS ws pNodes []).1.headD 0, t.1.2), t.2.1, t.2.2.1, t.2.2.2)) else none)
  else if p = 1 then (if (mtS ws pAttack []).2 = true then some (1, ((t.1.1, t.1.2 ++ [((mtS ws pAttack []).1.headD 0, (mtS ws pAttack []).1.tail.headD 0)]), t.2.1, t.2.2.1, t.2.2.2))
    else if (mtS ws pRoot []).2 = true then some (2, (t.1, (mtS ws pRoot []).1.headD 0, t.2.2.1, t.2.2.2)) else none)
  else if p = 2 then (if (mtS ws pLimits []).2 = true then some (3, (t.1, t.2.1, ((mtS ws pLimits []).1.headD 0, (mtS ws pLimits []).1.tail.headD 0), t.2.2.2)) else none)
  else if (mvP ws).2 = true then some (3, (t.1, t.2.1, t.2.2.1, t.2.2.2 ++ [(mvP ws).1])) else none
theorem step_parts (ws : List Str) : ((mtS ws pNodes []).2 = true → ∃ a, (mtS ws pNodes []).1 = [a]) ∧ ((mtS ws pAttack []).2 = true → ∃ a b, (mtS ws pAttack []).1 = [a, b]) ∧ ((mtS ws pRoot []).2 = true → ∃ a, (mtS ws pRoot []).1 = [a]) ∧ ((mtS ws pLimits []).2 = true → ∃ a b, (mtS ws pLimits []).1 = [a, b]) :=
  ⟨fun h => one_num (by rw [mtS_nums _ _ _ h]; decide), fun h => two_num (by rw [mtS_nums _ _ _ h]; decide), fun h => one_num (by rw [mtS_nums _ _ _ h]; decide), fun h => two_num (by rw [mtS_nums _ _ _ h]; decide)⟩
theorem read_ok {p : Int} {t : T_Transcript} {s : Str} (hp : p = 0 ∨ p = 1 ∨ p = 2 ∨ p = 3) (hs : s.length ≤ 5000) (hL : t.1.2.length ≤ 5000) (hM : t.2.2.2.length ≤ 5000) :
    ∃ x, m_referee_reader_read (t, p) s = some x ∧ (stepS p t (splitC 32 s) = none → x.1 = false) ∧ (∀ p' t', stepS p t (splitC 32 s) = some (p', t') → x = (true, t'.1.1, t'.1.2, t'.2.1, t'.2.2.1.1, t'.2.2.1.2, t'.2.2.2, p')) := by
  obtain ⟨q1, q2, q3, q4⟩ := step_parts (splitC 32 s)
  unfold m_referee_reader_read stepS
  rcases hp with rfl | rfl | rfl | rfl
  · simp only [beq_self_eq_true, if_true]
    rw [numbers_ok hs (by simp), show splitC 32 [110, 111, 100, 101, 115, 32, 35] = pNodes from rfl, Option.bind_some]
    by_cases c : (mtS (splitC 32 s) pNodes []).2 = true
    · obtain ⟨a, ha⟩ := q1 c
      rw [if_pos c, if_pos c, ha, c]
      exact ⟨_, rfl, fun h => by simp at h, fun p' t' h => by
        obtain ⟨rfl, rfl⟩ := Prod.mk.inj (Option.some.inj h)
        rfl⟩
    · rw [if_neg c, if_neg c]
      exact ⟨_, rfl, fun _ => by simpa using c, fun p' t' h => by simp at h⟩
  · have e0 : ((1 : Int) == 0) = false := rfl
    have e1 : ¬ (1 : Int) = 0 := by omega
    rw [if_neg e1]
    simp only [e0, Bool.false_eq_true, if_false, beq_self_eq_true, if_true]
    rw [numbers_ok hs (by simp), show splitC 32 [97, 116, 116, 97, 99, 107, 32, 35, 32, 35] = pAttack from rfl, Option.bind_some]
    by_cases c : (mtS (splitC 32 s) pAttack []).2 = true
    · obtain ⟨a, b, ha⟩ := q2 c
      rw [if_pos c, if_pos c, ha]
      have i0 : idx [a, b] 0 = some a := rfl
      have i1 : idx [a, b] 1 = some b := rfl
      rw [i0, i1, Option.bind_some, Option.bind_some, app_ok (by simp; omega), Option.bind_some]
      exact ⟨_, rfl, fun h => by simp at h, fun p' t' h => by
        obtain ⟨rfl, rfl⟩ := Prod.mk.inj (Option.some.inj h)
        rfl⟩
    · rw [if_neg c, if_neg c]
      rw [numbers_ok hs (by simp), show splitC 32 [114, 111, 111, 116, 32, 35] = pRoot from rfl, Option.bind_some]
      by_cases c2 : (mtS (splitC 32 s) pRoot []).2 = true
      · obtain ⟨a, ha⟩ := q3 c2
        rw [if_pos c2, if_pos c2, ha, c2]
        exact ⟨_, rfl, fun h => by simp at h, fun p' t' h => by
          obtain ⟨rfl, rfl⟩ := Prod.mk.inj (Option.some.inj h)
          rfl⟩
      · rw [if_neg c2, if_neg c2]
        exact ⟨_, rfl, fun _ => by simpa using c2, fun p' t' h => by simp at h⟩
  · have e0 : ((2 : Int) == 0) = false := rfl
    have e1 : ((2 : Int) == 1) = false := rfl
    rw [if_neg (show ¬ (2 : Int) = 0 by omega), if_neg (show ¬ (2 : Int) = 1 by omega), if_pos rfl]
    simp only [e0, e1, Bool.false_eq_true, if_false, beq_self_eq_true, if_true]
    rw [numbers_ok hs (by simp), show splitC 32 [108, 105, 109, 105, 116, 115, 32, 35, 32, 35] = pLimits from rfl, Option.bind_some]
    by_cases c : (mtS (splitC 32 s) pLimits []).2 = true
    · obtain ⟨a, b, ha⟩ := q4 c
      rw [if_pos c, if_pos c, ha, c]
      exact ⟨_, rfl, fun h => by simp at h, fun p' t' h => by
        obtain ⟨rfl, rfl⟩ := Prod.mk.inj (Option.some.inj h)
        rfl⟩
    · rw [if_neg c, if_neg c]
      exact ⟨_, rfl, fun _ => by simpa using c, fun p' t' h => by simp at h⟩
  · have e0 : ((3 : Int) == 0) = false := rfl
    have e1 : ((3 : Int) == 1) = false := rfl
    have e2 : ((3 : Int) == 2) = false := rfl
    rw [if_neg (show ¬ (3 : Int) = 0 by omega), if_neg (show ¬ (3 : Int) = 1 by omega), if_neg (show ¬ (3 : Int) = 2 by omega)]
    simp only [e0, e1, e2, Bool.false_eq_true, if_false]
    rw [move_ok hs, Option.bind_some, app_ok (by simp; omega), Option.bind_some]
    by_cases c : (mvP (splitC 32 s)).2 = true
    · rw [if_pos c, c]
      exact ⟨_, rfl, fun h => by simp at h, fun p' t' h => by
        obtain ⟨rfl, rfl⟩ := Prod.mk.inj (Option.some.inj h)
        rfl⟩
    · rw [if_neg c]
      exact ⟨_, rfl, fun _ => by simpa using c, fun p' t' h => by simp at h⟩
theorem step_p {p p' : Int} {t t' : T_Transcript} {ws : List Str} (h : stepS p t ws = some (p', t')) : (p' = 0 ∨ p' = 1 ∨ p' = 2 ∨ p' = 3) ∧ t'.1.2.length ≤ t.1.2.length + 1 ∧ t'.2.2.2.length ≤ t.2.2.2.length + 1 := by
  unfold stepS at h
  split at h
  · split at h
    · obtain ⟨rfl, rfl⟩ := Prod.mk.inj (Option.some.inj h); simp
    · cases h
  · split at h
    · split at h
      · obtain ⟨rfl, rfl⟩ := Prod.mk.inj (Option.some.inj h); simp
      · split at h
        · obtain ⟨rfl, rfl⟩ := Prod.mk.inj (Option.some.inj h); simp
        · cases h
    · split at h
      · split at h
        · obtain ⟨rfl, rfl⟩ := Prod.mk.inj (Option.some.inj h); simp
        · cases h
      · split at h
        · obtain ⟨rfl, rfl⟩ := Prod.mk.inj (Option.some.inj h); simp
        · cases h
end
section
set_option linter.unusedVariables false
theorem lp_in {σ ρ : Type} {B : σ → Option (σ ⊕ ρ)} {s t : σ} (h : B s = some (.inl t)) : loop B s = loop B t := by rw [loop_eq, h]
theorem lp_out {σ ρ : Type} {B : σ → Option (σ ⊕ ρ)} {s : σ} {r : ρ} (h : B s = some (.inr r)) : loop B s = some r := by rw [loop_eq, h]
abbrev zT : T_Transcript := ((0, ([] : List T_Pair)), 0, (0, 0), ([] : List T_Move))
/-- the lines of a text, one by one -/
def psF : Nat → Str → Nat → Int → T_Transcript → (Nat × Int × T_Transcript) ⊕ Nat
  | 0, _, n, p, t => .inl (n, p, t)
  | k + 1, s, n, p, t => if s = [] then .inl (n, p, t) else if (cutC 10 s).2.2 = false then .inr (n + 1) else
    match stepS p t (splitC 32 (cutC 10 s).1) with
    | none => .inr (n + 1)
    | some x => psF k (cutC 10 s).2.1 (n + 1) x.1 x.2
structure PI (s : Str) (n : Nat) (p : Int) (t : T_Transcript) : Prop where
  b : s.length + n ≤ 4096
  p : p = 0 ∨ p = 1 ∨ p = 2 ∨ p = 3
  l : t.1.2.length ≤ n
  m : t.2.2.2.length ≤ n
theorem cut_bd (c : UInt8) (s : Str) : (cutC c s).1.length ≤ s.length := by
  have := congrArg List.length (cutC_eq c s)
  rw [List.length_append] at this; omega
theorem PI.next {s : Str} {n : Nat} {p : Int} {t : T_Transcript} (h : PI s n p t) (hc : (cutC 10 s).2.2 = true) {x : Int × T_Transcript} (hx : stepS p t (splitC 32 (cutC 10 s).1) = some x) : PI (cutC 10 s).2.1 (n + 1) x.1 x.2 := by
  obtain ⟨p', t'⟩ := x
  obtain ⟨h1, h2, h3⟩ := step_p hx
  have h4 := cutC_less 10 hc
  have h5 := h.b
  have h6 := h.l
  have h7 := h.m
  exact ⟨by omega, h1, by show t'.1.2.length ≤ _; omega, by show t'.2.2.2.length ≤ _; omega⟩
theorem psF_ok : ∀ (k : Nat) (s : Str) (n : Nat) (p : Int) (t : T_Transcript), PI s n p t → ∀ x, psF k s n p t = .inl x → PI [] x.1 x.2.1 x.2.2
  | 0, s, n, p, t, h, x, hx => by
    rw [psF] at hx
    obtain rfl := Sum.inl.inj hx
    exact ⟨by have := h.b; simp; omega, h.p, h.l, h.m⟩
  | k + 1, s, n, p, t, h, x, hx => by
    rw [psF] at hx
    split at hx
    · obtain rfl := Sum.inl.inj hx
      exact ⟨by have := h.b; simp; omega, h.p, h.l, h.m⟩
    · split at hx
      · cases hx
      · rename_i hc
        split at hx
        · cases hx
        · rename_i y hy
          exact psF_ok k _ _ _ _ (h.next (by simpa using hc) hy) x hx
def pO (o : (Nat × Int × T_Transcript) ⊕ Nat) : (Int × Int × (List T_Pair) × Int × Int × Int × (List T_Move) × Int) ⊕ (T_Transcript × Int × Int) :=
  match o with
  | .inl (n, p, t) => .inl ((n : Int), t.1.1, t.1.2, t.2.1, t.2.2.1.1, t.2.2.1.2, t.2.2.2, p)
  | .inr n => .inr (zT, (n : Int), 3)
def rO (o : (Nat × Int × T_Transcript) ⊕ Nat) : (Int × Int × Int × (List T_Pair) × Int × Int × Int × (List T_Move)) ⊕ (T_Transcript × Int × Int) :=
  match o with
  | .inl (n, p, t) => .inl (p, (n : Int), t.1.1, t.1.2, t.2.1, t.2.2.1.1, t.2.2.1.2, t.2.2.2)
  | .inr n => .inr (zT, (n : Int), 3)
theorem referee_parse : ∀ (k : Nat) (s : Str) (n : Nat) (p : Int) (t : T_Transcript), s.length ≤ k → PI s n p t →
    loop m_referee_Parse_L1 (s, (n : Int), t.1.1, t.1.2, t.2.1, t.2.2.1.1, t.2.2.1.2, t.2.2.2, p) = some (pO (psF k s n p t)) := by
  intro k
  induction k with
  | zero =>
    intro s n p t hk h
    obtain rfl : s = [] := List.length_eq_zero_iff.1 (by omega)
    exact lp_out rfl
  | succ k ih =>
    intro s n p t hk h
    rw [psF]
    by_cases hs : s = []
    · subst hs
      rw [if_pos rfl]
      exact lp_out rfl
    · rw [if_neg hs]
      have hpos : decide (0 < len s) = true := by
        have := List.length_pos_iff.2 hs
        rw [decide_eq_true_eq]; simp only [len]; omega
      have hb := h.b
      have hw : w64 ((n : Int) + 1) = ((n + 1 : Nat) : Int) := w64_succ n (by omega)
      have hcut := cut_okC 10 (s := s) (by omega)
      cases hc : (cutC 10 s).2.2 with
      | false =>
        rw [if_pos rfl]
        refine lp_out ?_
        unfold m_referee_Parse_L1
        simp only [hpos, if_true, hcut, Option.bind_some, hc, Bool.not_false, hw]
        rfl
      | true =>
        rw [if_neg (by simp)]
        have hl := cut_bd 10 s
        obtain ⟨x, h1, h2, h3⟩ := read_ok (p := p) (t := t) (s := (cutC 10 s).1) h.p (by omega) (by have := h.l; omega) (by have := h.m; omega)
        have h1' : m_referee_reader_read (((t.1.1, t.1.2), t.2.1, (t.2.2.1.1, t.2.2.1.2), t.2.2.2), p) (cutC 10 s).1 = some x := h1
        cases hst : stepS p t (splitC 32 (cutC 10 s).1) with
        | none =>
          dsimp only
          have hx := h2 hst
          refine lp_out ?_
          unfold m_referee_Parse_L1
          simp only [hpos, if_true, hcut, Option.bind_some, hc, Bool.not_true, Bool.false_eq_true, if_false, h1', hx, Bool.not_false, hw]
          rfl
        | some y =>
          dsimp only
          have hx := h3 y.1 y.2 hst
          rw [lp_in (t := ((cutC 10 s).2.1, ((n + 1 : Nat) : Int), y.2.1.1, y.2.1.2, y.2.2.1, y.2.2.2.1.1, y.2.2.2.1.2, y.2.2.2.2, y.1)) ?_]
          · exact ih _ _ _ _ (by have := cutC_less 10 hc; omega) (h.next hc hst)
          · unfold m_referee_Parse_L1
            simp only [hpos, if_true, hcut, Option.bind_some, hc, Bool.not_true, Bool.false_eq_true, if_false, h1', hx, hw]
theorem nl_find (s2 : Str × Int × Int × Int × (List T_Pair) × Int × Int × Int × (List T_Move)) (hl : s2.1.length ≤ 5000) : ∀ (r : Str) (i : Nat), s2.1.drop i = r → i ≤ s2.1.length →
    loop (m_ref30_Parse_L2 s2) (i : Int) = some ((i + (cutC 10 r).1.length : Nat) : Int)
  | [], i, hd, hi => by
    have hil : i = s2.1.length := by
      have := congrArg List.length hd
      simp at this; omega
    refine lp_out ?_
    unfold m_ref30_Parse_L2
    have hdd : decide ((i : Int) < len s2.1) = false := by rw [hil]; exact end_dec _
    simp only [hdd, Bool.false_eq_true, if_false, Option.bind_some]
    rfl
  | x :: r, i, hd, hi => by
    have hm : s2.1[i]? = some x := by
      have := congrArg (fun l => l[0]?) hd
      simpa using this
    have hlt := at_lt hm
    have hd2 : s2.1.drop (i + 1) = r := by rw [← List.drop_drop, hd]; rfl
    have hx : (((x.toNat : Nat) : Int) != 10) = (x != 10) := by
      rw [Bool.eq_iff_iff, bne_iff_ne, bne_iff_ne]
      refine not_congr ⟨fun h => ?_, ?_⟩
      · apply UInt8.toNat_inj.1
        show x.toNat = 10
        omega
      · rintro rfl; rfl
    rw [cutC]
    by_cases h : x = 10
    · rw [if_pos h]
      refine lp_out ?_
      have hxe : (x != 10) = false := by simpa using h
      unfold m_ref30_Parse_L2
      simp only [at_dec hm, if_true, sidx_nat, hm, Option.map_some, Option.bind_some, hx, hxe, Bool.false_eq_true, if_false]
      rfl
    · rw [if_neg h]
      have hxe : (x != 10) = true := by simpa using h
      have hw : w64 ((i : Int) + 1) = ((i + 1 : Nat) : Int) := w64_succ i (by omega)
      rw [lp_in (t := ((i + 1 : Nat) : Int)) (by
        unfold m_ref30_Parse_L2
        simp only [at_dec hm, if_true, sidx_nat, hm, Option.map_some, Option.bind_some, hx, hxe, hw])]
      rw [nl_find s2 hl r (i + 1) hd2 (by omega)]
      simp only [List.length_cons]
      congr 2
      omega
theorem ref30_parse : ∀ (k : Nat) (s : Str) (n : Nat) (p : Int) (t : T_Transcript), s.length ≤ k → PI s n p t →
    loop m_ref30_Parse_L1 (s, p, (n : Int), t.1.1, t.1.2, t.2.1, t.2.2.1.1, t.2.2.1.2, t.2.2.2) = some (rO (psF k s n p t)) := by
  intro k
  induction k with
  | zero =>
    intro s n p t hk h
    obtain rfl : s = [] := List.length_eq_zero_iff.1 (by omega)
    exact lp_out rfl
  | succ k ih =>
    intro s n p t hk h
    rw [psF]
    by_cases hs : s = []
    · subst hs
      rw [if_pos rfl]
      exact lp_out rfl
    · rw [if_neg hs]
      have hpos : (!(s == ([] : Str))) = true := by simpa using hs
      have hb := h.b
      have hw : w64 ((n : Int) + 1) = ((n + 1 : Nat) : Int) := w64_succ n (by omega)
      have hf : loop (m_ref30_Parse_L2 (s, p, (n : Int), t.1.1, t.1.2, t.2.1, t.2.2.1.1, t.2.2.1.2, t.2.2.2)) 0 = some (((cutC 10 s).1.length : Nat) : Int) := by
        have := nl_find (s, p, (n : Int), t.1.1, t.1.2, t.2.1, t.2.2.1.1, t.2.2.1.2, t.2.2.2) (by show s.length ≤ _; omega) s 0 rfl (by omega)
        rw [Nat.zero_add] at this
        exact this
      have heq := cutC_eq 10 s
      have heql := congrArg List.length heq
      rw [List.length_append] at heql
      cases hc : (cutC 10 s).2.2 with
      | false =>
        rw [if_pos rfl]
        refine lp_out ?_
        rw [hc] at heql
        simp at heql
        have hq : ((((cutC 10 s).1.length : Nat) : Int) == len s) = true := by
          rw [beq_iff_eq]; simp only [len]; omega
        unfold m_ref30_Parse_L1
        simp only [hpos, if_true, hf, Option.bind_some, hq, hw]
        rfl
      | true =>
        rw [if_neg (by simp)]
        rw [hc, if_pos rfl] at heq
        rw [hc, if_pos rfl] at heql
        simp at heql
        have hq : ((((cutC 10 s).1.length : Nat) : Int) == len s) = false := by
          apply beq_false_of_ne; simp only [len]; omega
        have hs1 : sub s 0 (((cutC 10 s).1.length : Nat) : Int) = some (cutC 10 s).1 := by
          rw [sub_pre (by omega) (by omega), Int.toNat_natCast]
          have := congrArg (List.take (cutC 10 s).1.length) heq
          rw [List.take_left] at this
          rw [this]
        have hw2 : w64 ((((cutC 10 s).1.length : Nat) : Int) + 1) = (((cutC 10 s).1.length + 1 : Nat) : Int) := w64_succ _ (by omega)
        have hs2 : sub s (((cutC 10 s).1.length + 1 : Nat) : Int) (len s) = some (cutC 10 s).2.1 := by
          rw [sub_suf (by omega) (by omega), Int.toNat_natCast]
          have := congrArg (List.drop (cutC 10 s).1.length) heq
          rw [List.drop_left] at this
          rw [← List.drop_drop, this]
          rfl
        have hl1 : (cutC 10 s).1.length ≤ 5000 := by omega
        have hwd := words_ok hl1
        have hwl : ∀ w ∈ splitC 32 (cutC 10 s).1, w.length ≤ 5000 := fun w hm => by have := splitC_wlen 32 _ w hm; omega
        have hll : (splitC 32 (cutC 10 s).1).length ≤ 6000 := by
          rw [splitC_len]; have : (cutC 10 s).1.count 32 ≤ (cutC 10 s).1.length := List.count_le_length; omega
        have hmt : ∀ ps : List Str, m_ref30_matches (splitC 32 (cutC 10 s).1) ps = some (mtS (splitC 32 (cutC 10 s).1) ps []) := fun ps => matches_ok hwl hll
        have hmv := move30_ok (splitC_ne 32 (cutC 10 s).1) hwl hll
        obtain ⟨q1, q2, q3, q4⟩ := step_parts (splitC 32 (cutC 10 s).1)
        have hnx := fun y (hy : stepS p t (splitC 32 (cutC 10 s).1) = some y) => ih (cutC 10 s).2.1 (n + 1) y.1 y.2 (by have := cutC_less 10 hc; omega) (h.next hc hy)
        have hp := h.p
        have hL := h.l
        have hM := h.m
        -- the step
        have hstep : (stepS p t (splitC 32 (cutC 10 s).1) = none → m_ref30_Parse_L1 (s, p, (n : Int), t.1.1, t.1.2, t.2.1, t.2.2.1.1, t.2.2.1.2, t.2.2.2) = some (.inr (.inr (zT, ((n + 1 : Nat) : Int), 3)))) ∧
            (∀ y, stepS p t (splitC 32 (cutC 10 s).1) = some y → m_ref30_Parse_L1 (s, p, (n : Int), t.1.1, t.1.2, t.2.1, t.2.2.1.1, t.2.2.1.2, t.2.2.2) = some (.inl ((cutC 10 s).2.1, y.1, ((n + 1 : Nat) : Int), y.2.1.1, y.2.1.2, y.2.2.1, y.2.2.2.1.1, y.2.2.2.1.2, y.2.2.2.2))) := by
          clear hnx ih
          unfold m_ref30_Parse_L1 stepS
          simp only [hpos, if_true, hf, Option.bind_some, hq, Bool.false_eq_true, if_false, hs1, hs2, hw, hw2, hwd, hmt, hmv]
          generalize splitC 32 (cutC 10 s).1 = ws at *
          rcases hp with rfl | rfl | rfl | rfl
          · have e0 : ((0 : Int) == 0) = true := rfl
            have e1 : ((0 : Int) == 1) = false := rfl
            have e2 : ((0 : Int) == 2) = false := rfl
            have e3 : ((0 : Int) == 3) = false := rfl
            simp only [e0, e1, e2, e3, Bool.true_and, Bool.false_and, Bool.false_eq_true, if_false, if_true]
            by_cases c : (mtS ws pNodes []).2 = true
            · obtain ⟨a, ha⟩ := q1 c
              rw [if_pos c, if_pos c, ha]
              exact ⟨fun h => by simp at h, fun y hy => by obtain rfl := Option.some.inj hy; rfl⟩
            · rw [if_neg c, if_neg c]
              exact ⟨fun _ => rfl, fun y hy => by simp at hy⟩
          · have e0 : ((1 : Int) == 0) = false := rfl
            have e1 : ((1 : Int) == 1) = true := rfl
            have e2 : ((1 : Int) == 2) = false := rfl
            have e3 : ((1 : Int) == 3) = false := rfl
            rw [if_neg (show ¬ (1 : Int) = 0 by omega)]
            simp only [e0, e1, e2, e3, Bool.true_and, Bool.false_and, Bool.false_eq_true, if_false, if_true]
            by_cases c : (mtS ws pAttack []).2 = true
            · obtain ⟨a, b, ha⟩ := q2 c
              rw [if_pos c, if_pos c, ha]
              have i0 : idx [a, b] 0 = some a := rfl
              have i1 : idx [a, b] 1 = some b := rfl
              rw [i0, i1, Option.bind_some, Option.bind_some, app_ok (by simp; omega), Option.bind_some]
              exact ⟨fun h => by simp at h, fun y hy => by obtain rfl := Option.some.inj hy; rfl⟩
            · rw [if_neg c, if_neg c]
              by_cases c2 : (mtS ws pRoot []).2 = true
              · obtain ⟨a, ha⟩ := q3 c2
                rw [if_pos c2, if_pos c2, ha]
                exact ⟨fun h => by simp at h, fun y hy => by obtain rfl := Option.some.inj hy; rfl⟩
              · rw [if_neg c2, if_neg c2]
                exact ⟨fun _ => rfl, fun y hy => by simp at hy⟩
          · have e0 : ((2 : Int) == 0) = false := rfl
            have e1 : ((2 : Int) == 1) = false := rfl
            have e2 : ((2 : Int) == 2) = true := rfl
            have e3 : ((2 : Int) == 3) = false := rfl
            rw [if_neg (show ¬ (2 : Int) = 0 by omega), if_neg (show ¬ (2 : Int) = 1 by omega), if_pos rfl]
            simp only [e0, e1, e2, e3, Bool.true_and, Bool.false_and, Bool.false_eq_true, if_false]
            by_cases c : (mtS ws pLimits []).2 = true
            · obtain ⟨a, b, ha⟩ := q4 c
              rw [if_pos c, if_pos c, ha]
              exact ⟨fun h => by simp at h, fun y hy => by obtain rfl := Option.some.inj hy; rfl⟩
            · rw [if_neg c, if_neg c]
              exact ⟨fun _ => rfl, fun y hy => by simp at hy⟩
          · have e0 : ((3 : Int) == 0) = false := rfl
            have e1 : ((3 : Int) == 1) = false := rfl
            have e2 : ((3 : Int) == 2) = false := rfl
            have e3 : ((3 : Int) == 3) = true := rfl
            rw [if_neg (show ¬ (3 : Int) = 0 by omega), if_neg (show ¬ (3 : Int) = 1 by omega), if_neg (show ¬ (3 : Int) = 2 by omega)]
            simp only [e0, e1, e2, e3, Bool.true_and, Bool.false_and, Bool.false_eq_true, if_false]
            by_cases c : (mvP ws).2 = true
            · rw [if_pos c, if_pos c, app_ok (by simp; omega), Option.bind_some]
              exact ⟨fun h => by simp at h, fun y hy => by obtain rfl := Option.some.inj hy; rfl⟩
            · rw [if_neg c, if_neg c]
              exact ⟨fun _ => rfl, fun y hy => by simp at hy⟩
        cases hst : stepS p t (splitC 32 (cutC 10 s).1) with
        | none => exact lp_out (hstep.1 hst)
        | some y => rw [lp_in (hstep.2 y hst)]; exact hnx y hst
/-- what both answer to a text -/
noncomputable def paS (s : Str) : T_Transcript × Int × Int :=
  if 4096 < s.length then (zT, 0, 2) else
    match psF s.length s 0 0 zT with
    | .inr n => (zT, (n : Int), 3)
    | .inl (n, p, t) => if p ≠ 3 then (zT, ((n + 1 : Nat) : Int), 3) else if chkS t ≠ 0 then (zT, 0, chkS t) else (t, 0, 0)
theorem parse_both (s : Str) : m_referee_Parse s = some (paS s) ∧ m_ref30_Parse s = some (paS s) := by
  unfold m_referee_Parse m_ref30_Parse paS
  by_cases h : 4096 < s.length
  · have hd : decide (4096 < len s) = true := by rw [decide_eq_true_eq]; simp only [len]; omega
    rw [if_pos h]
    simp only [hd, if_true]
    exact ⟨trivial, trivial⟩
  · have hd : decide (4096 < len s) = false := by rw [decide_eq_false_iff_not]; simp only [len]; omega
    rw [if_neg h]
    simp only [hd, Bool.false_eq_true, if_false]
    have hI : PI s 0 0 zT := ⟨by omega, .inl rfl, by simp, by simp⟩
    have h1 := referee_parse s.length s 0 0 zT (Nat.le_refl _) hI
    have h2 := ref30_parse s.length s 0 0 zT (Nat.le_refl _) hI
    rw [show loop m_referee_Parse_L1 (s, 0, 0, [], 0, 0, 0, [], 0) = _ from h1, show loop m_ref30_Parse_L1 (s, 0, 0, 0, [], 0, 0, 0, []) = _ from h2]
    have hok := psF_ok s.length s 0 0 zT hI
    cases hp : psF s.length s 0 0 zT with
    | inr n => exact ⟨rfl, rfl⟩
    | inl x =>
      obtain ⟨n, p, t⟩ := x
      have hx := hok _ hp
      have hb := hx.b
      have hp' := hx.p
      have hl := hx.l
      have hm := hx.m
      dsimp only [List.length_nil] at hb hp' hl hm
      have hw : w64 ((n : Int) + 1) = ((n + 1 : Nat) : Int) := w64_succ n (by omega)
      have hlt : Lt t := ⟨by omega, by omega⟩
      have hc1 : m_referee_check ((t.1.1, t.1.2), t.2.1, (t.2.2.1.1, t.2.2.1.2), t.2.2.2) = some (chkS t) := check_ok hlt
      have hc2 : m_ref30_plain ((t.1.1, t.1.2), t.2.1, (t.2.2.1.1, t.2.2.1.2), t.2.2.2) = some (chkS t) := plain30_ok hlt
      simp only [seqE, pO, rO, Option.bind_some, hw, hc1, hc2]
      by_cases h3 : p = 3
      · subst h3
        have e1 : ((3 : Int) != 3) = false := rfl
        have e2 : decide ((3 : Int) < 3) = false := rfl
        simp only [e1, e2, Bool.false_eq_true, if_false, ne_eq, not_true_eq_false]
        by_cases h0 : chkS t = 0
        · have e : (chkS t != 0) = false := by simpa using h0
          simp only [if_false, h0, not_true_eq_false]
          exact ⟨rfl, rfl⟩
        · have e : (chkS t != 0) = true := by simpa using h0
          simp only [e, if_true, h0, not_false_eq_true]
          exact ⟨trivial, trivial⟩
      · have e1 : (p != 3) = true := by simpa using h3
        have e2 : decide (p < 3) = true := by rw [decide_eq_true_eq]; omega
        simp only [e1, e2, if_true, ne_eq, h3, not_false_eq_true]
        exact ⟨trivial, trivial⟩
end
section
set_option linter.unusedVariables false
/-- a word without spaces and ends of lines -/
def Wd (w : Str) : Prop := ∀ c ∈ w, c ≠ 32 ∧ c ≠ 10
theorem Wd.itoa {n : Int} (h : 0 ≤ n) : Wd (Lib.itoa n) := fun c hc => by
  unfold Lib.itoa at hc
  rw [if_neg (by omega)] at hc
  have h1 := dec_digs _ c hc
  unfold isDig at h1
  simp only [Bool.and_eq_true, decide_eq_true_eq] at h1
  refine ⟨?_, ?_⟩ <;> rintro rfl
  · have : (32 : UInt8).toNat = 32 := rfl
    omega
  · have : (10 : UInt8).toNat = 10 := rfl
    omega
theorem cut_app (c : UInt8) : ∀ (a r : Str), c ∉ a → cutC c (a ++ c :: r) = (a, r, true)
  | [], r, _ => by simp [cutC]
  | x :: a, r, h => by
    have h1 : x ≠ c := fun e => h (by simp [e])
    have h2 : c ∉ a := fun e => h (by simp [e])
    rw [List.cons_append, cutC, if_neg h1, cut_app c a r h2]
theorem cut_no (c : UInt8) : ∀ (a : Str), c ∉ a → (cutC c a).2.2 = false
  | [], _ => rfl
  | x :: a, h => by
    have h1 : x ≠ c := fun e => h (by simp [e])
    have h2 : c ∉ a := fun e => h (by simp [e])
    rw [cutC, if_neg h1]
    exact cut_no c a h2
theorem split_jn : ∀ ws : List Str, ws ≠ [] → (∀ w ∈ ws, Wd w) → splitC 32 (jn ws) = ws
  | [], h, _ => absurd rfl h
  | [w], _, hw => by
    have : (32 : UInt8) ∉ w := fun e => (hw w (by simp) 32 e).1 rfl
    rw [jn, splitC_cut, if_neg (by rw [cut_no 32 w this]; simp)]
  | w :: v :: r, _, hw => by
    have : (32 : UInt8) ∉ w := fun e => (hw w (by simp) 32 e).1 rfl
    rw [jn, splitC_cut, cut_app 32 w _ this, if_pos rfl, split_jn (v :: r) (by simp) fun u hu => hw u (by simp at hu ⊢; exact .inr hu)]
theorem jn_nl : ∀ ws : List Str, (∀ w ∈ ws, Wd w) → (10 : UInt8) ∉ jn ws
  | [], _ => by simp [jn]
  | [w], hw => fun e => (hw w (by simp) 10 e).2 rfl
  | w :: v :: r, hw => fun e => by
    rw [jn] at e
    rcases List.mem_append.1 e with e | e
    · exact (hw w (by simp) 10 e).2 rfl
    · rcases List.mem_cons.1 e with e | e
      · cases e
      · exact jn_nl (v :: r) (fun u hu => hw u (by simp at hu ⊢; exact .inr hu)) e
theorem numS_itoa {n : Int} (h0 : 0 ≤ n) (h1 : n ≤ 1000) : numS (Lib.itoa n) = some n := by
  have hl := itoa_len h0 h1
  obtain ⟨k, rfl⟩ := Int.eq_ofNat_of_zero_le h0
  unfold Lib.itoa at hl ⊢
  rw [if_neg (by omega)] at hl ⊢
  rw [Int.toNat_natCast] at hl ⊢
  unfold numS
  rw [if_pos ⟨dec_canon k, hl⟩, valD_dec]
/-- the lines, one by one -/
def runT : List (List Str) → Nat → Int → T_Transcript → (Nat × Int × T_Transcript) ⊕ Nat
  | [], n, p, t => .inl (n, p, t)
  | ws :: l, n, p, t => match stepS p t ws with
    | none => .inr (n + 1)
    | some x => runT l (n + 1) x.1 x.2
theorem psF_run : ∀ (l : List (List Str)), (∀ ws ∈ l, ws ≠ [] ∧ ∀ w ∈ ws, Wd w) → ∀ (k n : Nat) (p : Int) (t : T_Transcript), (l.flatMap lnS).length ≤ k → psF k (l.flatMap lnS) n p t = runT l n p t
  | [], _, k, n, p, t, _ => by
    cases k with
    | zero => rfl
    | succ k => rw [psF]; simp [runT]
  | ws :: l, h, k, n, p, t, hk => by
    have hws := h ws (by simp)
    have heq : (ws :: l).flatMap lnS = jn ws ++ 10 :: l.flatMap lnS := by
      rw [List.flatMap_cons, lnS, List.append_assoc]; rfl
    rw [heq] at hk ⊢
    simp only [List.length_append, List.length_cons] at hk
    cases k with
    | zero => omega
    | succ k =>
      rw [psF, if_neg (by simp), cut_app 10 (jn ws) _ (jn_nl ws hws.2)]
      dsimp only
      rw [if_neg (by simp), split_jn ws hws.1 hws.2, runT]
      cases stepS p t ws with
      | none => rfl
      | some x => exact psF_run l (fun v hv => h v (by simp [hv])) k (n + 1) x.1 x.2 (by omega)
theorem run_attacks (N : Int) (rest : List (List Str)) : ∀ (L : List T_Pair), (∀ p ∈ L, (0 ≤ p.1 ∧ p.1 ≤ 200) ∧ (0 ≤ p.2 ∧ p.2 ≤ 200)) → ∀ (n : Nat) (acc : List T_Pair),
    runT (L.map atW ++ rest) n 1 ((N, acc), 0, (0, 0), []) = runT rest (n + L.length) 1 ((N, acc ++ L), 0, (0, 0), [])
  | [], _, n, acc => by simp
  | p :: L, h, n, acc => by
    obtain ⟨⟨h1, h2⟩, h3, h4⟩ := h p (by simp)
    have hs : stepS 1 ((N, acc), 0, (0, 0), []) (atW p) = some (1, ((N, acc ++ [p]), 0, (0, 0), [])) := by
      have hm : mtS (atW p) pAttack [] = ([p.1, p.2], true) := by
        simp [atW, mtS, numS_itoa h1 (by omega), numS_itoa h3 (by omega)]
      unfold stepS
      rw [if_neg (by omega), if_pos rfl, hm, if_pos rfl]
      rfl
    rw [List.map_cons, List.cons_append, runT, hs]
    dsimp only
    rw [run_attacks N rest L (fun q hq => h q (by simp [hq])) (n + 1) (acc ++ [p])]
    rw [List.append_assoc, List.length_cons, show n + 1 + L.length = n + (L.length + 1) by omega]
    rfl
theorem mvP_W {m : T_Move} (h : plnB m = true) : mvP (mvW m) = (m, true) := by
  obtain ⟨hb, ⟨h1, h2⟩, ⟨h3, h4⟩, hk⟩ := pln_nums h
  obtain ⟨b, k, x, y⟩ := m
  dsimp only at hb h1 h2 h3 h4 hk
  have nx := numS_itoa h1 (by omega)
  have ny := numS_itoa h3 (by omega)
  have hd : ∀ r : List Str, mvP (plS b :: r) = mvB b r := fun r => by
    rw [mvP_cons]
    rcases hb with rfl | rfl
    · rw [if_neg (by decide), if_pos (by decide)]
    · rw [if_pos (by decide)]
  unfold mvW
  dsimp only
  rcases hk with ⟨rfl, rfl⟩ | rfl | ⟨rfl, rfl⟩ | ⟨rfl, rfl, rfl⟩
  · rw [if_pos rfl, hd]
    have hm : mtS [wClaims, Lib.itoa x] pClaims [] = ([x], true) := by simp [mtS, nx]
    unfold mvB
    rw [hm, if_pos rfl]
    rfl
  · rw [if_neg (by omega), if_pos rfl, hd]
    have hm : mtS [wMoves, Lib.itoa x, wAgainst, Lib.itoa y] pMoves [] = ([x, y], true) := by simp [mtS, nx, ny]
    unfold mvB
    rw [mtS_len _ pClaims _ (by simp), if_neg (by simp), hm, if_pos rfl]
    rfl
  · rw [if_neg (by omega), if_neg (by omega), if_pos rfl, hd]
    have hc : mtS [wRetracts, Lib.itoa y] pClaims [] = ([], false) := by simp [mtS]
    have hm : mtS [wRetracts, Lib.itoa y] pRetracts [] = ([y], true) := by simp [mtS, ny]
    unfold mvB
    rw [hc, if_neg (by simp), mtS_len _ pMoves _ (by simp), if_neg (by simp), hm, if_pos rfl]
    rfl
  · rw [if_neg (by omega), if_neg (by omega), if_neg (by omega), hd]
    unfold mvB
    rw [mtS_len _ pClaims _ (by simp), if_neg (by simp), mtS_len _ pMoves _ (by simp), if_neg (by simp), mtS_len _ pRetracts _ (by simp), if_neg (by simp)]
    rfl
theorem run_moves (g : T_Graph) (r : Int) (q : Int × Int) : ∀ (M : List T_Move), (∀ m ∈ M, plnB m = true) → ∀ (n : Nat) (acc : List T_Move),
    runT (M.map mvW) n 3 (g, r, q, acc) = .inl (n + M.length, 3, (g, r, q, acc ++ M))
  | [], _, n, acc => by simp [runT]
  | m :: M, h, n, acc => by
    have hs : stepS 3 (g, r, q, acc) (mvW m) = some (3, (g, r, q, acc ++ [m])) := by
      unfold stepS
      rw [if_neg (by omega), if_neg (by omega), if_neg (by omega), mvP_W (h m (by simp)), if_pos rfl]
    rw [List.map_cons, runT, hs]
    dsimp only
    rw [run_moves g r q M (fun u hu => h u (by simp [hu])) (n + 1) (acc ++ [m])]
    rw [List.append_assoc, List.length_cons, show n + 1 + M.length = n + (M.length + 1) by omega]
    rfl
theorem run_lines {t : T_Transcript} (h : Wr t) : ∃ n, runT (linesR t) 0 0 zT = .inl (n, 3, t) := by
  obtain ⟨N, hN, hG⟩ := h.n
  have hr := h.r
  have ha := h.a
  have hb := h.b
  have hm := h.m
  obtain ⟨⟨n, L⟩, r, ⟨a, b⟩, M⟩ := t
  dsimp only at hN hG hr ha hb hm
  subst hN
  have hn40 := hG.hN
  have s0 : stepS 0 zT [wNodes, Lib.itoa (N : Int)] = some (1, (((N : Int), []), 0, (0, 0), [])) := by
    have hm : mtS [wNodes, Lib.itoa (N : Int)] pNodes [] = ([(N : Int)], true) := by simp [mtS, numS_itoa (n := (N : Int)) (by omega) (by omega)]
    unfold stepS
    rw [if_pos rfl, hm, if_pos rfl]
    rfl
  have s1 : stepS 1 (((N : Int), L), 0, (0, 0), []) [wRoot, Lib.itoa r] = some (2, (((N : Int), L), r, (0, 0), [])) := by
    have hm : mtS [wRoot, Lib.itoa r] pRoot [] = ([r], true) := by simp [mtS, numS_itoa hr.1 (by omega)]
    unfold stepS
    rw [if_neg (by omega), if_pos rfl, mtS_len _ pAttack _ (by simp), if_neg (by simp), hm, if_pos rfl]
    rfl
  have s2 : stepS 2 (((N : Int), L), r, (0, 0), []) [wLimits, Lib.itoa a, Lib.itoa b] = some (3, (((N : Int), L), r, (a, b), [])) := by
    have hm : mtS [wLimits, Lib.itoa a, Lib.itoa b] pLimits [] = ([a, b], true) := by simp [mtS, numS_itoa ha.1 (by omega), numS_itoa hb.1 (by omega)]
    unfold stepS
    rw [if_neg (by omega), if_neg (by omega), if_pos rfl, hm, if_pos rfl]
    rfl
  refine ⟨0 + 1 + L.length + 1 + 1 + M.length, ?_⟩
  unfold linesR
  rw [List.cons_append, List.cons_append, runT, s0]
  dsimp only
  rw [List.append_assoc, run_attacks _ _ L (fun p hp => ed_nums hG hp), List.nil_append, List.cons_append, List.cons_append, List.nil_append, runT, s1]
  dsimp only
  rw [runT, s2]
  dsimp only
  rw [run_moves _ _ _ M hm, List.nil_append]
theorem lines_wd {t : T_Transcript} (h : Wr t) : ∀ ws ∈ linesR t, ws ≠ [] ∧ ∀ w ∈ ws, Wd w := by
  obtain ⟨N, hN, hG⟩ := h.n
  have hr := h.r
  have ha := h.a
  have hb := h.b
  have hpl : ∀ b : Int, Wd (plS b) := fun b => by
    unfold plS
    split <;> (intro c hc; simp only [List.mem_singleton] at hc; subst hc; decide)
  have wd : ∀ w : Str, (w.all fun c => decide (c ≠ 32 ∧ c ≠ 10)) = true → Wd w := fun w hw c hc => by
    have := List.all_eq_true.1 hw c hc
    exact of_decide_eq_true this
  have w1 := wd wNodes rfl
  have w2 := wd wAttack rfl
  have w3 := wd wRoot rfl
  have w4 := wd wLimits rfl
  have w5 := wd wClaims rfl
  have w6 := wd wMoves rfl
  have w7 := wd wAgainst rfl
  have w8 := wd wRetracts rfl
  have w9 := wd wConcedes rfl
  intro ws hws
  unfold linesR at hws
  simp only [List.mem_append, List.mem_cons, List.not_mem_nil, or_false, List.mem_map, List.cons_append] at hws
  rcases hws with rfl | ((⟨p, hp, rfl⟩ | rfl | rfl) | ⟨m, hm, rfl⟩)
  · refine ⟨by simp, fun w hw => ?_⟩
    simp only [List.mem_cons, List.not_mem_nil, or_false] at hw
    rcases hw with rfl | rfl
    · exact w1
    · exact Wd.itoa (by omega)
  · obtain ⟨q1, q2⟩ := ed_nums hG hp
    refine ⟨by simp [atW], fun w hw => ?_⟩
    simp only [atW, List.mem_cons, List.not_mem_nil, or_false] at hw
    rcases hw with rfl | rfl | rfl
    · exact w2
    · exact Wd.itoa (by omega)
    · exact Wd.itoa (by omega)
  · refine ⟨by simp, fun w hw => ?_⟩
    simp only [List.mem_cons, List.not_mem_nil, or_false] at hw
    rcases hw with rfl | rfl
    · exact w3
    · exact Wd.itoa (by omega)
  · refine ⟨by simp, fun w hw => ?_⟩
    simp only [List.mem_cons, List.not_mem_nil, or_false] at hw
    rcases hw with rfl | rfl | rfl
    · exact w4
    · exact Wd.itoa (by omega)
    · exact Wd.itoa (by omega)
  · obtain ⟨_, q2, q3, _⟩ := pln_nums (h.m m hm)
    refine ⟨by unfold mvW; repeat (first | simp | split), fun w hw => ?_⟩
    unfold mvW at hw
    split at hw
    · simp only [List.mem_cons, List.not_mem_nil, or_false] at hw
      rcases hw with rfl | rfl | rfl
      · exact hpl _
      · exact w5
      · exact Wd.itoa (by omega)
    · split at hw
      · simp only [List.mem_cons, List.not_mem_nil, or_false] at hw
        rcases hw with rfl | rfl | rfl | rfl | rfl
        · exact hpl _
        · exact w6
        · exact Wd.itoa (by omega)
        · exact w7
        · exact Wd.itoa (by omega)
      · split at hw
        · simp only [List.mem_cons, List.not_mem_nil, or_false] at hw
          rcases hw with rfl | rfl | rfl
          · exact hpl _
          · exact w8
          · exact Wd.itoa (by omega)
        · simp only [List.mem_cons, List.not_mem_nil, or_false] at hw
          rcases hw with rfl | rfl
          · exact hpl _
          · exact w9
/-- what is written is read back -/
theorem pa_fm {t : T_Transcript} (h : Wr t) (hl : (fmtR t).length ≤ 4096) : paS (fmtR t) = (t, 0, 0) := by
  obtain ⟨n, hn⟩ := run_lines h
  unfold paS
  rw [if_neg (by omega)]
  have := psF_run (linesR t) (lines_wd h) (fmtR t).length 0 0 zT (Nat.le_refl _)
  rw [show psF (fmtR t).length (fmtR t) 0 0 zT = _ from this, hn]
  dsimp only
  rw [if_neg (by simp), if_neg (by rw [chk_of h]; simp)]
theorem fm_of {t : T_Transcript} (h : Wr t) (hl : (fmtR t).length ≤ 4096) : fmS t = (fmtR t, 0) := by
  unfold fmS
  rw [if_neg (by rw [chk_of h]; simp), if_neg (by omega)]
theorem fm_ne (t : T_Transcript) : fmtR t ≠ [] := by
  unfold fmtR linesR
  rw [List.cons_append, List.cons_append, List.flatMap_cons]
  unfold lnS
  simp
theorem jn_len8 : ∀ (ws : List Str), (∀ w ∈ ws, w.length ≤ 8) → (jn ws).length ≤ 9 * ws.length
  | [], _ => by simp [jn]
  | [w], h => by have := h w (by simp); simp [jn]; omega
  | u :: v :: r, h => by
    have h1 := h u (by simp)
    have h2 := jn_len8 (v :: r) fun w hw => h w (by simp at hw ⊢; exact .inr hw)
    rw [jn]
    simp at h2 ⊢; omega
theorem flat_len8 : ∀ (l : List (List Str)), (∀ ws ∈ l, (∀ w ∈ ws, w.length ≤ 8) ∧ ws.length ≤ 5) → (l.flatMap lnS).length ≤ 46 * l.length
  | [], _ => by simp
  | ws :: l, h => by
    obtain ⟨h1, h2⟩ := h ws (by simp)
    have h3 := flat_len8 l fun v hv => h v (by simp [hv])
    have h4 := jn_len8 ws h1
    rw [List.flatMap_cons, List.length_append, List.length_cons, lnS, List.length_append, List.length_singleton]
    omega
theorem lines8 {t : T_Transcript} (h : Wr t) : ∀ ws ∈ linesR t, (∀ w ∈ ws, w.length ≤ 8) ∧ ws.length ≤ 5 := by
  obtain ⟨N, hN, hG⟩ := h.n
  have hr := h.r
  have ha := h.a
  have hb := h.b
  have hn40 := hG.hN
  have it : ∀ n : Int, 0 ≤ n → n ≤ 200 → (Lib.itoa n).length ≤ 8 := fun n h0 h1 => by have := itoa_len h0 (by omega); omega
  have hpl : ∀ b : Int, (plS b).length ≤ 8 := fun b => by rw [plS_len]; omega
  have w1 : wNodes.length ≤ 8 := by decide
  have w2 : wAttack.length ≤ 8 := by decide
  have w3 : wRoot.length ≤ 8 := by decide
  have w4 : wLimits.length ≤ 8 := by decide
  have w5 : wClaims.length ≤ 8 := by decide
  have w6 : wMoves.length ≤ 8 := by decide
  have w7 : wAgainst.length ≤ 8 := by decide
  have w8 : wRetracts.length ≤ 8 := by decide
  have w9 : wConcedes.length ≤ 8 := by decide
  intro ws hws
  unfold linesR at hws
  simp only [List.mem_append, List.mem_cons, List.not_mem_nil, or_false, List.mem_map, List.cons_append] at hws
  rcases hws with rfl | ((⟨p, hp, rfl⟩ | rfl | rfl) | ⟨m, hm, rfl⟩)
  · refine ⟨fun w hw => ?_, by simp⟩
    simp only [List.mem_cons, List.not_mem_nil, or_false] at hw
    rcases hw with rfl | rfl
    · exact w1
    · exact it _ (by omega) (by omega)
  · obtain ⟨q1, q2⟩ := ed_nums hG hp
    refine ⟨fun w hw => ?_, by simp [atW]⟩
    simp only [atW, List.mem_cons, List.not_mem_nil, or_false] at hw
    rcases hw with rfl | rfl | rfl
    · exact w2
    · exact it _ (by omega) (by omega)
    · exact it _ (by omega) (by omega)
  · refine ⟨fun w hw => ?_, by simp⟩
    simp only [List.mem_cons, List.not_mem_nil, or_false] at hw
    rcases hw with rfl | rfl
    · exact w3
    · exact it _ (by omega) (by omega)
  · refine ⟨fun w hw => ?_, by simp⟩
    simp only [List.mem_cons, List.not_mem_nil, or_false] at hw
    rcases hw with rfl | rfl | rfl
    · exact w4
    · exact it _ (by omega) (by omega)
    · exact it _ (by omega) (by omega)
  · obtain ⟨_, q2, q3, _⟩ := pln_nums (h.m m hm)
    refine ⟨fun w hw => ?_, by unfold mvW; repeat (first | simp | split)⟩
    unfold mvW at hw
    split at hw
    · simp only [List.mem_cons, List.not_mem_nil, or_false] at hw
      rcases hw with rfl | rfl | rfl
      · exact hpl _
      · exact w5
      · exact it _ (by omega) (by omega)
    · split at hw
      · simp only [List.mem_cons, List.not_mem_nil, or_false] at hw
        rcases hw with rfl | rfl | rfl | rfl | rfl
        · exact hpl _
        · exact w6
        · exact it _ (by omega) (by omega)
        · exact w7
        · exact it _ (by omega) (by omega)
      · split at hw
        · simp only [List.mem_cons, List.not_mem_nil, or_false] at hw
          rcases hw with rfl | rfl | rfl
          · exact hpl _
          · exact w8
          · exact it _ (by omega) (by omega)
        · simp only [List.mem_cons, List.not_mem_nil, or_false] at hw
          rcases hw with rfl | rfl
          · exact hpl _
          · exact w9
theorem new_ok {g : T_Graph} (hL : g.2.length < 4294967296) {r : Int} {q : Int × Int} (h : (newS g r q).2 = 0) : (∃ N : Nat, g.1 = (N : Int) ∧ GoodG N g.2) ∧ (0 ≤ r ∧ r < g.1) ∧ (1 ≤ q.1 ∧ q.1 ≤ 200) ∧ (0 ≤ q.2 ∧ q.2 ≤ 200) := by
  obtain ⟨n, L⟩ := g
  obtain ⟨e, h1, h2, h3⟩ := graph_Validate_iff n hL
  unfold newS m_ref27_New at h
  rw [h2] at h
  simp only [Option.bind_some] at h
  by_cases he : e = 0
  · subst he
    simp only [bne_self_eq_false, Bool.false_eq_true, if_false] at h
    generalize hc : (decide (r < 0) || (decide (n ≤ r) || (decide (q.1 < 1) || (decide (200 < q.1) || (decide (q.2 < 0) || decide (200 < q.2)))))) = c at h
    cases c with
    | true => simp at h
    | false =>
      simp only [Bool.or_eq_false_iff, decide_eq_false_iff_not] at hc
      exact ⟨h3.1 rfl, by show 0 ≤ r ∧ r < n; omega, by omega, by omega⟩
  · have hne : (e != 0) = true := by simpa using he
    simp only [hne, if_true, Option.getD_some] at h
    exact absurd h he
theorem len25 {N : Nat} {L : List T_Pair} (h : GoodG N L) (hn : N ≤ 5) : L.length ≤ 25 := by
  have h1 := nodup_len (m := (rng N).flatMap fun i => (rng N).map fun j => (i, j)) h.nodup fun p hp => by
    obtain ⟨i, j, hi, hj, rfl⟩ := badE_nat (h.inr p hp)
    exact List.mem_flatMap.2 ⟨(i : Int), rng_mem.2 ⟨by omega, by omega⟩, List.mem_map.2 ⟨(j : Int), rng_mem.2 ⟨by omega, by omega⟩, rfl⟩⟩
  have h2 := flat_le (fun i : Int => (rng N).map fun j : Int => (i, j)) N (rng N) fun x _ => by simp [rng_len]
  rw [rng_len] at h2
  have h3 : N * N ≤ 5 * 5 := Nat.mul_le_mul hn hn
  omega
theorem played_wr {d : T_Dialogue} (hp : Played d 14) (hr : Rp d) : Wr d ∧ (fmtR d).length ≤ 4096 := by
  have hlt := hp.lt (by omega)
  obtain ⟨⟨N, hN, hG⟩, q1, q2, q3⟩ := new_ok hlt.g hr.nw
  have hn5 := hr.n5
  have hlen := hp.len
  have hn40 := hG.hN
  have hw : Wr d := by
    refine ⟨hlt, ⟨N, hN, hG⟩, by omega, by omega, by omega, by omega, fun m hm => ?_⟩
    obtain ⟨a1, a2, a3, a4⟩ := hp.at_ m hm
    obtain ⟨i, hi⟩ := List.getElem?_of_mem hm
    have hz := hr.z m hm
    have hf : (m.1 = 1 ∨ m.1 = 2) ∧ ((m.2.1 = 1 ∧ m.2.2.2 = 0) ∨ m.2.1 = 2 ∨ (m.2.1 = 3 ∧ m.2.2.1 = 0) ∨ (m.2.1 = 4 ∧ m.2.2.1 = 0 ∧ m.2.2.2 = 0)) := by
      by_cases h0 : i = 0
      · subst h0
        have := hr.at0
        rw [hi] at this
        obtain rfl := Option.some.inj this
        exact ⟨.inl rfl, .inl ⟨rfl, rfl⟩⟩
      · obtain ⟨b1, b2⟩ := hp.wf.l.rest i m hi h0
        refine ⟨b1, ?_⟩
        rcases b2 with ⟨c, _⟩ | ⟨c, _⟩ | ⟨c, c2⟩
        · exact .inr (.inl c)
        · exact .inr (.inr (.inl ⟨c, hz (.inl c)⟩))
        · exact .inr (.inr (.inr ⟨c, hz (.inr c), c2⟩))
    unfold plnB inB
    simp only [Bool.and_eq_true, Bool.or_eq_true, beq_iff_eq, decide_eq_true_eq]
    refine ⟨⟨hf.1, by omega, by omega⟩, ?_⟩
    rcases hf.2 with h | h | h | h
    · exact .inl (.inl (.inl h))
    · exact .inl (.inl (.inr h))
    · exact .inl (.inr h)
    · exact .inr ⟨h.1, h.2⟩
  refine ⟨hw, ?_⟩
  have h1 := flat_len8 (linesR d) (lines8 hw)
  have h2 := len25 hG (by omega)
  have h3 : (linesR d).length ≤ 60 := by
    unfold linesR
    simp only [List.length_append, List.length_cons, List.length_map, List.length_nil]
    omega
  unfold fmtR
  omega
end
section
set_option linter.unusedVariables false
theorem u8_bd (x : Int) : 0 ≤ IntKind.u8.wrap x ∧ IntKind.u8.wrap x < 256 := by
  show 0 ≤ x % 256 ∧ x % 256 < 256
  omega
theorem lt_zT : Lt zT := ⟨by decide, by decide⟩
theorem paS_lt (s : Str) : Lt (paS s).1 := by
  unfold paS
  by_cases h : 4096 < s.length
  · rw [if_pos h]; exact lt_zT
  · rw [if_neg h]
    have hI : PI s 0 0 zT := ⟨by omega, .inl rfl, by simp, by simp⟩
    have hok := psF_ok s.length s 0 0 zT hI
    cases hp : psF s.length s 0 0 zT with
    | inr n => exact lt_zT
    | inl x =>
      obtain ⟨n, p, t⟩ := x
      have hx := hok _ hp
      have hb := hx.b
      have hl := hx.l
      have hm := hx.m
      dsimp only [List.length_nil] at hb hl hm ⊢
      by_cases h3 : p = 3
      · rw [if_neg (by simpa using h3)]
        by_cases h0 : chkS t = 0
        · rw [if_neg (by simpa using h0)]; exact ⟨by show t.1.2.length < _; omega, by show t.2.2.2.length < _; omega⟩
        · rw [if_pos h0]; exact lt_zT
      · rw [if_pos h3]; exact lt_zT
theorem p_RefereeBack (hw : m_law30_awake = some true) (y0 : List Int) : m_law30_RefereeBack y0 = some true := by
  unfold m_law30_RefereeBack
  rw [keep_New, Option.bind_some, hw]
  obtain ⟨r2, h1, hp, hr, _⟩ := Ok.played (srcOk_New y0)
  rw [h1, Option.bind_some]
  have hlt := hp.lt (by omega)
  obtain ⟨hwr, hl⟩ := played_wr hp hr
  have hg := hlt.g
  have hm := hlt.m
  obtain ⟨a1, _⟩ := replay_both r2.1 hlt.g hlt.m
  rw [a1, hr.replay, Option.bind_some]
  have hrec : m_referee_Record r2.1 = some r2.1 := by
    unfold m_referee_Record m_slices_Clone_Pair m_slices_Clone_Move
    rw [app_nil_ok hg, app_nil_ok (by omega)]
    rfl
  have hlen : ((r2.1.2.2.2.length : Int) != len r2.1.2.2.2) = false := by simp [len]
  have e0 : ((0 : Int) != 0) = false := rfl
  simp only [e0, Bool.false_eq_true, if_false, hlen, hrec, Option.bind_some, ref30_same_self hlt, Bool.not_true]
  rw [format_ok hlt, fm_of hwr hl]
  have e2 : ((0 : Int) == 2) = false := rfl
  simp only [Option.bind_some, e2, Bool.false_eq_true, if_false]
  rw [(parse_both (fmtR r2.1)).1, pa_fm hwr hl]
  simp only [Option.bind_some, beq_self_eq_true, if_true, ref30_same_self hlt, referee_same_self hlt]
theorem p_RefereeTexts (hw : m_law30_awake = some true) (y0 : T_Transcript) (y1 : List Int) (y2 y3 y4 : Int) (y5 y6 : Str) : m_law30_RefereeTexts y0 y1 y2 y3 y4 y5 y6 = some true := by
  suffices h : Ok (m_law30_RefereeTexts y0 y1 y2 y3 y4 y5 y6) fun r => r = true by obtain ⟨r, h1, rfl⟩ := h; exact h1
  unfold m_law30_RefereeTexts m_law30_light m_net_Light
  rw [hw]
  refine .bind (I := fun o => o = false → y0.1.2.length ≤ 300 ∧ y0.2.2.2.length ≤ 60 ∧ y5.length ≤ 60 ∧ y6.length ≤ 300) ?_ fun b hb => ?_
  · simp only [Option.bind_some]
    refine .bind (I := fun o => o = true → y0.1.2.length ≤ 300 ∧ y0.2.2.2.length ≤ 60) ?_ fun b hb => ?_
    · refine .bind (I := fun o => o = true → y0.1.2.length ≤ 300 ∧ y0.2.2.2.length ≤ 60) (.ite (fun h => .ret fun h2 => ?_) fun _ => .ret nofun) fun b hb => .ret hb
      have h1 := of_decide_eq_true h
      have h3 := of_decide_eq_true h2
      simp only [len] at h1 h3
      exact ⟨by omega, by omega⟩
    refine .ite (fun _ => .ret nofun) fun h1 => .ite (fun _ => .ret nofun) fun h2 => .ret fun h3 => ?_
    obtain ⟨q1, q2⟩ := hb (by simpa using h1)
    have h2' : ¬ (60 < len y5) := by simpa using h2
    have h3' := of_decide_eq_false h3
    simp only [len] at h2' h3'
    exact ⟨q1, q2, by omega, by omega⟩
  refine .ite (fun _ => .bind (.ret rfl) fun r hr => .ret hr.symm) fun hlight => ?_
  obtain ⟨hl1, hl2, hl5, hl6⟩ := hb (by simpa using hlight)
  have hy0 : Lt y0 := ⟨by omega, by omega⟩
  rw [keep_New, Option.bind_some]
  refine .bind (Ok.played (srcOk_New y1)) fun r4 h4 => ?_
  have h4l := h4.1.len
  have hk4 : SrcOk ((y1.take 2000, (0 : Int)).1, r4.2) := h4.2.2
  have g4 := h4.1.lt (by omega)
  obtain ⟨hwr, hlw⟩ := played_wr h4.1 h4.2.1
  refine .seqE (I := fun o => o = .inl ()) ?_ (fun _ _ => ?_) (fun r hr => by cases hr)
  · refine .bind (Ok.bent hk4 (t := r4.1) (by omega) y2) fun r5 h5 => ?_
    have g5 : Lt r5.1 := ⟨by rw [h5.1]; exact g4.g, by have := h5.2.1; omega⟩
    have hlp : loop (m_law30_RefereeTexts_L1 y0 r4 r5) 0 = some (.inl ()) := by
      refine loop_for (l := ([y0, r4.1, r5.1] : List T_Transcript)) (fun i x hx => ?_) ?_
      · have hxL : Lt x := by
          have hm := mem_at hx
          simp only [List.mem_cons, List.not_mem_nil, or_false] at hm
          rcases hm with rfl | rfl | rfl
          · exact hy0
          · exact g4
          · exact g5
        unfold m_law30_RefereeTexts_L1
        simp only [at_dec hx, if_true, at_idx hx, Option.bind_some, format_ok hxL, format30_ok hxL, bne_self_eq_false, beq_self_eq_true, Bool.not_true, Bool.or_self, Bool.false_eq_true, if_false]
        rw [at_suc hx (by simp)]
      · unfold m_law30_RefereeTexts_L1
        simp only [end_dec, Bool.false_eq_true, if_false]
    rw [hlp]
    exact .ret rfl
  · rw [format30_ok g4, fm_of hwr hlw, Option.bind_some]
    have hne := fm_ne r4.1
    generalize fmtR r4.1 = u at hne hlw
    have hpos := List.length_pos_iff.2 hne
    refine .ite (fun h => absurd (by simpa using h) hne) fun _ => ?_
    have hlu : len u = (u.length : Int) := rfl
    obtain ⟨v, e1, v0, v1⟩ := keep_Mod (x := y3) (n := len u) (by rw [hlu]; omega) (by rw [hlu]; omega)
    dsimp only
    rw [e1, Option.bind_some]
    refine .bind (.idx v0 v1) fun x2 _ => .bind (.idx v0 v1) fun _ _ => ?_
    have hbs : ∀ c : Int, bset u v (bxor .u8 c y4) = some (u.set v.toNat (UInt8.ofNat (bxor .u8 c y4).toNat)) := fun c => by
      unfold bset
      rw [if_pos ⟨⟨v0, by rw [hlu] at v1; omega⟩, u8_bd _⟩]
    rw [hbs, Option.bind_some]
    have hw1 : w64 (len u + 1) = ((u.length + 1 : Nat) : Int) := w64_succ _ (by omega)
    obtain ⟨v', e2, v0', v1'⟩ := keep_Mod (x := y3) (n := w64 (len u + 1)) (by rw [hw1]; omega) (by rw [hw1]; omega)
    rw [e2, Option.bind_some]
    rw [hw1] at v1'
    refine .seqE (I := fun o => o = .inl ()) ?_ (fun _ _ => .bind (.ret rfl) fun r hr => .ret hr.symm) (fun r hr => by cases hr)
    rw [sub_pre v0' (by omega), Option.bind_some, Option.bind_some]
    have ht : (u.take v'.toNat).length ≤ 4096 := by have := List.length_take_le v'.toNat u; omega
    rw [cat_ok (by omega), Option.bind_some, cat_ok (by simp only [List.length_append, List.length_singleton]; omega), Option.bind_some, sub_suf v0' (by omega), Option.bind_some]
    have hdl : (u.drop v'.toNat).length ≤ 4096 := by rw [List.length_drop]; omega
    rw [cat_ok (by simp only [List.length_append, List.length_singleton]; omega), Option.bind_some, cat_ok (by omega), Option.bind_some]
    have hlp : ∀ a b c d : Str, loop (m_law30_RefereeTexts_L2 y6 (u, 0) b c d a) 0 = some (.inl ()) := fun a b c d => by
      refine loop_for (l := ([y6, u, b, c, d, a] : List Str)) (fun i x hx => ?_) ?_
      · obtain ⟨p1, p2⟩ := parse_both x
        unfold m_law30_RefereeTexts_L2
        simp only [at_dec hx, if_true, at_idx hx, Option.bind_some, p1, p2, bne_self_eq_false, Bool.false_eq_true, if_false, ref30_same_self (paS_lt x), Bool.not_true]
        rw [at_suc hx (by simp)]
      · unfold m_law30_RefereeTexts_L2
        simp only [end_dec, Bool.false_eq_true, if_false]
    rw [hlp]
    exact .ret rfl
end
section
set_option linter.unusedVariables false
def e_net_Pairs_L1 (n_ : Nat) (y0 : List T_Pair) (y1 : List T_Pair) (s1 : Int) : Option (Int ⊕ Bool) :=
  if decide (s1 < (len y0)) then
    (idx y0 s1).bind fun x1 =>
    (idx y1 s1).bind fun x2 =>
    if !(x1 == x2) then
      some (.inr false)
    else
      some (.inl (w64 (s1 + 1)))
  else
    some (.inr true)
theorem le_net_Pairs_L1 (n_ : Nat) (y0 : List T_Pair) (y1 : List T_Pair) (s1 : Int) : Le (e_net_Pairs_L1 n_ y0 y1 s1) (m_net_Pairs_L1 y0 y1 s1) := by
  unfold e_net_Pairs_L1 m_net_Pairs_L1
  repeat with_reducible (first | intro _ | exact Le.refl _ | apply Le.ite | apply Le.seqE | apply Le.bind | apply Le.lp | exact Le.none _)
def e_net_Pairs (n_ : Nat) (y0 : List T_Pair) (y1 : List T_Pair) : Option Bool :=
  if (len y0) != (len y1) then
    some false
  else
    (lp n_) ((e_net_Pairs_L1 n_) y0 y1) 0
theorem le_net_Pairs (n_ : Nat) (y0 : List T_Pair) (y1 : List T_Pair) : Le (e_net_Pairs n_ y0 y1) (m_net_Pairs y0 y1) := by
  unfold e_net_Pairs m_net_Pairs
  repeat with_reducible (first | intro _ | apply le_net_Pairs_L1 | exact Le.refl _ | apply Le.ite | apply Le.seqE | apply Le.bind | apply Le.lp | exact Le.none _)
def e_net_Same (n_ : Nat) (y0 : T_Graph) (y1 : T_Graph) : Option Bool :=
  (
    if y0.1 == y1.1 then
      ((e_net_Pairs n_) y0.2 y1.2).bind fun r1 =>
      some r1
    else
      some false : Option Bool).bind fun s1 =>
  some s1
theorem le_net_Same (n_ : Nat) (y0 : T_Graph) (y1 : T_Graph) : Le (e_net_Same n_ y0 y1) (m_net_Same y0 y1) := by
  unfold e_net_Same m_net_Same
  repeat with_reducible (first | intro _ | apply le_net_Pairs | exact Le.refl _ | apply Le.ite | apply Le.seqE | apply Le.bind | apply Le.lp | exact Le.none _)
def e_ref27_SameMoves_L1 (n_ : Nat) (y0 : List T_Move) (y1 : List T_Move) (s1 : Int) : Option (Int ⊕ Bool) :=
  if decide (s1 < (len y0)) then
    (idx y0 s1).bind fun x1 =>
    (idx y1 s1).bind fun x2 =>
    if !(x1 == x2) then
      some (.inr false)
    else
      some (.inl (w64 (s1 + 1)))
  else
    some (.inr true)
theorem le_ref27_SameMoves_L1 (n_ : Nat) (y0 : List T_Move) (y1 : List T_Move) (s1 : Int) : Le (e_ref27_SameMoves_L1 n_ y0 y1 s1) (m_ref27_SameMoves_L1 y0 y1 s1) := by
  unfold e_ref27_SameMoves_L1 m_ref27_SameMoves_L1
  repeat with_reducible (first | intro _ | exact Le.refl _ | apply Le.ite | apply Le.seqE | apply Le.bind | apply Le.lp | exact Le.none _)
def e_ref27_SameMoves (n_ : Nat) (y0 : List T_Move) (y1 : List T_Move) : Option Bool :=
  if (len y0) != (len y1) then
    some false
  else
    (lp n_) ((e_ref27_SameMoves_L1 n_) y0 y1) 0
theorem le_ref27_SameMoves (n_ : Nat) (y0 : List T_Move) (y1 : List T_Move) : Le (e_ref27_SameMoves n_ y0 y1) (m_ref27_SameMoves y0 y1) := by
  unfold e_ref27_SameMoves m_ref27_SameMoves
  repeat with_reducible (first | intro _ | apply le_ref27_SameMoves_L1 | exact Le.refl _ | apply Le.ite | apply Le.seqE | apply Le.bind | apply Le.lp | exact Le.none _)
def e_ref30_Same (n_ : Nat) (y0 : T_Transcript) (y1 : T_Transcript) : Option Bool :=
  (
    ((e_net_Same n_) y0.1 y1.1).bind fun r1 =>
    if r1 then
      if y0.2.1 == y1.2.1 then
        if y0.2.2.1 == y1.2.2.1 then
          ((e_ref27_SameMoves n_) y0.2.2.2 y1.2.2.2).bind fun r2 =>
          some r2
        else
          some false
      else
        some false
    else
      some false : Option Bool).bind fun s1 =>
  some s1
theorem le_ref30_Same (n_ : Nat) (y0 : T_Transcript) (y1 : T_Transcript) : Le (e_ref30_Same n_ y0 y1) (m_ref30_Same y0 y1) := by
  unfold e_ref30_Same m_ref30_Same
  repeat with_reducible (first | intro _ | apply le_ref27_SameMoves | apply le_net_Same | exact Le.refl _ | apply Le.ite | apply Le.seqE | apply Le.bind | apply Le.lp | exact Le.none _)
def e_cmp_isNaN_int (n_ : Nat) (y0 : Int) : Option Bool :=
  some (y0 != y0)
theorem le_cmp_isNaN_int (n_ : Nat) (y0 : Int) : Le (e_cmp_isNaN_int n_ y0) (m_cmp_isNaN_int y0) := by
  unfold e_cmp_isNaN_int m_cmp_isNaN_int
  repeat with_reducible (first | intro _ | exact Le.refl _ | apply Le.ite | apply Le.seqE | apply Le.bind | apply Le.lp | exact Le.none _)
def e_cmp_Compare_int (n_ : Nat) (y0 : Int) (y1 : Int) : Option Int :=
  ((e_cmp_isNaN_int n_) y0).bind fun r1 =>
  ((e_cmp_isNaN_int n_) y1).bind fun r2 =>
  if r1 then
    if r2 then
      some 0
    else
      some (-1)
  else
    if r2 then
      some 1
    else
      if decide (y0 < y1) then
        some (-1)
      else
        if decide (y1 < y0) then
          some 1
        else
          some 0
theorem le_cmp_Compare_int (n_ : Nat) (y0 : Int) (y1 : Int) : Le (e_cmp_Compare_int n_ y0 y1) (m_cmp_Compare_int y0 y1) := by
  unfold e_cmp_Compare_int m_cmp_Compare_int
  repeat with_reducible (first | intro _ | apply le_cmp_isNaN_int | exact Le.refl _ | apply Le.ite | apply Le.seqE | apply Le.bind | apply Le.lp | exact Le.none _)
def e_cmp_Or_int_L1 (n_ : Nat) (y0 : List Int) (s1 : Int) : Option (Int ⊕ Int) :=
  if decide (s1 < (len y0)) then
    (idx y0 s1).bind fun x1 =>
    if x1 != 0 then
      some (.inr x1)
    else
      some (.inl (w64 (s1 + 1)))
  else
    some (.inr 0)
theorem le_cmp_Or_int_L1 (n_ : Nat) (y0 : List Int) (s1 : Int) : Le (e_cmp_Or_int_L1 n_ y0 s1) (m_cmp_Or_int_L1 y0 s1) := by
  unfold e_cmp_Or_int_L1 m_cmp_Or_int_L1
  repeat with_reducible (first | intro _ | exact Le.refl _ | apply Le.ite | apply Le.seqE | apply Le.bind | apply Le.lp | exact Le.none _)
def e_cmp_Or_int (n_ : Nat) (y0 : List Int) : Option Int :=
  (lp n_) ((e_cmp_Or_int_L1 n_) y0) 0
theorem le_cmp_Or_int (n_ : Nat) (y0 : List Int) : Le (e_cmp_Or_int n_ y0) (m_cmp_Or_int y0) := by
  unfold e_cmp_Or_int m_cmp_Or_int
  repeat with_reducible (first | intro _ | apply le_cmp_Or_int_L1 | exact Le.refl _ | apply Le.ite | apply Le.seqE | apply Le.bind | apply Le.lp | exact Le.none _)
def e_graph_compare (n_ : Nat) (y0 : T_Pair) (y1 : T_Pair) : Option Int :=
  ((e_cmp_Compare_int n_) y0.1 y1.1).bind fun r1 =>
  ((e_cmp_Compare_int n_) y0.2 y1.2).bind fun r2 =>
  ((e_cmp_Or_int n_) ([r1, r2] : List Int)).bind fun r3 =>
  some r3
theorem le_graph_compare (n_ : Nat) (y0 : T_Pair) (y1 : T_Pair) : Le (e_graph_compare n_ y0 y1) (m_graph_compare y0 y1) := by
  unfold e_graph_compare m_graph_compare
  repeat with_reducible (first | intro _ | apply le_cmp_Or_int | apply le_cmp_Compare_int | exact Le.refl _ | apply Le.ite | apply Le.seqE | apply Le.bind | apply Le.lp | exact Le.none _)
def e_graph_Validate_L1 (n_ : Nat) (y0 : T_Graph) (s1 : Int) : Option (Int ⊕ Int) :=
  if decide (s1 < (len y0.2)) then
    (idx y0.2 s1).bind fun x1 =>
    if (decide ((if x1.2 < x1.1 then x1.2 else x1.1) < 0)) || (decide (y0.1 ≤ (if x1.2 > x1.1 then x1.2 else x1.1))) then
      some (.inr 1)
    else
      (
        if decide (0 < s1) then
          (idx y0.2 (w64 (s1 - 1))).bind fun x2 =>
          ((e_graph_compare n_) x2 x1).bind fun r1 =>
          some (decide (0 ≤ r1))
        else
          some false : Option Bool).bind fun s2 =>
      if s2 then
        some (.inr 8)
      else
        some (.inl (w64 (s1 + 1)))
  else
    some (.inr 0)
theorem le_graph_Validate_L1 (n_ : Nat) (y0 : T_Graph) (s1 : Int) : Le (e_graph_Validate_L1 n_ y0 s1) (m_graph_Validate_L1 y0 s1) := by
  unfold e_graph_Validate_L1 m_graph_Validate_L1
  repeat with_reducible (first | intro _ | apply le_graph_compare | exact Le.refl _ | apply Le.ite | apply Le.seqE | apply Le.bind | apply Le.lp | exact Le.none _)
def e_graph_Validate (n_ : Nat) (y0 : T_Graph) : Option Int :=
  if (decide (y0.1 < 0)) || (decide (40 < y0.1)) then
    some 1
  else
    (lp n_) ((e_graph_Validate_L1 n_) y0) 0
theorem le_graph_Validate (n_ : Nat) (y0 : T_Graph) : Le (e_graph_Validate n_ y0) (m_graph_Validate y0) := by
  unfold e_graph_Validate m_graph_Validate
  repeat with_reducible (first | intro _ | apply le_graph_Validate_L1 | exact Le.refl _ | apply Le.ite | apply Le.seqE | apply Le.bind | apply Le.lp | exact Le.none _)
def e_referee_in (n_ : Nat) (y0 : Int) : Option Bool :=
  some ((decide (0 ≤ y0)) && (decide (y0 ≤ 200)))
theorem le_referee_in (n_ : Nat) (y0 : Int) : Le (e_referee_in n_ y0) (m_referee_in y0) := by
  unfold e_referee_in m_referee_in
  repeat with_reducible (first | intro _ | exact Le.refl _ | apply Le.ite | apply Le.seqE | apply Le.bind | apply Le.lp | exact Le.none _)
def e_referee_plain (n_ : Nat) (y0 : T_Move) : Option Bool :=
  (
    if y0.1 != 1 then
      if y0.1 != 2 then
        some true
      else
        ((e_referee_in n_) y0.2.2.1).bind fun r1 =>
        if !r1 then
          some true
        else
          ((e_referee_in n_) y0.2.2.2).bind fun r2 =>
          some (!r2)
    else
      ((e_referee_in n_) y0.2.2.1).bind fun r3 =>
      if !r3 then
        some true
      else
        ((e_referee_in n_) y0.2.2.2).bind fun r4 =>
        some (!r4) : Option Bool).bind fun s1 =>
  if s1 then
    some false
  else
    if y0.2.1 == 1 then
      some (y0.2.2.2 == 0)
    else
      if y0.2.1 == 2 then
        some true
      else
        if y0.2.1 == 3 then
          some (y0.2.2.1 == 0)
        else
          if y0.2.1 == 4 then
            some ((y0.2.2.1 == 0) && (y0.2.2.2 == 0))
          else
            some false
theorem le_referee_plain (n_ : Nat) (y0 : T_Move) : Le (e_referee_plain n_ y0) (m_referee_plain y0) := by
  unfold e_referee_plain m_referee_plain
  repeat with_reducible (first | intro _ | apply le_referee_in | exact Le.refl _ | apply Le.ite | apply Le.seqE | apply Le.bind | apply Le.lp | exact Le.none _)
def e_referee_check_L1 (n_ : Nat) (y0 : T_Transcript) (s2 : Int) : Option (Int ⊕ Int) :=
  if decide (s2 < (len y0.2.2.2)) then
    (idx y0.2.2.2 s2).bind fun x1 =>
    ((e_referee_plain n_) x1).bind fun r5 =>
    if !r5 then
      some (.inr 1)
    else
      some (.inl (w64 (s2 + 1)))
  else
    some (.inr 0)
theorem le_referee_check_L1 (n_ : Nat) (y0 : T_Transcript) (s2 : Int) : Le (e_referee_check_L1 n_ y0 s2) (m_referee_check_L1 y0 s2) := by
  unfold e_referee_check_L1 m_referee_check_L1
  repeat with_reducible (first | intro _ | apply le_referee_plain | exact Le.refl _ | apply Le.ite | apply Le.seqE | apply Le.bind | apply Le.lp | exact Le.none _)
def e_referee_check (n_ : Nat) (y0 : T_Transcript) : Option Int :=
  ((e_graph_Validate n_) y0.1).bind fun r1 =>
  if r1 != 0 then
    some r1
  else
    (
      ((e_referee_in n_) y0.2.1).bind fun r2 =>
      if !r2 then
        some true
      else
        ((e_referee_in n_) y0.2.2.1.1).bind fun r3 =>
        if !r3 then
          some true
        else
          ((e_referee_in n_) y0.2.2.1.2).bind fun r4 =>
          if !r4 then
            some true
          else
            some (decide (200 < (len y0.2.2.2))) : Option Bool).bind fun s1 =>
    if s1 then
      some 1
    else
      (lp n_) ((e_referee_check_L1 n_) y0) 0
theorem le_referee_check (n_ : Nat) (y0 : T_Transcript) : Le (e_referee_check n_ y0) (m_referee_check y0) := by
  unfold e_referee_check m_referee_check
  repeat with_reducible (first | intro _ | apply le_referee_check_L1 | apply le_referee_in | apply le_graph_Validate | exact Le.refl _ | apply Le.ite | apply Le.seqE | apply Le.bind | apply Le.lp | exact Le.none _)
def e_internal_strconv_FormatInt (n_ : Nat) (y0 : Int) (y1 : Int) : Option Str := fmt10 y0 y1
theorem le_internal_strconv_FormatInt (n_ : Nat) (y0 : Int) (y1 : Int) : Le (e_internal_strconv_FormatInt n_ y0 y1) (m_internal_strconv_FormatInt y0 y1) := by
  unfold e_internal_strconv_FormatInt m_internal_strconv_FormatInt
  repeat with_reducible (first | intro _ | exact Le.refl _ | apply Le.ite | apply Le.seqE | apply Le.bind | apply Le.lp | exact Le.none _)
def e_internal_strconv_Itoa (n_ : Nat) (y0 : Int) : Option Str :=
  ((e_internal_strconv_FormatInt n_) y0 10).bind fun r1 =>
  some r1
theorem le_internal_strconv_Itoa (n_ : Nat) (y0 : Int) : Le (e_internal_strconv_Itoa n_ y0) (m_internal_strconv_Itoa y0) := by
  unfold e_internal_strconv_Itoa m_internal_strconv_Itoa
  repeat with_reducible (first | intro _ | apply le_internal_strconv_FormatInt | exact Le.refl _ | apply Le.ite | apply Le.seqE | apply Le.bind | apply Le.lp | exact Le.none _)
def e_strconv_Itoa (n_ : Nat) (y0 : Int) : Option Str :=
  ((e_internal_strconv_Itoa n_) y0).bind fun r1 =>
  some r1
theorem le_strconv_Itoa (n_ : Nat) (y0 : Int) : Le (e_strconv_Itoa n_ y0) (m_strconv_Itoa y0) := by
  unfold e_strconv_Itoa m_strconv_Itoa
  repeat with_reducible (first | intro _ | apply le_internal_strconv_Itoa | exact Le.refl _ | apply Le.ite | apply Le.seqE | apply Le.bind | apply Le.lp | exact Le.none _)
def e_strings_Builder_WriteByte_2 (n_ : Nat) (y0 : Str) (y1 : Int) : Option (Unit × Str) :=
  (some () : Option Unit).bind fun _ =>
  (chk (decide (0 ≤ y1) && decide (y1 < 256) && decide (len y0 + 1 < 4294967296))).bind fun _ =>
  some ((), y0 ++ [UInt8.ofNat y1.toNat])
theorem le_strings_Builder_WriteByte_2 (n_ : Nat) (y0 : Str) (y1 : Int) : Le (e_strings_Builder_WriteByte_2 n_ y0 y1) (m_strings_Builder_WriteByte_2 y0 y1) := by
  unfold e_strings_Builder_WriteByte_2 m_strings_Builder_WriteByte_2
  repeat with_reducible (first | intro _ | exact Le.refl _ | apply Le.ite | apply Le.seqE | apply Le.bind | apply Le.lp | exact Le.none _)
def e_strings_Builder_WriteString_2 (n_ : Nat) (y0 : Str) (y1 : Str) : Option (Int × Unit × Str) := wstrM y0 y1
theorem le_strings_Builder_WriteString_2 (n_ : Nat) (y0 : Str) (y1 : Str) : Le (e_strings_Builder_WriteString_2 n_ y0 y1) (m_strings_Builder_WriteString_2 y0 y1) := by
  unfold e_strings_Builder_WriteString_2 m_strings_Builder_WriteString_2
  repeat with_reducible (first | intro _ | exact Le.refl _ | apply Le.ite | apply Le.seqE | apply Le.bind | apply Le.lp | exact Le.none _)
def e_referee_writer_line_L1 (n_ : Nat) (y1 : List An) (s2 : Int × Str) : Option ((Int × Str) ⊕ Str) :=
  if decide (s2.1 < (len y1)) then
    (idx y1 s2.1).bind fun x1 =>
    (
      if decide (0 < s2.1) then
        ((e_strings_Builder_WriteByte_2 n_) s2.2 32).bind fun r1 =>
        some r1.2
      else
        some s2.2 : Option Str).bind fun s3 =>
    if An.isI x1 then
      ((e_strconv_Itoa n_) (An.int x1)).bind fun r2 =>
      ((e_strings_Builder_WriteString_2 n_) s3 r2).bind fun r3 =>
      some (.inl (w64 (s2.1 + 1), r3.2.2))
    else
      if An.isS x1 then
        ((e_strings_Builder_WriteString_2 n_) s3 (An.str x1)).bind fun r4 =>
        some (.inl (w64 (s2.1 + 1), r4.2.2))
      else
        some (.inl (w64 (s2.1 + 1), s3))
  else
    some (.inr s2.2)
theorem le_referee_writer_line_L1 (n_ : Nat) (y1 : List An) (s2 : Int × Str) : Le (e_referee_writer_line_L1 n_ y1 s2) (m_referee_writer_line_L1 y1 s2) := by
  unfold e_referee_writer_line_L1 m_referee_writer_line_L1
  repeat with_reducible (first | intro _ | apply le_strings_Builder_WriteString_2 | apply le_strconv_Itoa | apply le_strings_Builder_WriteByte_2 | exact Le.refl _ | apply Le.ite | apply Le.seqE | apply Le.bind | apply Le.lp | exact Le.none _)
def e_referee_writer_line (n_ : Nat) (y0 : Str) (y1 : List An) : Option Str :=
  ((lp n_) ((e_referee_writer_line_L1 n_) y1) (0, y0) : Option Str).bind fun s1 =>
  ((e_strings_Builder_WriteByte_2 n_) s1 10).bind fun r5 =>
  some r5.2
theorem le_referee_writer_line (n_ : Nat) (y0 : Str) (y1 : List An) : Le (e_referee_writer_line n_ y0 y1) (m_referee_writer_line y0 y1) := by
  unfold e_referee_writer_line m_referee_writer_line
  repeat with_reducible (first | intro _ | apply le_strings_Builder_WriteByte_2 | apply le_referee_writer_line_L1 | exact Le.refl _ | apply Le.ite | apply Le.seqE | apply Le.bind | apply Le.lp | exact Le.none _)
def e_strings_Builder_Len_2 (n_ : Nat) (y0 : Str) : Option Int := some (len y0)
theorem le_strings_Builder_Len_2 (n_ : Nat) (y0 : Str) : Le (e_strings_Builder_Len_2 n_ y0) (m_strings_Builder_Len_2 y0) := by
  unfold e_strings_Builder_Len_2 m_strings_Builder_Len_2
  repeat with_reducible (first | intro _ | exact Le.refl _ | apply Le.ite | apply Le.seqE | apply Le.bind | apply Le.lp | exact Le.none _)
def e_strings_Builder_String_2 (n_ : Nat) (y0 : Str) : Option Str := some y0
theorem le_strings_Builder_String_2 (n_ : Nat) (y0 : Str) : Le (e_strings_Builder_String_2 n_ y0) (m_strings_Builder_String_2 y0) := by
  unfold e_strings_Builder_String_2 m_strings_Builder_String_2
  repeat with_reducible (first | intro _ | exact Le.refl _ | apply Le.ite | apply Le.seqE | apply Le.bind | apply Le.lp | exact Le.none _)
def e_referee_Format_L1 (n_ : Nat) (y0 : T_Transcript) (s2 : Int × Str) : Option ((Int × Str) ⊕ Str) :=
  if decide (s2.1 < (len y0.1.2)) then
    (idx y0.1.2 s2.1).bind fun x1 =>
    ((e_referee_writer_line n_) s2.2 ([An.s [97, 116, 116, 97, 99, 107], An.i x1.1, An.i x1.2] : List An)).bind fun r3 =>
    some (.inl (w64 (s2.1 + 1), r3))
  else
    some (.inr s2.2)
theorem le_referee_Format_L1 (n_ : Nat) (y0 : T_Transcript) (s2 : Int × Str) : Le (e_referee_Format_L1 n_ y0 s2) (m_referee_Format_L1 y0 s2) := by
  unfold e_referee_Format_L1 m_referee_Format_L1
  repeat with_reducible (first | intro _ | apply le_referee_writer_line | exact Le.refl _ | apply Le.ite | apply Le.seqE | apply Le.bind | apply Le.lp | exact Le.none _)
def e_referee_Format_L2 (n_ : Nat) (y0 : T_Transcript) (s4 : Int × Str) : Option ((Int × Str) ⊕ Str) :=
  if decide (s4.1 < (len y0.2.2.2)) then
    (idx y0.2.2.2 s4.1).bind fun x2 =>
    (idx tab_referee_players x2.1).bind fun x3 =>
    if x2.2.1 == 1 then
      ((e_referee_writer_line n_) s4.2 ([An.s x3, An.s [99, 108, 97, 105, 109, 115], An.i x2.2.2.1] : List An)).bind fun r6 =>
      some (.inl (w64 (s4.1 + 1), r6))
    else
      if x2.2.1 == 2 then
        ((e_referee_writer_line n_) s4.2 ([An.s x3, An.s [109, 111, 118, 101, 115], An.i x2.2.2.1, An.s [97, 103, 97, 105, 110, 115, 116], An.i x2.2.2.2] : List An)).bind fun r7 =>
        some (.inl (w64 (s4.1 + 1), r7))
      else
        if x2.2.1 == 3 then
          ((e_referee_writer_line n_) s4.2 ([An.s x3, An.s [114, 101, 116, 114, 97, 99, 116, 115], An.i x2.2.2.2] : List An)).bind fun r8 =>
          some (.inl (w64 (s4.1 + 1), r8))
        else
          ((e_referee_writer_line n_) s4.2 ([An.s x3, An.s [99, 111, 110, 99, 101, 100, 101, 115]] : List An)).bind fun r9 =>
          some (.inl (w64 (s4.1 + 1), r9))
  else
    some (.inr s4.2)
theorem le_referee_Format_L2 (n_ : Nat) (y0 : T_Transcript) (s4 : Int × Str) : Le (e_referee_Format_L2 n_ y0 s4) (m_referee_Format_L2 y0 s4) := by
  unfold e_referee_Format_L2 m_referee_Format_L2
  repeat with_reducible (first | intro _ | apply le_referee_writer_line | exact Le.refl _ | apply Le.ite | apply Le.seqE | apply Le.bind | apply Le.lp | exact Le.none _)
def e_referee_Format (n_ : Nat) (y0 : T_Transcript) : Option (Str × Int) :=
  ((e_referee_check n_) y0).bind fun r1 =>
  if r1 != 0 then
    some ([], r1)
  else
    ((e_referee_writer_line n_) ([] : Str) ([An.s [110, 111, 100, 101, 115], An.i y0.1.1] : List An)).bind fun r2 =>
    ((lp n_) ((e_referee_Format_L1 n_) y0) (0, r2) : Option Str).bind fun s1 =>
    ((e_referee_writer_line n_) s1 ([An.s [114, 111, 111, 116], An.i y0.2.1] : List An)).bind fun r4 =>
    ((e_referee_writer_line n_) r4 ([An.s [108, 105, 109, 105, 116, 115], An.i y0.2.2.1.1, An.i y0.2.2.1.2] : List An)).bind fun r5 =>
    ((lp n_) ((e_referee_Format_L2 n_) y0) (0, r5) : Option Str).bind fun s3 =>
    ((e_strings_Builder_Len_2 n_) s3).bind fun r10 =>
    if decide (4096 < r10) then
      some ([], 2)
    else
      ((e_strings_Builder_String_2 n_) s3).bind fun r11 =>
      some (r11, 0)
theorem le_referee_Format (n_ : Nat) (y0 : T_Transcript) : Le (e_referee_Format n_ y0) (m_referee_Format y0) := by
  unfold e_referee_Format m_referee_Format
  repeat with_reducible (first | intro _ | apply le_strings_Builder_String_2 | apply le_strings_Builder_Len_2 | apply le_referee_Format_L2 | apply le_referee_Format_L1 | apply le_referee_writer_line | apply le_referee_check | exact Le.refl _ | apply Le.ite | apply Le.seqE | apply Le.bind | apply Le.lp | exact Le.none _)
def e_strconv_Atoi (n_ : Nat) (y0 : Str) : Option (Int × Bool) := atoiM y0
theorem le_strconv_Atoi (n_ : Nat) (y0 : Str) : Le (e_strconv_Atoi n_ y0) (m_strconv_Atoi y0) := by
  unfold e_strconv_Atoi m_strconv_Atoi
  repeat with_reducible (first | intro _ | exact Le.refl _ | apply Le.ite | apply Le.seqE | apply Le.bind | apply Le.lp | exact Le.none _)
def e_strings_Count (n_ : Nat) (y0 : Str) (y1 : Str) : Option Int := count1 y0 y1
theorem le_strings_Count (n_ : Nat) (y0 : Str) (y1 : Str) : Le (e_strings_Count n_ y0 y1) (m_strings_Count y0 y1) := by
  unfold e_strings_Count m_strings_Count
  repeat with_reducible (first | intro _ | exact Le.refl _ | apply Le.ite | apply Le.seqE | apply Le.bind | apply Le.lp | exact Le.none _)
def e_internal_stringslite_Index (n_ : Nat) (y0 : Str) (y1 : Str) : Option Int := index1 y0 y1
theorem le_internal_stringslite_Index (n_ : Nat) (y0 : Str) (y1 : Str) : Le (e_internal_stringslite_Index n_ y0 y1) (m_internal_stringslite_Index y0 y1) := by
  unfold e_internal_stringslite_Index m_internal_stringslite_Index
  repeat with_reducible (first | intro _ | exact Le.refl _ | apply Le.ite | apply Le.seqE | apply Le.bind | apply Le.lp | exact Le.none _)
def e_strings_Index (n_ : Nat) (y0 : Str) (y1 : Str) : Option Int :=
  ((e_internal_stringslite_Index n_) y0 y1).bind fun r1 =>
  some r1
theorem le_strings_Index (n_ : Nat) (y0 : Str) (y1 : Str) : Le (e_strings_Index n_ y0 y1) (m_strings_Index y0 y1) := by
  unfold e_strings_Index m_strings_Index
  repeat with_reducible (first | intro _ | apply le_internal_stringslite_Index | exact Le.refl _ | apply Le.ite | apply Le.seqE | apply Le.bind | apply Le.lp | exact Le.none _)
def e_strings_genSplit_L1 (n_ : Nat) (y0 : Str) (s1 : Int) (y1 : Str) (y2 : Int) (s3 : Str × (List Str) × Int) : Option ((Str × (List Str) × Int) ⊕ (Str × (List Str) × Int)) :=
  if decide (s3.2.2 < (w64 ((if (w64 ((len y0) + 1)) < s1 then w64 ((len y0) + 1) else s1) - 1))) then
    ((e_strings_Index n_) s3.1 y1).bind fun r2 =>
    if decide (r2 < 0) then
      some (.inr (s3.1, s3.2.1, s3.2.2))
    else
      (sub s3.1 0 (w64 (r2 + y2))).bind fun x2 =>
      (idx s3.2.1 s3.2.2).bind fun _ =>
      (sub s3.1 (w64 (r2 + (len y1))) (len s3.1)).bind fun x4 =>
      some (.inl (x4, List.set s3.2.1 (Int.toNat s3.2.2) x2, w64 (s3.2.2 + 1)))
  else
    some (.inr (s3.1, s3.2.1, s3.2.2))
theorem le_strings_genSplit_L1 (n_ : Nat) (y0 : Str) (s1 : Int) (y1 : Str) (y2 : Int) (s3 : Str × (List Str) × Int) : Le (e_strings_genSplit_L1 n_ y0 s1 y1 y2 s3) (m_strings_genSplit_L1 y0 s1 y1 y2 s3) := by
  unfold e_strings_genSplit_L1 m_strings_genSplit_L1
  repeat with_reducible (first | intro _ | apply le_strings_Index | exact Le.refl _ | apply Le.ite | apply Le.seqE | apply Le.bind | apply Le.lp | exact Le.none _)
def e_strings_genSplit (n_ : Nat) (y0 : Str) (y1 : Str) (y2 : Int) (y3 : Int) : Option (List Str) :=
  if y3 == 0 then
    some ([] : List Str)
  else
    if y1 == [] then
      none
    else
      (
        if decide (y3 < 0) then
          ((e_strings_Count n_) y0 y1).bind fun r1 =>
          some (w64 (r1 + 1))
        else
          some y3 : Option Int).bind fun s1 =>
      (mkS (if (w64 ((len y0) + 1)) < s1 then w64 ((len y0) + 1) else s1) (if (w64 ((len y0) + 1)) < s1 then w64 ((len y0) + 1) else s1) ([] : Str)).bind fun x1 =>
      ((lp n_) ((e_strings_genSplit_L1 n_) y0 s1 y1 y2) (y0, x1, 0) : Option (Str × (List Str) × Int)).bind fun s2 =>
      (idx s2.2.1 s2.2.2).bind fun _ =>
      (sub (List.set s2.2.1 (Int.toNat s2.2.2) s2.1) 0 (w64 (s2.2.2 + 1))).bind fun x6 =>
      some x6
theorem le_strings_genSplit (n_ : Nat) (y0 : Str) (y1 : Str) (y2 : Int) (y3 : Int) : Le (e_strings_genSplit n_ y0 y1 y2 y3) (m_strings_genSplit y0 y1 y2 y3) := by
  unfold e_strings_genSplit m_strings_genSplit
  repeat with_reducible (first | intro _ | apply le_strings_genSplit_L1 | apply le_strings_Count | exact Le.refl _ | apply Le.ite | apply Le.seqE | apply Le.bind | apply Le.lp | exact Le.none _)
def e_strings_Split (n_ : Nat) (y0 : Str) (y1 : Str) : Option (List Str) :=
  ((e_strings_genSplit n_) y0 y1 0 (-1)).bind fun r1 =>
  some r1
theorem le_strings_Split (n_ : Nat) (y0 : Str) (y1 : Str) : Le (e_strings_Split n_ y0 y1) (m_strings_Split y0 y1) := by
  unfold e_strings_Split m_strings_Split
  repeat with_reducible (first | intro _ | apply le_strings_genSplit | exact Le.refl _ | apply Le.ite | apply Le.seqE | apply Le.bind | apply Le.lp | exact Le.none _)
def e_referee_numbers_L1 (n_ : Nat) (r2 : (List Str)) (r1 : (List Str)) (s1 : (List Int) × Int) : Option (((List Int) × Int) ⊕ ((List Int) × Bool)) :=
  if decide (s1.2 < (len r2)) then
    (idx r2 s1.2).bind fun x1 =>
    if !(x1 == [35]) then
      (idx r1 s1.2).bind fun x2 =>
      if !(x2 == x1) then
        some (.inr (([] : List Int), false))
      else
        some (.inl (s1.1, w64 (s1.2 + 1)))
    else
      (idx r1 s1.2).bind fun x3 =>
      ((e_strconv_Atoi n_) x3).bind fun r3 =>
      (
        if r3.2 then
          some true
        else
          (idx r1 s1.2).bind fun x4 =>
          if decide (4 < (len x4)) then
            some true
          else
            (idx r1 s1.2).bind fun x5 =>
            ((e_strconv_Itoa n_) r3.1).bind fun r4 =>
            if !(r4 == x5) then
              some true
            else
              some (decide (r3.1 < 0)) : Option Bool).bind fun s2 =>
      if s2 then
        some (.inr (([] : List Int), false))
      else
        (app s1.1 ([r3.1] : List Int)).bind fun x6 =>
        some (.inl (x6, w64 (s1.2 + 1)))
  else
    some (.inr (s1.1, true))
theorem le_referee_numbers_L1 (n_ : Nat) (r2 : (List Str)) (r1 : (List Str)) (s1 : (List Int) × Int) : Le (e_referee_numbers_L1 n_ r2 r1 s1) (m_referee_numbers_L1 r2 r1 s1) := by
  unfold e_referee_numbers_L1 m_referee_numbers_L1
  repeat with_reducible (first | intro _ | apply le_strconv_Itoa | apply le_strconv_Atoi | exact Le.refl _ | apply Le.ite | apply Le.seqE | apply Le.bind | apply Le.lp | exact Le.none _)
def e_referee_numbers (n_ : Nat) (y0 : Str) (y1 : Str) : Option ((List Int) × Bool) :=
  ((e_strings_Split n_) y0 [32]).bind fun r1 =>
  ((e_strings_Split n_) y1 [32]).bind fun r2 =>
  if (len r1) != (len r2) then
    some (([] : List Int), false)
  else
    (lp n_) ((e_referee_numbers_L1 n_) r2 r1) (([] : List Int), 0)
theorem le_referee_numbers (n_ : Nat) (y0 : Str) (y1 : Str) : Le (e_referee_numbers n_ y0 y1) (m_referee_numbers y0 y1) := by
  unfold e_referee_numbers m_referee_numbers
  repeat with_reducible (first | intro _ | apply le_referee_numbers_L1 | apply le_strings_Split | exact Le.refl _ | apply Le.ite | apply Le.seqE | apply Le.bind | apply Le.lp | exact Le.none _)
def e_internal_stringslite_Cut (n_ : Nat) (y0 : Str) (y1 : Str) : Option (Str × Str × Bool) :=
  ((e_internal_stringslite_Index n_) y0 y1).bind fun r1 =>
  if decide (0 ≤ r1) then
    (sub y0 0 r1).bind fun x1 =>
    (sub y0 (w64 (r1 + (len y1))) (len y0)).bind fun x2 =>
    some (x1, x2, true)
  else
    some (y0, [], false)
theorem le_internal_stringslite_Cut (n_ : Nat) (y0 : Str) (y1 : Str) : Le (e_internal_stringslite_Cut n_ y0 y1) (m_internal_stringslite_Cut y0 y1) := by
  unfold e_internal_stringslite_Cut m_internal_stringslite_Cut
  repeat with_reducible (first | intro _ | apply le_internal_stringslite_Index | exact Le.refl _ | apply Le.ite | apply Le.seqE | apply Le.bind | apply Le.lp | exact Le.none _)
def e_strings_Cut (n_ : Nat) (y0 : Str) (y1 : Str) : Option (Str × Str × Bool) :=
  ((e_internal_stringslite_Cut n_) y0 y1).bind fun r1 =>
  some (r1.1, r1.2.1, r1.2.2)
theorem le_strings_Cut (n_ : Nat) (y0 : Str) (y1 : Str) : Le (e_strings_Cut n_ y0 y1) (m_strings_Cut y0 y1) := by
  unfold e_strings_Cut m_strings_Cut
  repeat with_reducible (first | intro _ | apply le_internal_stringslite_Cut | exact Le.refl _ | apply Le.ite | apply Le.seqE | apply Le.bind | apply Le.lp | exact Le.none _)
def e_referee_move (n_ : Nat) (y0 : Str) : Option (T_Move × Bool) :=
  ((e_strings_Cut n_) y0 [32]).bind fun r1 =>
  seqE (
    (idx tab_referee_players 1).bind fun x1 =>
    if r1.1 == x1 then
      some (.inl 1)
    else
      (idx tab_referee_players 2).bind fun x2 =>
      if r1.1 == x2 then
        some (.inl 2)
      else
        some (.inr ((1, 0, 0, 0), false)) : Option (Int ⊕ (T_Move × Bool))) fun s1 =>
  ((e_referee_numbers n_) r1.2.1 [99, 108, 97, 105, 109, 115, 32, 35]).bind fun r2 =>
  if r2.2 then
    (idx r2.1 0).bind fun x3 =>
    some ((s1, 1, x3, 0), true)
  else
    ((e_referee_numbers n_) r1.2.1 [109, 111, 118, 101, 115, 32, 35, 32, 97, 103, 97, 105, 110, 115, 116, 32, 35]).bind fun r3 =>
    if r3.2 then
      (idx r3.1 0).bind fun x4 =>
      (idx r3.1 1).bind fun x5 =>
      some ((s1, 2, x4, x5), true)
    else
      ((e_referee_numbers n_) r1.2.1 [114, 101, 116, 114, 97, 99, 116, 115, 32, 35]).bind fun r4 =>
      if r4.2 then
        (idx r4.1 0).bind fun x6 =>
        some ((s1, 3, 0, x6), true)
      else
        some ((s1, 4, 0, 0), r1.2.1 == [99, 111, 110, 99, 101, 100, 101, 115])
theorem le_referee_move (n_ : Nat) (y0 : Str) : Le (e_referee_move n_ y0) (m_referee_move y0) := by
  unfold e_referee_move m_referee_move
  repeat with_reducible (first | intro _ | apply le_referee_numbers | apply le_strings_Cut | exact Le.refl _ | apply Le.ite | apply Le.seqE | apply Le.bind | apply Le.lp | exact Le.none _)
def e_referee_reader_read (n_ : Nat) (y0 : T_referee_reader) (y1 : Str) : Option (Bool × Int × (List T_Pair) × Int × Int × Int × (List T_Move) × Int) :=
  if y0.2 == 0 then
    ((e_referee_numbers n_) y1 [110, 111, 100, 101, 115, 32, 35]).bind fun r1 =>
    if r1.2 then
      (idx r1.1 0).bind fun x1 =>
      some (r1.2, x1, y0.1.1.2, y0.1.2.1, y0.1.2.2.1.1, y0.1.2.2.1.2, y0.1.2.2.2, 1)
    else
      some (r1.2, y0.1.1.1, y0.1.1.2, y0.1.2.1, y0.1.2.2.1.1, y0.1.2.2.1.2, y0.1.2.2.2, y0.2)
  else
    if y0.2 == 1 then
      ((e_referee_numbers n_) y1 [97, 116, 116, 97, 99, 107, 32, 35, 32, 35]).bind fun r2 =>
      if r2.2 then
        (idx r2.1 0).bind fun x2 =>
        (idx r2.1 1).bind fun x3 =>
        (app y0.1.1.2 ([(x2, x3)] : List T_Pair)).bind fun x4 =>
        some (true, y0.1.1.1, x4, y0.1.2.1, y0.1.2.2.1.1, y0.1.2.2.1.2, y0.1.2.2.2, y0.2)
      else
        ((e_referee_numbers n_) y1 [114, 111, 111, 116, 32, 35]).bind fun r3 =>
        if r3.2 then
          (idx r3.1 0).bind fun x5 =>
          some (r3.2, y0.1.1.1, y0.1.1.2, x5, y0.1.2.2.1.1, y0.1.2.2.1.2, y0.1.2.2.2, 2)
        else
          some (r3.2, y0.1.1.1, y0.1.1.2, y0.1.2.1, y0.1.2.2.1.1, y0.1.2.2.1.2, y0.1.2.2.2, y0.2)
    else
      if y0.2 == 2 then
        ((e_referee_numbers n_) y1 [108, 105, 109, 105, 116, 115, 32, 35, 32, 35]).bind fun r4 =>
        if r4.2 then
          (idx r4.1 0).bind fun x6 =>
          (idx r4.1 1).bind fun x7 =>
          some (r4.2, y0.1.1.1, y0.1.1.2, y0.1.2.1, x6, x7, y0.1.2.2.2, 3)
        else
          some (r4.2, y0.1.1.1, y0.1.1.2, y0.1.2.1, y0.1.2.2.1.1, y0.1.2.2.1.2, y0.1.2.2.2, y0.2)
      else
        ((e_referee_move n_) y1).bind fun r5 =>
        (app y0.1.2.2.2 ([r5.1] : List T_Move)).bind fun x8 =>
        some (r5.2, y0.1.1.1, y0.1.1.2, y0.1.2.1, y0.1.2.2.1.1, y0.1.2.2.1.2, x8, y0.2)
theorem le_referee_reader_read (n_ : Nat) (y0 : T_referee_reader) (y1 : Str) : Le (e_referee_reader_read n_ y0 y1) (m_referee_reader_read y0 y1) := by
  unfold e_referee_reader_read m_referee_reader_read
  repeat with_reducible (first | intro _ | apply le_referee_move | apply le_referee_numbers | exact Le.refl _ | apply Le.ite | apply Le.seqE | apply Le.bind | apply Le.lp | exact Le.none _)
def e_referee_Parse_L1 (n_ : Nat) (s2 : Str × Int × Int × (List T_Pair) × Int × Int × Int × (List T_Move) × Int) : Option ((Str × Int × Int × (List T_Pair) × Int × Int × Int × (List T_Move) × Int) ⊕ ((Int × Int × (List T_Pair) × Int × Int × Int × (List T_Move) × Int) ⊕ (T_Transcript × Int × Int))) :=
  if decide (0 < (len s2.1)) then
    ((e_strings_Cut n_) s2.1 [10]).bind fun r1 =>
    (
      if !r1.2.2 then
        some (true, s2.2.2.1, s2.2.2.2.1, s2.2.2.2.2.1, s2.2.2.2.2.2.1, s2.2.2.2.2.2.2.1, s2.2.2.2.2.2.2.2.1, s2.2.2.2.2.2.2.2.2)
      else
        ((e_referee_reader_read n_) (((s2.2.2.1, s2.2.2.2.1), s2.2.2.2.2.1, (s2.2.2.2.2.2.1, s2.2.2.2.2.2.2.1), s2.2.2.2.2.2.2.2.1), s2.2.2.2.2.2.2.2.2) r1.1).bind fun r2 =>
        some (!r2.1, r2.2.1, r2.2.2.1, r2.2.2.2.1, r2.2.2.2.2.1, r2.2.2.2.2.2.1, r2.2.2.2.2.2.2.1, r2.2.2.2.2.2.2.2) : Option (Bool × Int × (List T_Pair) × Int × Int × Int × (List T_Move) × Int)).bind fun s3 =>
    if s3.1 then
      some (.inr (.inr (((0, ([] : List T_Pair)), 0, (0, 0), ([] : List T_Move)), w64 (s2.2.1 + 1), 3)))
    else
      some (.inl (r1.2.1, w64 (s2.2.1 + 1), s3.2.1, s3.2.2.1, s3.2.2.2.1, s3.2.2.2.2.1, s3.2.2.2.2.2.1, s3.2.2.2.2.2.2.1, s3.2.2.2.2.2.2.2))
  else
    some (.inr (.inl (s2.2.1, s2.2.2.1, s2.2.2.2.1, s2.2.2.2.2.1, s2.2.2.2.2.2.1, s2.2.2.2.2.2.2.1, s2.2.2.2.2.2.2.2.1, s2.2.2.2.2.2.2.2.2)))
theorem le_referee_Parse_L1 (n_ : Nat) (s2 : Str × Int × Int × (List T_Pair) × Int × Int × Int × (List T_Move) × Int) : Le (e_referee_Parse_L1 n_ s2) (m_referee_Parse_L1 s2) := by
  unfold e_referee_Parse_L1 m_referee_Parse_L1
  repeat with_reducible (first | intro _ | apply le_referee_reader_read | apply le_strings_Cut | exact Le.refl _ | apply Le.ite | apply Le.seqE | apply Le.bind | apply Le.lp | exact Le.none _)
def e_referee_Parse (n_ : Nat) (y0 : Str) : Option (T_Transcript × Int × Int) :=
  if decide (4096 < (len y0)) then
    some (((0, ([] : List T_Pair)), 0, (0, 0), ([] : List T_Move)), 0, 2)
  else
    seqE ((lp n_) ((e_referee_Parse_L1 n_)) (y0, 0, 0, ([] : List T_Pair), 0, 0, 0, ([] : List T_Move), 0) : Option ((Int × Int × (List T_Pair) × Int × Int × Int × (List T_Move) × Int) ⊕ (T_Transcript × Int × Int))) fun s1 =>
    if s1.2.2.2.2.2.2.2 != 3 then
      some (((0, ([] : List T_Pair)), 0, (0, 0), ([] : List T_Move)), w64 (s1.1 + 1), 3)
    else
      ((e_referee_check n_) ((s1.2.1, s1.2.2.1), s1.2.2.2.1, (s1.2.2.2.2.1, s1.2.2.2.2.2.1), s1.2.2.2.2.2.2.1)).bind fun r3 =>
      if r3 != 0 then
        some (((0, ([] : List T_Pair)), 0, (0, 0), ([] : List T_Move)), 0, r3)
      else
        some (((s1.2.1, s1.2.2.1), s1.2.2.2.1, (s1.2.2.2.2.1, s1.2.2.2.2.2.1), s1.2.2.2.2.2.2.1), 0, 0)
theorem le_referee_Parse (n_ : Nat) (y0 : Str) : Le (e_referee_Parse n_ y0) (m_referee_Parse y0) := by
  unfold e_referee_Parse m_referee_Parse
  repeat with_reducible (first | intro _ | apply le_referee_check | apply le_referee_Parse_L1 | exact Le.refl _ | apply Le.ite | apply Le.seqE | apply Le.bind | apply Le.lp | exact Le.none _)
def e_law30_awake (n_ : Nat) : Option Bool :=
  ((e_referee_Format n_) ((3, ([(0, 1), (1, 2)] : List T_Pair)), 2, (9, 9), ([(1, 1, 2, 0), (2, 2, 1, 0)] : List T_Move))).bind fun r1 =>
  ((e_referee_Parse n_) r1.1).bind fun r2 =>
  (
    if r1.2 == 0 then
      if r2.2.2 == 0 then
        if r2.2.1 == 0 then
          if r1.1 == [110, 111, 100, 101, 115, 32, 51, 10, 97, 116, 116, 97, 99, 107, 32, 48, 32, 49, 10, 97, 116, 116, 97, 99, 107, 32, 49, 32, 50, 10, 114, 111, 111, 116, 32, 50, 10, 108, 105, 109, 105, 116, 115, 32, 57, 32, 57, 10, 80, 32, 99, 108, 97, 105, 109, 115, 32, 50, 10, 79, 32, 109, 111, 118, 101, 115, 32, 49, 32, 97, 103, 97, 105, 110, 115, 116, 32, 48, 10] then
            ((e_ref30_Same n_) ((3, ([(0, 1), (1, 2)] : List T_Pair)), 2, (9, 9), ([(1, 1, 2, 0), (2, 2, 1, 0)] : List T_Move)) r2.1).bind fun r3 =>
            some r3
          else
            some false
        else
          some false
      else
        some false
    else
      some false : Option Bool).bind fun s1 =>
  some s1
theorem le_law30_awake (n_ : Nat) : Le (e_law30_awake n_ ) (m_law30_awake ) := by
  unfold e_law30_awake m_law30_awake
  repeat with_reducible (first | intro _ | apply le_ref30_Same | apply le_referee_Parse | apply le_referee_Format | exact Le.refl _ | apply Le.ite | apply Le.seqE | apply Le.bind | apply Le.lp | exact Le.none _)
end
section
theorem ref_awake : m_law30_awake = some true := (le_law30_awake 100).el true (by kernel_rfl)
theorem p_law30_RefereeTexts (y0 : T_Transcript) (y1 : List Int) (y2 y3 y4 : Int) (y5 y6 : Str) {W0 W1 W2 W3 W4 W5 W6 : Prop} (_w0 : W0) (_w1 : W1) (_w2 : W2) (_w3 : W3) (_w4 : W4) (_w5 : W5) (_w6 : W6) : m_law30_RefereeTexts y0 y1 y2 y3 y4 y5 y6 = some true := p_RefereeTexts ref_awake y0 y1 y2 y3 y4 y5 y6
theorem p_law30_RefereeBack (y0 : List Int) {W0 : Prop} (_w0 : W0) : m_law30_RefereeBack y0 = some true := p_RefereeBack ref_awake y0
theorem p_law30_RefereeStops (y0 : List Int) (y1 : Int) {W0 W1 : Prop} (_w0 : W0) (_w1 : W1) : m_law30_RefereeStops y0 y1 = some true := p_RefereeStops ref_awake y0 y1
theorem p_law30_RefereeReplays (y0 : T_Transcript) (y1 : List Int) (y2 : Int) {W0 W1 W2 : Prop} (_w0 : W0) (_w1 : W1) (_w2 : W2) : m_law30_RefereeReplays y0 y1 y2 = some true := p_RefereeReplays ref_awake y0 y1 y2
end

end Go.GD
