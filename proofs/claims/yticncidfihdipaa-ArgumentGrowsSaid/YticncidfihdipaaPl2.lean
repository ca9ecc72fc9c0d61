/- The plain law: what the models compute, in plain Lean. Conditions: none. -/
import Derived.Test.YticncidfihdipaaPl1
namespace Go.GD
set_option autoImplicit false

section
variable {b : T_Base} {l x : List T_Argument}
theorem norulesA (h : FormC b x) (hr : b.2.1 = []) : x.length ≤ b.1.length := by
  by_cases hx : x.length = 0
  · omega
  · have hg : x[x.length - 1]? = some x[x.length - 1] := List.getElem?_eq_getElem (by omega)
    rcases h.kind _ _ hg with ⟨_, h2, _⟩ | ⟨_, h2, h3⟩
    · omega
    · rw [hr] at h3
      simp at h3
      omega
theorem All_L3 (x : List T_Argument) (hx : x.length ≤ 100) (e : Int) (y : T_Literal) : ∃ s, loop (m_law07_ArgumentAll_L3 (x, e) y) (([] : List Int), 0) = some s ∧ s.length ≤ x.length ∧ ∀ k ∈ s, ∃ a, idx x k = some a ∧ a.2.2.2 = y :=
  loop_forI (B := m_law07_ArgumentAll_L3 (x, e) y) (fun i s => (s, (i : Int))) x (fun i s => s.length ≤ i ∧ ∀ k ∈ s, ∃ a, idx x k = some a ∧ a.2.2.2 = y) (fun s => s.length ≤ x.length ∧ ∀ k ∈ s, ∃ a, idx x k = some a ∧ a.2.2.2 = y) (fun i a s hi hI => .inl (by
    have hlt := at_lt hi
    unfold m_law07_ArgumentAll_L3
    simp only [at_dec hi, if_true, at_idx hi, Option.bind_some, at_suc hi (show x.length < 4294967296 by omega)]
    cases hc : a.2.2.2 == y with
    | true =>
      simp only [if_true]
      rw [app_ok (by simp; omega)]
      refine ⟨_, rfl, by simp; omega, fun k hk => ?_⟩
      rcases List.mem_append.1 hk with hk | hk
      · exact hI.2 k hk
      · simp only [List.mem_singleton] at hk
        subst hk
        exact ⟨a, at_idx hi, by simpa using hc⟩
    | false =>
      simp only [Bool.false_eq_true, if_false]
      exact ⟨s, rfl, by omega, hI.2⟩)) (fun s hI => ⟨s, by
    unfold m_law07_ArgumentAll_L3
    simp only [end_dec, Bool.false_eq_true, if_false], hI⟩) [] ⟨by simp, by simp⟩
theorem All_L2 (x : List T_Argument) (hx : x.length ≤ 100) (e : Int) (ru : T_Rule) (hb : ru.2.2.2.1.length ≤ 100) (y2 : List Int) (y1 : Int) : ∃ s, loop (m_law07_ArgumentAll_L2 ru (x, e) y2 y1) (([] : List Int), 0) = some s ∧ s.length ≤ ru.2.2.2.1.length ∧ ∀ (j : Nat) k y, s[j]? = some k → ru.2.2.2.1[j]? = some y → ∃ a, idx x k = some a ∧ a.2.2.2 = y :=
  loop_forI (B := m_law07_ArgumentAll_L2 ru (x, e) y2 y1) (fun i s => (s, (i : Int))) ru.2.2.2.1 (fun i s => s.length = i ∧ ∀ (j : Nat) k y, s[j]? = some k → ru.2.2.2.1[j]? = some y → ∃ a, idx x k = some a ∧ a.2.2.2 = y) (fun s => s.length ≤ ru.2.2.2.1.length ∧ ∀ (j : Nat) k y, s[j]? = some k → ru.2.2.2.1[j]? = some y → ∃ a, idx x k = some a ∧ a.2.2.2 = y) (fun i y s hi hI => by
    have hlt := at_lt hi
    obtain ⟨hI1, hI2⟩ := hI
    obtain ⟨z, h1, h2, h3⟩ := All_L3 x hx e y
    unfold m_law07_ArgumentAll_L2
    simp only [at_dec hi, if_true, at_idx hi, Option.bind_some, at_suc hi (show ru.2.2.2.1.length < 4294967296 by omega), h1]
    by_cases hz : z = []
    · subst hz
      exact .inr ⟨s, rfl, by omega, hI2⟩
    · have hzl := List.length_pos_iff.2 hz
      have hz0 : ((len z) == 0) = false := by simp only [len, beq_eq_false_iff_ne]; omega
      have hpick : ∃ v, (if decide ((i : Int) < len y2) = true then (idx y2 (i : Int)).bind fun x5 => some x5 else some y1) = some v := by
        by_cases hd : (i : Int) < (y2.length : Int)
        · obtain ⟨v, hv⟩ := idx_ok (l := y2) (j := (i : Int)) (by omega) hd
          have hdec : decide ((i : Int) < len y2) = true := by simpa [len] using hd
          exact ⟨v, by simp only [hdec, if_true, hv, Option.bind_some]⟩
        · have hdec : decide ((i : Int) < len y2) = false := by simpa [len] using hd
          exact ⟨y1, by simp only [hdec, Bool.false_eq_true, if_false]⟩
      obtain ⟨v, hv⟩ := hpick
      obtain ⟨u, hu, hu0, hu1⟩ := keep_Mod (x := v) (n := len z) (by simp [len]; omega) (by simp [len]; omega)
      obtain ⟨k, hk⟩ := idx_ok (l := z) hu0 hu1
      simp only [hz0, Bool.false_eq_true, if_false, hv, Option.bind_some, hu, hk]
      rw [app_ok (by simp; omega)]
      refine .inl ⟨_, rfl, by simp; omega, fun j k' y' hj hy => ?_⟩
      by_cases hji : j < s.length
      · rw [List.getElem?_append_left hji] at hj
        exact hI2 j k' y' hj hy
      · have hjl := at_lt hj
        simp at hjl
        have : j = i := by omega
        subst this
        rw [List.getElem?_append_right (by omega), hI1, Nat.sub_self] at hj
        simp at hj
        subst hj
        rw [hi] at hy
        cases hy
        obtain ⟨n, _, hn⟩ := idx_at hk
        exact h3 k (mem_at hn)) (fun s hI => ⟨s, by
    unfold m_law07_ArgumentAll_L2
    simp only [end_dec, Bool.false_eq_true, if_false], by omega, hI.2⟩) [] ⟨rfl, by simp⟩
theorem p_ArgumentAll (hw : m_law07_awake = some true) (y0 : List Int) (y1 : Int) (y2 : List Int) : m_law07_ArgumentAll y0 y1 y2 = some true := by
  unfold m_law07_ArgumentAll
  rw [keep_New]
  obtain ⟨b, k, e1, hk, hd⟩ := keep_Base (srcOk_New y0) (n := 3) (p := 4) (q := 7) (by omega) (by omega) (by omega) (by omega) (by omega) (by omega)
  have hnr := hd.nr
  simp only [Option.bind_some, e1]
  rcases arg_or hd.valid (by omega) with ⟨x, e2, h⟩ | ⟨e2, _⟩
  · have hlen := h.len
    have hnp := h.np
    simp only [e2, Option.bind_some, bne_self_eq_false, Bool.false_eq_true, if_false, law07_formed h, Bool.not_true]
    by_cases hr0 : b.2.1 = []
    · have := norulesA h.form.toFormC hr0
      have hz : ((len b.2.1) == 0) = true := by rw [hr0]; rfl
      have hl : ((len x) == (len b.1)) = true := by simp [len]; omega
      simp only [hz, if_true, hl, hw, Option.bind_some]
    · have hrl := List.length_pos_iff.2 hr0
      have hz : ((len b.2.1) == 0) = false := by simp only [len, beq_eq_false_iff_ne]; omega
      simp only [hz, Bool.false_eq_true, if_false]
      have hloop : loop (m_law07_ArgumentAll_L1 (b, k) (x, 0) y2 y1) 0 = some (.inl ()) :=
        loop_for (l := b.2.1) (fun i r hi => by
          have hbd := hd.bd r (mem_at hi)
          obtain ⟨s, h1, h2, h3⟩ := All_L2 x (by omega) 0 r (by omega) y2 y1
          unfold m_law07_ArgumentAll_L1
          simp only [at_dec hi, if_true, at_idx hi, Option.bind_some, h1, at_suc hi (show b.2.1.length < 4294967296 by omega)]
          by_cases hs : s.length < r.2.2.2.1.length
          · have hdec : decide (len s < len r.2.2.2.1) = true := by simpa [len] using hs
            simp only [hdec, if_true, Option.bind_some]
          · have hdec : decide (len s < len r.2.2.2.1) = false := by simp [len]; omega
            have hsub := choice_rng (l := x) (s := s) (bd := r.2.2.2.1) (by omega) h3
            simp only [hdec, Bool.false_eq_true, if_false]
            rw [ref_Within h.form.toFormC (h.form.runs (small_of hd.valid (by omega))) (at_idx hi) hsub (by omega)]
            simp only [Option.bind_some]
            cases hwi : withinS b x (i : Int) r s with
            | false => simp only [Bool.not_false, if_true]
            | true =>
              have hm := h.all (i : Int) r s (at_idx hi) (by omega) h3 hwi
              have hL4 : loop (m_law07_ArgumentAll_L4 (x, 0) (i : Int) s) (false, 0) = some true := by
                obtain ⟨v, g1, g2⟩ := loop_forI (B := m_law07_ArgumentAll_L4 (x, 0) (i : Int) s) (fun j t => (t, (j : Int))) x (fun j t => t = (x.take j).any fun a => a.2.1 == (i : Int) && decide (a.2.2.1 = s)) (fun v => v = x.any fun a => a.2.1 == (i : Int) && decide (a.2.2.1 = s)) (fun j a t hj hI => .inl (by
                  have hal := h.form.nsub a (mem_at hj)
                  unfold m_law07_ArgumentAll_L4
                  simp only [at_dec hj, if_true, at_idx hj, Option.bind_some, at_suc hj (show x.length < 4294967296 by omega), keep_Ints a.2.2.1 s (by omega)]
                  refine ⟨_, ?_, rfl⟩
                  rw [take_suc hj, List.any_append, ← hI]
                  simp only [List.any_cons, List.any_nil, Bool.or_false]
                  cases t with
                  | true => rfl
                  | false =>
                    cases hq : a.2.1 == (i : Int) with
                    | true => rfl
                    | false => rfl)) (fun t hI => ⟨t, by
                  unfold m_law07_ArgumentAll_L4
                  simp only [end_dec, Bool.false_eq_true, if_false], by rw [hI, List.take_length]⟩) false (by simp)
                have : (x.any fun a => a.2.1 == (i : Int) && decide (a.2.2.1 = s)) = true := List.any_eq_true.2 ⟨_, hm, by simp⟩
                rw [this] at g2
                subst g2
                exact g1
              simp only [Bool.not_true, Bool.false_eq_true, if_false, hL4, Option.bind_some]) (by
          unfold m_law07_ArgumentAll_L1
          simp only [end_dec, Bool.false_eq_true, if_false])
      rw [hloop]
      simp only [seqE, Option.bind_some, hw]
  · simp only [e2, Option.bind_some, hw]
    rfl
theorem keep_In_spec (m : List Int) (y : Int) (h : m.length < 4294967296) : m_keep_In m y = some (decide (y ∈ m)) := by
  unfold m_keep_In
  have := loop_any (B := m_keep_In_L1 m y) m (fun z => z == y) (fun i z hi => by
    unfold m_keep_In_L1
    simp only [at_dec hi, if_true, at_idx hi, Option.bind_some, at_suc hi h]
    split <;> rfl) (by
    unfold m_keep_In_L1
    simp only [end_dec, Bool.false_eq_true, if_false])
  rw [this]
  congr 1
  rw [Bool.eq_iff_iff, List.any_eq_true]
  simp
theorem self_subA (h : FormA x) {c : Int} (h0 : 0 ≤ c) (h1 : c < x.length) : c ∈ subsS x c := (subsS_mem h h0 h1 c).2 (.self c)
theorem defs_sub (h : FormB b x) {i k : Int} {a : T_Argument} (ha : idx x i = some a) (hk : k ∈ a.2.2.1) {y : Int} (hy : y ∈ defsS b x k) : y ∈ defsS b x i := by
  have hi := idx_lt ha
  have hkr := (h.toFormA.at ha).2.2.2 k hk
  obtain ⟨j, hj, a', e1, e2, e3, e4⟩ := (defsS_mem h hkr.1 (by omega) y).1 hy
  refine (defsS_mem h hi.1 hi.2 y).2 ⟨j, ?_, a', e1, e2, e3, e4⟩
  rw [subsS_mem h.toFormA hi.1 hi.2]
  exact .step ha hk ((subsS_mem h.toFormA hkr.1 (by omega) j).1 hj)
theorem defs_self (h : FormB b x) {i : Int} {a : T_Argument} {r : T_Rule} (ha : idx x i = some a) (h0 : 0 ≤ a.2.1) (hr : idx b.2.1 a.2.1 = some r) (hs : r.2.1 = false) : a.2.1 ∈ defsS b x i := by
  have hi := idx_lt ha
  exact (defsS_mem h hi.1 hi.2 _).2 ⟨i, self_subA h.toFormA hi.1 hi.2, a, ha, h0, by simp [isDef, hr, hs], rfl⟩
theorem cut_sub (h : FormD b x) {i : Int} {a : T_Argument} {r : T_Rule} (ha : idx x i = some a) (h0 : 0 ≤ a.2.1) (hr : idx b.2.1 a.2.1 = some r) {k : Int} (hk : k ∈ a.2.2.1) : (r.2.1 = true → ¬ RunOf b x k r.2.2.2.2) ∧ (r.2.1 = false → ¬ a.2.1 ∈ defsS b x k) := by
  have hc := h.cutI ha h0 hr
  unfold withinS at hc
  have hc2 : (a.2.2.1.any (cutB b x a.2.1 r)) = false := by simpa using hc
  have h1 := List.any_eq_false.1 hc2 k hk
  unfold cutB at h1
  constructor
  · intro hs
    simpa [hs] using h1
  · intro hs
    simpa [hs] using h1
theorem Branches_L2 (h : Whole b x) (e k0 : Int) (y1 : List Int) (s3 : Int) (h0 : 0 ≤ s3) {a0 : T_Argument} (ha0 : idx x s3 = some a0) : loop (m_law07_ArgumentBranches_L2 (x, e) (b, k0) s3 y1) (([] : List Int), [a0.2.2.2], s3, 0) = some (.inl (w64 (s3 + 1))) := by
  have hlen := h.len
  have hs3 := idx_lt ha0
  obtain ⟨res, h1, h2⟩ := loop_spec (B := m_law07_ArgumentBranches_L2 (x, e) (b, k0) s3 y1)
    (fun t => 0 ≤ t.2.2.1 ∧ t.2.2.1 < x.length ∧ 0 ≤ t.2.2.2 ∧ t.2.2.1 + t.2.2.2 ≤ 40 ∧ (t.1.length : Int) ≤ t.2.2.2 ∧ (t.2.1.length : Int) ≤ t.2.2.2 + 1 ∧ (∀ u ∈ t.1, ¬ u ∈ defsS b x t.2.2.1) ∧ ∀ y ∈ t.2.1, (∃ a, idx x t.2.2.1 = some a ∧ y = a.2.2.2) ∨ ¬ RunOf b x t.2.2.1 y)
    (fun t => t.2.2.1.toNat) (fun r => r = .inl (w64 (s3 + 1))) (fun t ht => by
      obtain ⟨used, heads, cur, n⟩ := t
      obtain ⟨t1, t2, t3, t4, t5, t6, t7, t8⟩ := ht
      dsimp only at t1 t2 t3 t4 t5 t6 t7 t8
      obtain ⟨a, ha⟩ := idx_ok (l := x) t1 t2
      obtain ⟨p1, p2, p3⟩ := h.form.toFormC.toFormB.prem ha
      unfold m_law07_ArgumentBranches_L2
      simp only [ha, Option.bind_some]
      by_cases hq : 0 ≤ a.2.1
      · obtain ⟨r, hr⟩ := p2 (p3.1 hq)
        have hblk : ∃ used' heads', (if (!r.2.1) = true then (m_keep_In used a.2.1).bind fun r6 => if r6 = true then some (.inr (.inr (.inr (.inr false)))) else (app used [a.2.1]).bind fun x5 => some (.inl (x5, ([] : List T_Literal))) else some (.inl (used, heads)) : Option (((List Int) × (List T_Literal)) ⊕ (((List Int) × (List T_Literal) × Int × Int) ⊕ (Int ⊕ (Unit ⊕ Bool))))) = some (.inl (used', heads')) ∧
            (used'.length : Int) ≤ n + 1 ∧ (heads'.length : Int) ≤ n + 1 ∧ (∀ u ∈ used', ∀ k ∈ a.2.2.1, ¬ u ∈ defsS b x k) ∧ ∀ y ∈ heads', ∀ k ∈ a.2.2.1, ¬ RunOf b x k y := by
          cases hst : r.2.1 with
          | true =>
            refine ⟨used, heads, rfl, by omega, t6, fun u hu k hk hd => t7 u hu (defs_sub h.form.toFormC.toFormB ha hk hd), fun y hy k hk hrun => ?_⟩
            rcases t8 y hy with ⟨a', e1, e2⟩ | hno
            · rw [ha] at e1
              cases e1
              obtain ⟨g1, _⟩ := h.form.toFormC.ruI ha hq hr
              rw [e2, g1] at hrun
              exact (cut_sub h.form ha hq hr hk).1 hst hrun
            · exact hno (RunOf.step ha hq hr hst hk hrun)
          | false =>
            have hd := defs_self h.form.toFormC.toFormB ha hq hr hst
            have hnot : ¬ a.2.1 ∈ used := fun hu => t7 _ hu hd
            rw [keep_In_spec used a.2.1 (by omega), app_ok (by simp; omega)]
            refine ⟨used ++ [a.2.1], [], by simp [hnot], by simp; omega, by simp; omega, fun u hu k hk hdk => ?_, by simp⟩
            rcases List.mem_append.1 hu with hu | hu
            · exact t7 u hu (defs_sub h.form.toFormC.toFormB ha hk hdk)
            · simp only [List.mem_singleton] at hu
              subst hu
              exact (cut_sub h.form ha hq hr hk).2 hst hdk
        obtain ⟨used', heads', g1, g2, g3, g4, g5⟩ := hblk
        simp only [hq, decide_true, if_true, hr, Option.bind_some, g1, seqE]
        by_cases hz : a.2.2.1 = []
        · have hz0 : ((len a.2.2.1) == 0) = true := by rw [hz]; rfl
          simp only [hz0, if_true]
          exact .inr ⟨_, rfl, rfl⟩
        · have hzl := List.length_pos_iff.2 hz
          have hz0 : ((len a.2.2.1) == 0) = false := by simp only [len, beq_eq_false_iff_ne]; omega
          have hsl := (h.form.toFormA.at ha).1
          have hpick : ∃ v, (if decide (n < len y1) = true then (idx y1 n).bind fun x7 => (m_keep_Mod x7 (len a.2.2.1)).bind fun r7 => some r7 else some 0) = some v ∧ 0 ≤ v ∧ v < a.2.2.1.length := by
            by_cases hd : n < (y1.length : Int)
            · obtain ⟨v, hv⟩ := idx_ok (l := y1) t3 hd
              obtain ⟨u, hu, hu0, hu1⟩ := keep_Mod (x := v) (n := len a.2.2.1) (by simp [len]; omega) (by simp [len]; omega)
              have hdec : decide (n < len y1) = true := by simpa [len] using hd
              exact ⟨u, by simp only [hdec, if_true, hv, Option.bind_some, hu], hu0, hu1⟩
            · have hdec : decide (n < len y1) = false := by simpa [len] using hd
              exact ⟨0, by simp only [hdec, Bool.false_eq_true, if_false], by omega, by omega⟩
          obtain ⟨v, hv, hv0, hv1⟩ := hpick
          obtain ⟨k, hk⟩ := idx_ok (l := a.2.2.1) hv0 hv1
          have hkm : k ∈ a.2.2.1 := by
            obtain ⟨j, _, hj⟩ := idx_at hk
            exact mem_at hj
          have hkr := (h.form.toFormA.at ha).2.2.2 k hkm
          obtain ⟨a', ha'⟩ := idx_ok (l := x) (j := k) hkr.1 (by omega)
          have hno : ¬ a'.2.2.2 ∈ heads' := fun hm => g5 _ hm k hkm (RunOf.here ha')
          simp only [hz0, Bool.false_eq_true, if_false, hv, Option.bind_some, hk, ha', ref_has (l := heads') a'.2.2.2 (by omega), hno, decide_false]
          rw [app_ok (by simp; omega), w64_id (x := n + 1) (by omega) (by omega)]
          refine .inl ⟨_, rfl, ⟨hkr.1, by show k < (x.length : Int); omega, by show 0 ≤ n + 1; omega, by show k + (n + 1) ≤ 40; omega, g2, by show ((heads' ++ [a'.2.2.2]).length : Int) ≤ n + 1 + 1; simp; omega, fun u hu => g4 u hu k hkm, fun y hy => ?_⟩, by show k.toNat < cur.toNat; omega⟩
          rcases List.mem_append.1 hy with hy | hy
          · exact .inr (g5 y hy k hkm)
          · simp only [List.mem_singleton] at hy
            exact .inl ⟨a', ha', hy⟩
      · simp only [hq, decide_false, Bool.false_eq_true, if_false]
        exact .inr ⟨_, rfl, rfl⟩) (([] : List Int), [a0.2.2.2], s3, 0) ⟨h0, by show s3 < (x.length : Int); omega, by show (0 : Int) ≤ 0; omega, by show s3 + 0 ≤ 40; omega, by simp, by simp, by simp, fun y hy => .inl ⟨a0, ha0, by simpa using hy⟩⟩
  rw [h1, h2]
theorem p_ArgumentBranches (hw : m_law07_awake = some true) (y0 : List Int) (y1 : List Int) : m_law07_ArgumentBranches y0 y1 = some true := by
  unfold m_law07_ArgumentBranches
  rw [keep_New]
  obtain ⟨b, k, e1, hk, hd⟩ := keep_Base (srcOk_New y0) (n := 3) (p := 4) (q := 8) (by omega) (by omega) (by omega) (by omega) (by omega) (by omega)
  have hnr := hd.nr
  simp only [Option.bind_some, e1]
  rcases arg_or hd.valid (by omega) with ⟨x, e2, h⟩ | ⟨e2, _⟩
  · have hlen := h.len
    simp only [e2, Option.bind_some, bne_self_eq_false, Bool.false_eq_true, if_false, law07_formed h, Bool.not_true]
    have hloop : loop (m_law07_ArgumentBranches_L1 (x, 0) (b, k) y1) 0 = some (.inl ()) :=
      loop_for (l := x) (fun i a hi => by
        have hil := at_lt hi
        unfold m_law07_ArgumentBranches_L1
        simp only [at_dec hi, if_true, at_idx hi, Option.bind_some]
        rw [Branches_L2 h 0 k y1 (i : Int) (by omega) (at_idx hi), w64_succ i (by omega)]) (by
        unfold m_law07_ArgumentBranches_L1
        simp only [end_dec, Bool.false_eq_true, if_false])
    rw [hloop]
    simp only [seqE, Option.bind_some, hw]
  · simp only [e2, Option.bind_some, hw]
    rfl
end
section
variable {b : T_Base} {l x : List T_Argument}
/-- derivable in n rounds -/
def DerN (b : T_Base) : Nat → T_Literal → Prop
  | 0, y => ∃ p ∈ b.1, p.1 = y
  | n + 1, y => DerN b n y ∨ ∃ r ∈ b.2.1, r.2.2.2.2 = y ∧ ∀ z ∈ r.2.2.2.1, DerN b n z
theorem DerN.mono {n m : Nat} {y : T_Literal} (h : DerN b n y) (hm : n ≤ m) : DerN b m y := by
  induction hm with
  | refl => exact h
  | step _ ih => exact .inl ih
/-- all of a list can be derived in one number of rounds -/
theorem DerN.all {ys : List T_Literal} (h : ∀ z ∈ ys, ∃ n, DerN b n z) : ∃ n, ∀ z ∈ ys, DerN b n z := by
  induction ys with
  | nil => exact ⟨0, by simp⟩
  | cons y ys ih =>
    obtain ⟨n, hn⟩ := ih fun z hz => h z (List.mem_cons_of_mem _ hz)
    obtain ⟨m, hm⟩ := h y List.mem_cons_self
    refine ⟨max n m, fun z hz => ?_⟩
    rcases List.mem_cons.1 hz with rfl | hz
    · exact hm.mono (Nat.le_max_right _ _)
    · exact (hn z hz).mono (Nat.le_max_left _ _)
theorem run_sub {i : Int} {y : T_Literal} (h : RunOf b x i y) : ∃ j a, SubOf x i j ∧ idx x j = some a ∧ a.2.2.2 = y := by
  induction h with
  | here ha => exact ⟨_, _, .self _, ha, rfl⟩
  | step ha _ _ _ hk _ ih =>
    obtain ⟨j, a', h1, h2, h3⟩ := ih
    exact ⟨j, a', .step ha hk h1, h2, h3⟩
/-- choices for each element of a list -/
theorem pick_all {P : T_Literal → Int → Prop} : ∀ {ys : List T_Literal}, (∀ y ∈ ys, ∃ k, P y k) → ∃ s : List Int, s.length = ys.length ∧ ∀ (j : Nat) k y, s[j]? = some k → ys[j]? = some y → P y k
  | [], _ => ⟨[], rfl, by simp⟩
  | y :: ys, h => by
    obtain ⟨k, hk⟩ := h y List.mem_cons_self
    obtain ⟨s, hs, hp⟩ := pick_all fun z hz => h z (List.mem_cons_of_mem _ hz)
    refine ⟨k :: s, by simp [hs], fun j k' y' hj hy => ?_⟩
    cases j with
    | zero =>
      simp at hj hy
      subst hj
      subst hy
      exact hk
    | succ j =>
      simp at hj hy
      exact hp j k' y' hj hy
/-- what can be derived has an argument -/
theorem ex_arg (h : Whole b x) : ∀ (n : Nat) (y : T_Literal), DerN b n y → ∃ i a, idx x i = some a ∧ a.2.2.2 = y ∧ ∀ j a', SubOf x i j → idx x j = some a' → DerN b n a'.2.2.2 := by
  intro n
  induction n with
  | zero =>
    rintro y ⟨p, hp, rfl⟩
    obtain ⟨i, hi⟩ := List.mem_iff_getElem?.1 hp
    have hil := at_lt hi
    have hnp := h.np
    have hx : x[i]? = some x[i] := List.getElem?_eq_getElem (by omega)
    obtain ⟨p', hp', e⟩ := h.prem hx hil
    rw [hi] at hp'
    cases hp'
    refine ⟨(i : Int), _, at_idx hx, by rw [e], fun j a' hj ha' => ?_⟩
    rw [SubOf.iff (at_idx hx), e] at hj
    rcases hj with rfl | ⟨k, hk, _⟩
    · rw [at_idx hx] at ha'
      cases ha'
      rw [e]
      exact ⟨p, hp, rfl⟩
    · cases hk
  | succ n ih =>
    intro y hy
    by_cases hn : DerN b n y
    · obtain ⟨i, a, h1, h2, h3⟩ := ih y hn
      exact ⟨i, a, h1, h2, fun j a' hj ha' => .inl (h3 j a' hj ha')⟩
    · rcases hy with hy | ⟨r, hr, rfl, hb⟩
      · exact absurd hy hn
      · obtain ⟨s, hs1, hs2⟩ := pick_all (P := fun y k => ∃ a, idx x k = some a ∧ a.2.2.2 = y ∧ ∀ j a', SubOf x k j → idx x j = some a' → DerN b n a'.2.2.2) (ys := r.2.2.2.1) fun z hz => ih z (hb z hz)
        have hs3 : ∀ (j : Nat) k y, s[j]? = some k → r.2.2.2.1[j]? = some y → ∃ a', idx x k = some a' ∧ a'.2.2.2 = y := fun j k y hj hy => by
          obtain ⟨a', e1, e2, _⟩ := hs2 j k y hj hy
          exact ⟨a', e1, e2⟩
        have hsr := choice_rng hs1 hs3
        have hsd : ∀ k ∈ s, ∀ j a', SubOf x k j → idx x j = some a' → DerN b n a'.2.2.2 := fun k hk => by
          obtain ⟨j, hj⟩ := List.mem_iff_getElem?.1 hk
          have hjl := at_lt hj
          obtain ⟨_, _, _, e3⟩ := hs2 j k _ hj (List.getElem?_eq_getElem (by omega))
          exact e3
        obtain ⟨q, hq⟩ := List.mem_iff_getElem?.1 hr
        have hwi : withinS b x (q : Int) r s = true := by
          unfold withinS
          rw [Bool.not_eq_true', List.any_eq_false]
          intro k hk
          unfold cutB
          cases hst : r.2.1 with
          | true =>
            simp only [if_true, decide_eq_true_eq]
            intro hrun
            obtain ⟨j, a, g1, g2, g3⟩ := run_sub hrun
            have := hsd k hk j a g1 g2
            rw [g3] at this
            exact hn this
          | false =>
            simp only [Bool.false_eq_true, if_false, decide_eq_true_eq]
            intro hdf
            have hkr := hsr k hk
            obtain ⟨j, hj, a, g1, g2, _, g3⟩ := (defsS_mem h.form.toFormC.toFormB hkr.1 hkr.2 _).1 hdf
            rw [subsS_mem h.form.toFormA hkr.1 hkr.2] at hj
            have := hsd k hk j a hj g1
            obtain ⟨f1, _⟩ := h.form.toFormC.ruI g1 g2 (by rw [← g3]; exact at_idx hq)
            rw [f1] at this
            exact hn this
        have hm := h.all (q : Int) r s (at_idx hq) hs1 hs3 hwi
        obtain ⟨i, hi⟩ := List.mem_iff_getElem?.1 hm
        refine ⟨(i : Int), _, at_idx hi, rfl, fun j a' hj ha' => ?_⟩
        rw [SubOf.iff (at_idx hi)] at hj
        rcases hj with rfl | ⟨k, hk, hj⟩
        · rw [at_idx hi] at ha'
          cases ha'
          exact .inr ⟨r, hr, rfl, hb⟩
        · exact .inl (hsd k hk j a' hj ha')
/-- an argument's conclusion can be derived -/
theorem arg_der (h : Whole b x) : ∀ (i : Nat) a, x[i]? = some a → ∃ n, DerN b n a.2.2.2 := by
  intro i
  induction i using Nat.strongRecOn with
  | _ i ih =>
    intro a hi
    by_cases hn : i < b.1.length
    · obtain ⟨p, hp, rfl⟩ := h.prem hi hn
      exact ⟨0, p, mem_at hp, rfl⟩
    · obtain ⟨g1, r, g2, g3, g4, g5, g6, g7⟩ := h.rule hi (by omega)
      obtain ⟨n, hn⟩ := DerN.all (b := b) (ys := r.2.2.2.1) fun z hz => by
        obtain ⟨j, hj⟩ := List.mem_iff_getElem?.1 hz
        have hjl := at_lt hj
        have hk : a.2.2.1[j]? = some a.2.2.1[j] := List.getElem?_eq_getElem (by omega)
        obtain ⟨a', e1, e2⟩ := g7 j _ z hk hj
        obtain ⟨m, hm1, hm2⟩ := idx_at e1
        have := h.form.sub i a hi _ (mem_at hk)
        obtain ⟨n, hn⟩ := ih m (by omega) a' hm2
        exact ⟨n, by rw [← e2]; exact hn⟩
      obtain ⟨q, _, hq⟩ := idx_at g2
      exact ⟨n + 1, .inr ⟨r, mem_at hq, g5.symm, hn⟩⟩
def cntH (b : T_Base) (l : List T_Literal) : Nat := (b.2.1.filter fun r => decide (r.2.2.2.2 ∉ l)).length
theorem cntH_lt {l l' : List T_Literal} {r : T_Rule} (hr : r ∈ b.2.1) (h1 : r.2.2.2.2 ∉ l) (h2 : ∀ y, y ∈ l' ↔ y = r.2.2.2.2 ∨ y ∈ l) : cntH b l' < cntH b l :=
  count_lt b.2.1 (fun r' hr' => by
    simp only [decide_eq_true_eq] at hr' ⊢
    exact fun hc => hr' ((h2 _).2 (.inr hc))) r hr (by simpa using h1) (by simp [h2])
theorem Conc_L4 (ru : T_Rule) (hb : ru.2.2.2.1.length ≤ 100) (l : List T_Literal) (hl : l.length ≤ 100000) (ch : Bool) (i : Int) (v : Bool) : loop (m_law07_ArgumentConclusions_L4 ru (l, ch, i)) (v, 0) = some (v && ru.2.2.2.1.all fun y => decide (y ∈ l)) := by
  obtain ⟨r, h1, h2⟩ := loop_forI (B := m_law07_ArgumentConclusions_L4 ru (l, ch, i)) (fun j t => (t, (j : Int))) ru.2.2.2.1 (fun j t => t = (v && (ru.2.2.2.1.take j).all fun y => decide (y ∈ l))) (fun r => r = (v && ru.2.2.2.1.all fun y => decide (y ∈ l))) (fun j y t hj hI => .inl (by
    unfold m_law07_ArgumentConclusions_L4
    simp only [at_dec hj, if_true, at_idx hj, Option.bind_some, at_suc hj (show ru.2.2.2.1.length < 4294967296 by omega), ref_has (l := l) y (by omega)]
    refine ⟨_, ?_, rfl⟩
    rw [take_suc hj, List.all_append, ← Bool.and_assoc, ← hI]
    simp only [List.all_cons, List.all_nil, Bool.and_true]
    cases t <;> rfl)) (fun t hI => ⟨t, by
    unfold m_law07_ArgumentConclusions_L4
    simp only [end_dec, Bool.false_eq_true, if_false], by rw [hI, List.take_length]⟩) v (by simp)
  rw [← h2]
  exact h1
/-- one pass over the rules -/
theorem Conc_L3 (hb : ∀ r ∈ b.2.1, r.2.2.2.1.length ≤ 100) (hr : b.2.1.length ≤ 100) (k : Int) (l0 : List T_Literal) (hl0 : l0.length + cntH b l0 ≤ 1000) (ha0 : Asc litLt l0) (hd0 : ∀ y ∈ l0, ∃ n, DerN b n y) :
    ∃ l ch, loop (m_law07_ArgumentConclusions_L3 (b, k)) (l0, false, 0) = some (.inl (l, ch)) ∧ l.length + cntH b l ≤ l0.length + cntH b l0 ∧ Asc litLt l ∧ (∀ y ∈ l, ∃ n, DerN b n y) ∧ (∀ y ∈ l0, y ∈ l) ∧
      (ch = true → cntH b l < cntH b l0) ∧ (ch = false → l = l0 ∧ ∀ r ∈ b.2.1, (∀ y ∈ r.2.2.2.1, y ∈ l0) → r.2.2.2.2 ∈ l0) := by
  obtain ⟨res, h1, l, ch, h2, h3⟩ := loop_forI (B := m_law07_ArgumentConclusions_L3 (b, k)) (fun i (t : List T_Literal × Bool) => (t.1, t.2, (i : Int))) b.2.1
    (fun i t => t.1.length + cntH b t.1 ≤ l0.length + cntH b l0 ∧ Asc litLt t.1 ∧ (∀ y ∈ t.1, ∃ n, DerN b n y) ∧ (∀ y ∈ l0, y ∈ t.1) ∧ (t.2 = true → cntH b t.1 < cntH b l0) ∧ (t.2 = false → t.1 = l0 ∧ ∀ r ∈ b.2.1.take i, (∀ y ∈ r.2.2.2.1, y ∈ l0) → r.2.2.2.2 ∈ l0))
    (fun res => ∃ l ch, res = .inl (l, ch) ∧ l.length + cntH b l ≤ l0.length + cntH b l0 ∧ Asc litLt l ∧ (∀ y ∈ l, ∃ n, DerN b n y) ∧ (∀ y ∈ l0, y ∈ l) ∧ (ch = true → cntH b l < cntH b l0) ∧ (ch = false → l = l0 ∧ ∀ r ∈ b.2.1, (∀ y ∈ r.2.2.2.1, y ∈ l0) → r.2.2.2.2 ∈ l0))
    (fun i r t hi hI => .inl (by
      obtain ⟨l, ch⟩ := t
      obtain ⟨i1, i2, i3, i4, i5, i6⟩ := hI
      dsimp only at i1 i2 i3 i4 i5 i6
      unfold m_law07_ArgumentConclusions_L3
      simp only [at_dec hi, if_true, at_idx hi, Option.bind_some, at_suc hi (show b.2.1.length < 4294967296 by omega), ref_has (l := l) r.2.2.2.2 (by omega)]
      rw [Conc_L4 r (hb r (mem_at hi)) l (by omega)]
      simp only [Option.bind_some]
      cases hc : !decide (r.2.2.2.2 ∈ l) && r.2.2.2.1.all fun y => decide (y ∈ l) with
      | true =>
        rw [Bool.and_eq_true] at hc
        have hn : r.2.2.2.2 ∉ l := by simpa using hc.1
        have hall : ∀ y ∈ r.2.2.2.1, y ∈ l := fun y hy => by simpa using List.all_eq_true.1 hc.2 y hy
        obtain ⟨l', e1, e2, e3, e4⟩ := ref_insert (l := l) r.2.2.2.2 (by omega) i2
        have hlt := cntH_lt (b := b) (mem_at hi) hn e3
        simp only [if_true, e1, Option.bind_some]
        refine ⟨(l', true), rfl, by dsimp only; omega, e2, fun y hy => ?_, fun y hy => (e3 y).2 (.inr (i4 y hy)), fun _ => ?_, fun hf => by cases hf⟩
        · rcases (e3 y).1 hy with rfl | hy
          · obtain ⟨n, hn⟩ := DerN.all (b := b) fun z hz => i3 z (hall z hz)
            exact ⟨n + 1, .inr ⟨r, mem_at hi, rfl, hn⟩⟩
          · exact i3 y hy
        · dsimp only
          cases ch with
          | true => have := i5 rfl; omega
          | false =>
            rw [(i6 rfl).1] at hlt
            omega
      | false =>
        simp only [Bool.false_eq_true, if_false]
        refine ⟨(l, ch), rfl, i1, i2, i3, i4, i5, fun hf => ⟨(i6 hf).1, fun r' hr' hall => ?_⟩⟩
        rw [take_suc hi] at hr'
        rcases List.mem_append.1 hr' with hr' | hr'
        · exact (i6 hf).2 r' hr' hall
        · simp only [List.mem_singleton] at hr'
          subst hr'
          have hl := (i6 hf).1
          subst hl
          rw [Bool.and_eq_false_iff] at hc
          rcases hc with hc | hc
          · simpa using hc
          · have : (r'.2.2.2.1.all fun y => decide (y ∈ l)) = true := List.all_eq_true.2 fun y hy => by simpa using hall y hy
            rw [this] at hc
            cases hc))
    (fun t hI => ⟨.inl (t.1, t.2), by
      unfold m_law07_ArgumentConclusions_L3
      simp only [end_dec, Bool.false_eq_true, if_false], t.1, t.2, rfl, by
      obtain ⟨i1, i2, i3, i4, i5, i6⟩ := hI
      rw [List.take_length] at i6
      exact ⟨i1, i2, i3, i4, i5, i6⟩⟩) (l0, false) ⟨by dsimp only; omega, ha0, hd0, fun y hy => hy, (fun hf => by cases hf), fun _ => ⟨rfl, by simp⟩⟩
  subst h2
  exact ⟨l, ch, h1, h3⟩
theorem closed_der {l : List T_Literal} (h1 : ∀ p ∈ b.1, p.1 ∈ l) (h2 : ∀ r ∈ b.2.1, (∀ y ∈ r.2.2.2.1, y ∈ l) → r.2.2.2.2 ∈ l) : ∀ (n : Nat) (y : T_Literal), DerN b n y → y ∈ l := by
  intro n
  induction n with
  | zero =>
    rintro y ⟨p, hp, rfl⟩
    exact h1 p hp
  | succ n ih =>
    rintro y (hy | ⟨r, hr, rfl, hb⟩)
    · exact ih y hy
    · exact h2 r hr fun z hz => ih z (hb z hz)
theorem Conc_L2 (hb : ∀ r ∈ b.2.1, r.2.2.2.1.length ≤ 100) (hr : b.2.1.length ≤ 100) (k : Int) (l0 : List T_Literal) (hl0 : l0.length ≤ 100) (ha0 : Asc litLt l0) (hp0 : ∀ y, y ∈ l0 ↔ ∃ p ∈ b.1, p.1 = y) :
    ∃ l, loop (m_law07_ArgumentConclusions_L2 (b, k)) (l0, true) = some l ∧ l.length ≤ 1000 ∧ Asc litLt l ∧ ∀ y, y ∈ l ↔ ∃ n, DerN b n y := by
  have hc0 : cntH b l0 ≤ 100 := Nat.le_trans (List.length_filter_le _ _) hr
  refine loop_spec (B := m_law07_ArgumentConclusions_L2 (b, k)) (fun t => t.1.length + cntH b t.1 ≤ 1000 ∧ Asc litLt t.1 ∧ (∀ y ∈ t.1, ∃ n, DerN b n y) ∧ (∀ p ∈ b.1, p.1 ∈ t.1) ∧ (t.2 = false → ∀ r ∈ b.2.1, (∀ y ∈ r.2.2.2.1, y ∈ t.1) → r.2.2.2.2 ∈ t.1))
    (fun t => 2 * cntH b t.1 + if t.2 then 1 else 0) (fun l => l.length ≤ 1000 ∧ Asc litLt l ∧ ∀ y, y ∈ l ↔ ∃ n, DerN b n y) (fun t ht => ?_) (l0, true) ⟨by dsimp only; omega, ha0, fun y hy => ?_, fun p hp => (hp0 _).2 ⟨p, hp, rfl⟩, fun hf => by cases hf⟩
  · obtain ⟨l, ch⟩ := t
    obtain ⟨t1, t2, t3, t4, t5⟩ := ht
    dsimp only at t1 t2 t3 t4 t5
    unfold m_law07_ArgumentConclusions_L2
    cases ch with
    | true =>
      simp only [if_true]
      obtain ⟨l', ch', g1, g2, g3, g4, g5, g6, g7⟩ := Conc_L3 hb hr k l t1 t2 t3
      rw [g1]
      refine .inl ⟨_, rfl, ⟨by dsimp only; omega, g3, g4, fun p hp => g5 _ (t4 p hp), fun hf => ?_⟩, ?_⟩
      · obtain ⟨e1, e2⟩ := g7 hf
        dsimp only
        rw [e1]
        exact e2
      · dsimp only
        cases ch' with
        | true =>
          have := g6 rfl
          simp only [if_true]
          omega
        | false =>
          obtain ⟨e1, _⟩ := g7 rfl
          rw [e1]
          simp
    | false =>
      simp only [Bool.false_eq_true, if_false]
      exact .inr ⟨l, rfl, by omega, t2, fun y => ⟨t3 y, fun ⟨n, hn⟩ => closed_der t4 (t5 rfl) n y hn⟩⟩
  · obtain ⟨p, hp, e⟩ := (hp0 y).1 hy
    exact ⟨0, p, hp, e⟩
theorem Conc_L1 (hp : b.1.length ≤ 100) (k : Int) : ∃ l, loop (m_law07_ArgumentConclusions_L1 (b, k)) (([] : List T_Literal), 0) = some l ∧ l.length ≤ 100 ∧ Asc litLt l ∧ ∀ y, y ∈ l ↔ ∃ p ∈ b.1, p.1 = y :=
  loop_forI (B := m_law07_ArgumentConclusions_L1 (b, k)) (fun i s => (s, (i : Int))) b.1 (fun i s => s.length ≤ i ∧ Asc litLt s ∧ ∀ y, y ∈ s ↔ ∃ p ∈ b.1.take i, p.1 = y) (fun l => l.length ≤ 100 ∧ Asc litLt l ∧ ∀ y, y ∈ l ↔ ∃ p ∈ b.1, p.1 = y) (fun i p s hi hI => .inl (by
    have hlt := at_lt hi
    obtain ⟨i1, i2, i3⟩ := hI
    obtain ⟨l', e1, e2, e3, e4⟩ := ref_insert (l := s) p.1 (by omega) i2
    unfold m_law07_ArgumentConclusions_L1
    simp only [at_dec hi, if_true, at_idx hi, Option.bind_some, e1, at_suc hi (show b.1.length < 4294967296 by omega)]
    refine ⟨l', rfl, by omega, e2, fun y => ?_⟩
    rw [e3, i3, take_suc hi]
    constructor
    · rintro (rfl | ⟨q, hq, rfl⟩)
      · exact ⟨p, by simp, rfl⟩
      · exact ⟨q, List.mem_append_left _ hq, rfl⟩
    · rintro ⟨q, hq, rfl⟩
      rcases List.mem_append.1 hq with hq | hq
      · exact .inr ⟨q, hq, rfl⟩
      · simp only [List.mem_singleton] at hq
        subst hq
        exact .inl rfl)) (fun s hI => ⟨s, by
    unfold m_law07_ArgumentConclusions_L1
    simp only [end_dec, Bool.false_eq_true, if_false], by
    obtain ⟨i1, i2, i3⟩ := hI
    rw [List.take_length] at i3
    exact ⟨by omega, i2, i3⟩⟩) [] ⟨by simp, List.Pairwise.nil, by simp⟩
theorem p_ArgumentConclusions (hw : m_law07_awake = some true) (y0 : List Int) : m_law07_ArgumentConclusions y0 = some true := by
  unfold m_law07_ArgumentConclusions
  rw [keep_New]
  obtain ⟨b, k, e1, hk, hd⟩ := keep_Base (srcOk_New y0) (n := 4) (p := 5) (q := 8) (by omega) (by omega) (by omega) (by omega) (by omega) (by omega)
  have hnr := hd.nr
  have hnp := hd.np
  simp only [Option.bind_some, e1]
  rcases arg_or hd.valid (by omega) with ⟨x, e2, h⟩ | ⟨e2, _⟩
  · have hlen := h.len
    simp only [e2, Option.bind_some, bne_self_eq_false, Bool.false_eq_true, if_false]
    obtain ⟨l1, g1, g2, g3, g4⟩ := Conc_L1 (b := b) (by omega) k
    obtain ⟨l2, f1, f2, f3, f4⟩ := Conc_L2 (b := b) (fun r hr => by have := hd.bd r hr; omega) (by omega) k l1 g2 g3 g4
    have hL5 : loop (m_law07_ArgumentConclusions_L5 (x, 0)) (([] : List Int), 0) = some (rng x.length) := by
      have := loop_flat (B := m_law07_ArgumentConclusions_L5 (x, 0)) (rng x.length) (fun i => [i]) (fun s => s) 1 (fun _ _ => by simp) [] (fun i z s hi hs => by
        obtain ⟨rfl, hin⟩ := rng_at hi
        have hdec : decide ((i : Int) < len x) = true := by simp [len]; omega
        unfold m_law07_ArgumentConclusions_L5
        simp only [hdec, if_true]
        rw [app_ok (by simp at hs ⊢; omega)]
        simp only [Option.bind_some, w64_succ i (by omega)]) (fun s => by
        unfold m_law07_ArgumentConclusions_L5
        have hdec : decide (((rng x.length).length : Int) < len x) = false := by rw [rng_len]; simp [len]
        simp only [hdec, Bool.false_eq_true, if_false])
      rw [this]
      simp
    have hrl : (rng x.length).length < 1000000 := by rw [rng_len]; omega
    simp only [g1, f1, hL5, Option.bind_some, arg_Conclusions (l := x) _ hrl]
    have hmem : ∀ y, y ∈ l2 ↔ y ∈ (rng x.length).flatMap (concF x) := fun y => by
      rw [f4, List.mem_flatMap]
      constructor
      · rintro ⟨n, hn⟩
        obtain ⟨i, a, h1, h2, _⟩ := ex_arg h n y hn
        have := idx_lt h1
        refine ⟨i, rng_mem.2 ⟨this.1, this.2⟩, ?_⟩
        unfold concF
        rw [h1]
        simpa using h2.symm
      · rintro ⟨i, hi, hy⟩
        unfold concF at hy
        cases ha : idx x i with
        | none => rw [ha] at hy; cases hy
        | some a =>
          rw [ha] at hy
          simp only [List.mem_singleton] at hy
          subst hy
          obtain ⟨j, _, hj⟩ := idx_at ha
          exact arg_der h j a hj
    rw [nrm_eq ord_lit f3 hmem, ref_same _ _ (by omega)]
    simp only [decide_true, Option.bind_some, if_true, hw]
  · simp only [e2, Option.bind_some, hw]
    rfl
end
section
variable {b b' : T_Base} {l x : List T_Argument} {s : List Int}
theorem pigeon {α : Type} : ∀ {l m : List α}, l.Nodup → (∀ y ∈ l, y ∈ m) → l.length ≤ m.length
  | [], m, _, _ => by simp
  | y :: l, m, h, hs => by
    obtain ⟨h1, h2⟩ := List.nodup_cons.1 h
    obtain ⟨m1, m2, rfl⟩ := List.append_of_mem (hs y List.mem_cons_self)
    have := pigeon (m := m1 ++ m2) h2 fun z hz => by
      rcases List.mem_append.1 (hs z (List.mem_cons_of_mem _ hz)) with h3 | h3
      · exact List.mem_append_left _ h3
      · rcases List.mem_cons.1 h3 with rfl | h3
        · exact absurd hz h1
        · exact List.mem_append_right _ h3
    simp only [List.length_append, List.length_cons] at this ⊢
    omega
structure More (b b' : T_Base) : Prop where
  p : ∃ p, b'.1 = b.1 ++ [p]
  r : ∃ r, b'.2.1 = b.2.1 ++ [r]
theorem More.prem (h : More b b') {i : Int} (hi : i < b.1.length) : idx b'.1 i = idx b.1 i := by
  obtain ⟨p, hp⟩ := h.p
  rw [hp, idx_app_lt hi]
theorem More.rule (h : More b b') {i : Int} (hi : i < b.2.1.length) : idx b'.2.1 i = idx b.2.1 i := by
  obtain ⟨p, hp⟩ := h.r
  rw [hp, idx_app_lt hi]
/-- a list that is part of what can be built -/
structure Part (b : T_Base) (l : List T_Argument) : Prop where
  form : FormD b l
  nd : l.Nodup
  pre : ∃ m, l = premA b ++ m
theorem Part.prem (h : Part b l) {i : Nat} {a : T_Argument} (hi : l[i]? = some a) (hn : i < b.1.length) : ∃ p, b.1[i]? = some p ∧ a = ((i : Int), -1, [], p.1) := by
  obtain ⟨m, hm⟩ := h.pre
  rw [hm, List.getElem?_append_left (by rw [premA_len]; exact hn)] at hi
  exact premA_at hi
theorem Part.rule (h : Part b l) {i : Nat} {a : T_Argument} (hi : l[i]? = some a) (hn : b.1.length ≤ i) : a.1 = -1 ∧ ∃ r, idx b.2.1 a.2.1 = some r ∧ 0 ≤ a.2.1 ∧ a.2.1 < b.2.1.length ∧ a.2.2.2 = r.2.2.2.2 ∧ a.2.2.1.length = r.2.2.2.1.length ∧ ∀ (j : Nat) k y, a.2.2.1[j]? = some k → r.2.2.2.1[j]? = some y → ∃ a', idx l k = some a' ∧ a'.2.2.2 = y := by
  rcases h.form.kind i a hi with ⟨_, g, _⟩ | ⟨g1, g2, g3⟩
  · omega
  · obtain ⟨r, hr⟩ := idx_ok (l := b.2.1) g2 g3
    obtain ⟨e1, e2, e3⟩ := h.form.ru i a r hi g2 hr
    exact ⟨g1, r, hr, g2, g3, e1, e2, e3⟩
theorem Whole.part (h : Whole b x) : Part b x := ⟨h.form, h.nd, h.pre⟩
/-- the argument a' is a with its parts mapped -/
structure Mat (s : List Int) (a a' : T_Argument) : Prop where
  p : a.1 = a'.1
  r : a.2.1 = a'.2.1
  n : a.2.2.1.length = a'.2.2.1.length
  m : ∀ (j : Nat) m m', a.2.2.1[j]? = some m → a'.2.2.1[j]? = some m' → idx s m = some m'
structure Emb (l x : List T_Argument) (s : List Int) : Prop where
  len : s.length ≤ l.length
  all : ∀ (i : Nat) a k, l[i]? = some a → s[i]? = some k → ∃ a', idx x k = some a' ∧ Mat s a a'
theorem mat_conc (hb : More b b') (h : Part b l) (h' : Whole b' x) {i : Nat} {a a' : T_Argument} {k : Int} (hi : l[i]? = some a) (hk : idx x k = some a') (hm : Mat s a a') : a'.2.2.2 = a.2.2.2 := by
  by_cases hn : i < b.1.length
  · obtain ⟨p, hp, rfl⟩ := h.prem hi hn
    have h0 : 0 ≤ a'.1 := by rw [← hm.p]; show (0 : Int) ≤ (i : Int); omega
    have hp' : idx b'.1 a'.1 = some p := by
      rw [← hm.p]
      show idx b'.1 (i : Int) = some p
      rw [hb.prem (by omega)]
      exact at_idx hp
    exact (h'.form.toFormC.prI hk h0 hp').1
  · obtain ⟨g1, r, g2, g3, g4, g5, _⟩ := h.rule hi (by omega)
    have hr' : idx b'.2.1 a'.2.1 = some r := by rw [← hm.r, hb.rule g4]; exact g2
    rw [(h'.form.toFormC.ruI hk (by rw [← hm.r]; exact g3) hr').1, g5]
theorem emb_run (hb : More b b') (h : Part b l) (h' : Whole b' x) (E : Emb l x s) {k : Int} {y : T_Literal} (hr : RunOf b' x k y) : ∀ i : Nat, s[i]? = some k → RunOf b l (i : Int) y := by
  induction hr with
  | here ha =>
    intro i hi
    have hil := at_lt hi
    have hsl := E.len
    have hl : l[i]? = some l[i] := List.getElem?_eq_getElem (by omega)
    obtain ⟨a'', e1, e2⟩ := E.all i _ _ hl hi
    rw [ha] at e1
    cases e1
    rw [mat_conc hb h h' hl ha e2]
    exact RunOf.here (at_idx hl)
  | step ha h0 hq hst hk _ ih =>
    intro i hi
    have hil := at_lt hi
    have hsl := E.len
    have hl : l[i]? = some l[i] := List.getElem?_eq_getElem (by omega)
    obtain ⟨a'', e1, e2⟩ := E.all i _ _ hl hi
    rw [ha] at e1
    cases e1
    obtain ⟨j, hj⟩ := List.mem_iff_getElem?.1 hk
    have hjl := at_lt hj
    have hjn := e2.n
    have hm : l[i].2.2.1[j]? = some l[i].2.2.1[j] := List.getElem?_eq_getElem (by omega)
    have hsm := e2.m j _ _ hm hj
    have hmr := h.form.sub i _ hl _ (mem_at hm)
    obtain ⟨n, hn1, hn2⟩ := idx_at hsm
    have hrun := ih n hn2
    rw [← hn1] at hrun
    have h0' : 0 ≤ l[i].2.1 := by rw [e2.r]; exact h0
    have hin : b.1.length ≤ i := by
      refine Nat.not_lt.1 fun hlt => ?_
      obtain ⟨p, _, e⟩ := h.prem hl hlt
      rw [e] at h0'
      exact absurd h0' (by simp)
    obtain ⟨_, r, g2, g3, g4, _⟩ := h.rule hl hin
    have hq' := hb.rule g4
    rw [e2.r, hq, ← e2.r] at hq'
    exact RunOf.step (at_idx hl) h0' hq'.symm hst (mem_at hm) hrun
theorem emb_sub (E : Emb l x s) {k j' : Int} (hs : SubOf x k j') : ∀ i : Nat, s[i]? = some k → ∃ j : Nat, s[j]? = some j' ∧ SubOf l (i : Int) (j : Int) := by
  induction hs with
  | self k => exact fun i hi => ⟨i, hi, .self _⟩
  | step ha hk _ ih =>
    intro i hi
    have hil := at_lt hi
    have hsl := E.len
    have hl : l[i]? = some l[i] := List.getElem?_eq_getElem (by omega)
    obtain ⟨a'', e1, e2⟩ := E.all i _ _ hl hi
    rw [ha] at e1
    cases e1
    obtain ⟨j, hj⟩ := List.mem_iff_getElem?.1 hk
    have hjl := at_lt hj
    have hjn := e2.n
    have hm : l[i].2.2.1[j]? = some l[i].2.2.1[j] := List.getElem?_eq_getElem (by omega)
    have hsm := e2.m j _ _ hm hj
    obtain ⟨n, hn1, hn2⟩ := idx_at hsm
    obtain ⟨u, h1, h2⟩ := ih n hn2
    rw [← hn1] at h2
    exact ⟨u, h1, .step (at_idx hl) (mem_at hm) h2⟩
theorem emb_defs (hb : More b b') (h : Part b l) (h' : Whole b' x) (E : Emb l x s) {i : Nat} {k q : Int} (hi : s[i]? = some k) (hq : q ∈ defsS b' x k) : q ∈ defsS b l (i : Int) := by
  have hil := at_lt hi
  have hsl := E.len
  have hl : l[i]? = some l[i] := List.getElem?_eq_getElem (by omega)
  obtain ⟨a0, e0, _⟩ := E.all i _ _ hl hi
  have hkr := idx_lt e0
  obtain ⟨j', hj', a', g1, g2, g3, g4⟩ := (defsS_mem h'.form.toFormC.toFormB hkr.1 hkr.2 q).1 hq
  rw [subsS_mem h'.form.toFormA hkr.1 hkr.2] at hj'
  obtain ⟨j, hj1, hj2⟩ := emb_sub E hj' i hi
  have hjl := at_lt hj1
  have hl2 : l[j]? = some l[j] := List.getElem?_eq_getElem (by omega)
  obtain ⟨a'', f1, f2⟩ := E.all j _ _ hl2 hj1
  rw [g1] at f1
  cases f1
  have h0 : 0 ≤ l[j].2.1 := by rw [f2.r]; exact g2
  have hin : b.1.length ≤ j := by
    refine Nat.not_lt.1 fun hlt => ?_
    obtain ⟨p, _, e⟩ := h.prem hl2 hlt
    rw [e] at h0
    exact absurd h0 (by simp)
  obtain ⟨_, r, c2, c3, c4, _⟩ := h.rule hl2 hin
  refine (defsS_mem h.form.toFormC.toFormB (by omega) (by omega) q).2 ⟨(j : Int), (subsS_mem h.form.toFormA (by omega) (by omega) _).2 hj2, l[j], at_idx hl2, h0, ?_, by rw [f2.r]; exact g4⟩
  unfold isDef at g3 ⊢
  rw [← f2.r, hb.rule c4] at g3
  exact g3
theorem emb_ex (hb : More b b') (h : Part b l) (h' : Whole b' x) (E : Emb l x s) {a : T_Argument} (hi : l[s.length]? = some a) : ∃ k a', idx x k = some a' ∧ Mat s a a' := by
  by_cases hn : s.length < b.1.length
  · obtain ⟨p, hp, rfl⟩ := h.prem hi hn
    obtain ⟨p2, hp2⟩ := hb.p
    have hnp := h'.np
    rw [hp2, List.length_append] at hnp
    have hx : x[s.length]? = some x[s.length] := List.getElem?_eq_getElem (by simp at hnp; omega)
    obtain ⟨p', hp', e⟩ := h'.prem hx (by rw [hp2, List.length_append]; omega)
    exact ⟨_, _, at_idx hx, by rw [e], by rw [e], by rw [e], fun j m m' hm _ => by simp at hm⟩
  · obtain ⟨g1, r, g2, g3, g4, g5, g6, g7⟩ := h.rule hi (by omega)
    have hsub := fun k hk => h.form.sub _ a hi k hk
    have hget : ∀ (j : Nat) m, a.2.2.1[j]? = some m → ∃ n : Nat, m = (n : Int) ∧ ∃ k, s[n]? = some k ∧ (a.2.2.1.map fun m => (idx s m).getD 0)[j]? = some k := fun j m hm => by
      have hr := hsub m (mem_at hm)
      obtain ⟨n, rfl⟩ := Int.eq_ofNat_of_zero_le hr.1
      have hs : s[n]? = some s[n] := List.getElem?_eq_getElem (by omega)
      exact ⟨n, rfl, _, hs, by rw [List.getElem?_map, hm, Option.map_some, at_idx hs]; rfl⟩
    have hchoice : ∀ (j : Nat) k y, (a.2.2.1.map fun m => (idx s m).getD 0)[j]? = some k → r.2.2.2.1[j]? = some y → ∃ a', idx x k = some a' ∧ a'.2.2.2 = y := fun j k y hk hy => by
      have hjl := at_lt hk
      rw [List.length_map] at hjl
      have hm : a.2.2.1[j]? = some a.2.2.1[j] := List.getElem?_eq_getElem hjl
      obtain ⟨n, hn1, k', hk', hk2⟩ := hget j _ hm
      rw [hk] at hk2
      cases hk2
      obtain ⟨a1, c1, c2⟩ := g7 j _ y hm hy
      obtain ⟨n', d1, d2⟩ := idx_at c1
      have : n = n' := by omega
      subst this
      obtain ⟨a', e1, e2⟩ := E.all n a1 k d2 hk'
      exact ⟨a', e1, by rw [mat_conc hb h h' d2 e1 e2, c2]⟩
    have hback : ∀ k ∈ (a.2.2.1.map fun m => (idx s m).getD 0), ∃ n : Nat, ((n : Nat) : Int) ∈ a.2.2.1 ∧ s[n]? = some k := fun k hk => by
      obtain ⟨j, hj⟩ := List.mem_iff_getElem?.1 hk
      have hjl := at_lt hj
      rw [List.length_map] at hjl
      have hm : a.2.2.1[j]? = some a.2.2.1[j] := List.getElem?_eq_getElem hjl
      obtain ⟨n, hn1, k', hk', hk2⟩ := hget j _ hm
      rw [hj] at hk2
      cases hk2
      exact ⟨n, by rw [← hn1]; exact mem_at hm, hk'⟩
    have hq' : idx b'.2.1 a.2.1 = some r := by rw [hb.rule g4]; exact g2
    have hwi : withinS b' x a.2.1 r (a.2.2.1.map fun m => (idx s m).getD 0) = true := by
      unfold withinS
      rw [Bool.not_eq_true', List.any_eq_false]
      intro k hk
      obtain ⟨n, hn1, hn2⟩ := hback k hk
      have hcut := cut_sub h.form (at_idx hi) g3 g2 hn1
      unfold cutB
      cases hst : r.2.1 with
      | true =>
        simp only [if_true, decide_eq_true_eq]
        exact fun hrun => hcut.1 hst (emb_run hb h h' E hrun n hn2)
      | false =>
        simp only [Bool.false_eq_true, if_false, decide_eq_true_eq]
        exact fun hdf => hcut.2 hst (emb_defs hb h h' E hn2 hdf)
    have hm := h'.all a.2.1 r _ hq' (by rw [List.length_map]; exact g6) hchoice hwi
    obtain ⟨k, hk⟩ := List.mem_iff_getElem?.1 hm
    refine ⟨(k : Int), _, at_idx hk, g1, rfl, by simp, fun j m m' hm hm' => ?_⟩
    obtain ⟨n, hn1, k', hk', hk2⟩ := hget j m hm
    dsimp only at hm'
    rw [hm'] at hk2
    cases hk2
    rw [hn1]
    exact at_idx hk'
theorem Mat.more {a a' : T_Argument} {k : Int} (h : Mat s a a') : Mat (s ++ [k]) a a' := ⟨h.p, h.r, h.n, fun j m m' hm hm' => idx_app (h.m j m m' hm hm')⟩
theorem Emb.more (E : Emb l x s) {a a' : T_Argument} {k : Int} (hi : l[s.length]? = some a) (hk : idx x k = some a') (hm : Mat s a a') : Emb l x (s ++ [k]) := by
  refine ⟨by have := at_lt hi; simp; omega, fun i a1 k1 h1 h2 => ?_⟩
  by_cases hil : i < s.length
  · rw [List.getElem?_append_left hil] at h2
    obtain ⟨a2, e1, e2⟩ := E.all i a1 k1 h1 h2
    exact ⟨a2, e1, e2.more⟩
  · have := at_lt h2
    simp at this
    have : i = s.length := by omega
    subst this
    rw [List.getElem?_append_right (Nat.le_refl _), Nat.sub_self] at h2
    simp at h2
    subst h2
    rw [hi] at h1
    cases h1
    exact ⟨a', hk, hm.more⟩
theorem emb_all (hb : More b b') (h : Part b l) (h' : Whole b' x) : ∀ n, n ≤ l.length → ∃ s : List Int, s.length = n ∧ Emb l x s
  | 0, _ => ⟨[], rfl, by simp, fun i a k _ h2 => by simp at h2⟩
  | n + 1, hn => by
    obtain ⟨s, rfl, E⟩ := emb_all hb h h' n (by omega)
    have hi : l[s.length]? = some l[s.length] := List.getElem?_eq_getElem (by omega)
    obtain ⟨k, a', e1, e2⟩ := emb_ex hb h h' E hi
    exact ⟨s ++ [k], by simp, E.more hi e1 e2⟩
theorem emb_inj (hb : More b b') (h : Part b l) (h' : Whole b' x) (E : Emb l x s) : ∀ (i j : Nat) k, s[i]? = some k → s[j]? = some k → i = j := by
  intro i
  induction i using Nat.strongRecOn with
  | _ i ih =>
    intro j k hi hj
    have hil := at_lt hi
    have hjl := at_lt hj
    have hsl := E.len
    have hl1 : l[i]? = some l[i] := List.getElem?_eq_getElem (by omega)
    have hl2 : l[j]? = some l[j] := List.getElem?_eq_getElem (by omega)
    obtain ⟨a', e1, e2⟩ := E.all i _ _ hl1 hi
    obtain ⟨a2, f1, f2⟩ := E.all j _ _ hl2 hj
    rw [e1] at f1
    cases f1
    have hsubs : l[i].2.2.1 = l[j].2.2.1 := by
      refine List.ext_getElem? fun u => ?_
      have n1 := e2.n
      have n2 := f2.n
      by_cases hu : u < l[i].2.2.1.length
      · have c1 : l[i].2.2.1[u]? = some l[i].2.2.1[u] := List.getElem?_eq_getElem hu
        have c2 : l[j].2.2.1[u]? = some l[j].2.2.1[u] := List.getElem?_eq_getElem (by omega)
        have c3 : a'.2.2.1[u]? = some a'.2.2.1[u] := List.getElem?_eq_getElem (by omega)
        have d1 := e2.m u _ _ c1 c3
        have d2 := f2.m u _ _ c2 c3
        obtain ⟨m1, p1, q1⟩ := idx_at d1
        obtain ⟨m2, p2, q2⟩ := idx_at d2
        have := (h.form.sub i _ hl1 _ (mem_at c1)).2
        have heq := ih m1 (by omega) m2 _ q1 q2
        rw [c1, c2, p1, p2, heq]
      · rw [List.getElem?_eq_none (by omega), List.getElem?_eq_none (by omega)]
    have he : l[i] = l[j] := Prod.ext (e2.p.trans f2.p.symm) (Prod.ext (e2.r.trans f2.r.symm) (Prod.ext hsubs ((mat_conc hb h h' hl1 e1 e2).symm.trans (mat_conc hb h h' hl2 e1 f2))))
    exact (List.getElem_inj h.nd).1 he
/-- the larger list is longer -/
theorem emb_lt (hb : More b b') (h : Part b l) (h' : Whole b' x) (E : Emb l x s) : s.length < x.length := by
  obtain ⟨p, hp⟩ := hb.p
  have hnp := h'.np
  rw [hp, List.length_append, List.length_singleton] at hnp
  have hsl := E.len
  have hnew : x[b.1.length]? = some x[b.1.length] := List.getElem?_eq_getElem (by omega)
  obtain ⟨p', _, e⟩ := h'.prem hnew (by rw [hp]; simp)
  have hrange : ∀ k ∈ s, 0 ≤ k ∧ k < x.length ∧ k ≠ (b.1.length : Int) := fun k hk => by
    obtain ⟨i, hi⟩ := List.mem_iff_getElem?.1 hk
    have hil := at_lt hi
    have hl1 : l[i]? = some l[i] := List.getElem?_eq_getElem (by omega)
    obtain ⟨a', e1, e2⟩ := E.all i _ _ hl1 hi
    have := idx_lt e1
    refine ⟨this.1, this.2, fun hk2 => ?_⟩
    rw [hk2, at_idx hnew] at e1
    have e3 := e2.p
    rw [← Option.some.inj e1, e] at e3
    dsimp only at e3
    rcases h.form.kind i _ hl1 with ⟨g1, g2, _⟩ | ⟨g1, _⟩
    · omega
    · omega
  have hnd : (s ++ [(b.1.length : Int)]).Nodup := by
    refine List.nodup_append.2 ⟨?_, by simp, fun y hy z hz => ?_⟩
    · rw [List.nodup_iff_pairwise_ne, List.pairwise_iff_getElem]
      intro i j hi hj hij he
      have := emb_inj hb h h' E i j s[i] (List.getElem?_eq_getElem hi) (by rw [he]; exact List.getElem?_eq_getElem hj)
      omega
    · simp only [List.mem_singleton] at hz
      rw [hz]
      exact (hrange y hy).2.2
  have := pigeon (m := rng x.length) hnd fun y hy => by
    rw [rng_mem]
    rcases List.mem_append.1 hy with hy | hy
    · exact ⟨(hrange y hy).1, (hrange y hy).2.1⟩
    · simp only [List.mem_singleton] at hy
      rw [hy]
      exact ⟨by omega, by omega⟩
  rw [rng_len, List.length_append, List.length_singleton] at this
  omega
end
section
variable {b b' : T_Base} {l x : List T_Argument} {s : List Int}
theorem Grows_L3 {a a' : T_Argument} {i k e1 e2 z : Int} (hn : a.2.2.1.length ≤ 100) (hi : idx l i = some a) (hk : idx x k = some a') (hr : ∀ m ∈ a.2.2.1, 0 ≤ m ∧ m < s.length) (v : Bool) (hv : v = true ↔ a.1 = a'.1 ∧ a.2.1 = a'.2.1 ∧ a.2.2.1.length = a'.2.2.1.length) :
    ∃ r, loop (m_law07_ArgumentGrows_L3 (l, e1) (s, i) (x, e2) (z, k)) (v, 0) = some r ∧ (r = true ↔ Mat s a a') := by
  refine loop_spec (B := m_law07_ArgumentGrows_L3 (l, e1) (s, i) (x, e2) (z, k)) (fun t => ∃ n : Nat, t.2 = (n : Int) ∧ n ≤ a.2.2.1.length ∧ (t.1 = true → v = true ∧ ∀ (j : Nat) m m', j < n → a.2.2.1[j]? = some m → a'.2.2.1[j]? = some m' → idx s m = some m') ∧ (t.1 = false → ¬ Mat s a a'))
    (fun t => a.2.2.1.length - t.2.toNat) (fun r => r = true ↔ Mat s a a') (fun t ht => ?_) (v, 0) ⟨0, rfl, by omega, fun h => ⟨h, fun j _ _ hj => by omega⟩, fun h hm => ?_⟩
  · obtain ⟨fl, q⟩ := t
    obtain ⟨n, h1, h2, h3, h4⟩ := ht
    dsimp only at h1 h3 h4
    subst h1
    unfold m_law07_ArgumentGrows_L3
    cases fl with
    | false =>
      simp only [Bool.false_eq_true, if_false, Option.bind_some]
      exact .inr ⟨false, rfl, by simp [h4 rfl]⟩
    | true =>
      obtain ⟨h5, h6⟩ := h3 rfl
      obtain ⟨g1, g2, g3⟩ := hv.1 h5
      simp only [if_true, hi, Option.bind_some]
      by_cases hlt : n < a.2.2.1.length
      · have hd : decide ((n : Int) < len a.2.2.1) = true := by simp [len]; omega
        have hm : a.2.2.1[n]? = some a.2.2.1[n] := List.getElem?_eq_getElem hlt
        have hm' : a'.2.2.1[n]? = some a'.2.2.1[n] := List.getElem?_eq_getElem (by omega)
        have hmr := hr _ (mem_at hm)
        obtain ⟨u, hu⟩ := idx_ok (l := s) hmr.1 hmr.2
        simp only [hd, if_true, at_idx hm, hu, hk, at_idx hm', Option.bind_some, at_suc hm (show a.2.2.1.length < 4294967296 by omega)]
        refine .inl ⟨_, rfl, ⟨n + 1, rfl, by omega, fun he => ⟨h5, fun j m m' hj c1 c2 => ?_⟩, fun he hmat => ?_⟩, by show a.2.2.1.length - ((n + 1 : Nat) : Int).toNat < a.2.2.1.length - ((n : Nat) : Int).toNat; omega⟩
        · by_cases hjn : j < n
          · exact h6 j m m' hjn c1 c2
          · have : j = n := by omega
            subst this
            rw [hm] at c1
            rw [hm'] at c2
            cases c1
            cases c2
            rw [hu]
            simpa using he
        · have := hmat.m n _ _ hm hm'
          rw [hu] at this
          have := Option.some.inj this
          simp [this] at he
      · have hd : decide ((n : Int) < len a.2.2.1) = false := by simp [len]; omega
        simp only [hd, Bool.false_eq_true, if_false]
        exact .inr ⟨true, rfl, fun _ => ⟨g1, g2, g3, fun j m m' c1 c2 => h6 j m m' (by have := at_lt c1; omega) c1 c2⟩, fun _ => rfl⟩
  · have := hv.2 ⟨hm.p, hm.r, hm.n⟩
    rw [this] at h
    cases h
theorem Grows_L2 (h' : Whole b' x) {a : T_Argument} {i e1 e2 : Int} (hn : a.2.2.1.length ≤ 100) (hi : idx l i = some a) (hr : ∀ m ∈ a.2.2.1, 0 ≤ m ∧ m < s.length) (hex : ∃ k a', idx x k = some a' ∧ Mat s a a') :
    ∃ r, loop (m_law07_ArgumentGrows_L2 (x, e2) (l, e1) (s, i)) ((-1), 0) = some r ∧ ∃ a', idx x r = some a' ∧ Mat s a a' := by
  have hlen := h'.len
  refine loop_forI (B := m_law07_ArgumentGrows_L2 (x, e2) (l, e1) (s, i)) (fun j (t : Int) => (t, (j : Int))) x (fun j t => (∃ a', idx x t = some a' ∧ Mat s a a') ∨ ∀ (k : Nat) a', k < j → x[k]? = some a' → ¬ Mat s a a') (fun r => ∃ a', idx x r = some a' ∧ Mat s a a') (fun j a' t hj hI => .inl ?_) (fun t hI => ⟨t, ?_, ?_⟩) (-1) (.inr fun k a' hk => by omega)
  · unfold m_law07_ArgumentGrows_L2
    simp only [at_dec hj, if_true, hi, at_idx hj, Option.bind_some, at_suc hj (show x.length < 4294967296 by omega)]
    have hblk : ∃ v, (if (a.1 == a'.1) = true then if (a.2.1 == a'.2.1) = true then some ((len a.2.2.1) == (len a'.2.2.1)) else some false else some false) = some v ∧ (v = true ↔ a.1 = a'.1 ∧ a.2.1 = a'.2.1 ∧ a.2.2.1.length = a'.2.2.1.length) := by
      by_cases c1 : a.1 = a'.1
      · by_cases c2 : a.2.1 = a'.2.1
        · refine ⟨(len a.2.2.1) == (len a'.2.2.1), by simp only [c1, c2, beq_self_eq_true, if_true], ?_⟩
          simp only [beq_iff_eq, len]
          constructor
          · exact fun h => ⟨c1, c2, by omega⟩
          · exact fun h => by omega
        · exact ⟨false, by simp [c1, c2], by simp [c2]⟩
      · exact ⟨false, by simp [c1], by simp [c1]⟩
    obtain ⟨v, hv1, hv2⟩ := hblk
    obtain ⟨r, g1, g2⟩ := Grows_L3 (e1 := e1) (e2 := e2) (z := t) hn hi (at_idx hj) hr v hv2
    simp only [hv1, Option.bind_some, g1]
    cases r with
    | true =>
      simp only [if_true]
      exact ⟨_, rfl, .inl ⟨a', at_idx hj, g2.1 rfl⟩⟩
    | false =>
      simp only [Bool.false_eq_true, if_false]
      refine ⟨_, rfl, ?_⟩
      rcases hI with hI | hI
      · exact .inl hI
      · refine .inr fun k a1 hk ha1 => ?_
        by_cases hkj : k < j
        · exact hI k a1 hkj ha1
        · have : k = j := by omega
          subst this
          rw [hj] at ha1
          cases ha1
          exact fun hm => by have := g2.2 hm; cases this
  · unfold m_law07_ArgumentGrows_L2
    simp only [end_dec, Bool.false_eq_true, if_false]
  · rcases hI with hI | hI
    · exact hI
    · obtain ⟨k, a', h1, h2⟩ := hex
      obtain ⟨n, _, hn2⟩ := idx_at h1
      exact absurd h2 (hI n a' (at_lt hn2) hn2)
theorem Grows_L1 (hb : More b b') (h : Part b l) (hl : l.length ≤ 40) (h' : Whole b' x) (e1 e2 : Int) : loop (m_law07_ArgumentGrows_L1 (l, e1) (x, e2)) (([] : List Int), 0) = some (.inl ()) := by
  have key : ∃ r, loop (m_law07_ArgumentGrows_L1 (l, e1) (x, e2)) (([] : List Int), 0) = some r ∧ r = .inl () := by
    refine loop_forI (B := m_law07_ArgumentGrows_L1 (l, e1) (x, e2)) (fun j t => (t, (j : Int))) l (fun j t => t.length = j ∧ Emb l x t) (fun r => r = .inl ()) (fun j a t hj hI => .inl ?_) (fun t hI => ⟨_, ?_, rfl⟩) [] ⟨rfl, by simp, fun i a k _ h2 => by simp at h2⟩
    · obtain ⟨i1, E⟩ := hI
      subst i1
      have hjl := at_lt hj
      have hsl := h.form.nsub a (mem_at hj)
      obtain ⟨r, g1, a', g2, g3⟩ := Grows_L2 (e1 := e1) (e2 := e2) h' hsl (at_idx hj) (fun m hm => by have := h.form.sub _ a hj m hm; omega) (emb_ex hb h h' E hj)
      have hr := idx_lt g2
      have hd : decide (r < 0) = false := by simp; omega
      unfold m_law07_ArgumentGrows_L1
      simp only [at_dec hj, if_true, g1, Option.bind_some, hd, Bool.false_eq_true, if_false, at_suc hj (show l.length < 4294967296 by omega)]
      rw [app_ok (by simp; omega)]
      exact ⟨_, rfl, by simp, E.more hj g2 g3⟩
    · unfold m_law07_ArgumentGrows_L1
      simp only [end_dec, Bool.false_eq_true, if_false]
  obtain ⟨r, h1, h2⟩ := key
  rw [h2] at h1
  exact h1
theorem prom_more {p : T_Promotion} (hb : More b b') (hinj : ∀ (i j : Nat) p q, b'.2.1[i]? = some p → b'.2.1[j]? = some q → p.1 = q.1 → i = j) (h : promE b p = 0) : promE b' p = 0 := by
  unfold promE at h ⊢
  split at h
  · rename_i hc
    rw [if_pos hc]
    split at h
    · cases h
    · rename_i hf
      obtain ⟨k, r, f1, f2, f3, _⟩ := fidx_at (q := fun r : T_Rule => r.1 == p.1) (l := b.2.1) (by unfold findS at hf; omega)
      have hk : findS b p.1 = (k : Int) := f1
      have hkl := at_lt f2
      have h2 : b'.2.1[k]? = some r := by
        have := hb.rule (i := (k : Int)) (by omega)
        rw [idx_nat, idx_nat, f2] at this
        exact this
      have hle := fidx_le (q := fun r : T_Rule => r.1 == p.1) h2 f3
      obtain ⟨k', r', g1, g2, g3, _⟩ := fidx_at hle.1
      have hkk := hinj k' k r' r g2 h2 (by simp only [beq_iff_eq] at f3 g3; rw [f3, g3])
      subst hkk
      have hk' : findS b' p.1 = (k' : Int) := g1
      rw [hk, idx_nat, f2] at h
      rw [hk', if_neg (by omega), idx_nat, h2]
      exact h
  · cases h
theorem more_valid {k : Int} (hd : Drawn b 3 3 6) {j : Nat} (hj : j < 3) (g st hg : Bool) (_hk : k = k) : ValidB (b.1 ++ [((false, [121]), 1, 0, [])], b.2.1 ++ [([109, 111, 114, 101], st, 0, [(g, atomN j)], (hg, [122]))], b.2.2) := by
  have hnp := hd.np
  have hnr := hd.nr
  have hnm := hd.nm
  have hdr : ∀ (i j' : Nat) p q, (b.2.1 ++ [(([109, 111, 114, 101], st, 0, [(g, atomN j)], (hg, [122])) : T_Rule)])[i]? = some p → (b.2.1 ++ [(([109, 111, 114, 101], st, 0, [(g, atomN j)], (hg, [122])) : T_Rule)])[j']? = some q → p.1 = q.1 → i = j' :=
    inj_app (fun r : T_Rule => r.1) hd.valid.dr fun r hr he => by
      obtain ⟨i, hi⟩ := List.mem_iff_getElem?.1 hr
      have h1 := hd.names i r hi
      dsimp only at he
      rw [h1] at he
      simp [ruleN] at he
  refine ⟨by simp; omega, by simp; omega, by simp; omega, fun p hp => ?_, fun r hr => ?_, inj_app (fun p : T_Premise => p.1) hd.valid.dp fun p hp he => ?_, hdr, fun p hp => prom_more (b := b) ⟨⟨_, rfl⟩, ⟨_, rfl⟩⟩ hdr (hd.valid.prom p hp)⟩
  · rcases List.mem_append.1 hp with hp | hp
    · exact hd.valid.prem p hp
    · simp only [List.mem_singleton] at hp
      subst hp
      decide
  · rcases List.mem_append.1 hr with hr | hr
    · exact hd.valid.rule r hr
    · simp only [List.mem_singleton] at hr
      subst hr
      have : ∀ j, j < 3 → ∀ g st hg : Bool, ruleE ([109, 111, 114, 101], st, 0, [(g, atomN j)], (hg, [122])) = 0 := by decide
      exact this j hj g st hg
  · obtain ⟨j', hj', e⟩ := hd.at_ p hp
    dsimp only at he
    rw [he] at e
    have : ∀ j, j < 3 → ([121] : Str) ≠ atomN j := by decide
    exact this j' (by omega) e
theorem ref_Copy (h : b.1.length ≤ 100) (hr : b.2.1.length ≤ 100) (hm : b.2.2.length ≤ 100) (hb : ∀ r ∈ b.2.1, r.2.2.2.1.length ≤ 100) : m_ref05_Copy b = some b := by
  unfold m_ref05_Copy
  rw [app_ok (by simp; omega), app_ok (by simp; omega)]
  simp only [Option.bind_some, List.nil_append]
  have := (loop_fold' (B := m_ref05_Copy_L1 b) b.2.1 (fun s r => s ++ [r]) (fun s => s) (fun i s => s.length ≤ i) [] (by simp) (fun i r s hi hs => by
    have := at_lt hi
    have hbr := hb r (mem_at hi)
    refine ⟨?_, by simp; omega⟩
    unfold m_ref05_Copy_L1
    simp only [at_dec hi, if_true, at_idx hi, Option.bind_some]
    rw [app_ok (by simp; omega)]
    simp only [Option.bind_some, List.nil_append]
    rw [app_ok (by simp; omega)]
    simp only [Option.bind_some, at_suc hi (show b.2.1.length < 4294967296 by omega)]) (fun s _ => by
    unfold m_ref05_Copy_L1
    simp only [end_dec, Bool.false_eq_true, if_false])).1
  rw [this]
  have h2 := foldl_app_map (fun r : T_Rule => r) b.2.1 []
  rw [h2]
  simp
theorem p_ArgumentGrows (hw : m_law07_awake = some true) (y0 : List Int) : m_law07_ArgumentGrows y0 = some true := by
  unfold m_law07_ArgumentGrows
  rw [keep_New]
  obtain ⟨b, k, e1, hk, hd⟩ := keep_Base (srcOk_New y0) (n := 3) (p := 3) (q := 6) (by omega) (by omega) (by omega) (by omega) (by omega) (by omega)
  have hnr := hd.nr
  have hnp := hd.np
  have hnm := hd.nm
  obtain ⟨u1, k1, f1, _, _, hk1⟩ := keep_N (n := 2) hk (by omega) (by omega)
  obtain ⟨u2, k2, f2, _, _, hk2⟩ := keep_N (n := 2) hk1 (by omega) (by omega)
  obtain ⟨g, j, k3, f3, hj, hk3⟩ := keep_Literal (n := 3) hk2 (by omega) (by omega)
  dsimp only at f1 f2 f3
  simp only [Option.bind_some, e1, ref_Copy (b := b) (by omega) (by omega) (by omega) (fun r hr => by have := hd.bd r hr; omega), f1, f2, f3]
  rw [app_ok (by simp; omega), app_ok (by simp; omega)]
  simp only [Option.bind_some]
  have hv := more_valid (k := 0) hd (show j < 3 by omega) g (u2 == 1) (u1 == 1) rfl
  have hmore : More b (b.1 ++ [((false, [121]), 1, 0, [])], b.2.1 ++ [([109, 111, 114, 101], u2 == 1, 0, [(g, atomN j)], (u1 == 1, [122]))], b.2.2) := ⟨⟨_, rfl⟩, ⟨_, rfl⟩⟩
  rcases arg_or hd.valid (by omega) with ⟨x, e2, h⟩ | ⟨e2, hnone⟩ <;> rcases arg_or hv (by simp; omega) with ⟨x', e3, h'⟩ | ⟨e3, _⟩
  · have hlen := h.len
    have hlen' := h'.len
    obtain ⟨s, hs, E⟩ := emb_all hmore h.part h' x.length (Nat.le_refl _)
    have hlt := emb_lt hmore h.part h' E
    have hdl : decide (len x < len x') = true := by simp [len]; omega
    have c1 : (((0 : Int) == 2) || ((0 : Int) == 2)) = false := rfl
    simp only [e2, e3, Option.bind_some, c1, bne_self_eq_false, Bool.false_eq_true, if_false, law07_formed h, law07_formed h', Bool.not_true, Grows_L1 hmore h.part hlen h' 0 0, seqE, hdl, if_true, hw]
  · simp only [e2, e3, Option.bind_some, hw]
    rfl
  · obtain ⟨z, z1, z2, z3, z4⟩ := buildS_big (small_of hd.valid (by omega)) hnone
    obtain ⟨s, hs, E⟩ := emb_all hmore ⟨z1, z2, z4⟩ h' z.length (Nat.le_refl _)
    have hlt := emb_lt hmore ⟨z1, z2, z4⟩ h' E
    have hlen' := h'.len
    omega
  · simp only [e2, e3, Option.bind_some, hw]
    rfl
end
section
theorem arg_awake : m_law07_awake = some true := (le_law07_awake 60).el true (by kernel_rfl)
theorem p_law07_ArgumentFormed (y0 : List Int) (_w0 : wList (wInt .i64) y0) : m_law07_ArgumentFormed y0 = some true := p_ArgumentFormed arg_awake y0
theorem p_law07_ArgumentAll (y0 : List Int) (y1 : Int) (y2 : List Int) (_w0 : wList (wInt .i64) y0) (_w1 : wInt .i64 y1) (_w2 : wList (wInt .i64) y2) : m_law07_ArgumentAll y0 y1 y2 = some true := p_ArgumentAll arg_awake y0 y1 y2
theorem p_law07_ArgumentConclusions (y0 : List Int) (_w0 : wList (wInt .i64) y0) : m_law07_ArgumentConclusions y0 = some true := p_ArgumentConclusions arg_awake y0
theorem p_law07_ArgumentBranches (y0 : List Int) (y1 : List Int) (_w0 : wList (wInt .i64) y0) (_w1 : wList (wInt .i64) y1) : m_law07_ArgumentBranches y0 y1 = some true := p_ArgumentBranches arg_awake y0 y1
end
section
theorem p_law07_ArgumentGrows (y0 : List Int) (_w0 : wList (wInt .i64) y0) : m_law07_ArgumentGrows y0 = some true := p_ArgumentGrows arg_awake y0
end

end Go.GD
