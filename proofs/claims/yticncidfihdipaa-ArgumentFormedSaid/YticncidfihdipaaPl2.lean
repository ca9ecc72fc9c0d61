/- The plain law: what the models compute, in plain Lean. Conditions: none. -/
import Derived.Test.YticncidfihdipaaPl1
namespace Go.GD
set_option autoImplicit false

section
variable {b : T_Base} {l x : List T_Argument}
/-- derivable in n rounds -/
def DerN (b : T_Base) : Nat → T_Literal → Prop
  | 0, y => ∃ p ∈ b.1, p.1 = y
  | n + 1, y => DerN b n y ∨ ∃ r ∈ b.2.1, r.2.2.2.2 = y ∧ ∀ z ∈ r.2.2.2.1, DerN b n z
theorem DerN.mono {n m : Nat} {y : T_Literal} (h : DerN b n y) (hm : n ≤ m) : DerN b m y := by
  induction hm with
  | refl => exact h
  | step _ ih => exact .inl ih
/-- all of a list can be derived in one number of rounds -/
theorem DerN.all {ys : List T_Literal} (h : ∀ z ∈ ys, ∃ n, DerN b n z) : ∃ n, ∀ z ∈ ys, DerN b n z := by
  induction ys with
  | nil => exact ⟨0, by simp⟩
  | cons y ys ih =>
    obtain ⟨n, hn⟩ := ih fun z hz => h z (List.mem_cons_of_mem _ hz)
    obtain ⟨m, hm⟩ := h y List.mem_cons_self
    refine ⟨max n m, fun z hz => ?_⟩
    rcases List.mem_cons.1 hz with rfl | hz
    · exact hm.mono (Nat.le_max_right _ _)
    · exact (hn z hz).mono (Nat.le_max_left _ _)
theorem run_sub {i : Int} {y : T_Literal} (h : RunOf b x i y) : ∃ j a, SubOf x i j ∧ idx x j = some a ∧ a.2.2.2 = y := by
  induction h with
  | here ha => exact ⟨_, _, .self _, ha, rfl⟩
  | step ha _ _ _ hk _ ih =>
    obtain ⟨j, a', h1, h2, h3⟩ := ih
    exact ⟨j, a', .step ha hk h1, h2, h3⟩
/-- choices for each element of a list -/
theorem pick_all {P : T_Literal → Int → Prop} : ∀ {ys : List T_Literal}, (∀ y ∈ ys, ∃ k, P y k) → ∃ s : List Int, s.length = ys.length ∧ ∀ (j : Nat) k y, s[j]? = some k → ys[j]? = some y → P y k
  | [], _ => ⟨[], rfl, by simp⟩
  | y :: ys, h => by
    obtain ⟨k, hk⟩ := h y List.mem_cons_self
    obtain ⟨s, hs, hp⟩ := pick_all fun z hz => h z (List.mem_cons_of_mem _ hz)
    refine ⟨k :: s, by simp [hs], fun j k' y' hj hy => ?_⟩
    cases j with
    | zero =>
      simp at hj hy
      subst hj
      subst hy
      exact hk
    | succ j =>
      simp at hj hy
      exact hp j k' y' hj hy
/-- what can be derived has an argument -/
theorem ex_arg (h : Whole b x) : ∀ (n : Nat) (y : T_Literal), DerN b n y → ∃ i a, idx x i = some a ∧ a.2.2.2 = y ∧ ∀ j a', SubOf x i j → idx x j = some a' → DerN b n a'.2.2.2 := by
  intro n
  induction n with
  | zero =>
    rintro y ⟨p, hp, rfl⟩
    obtain ⟨i, hi⟩ := List.mem_iff_getElem?.1 hp
    have hil := at_lt hi
    have hnp := h.np
    have hx : x[i]? = some x[i] := List.getElem?_eq_getElem (by omega)
    obtain ⟨p', hp', e⟩ := h.prem hx hil
    rw [hi] at hp'
    cases hp'
    refine ⟨(i : Int), _, at_idx hx, by rw [e], fun j a' hj ha' => ?_⟩
    rw [SubOf.iff (at_idx hx), e] at hj
    rcases hj with rfl | ⟨k, hk, _⟩
    · rw [at_idx hx] at ha'
      cases ha'
      rw [e]
      exact ⟨p, hp, rfl⟩
    · cases hk
  | succ n ih =>
    intro y hy
    by_cases hn : DerN b n y
    · obtain ⟨i, a, h1, h2, h3⟩ := ih y hn
      exact ⟨i, a, h1, h2, fun j a' hj ha' => .inl (h3 j a' hj ha')⟩
    · rcases hy with hy | ⟨r, hr, rfl, hb⟩
      · exact absurd hy hn
      · obtain ⟨s, hs1, hs2⟩ := pick_all (P := fun y k => ∃ a, idx x k = some a ∧ a.2.2.2 = y ∧ ∀ j a', SubOf x k j → idx x j = some a' → DerN b n a'.2.2.2) (ys := r.2.2.2.1) fun z hz => ih z (hb z hz)
        have hs3 : ∀ (j : Nat) k y, s[j]? = some k → r.2.2.2.1[j]? = some y → ∃ a', idx x k = some a' ∧ a'.2.2.2 = y := fun j k y hj hy => by
          obtain ⟨a', e1, e2, _⟩ := hs2 j k y hj hy
          exact ⟨a', e1, e2⟩
        have hsr := choice_rng hs1 hs3
        have hsd : ∀ k ∈ s, ∀ j a', SubOf x k j → idx x j = some a' → DerN b n a'.2.2.2 := fun k hk => by
          obtain ⟨j, hj⟩ := List.mem_iff_getElem?.1 hk
          have hjl := at_lt hj
          obtain ⟨_, _, _, e3⟩ := hs2 j k _ hj (List.getElem?_eq_getElem (by omega))
          exact e3
        obtain ⟨q, hq⟩ := List.mem_iff_getElem?.1 hr
        have hwi : withinS b x (q : Int) r s = true := by
          unfold withinS
          rw [Bool.not_eq_true', List.any_eq_false]
          intro k hk
          unfold cutB
          cases hst : r.2.1 with
          | true =>
            simp only [if_true, decide_eq_true_eq]
            intro hrun
            obtain ⟨j, a, g1, g2, g3⟩ := run_sub hrun
            have := hsd k hk j a g1 g2
            rw [g3] at this
            exact hn this
          | false =>
            simp only [Bool.false_eq_true, if_false, decide_eq_true_eq]
            intro hdf
            have hkr := hsr k hk
            obtain ⟨j, hj, a, g1, g2, _, g3⟩ := (defsS_mem h.form.toFormC.toFormB hkr.1 hkr.2 _).1 hdf
            rw [subsS_mem h.form.toFormA hkr.1 hkr.2] at hj
            have := hsd k hk j a hj g1
            obtain ⟨f1, _⟩ := h.form.toFormC.ruI g1 g2 (by rw [← g3]; exact at_idx hq)
            rw [f1] at this
            exact hn this
        have hm := h.all (q : Int) r s (at_idx hq) hs1 hs3 hwi
        obtain ⟨i, hi⟩ := List.mem_iff_getElem?.1 hm
        refine ⟨(i : Int), _, at_idx hi, rfl, fun j a' hj ha' => ?_⟩
        rw [SubOf.iff (at_idx hi)] at hj
        rcases hj with rfl | ⟨k, hk, hj⟩
        · rw [at_idx hi] at ha'
          cases ha'
          exact .inr ⟨r, hr, rfl, hb⟩
        · exact .inl (hsd k hk j a' hj ha')
/-- an argument's conclusion can be derived -/
theorem arg_der (h : Whole b x) : ∀ (i : Nat) a, x[i]? = some a → ∃ n, DerN b n a.2.2.2 := by
  intro i
  induction i using Nat.strongRecOn with
  | _ i ih =>
    intro a hi
    by_cases hn : i < b.1.length
    · obtain ⟨p, hp, rfl⟩ := h.prem hi hn
      exact ⟨0, p, mem_at hp, rfl⟩
    · obtain ⟨g1, r, g2, g3, g4, g5, g6, g7⟩ := h.rule hi (by omega)
      obtain ⟨n, hn⟩ := DerN.all (b := b) (ys := r.2.2.2.1) fun z hz => by
        obtain ⟨j, hj⟩ := List.mem_iff_getElem?.1 hz
        have hjl := at_lt hj
        have hk : a.2.2.1[j]? = some a.2.2.1[j] := List.getElem?_eq_getElem (by omega)
        obtain ⟨a', e1, e2⟩ := g7 j _ z hk hj
        obtain ⟨m, hm1, hm2⟩ := idx_at e1
        have := h.form.sub i a hi _ (mem_at hk)
        obtain ⟨n, hn⟩ := ih m (by omega) a' hm2
        exact ⟨n, by rw [← e2]; exact hn⟩
      obtain ⟨q, _, hq⟩ := idx_at g2
      exact ⟨n + 1, .inr ⟨r, mem_at hq, g5.symm, hn⟩⟩
def cntH (b : T_Base) (l : List T_Literal) : Nat := (b.2.1.filter fun r => decide (r.2.2.2.2 ∉ l)).length
theorem cntH_lt {l l' : List T_Literal} {r : T_Rule} (hr : r ∈ b.2.1) (h1 : r.2.2.2.2 ∉ l) (h2 : ∀ y, y ∈ l' ↔ y = r.2.2.2.2 ∨ y ∈ l) : cntH b l' < cntH b l :=
  count_lt b.2.1 (fun r' hr' => by
    simp only [decide_eq_true_eq] at hr' ⊢
    exact fun hc => hr' ((h2 _).2 (.inr hc))) r hr (by simpa using h1) (by simp [h2])
theorem Conc_L4 (ru : T_Rule) (hb : ru.2.2.2.1.length ≤ 100) (l : List T_Literal) (hl : l.length ≤ 100000) (ch : Bool) (i : Int) (v : Bool) : loop (m_law07_ArgumentConclusions_L4 ru (l, ch, i)) (v, 0) = some (v && ru.2.2.2.1.all fun y => decide (y ∈ l)) := by
  obtain ⟨r, h1, h2⟩ := loop_forI (B := m_law07_ArgumentConclusions_L4 ru (l, ch, i)) (fun j t => (t, (j : Int))) ru.2.2.2.1 (fun j t => t = (v && (ru.2.2.2.1.take j).all fun y => decide (y ∈ l))) (fun r => r = (v && ru.2.2.2.1.all fun y => decide (y ∈ l))) (fun j y t hj hI => .inl (by
    unfold m_law07_ArgumentConclusions_L4
    simp only [at_dec hj, if_true, at_idx hj, Option.bind_some, at_suc hj (show ru.2.2.2.1.length < 4294967296 by omega), ref_has (l := l) y (by omega)]
    refine ⟨_, ?_, rfl⟩
    rw [take_suc hj, List.all_append, ← Bool.and_assoc, ← hI]
    simp only [List.all_cons, List.all_nil, Bool.and_true]
    cases t <;> rfl)) (fun t hI => ⟨t, by
    unfold m_law07_ArgumentConclusions_L4
    simp only [end_dec, Bool.false_eq_true, if_false], by rw [hI, List.take_length]⟩) v (by simp)
  rw [← h2]
  exact h1
/-- one pass over the rules -/
theorem Conc_L3 (hb : ∀ r ∈ b.2.1, r.2.2.2.1.length ≤ 100) (hr : b.2.1.length ≤ 100) (k : Int) (l0 : List T_Literal) (hl0 : l0.length + cntH b l0 ≤ 1000) (ha0 : Asc litLt l0) (hd0 : ∀ y ∈ l0, ∃ n, DerN b n y) (ch0 : Bool) :
    ∃ l ch, loop (m_law07_ArgumentConclusions_L3 (b, k)) (l0, false, 0) = some (.inl (l, ch)) ∧ l.length + cntH b l ≤ l0.length + cntH b l0 ∧ Asc litLt l ∧ (∀ y ∈ l, ∃ n, DerN b n y) ∧ (∀ y ∈ l0, y ∈ l) ∧
      (ch = true → cntH b l < cntH b l0) ∧ (ch = false → l = l0 ∧ ∀ r ∈ b.2.1, (∀ y ∈ r.2.2.2.1, y ∈ l0) → r.2.2.2.2 ∈ l0) := by
  obtain ⟨res, h1, l, ch, h2, h3⟩ := loop_forI (B := m_law07_ArgumentConclusions_L3 (b, k)) (fun i (t : List T_Literal × Bool) => (t.1, t.2, (i : Int))) b.2.1
    (fun i t => t.1.length + cntH b t.1 ≤ l0.length + cntH b l0 ∧ Asc litLt t.1 ∧ (∀ y ∈ t.1, ∃ n, DerN b n y) ∧ (∀ y ∈ l0, y ∈ t.1) ∧ (t.2 = true → cntH b t.1 < cntH b l0) ∧ (t.2 = false → t.1 = l0 ∧ ∀ r ∈ b.2.1.take i, (∀ y ∈ r.2.2.2.1, y ∈ l0) → r.2.2.2.2 ∈ l0))
    (fun res => ∃ l ch, res = .inl (l, ch) ∧ l.length + cntH b l ≤ l0.length + cntH b l0 ∧ Asc litLt l ∧ (∀ y ∈ l, ∃ n, DerN b n y) ∧ (∀ y ∈ l0, y ∈ l) ∧ (ch = true → cntH b l < cntH b l0) ∧ (ch = false → l = l0 ∧ ∀ r ∈ b.2.1, (∀ y ∈ r.2.2.2.1, y ∈ l0) → r.2.2.2.2 ∈ l0))
    (fun i r t hi hI => .inl (by
      obtain ⟨l, ch⟩ := t
      obtain ⟨i1, i2, i3, i4, i5, i6⟩ := hI
      dsimp only at i1 i2 i3 i4 i5 i6
      unfold m_law07_ArgumentConclusions_L3
      simp only [at_dec hi, if_true, at_idx hi, Option.bind_some, at_suc hi (show b.2.1.length < 4294967296 by omega), ref_has (l := l) r.2.2.2.2 (by omega)]
      rw [Conc_L4 r (hb r (mem_at hi)) l (by omega)]
      simp only [Option.bind_some]
      cases hc : !decide (r.2.2.2.2 ∈ l) && r.2.2.2.1.all fun y => decide (y ∈ l) with
      | true =>
        rw [Bool.and_eq_true] at hc
        have hn : r.2.2.2.2 ∉ l := by simpa using hc.1
        have hall : ∀ y ∈ r.2.2.2.1, y ∈ l := fun y hy => by simpa using List.all_eq_true.1 hc.2 y hy
        obtain ⟨l', e1, e2, e3, e4⟩ := ref_insert (l := l) r.2.2.2.2 (by omega) i2
        have hlt := cntH_lt (b := b) (mem_at hi) hn e3
        simp only [if_true, e1, Option.bind_some]
        refine ⟨(l', true), rfl, by dsimp only; omega, e2, fun y hy => ?_, fun y hy => (e3 y).2 (.inr (i4 y hy)), fun _ => ?_, fun hf => by cases hf⟩
        · rcases (e3 y).1 hy with rfl | hy
          · obtain ⟨n, hn⟩ := DerN.all (b := b) fun z hz => i3 z (hall z hz)
            exact ⟨n + 1, .inr ⟨r, mem_at hi, rfl, hn⟩⟩
          · exact i3 y hy
        · dsimp only
          cases ch with
          | true => have := i5 rfl; omega
          | false =>
            rw [(i6 rfl).1] at hlt
            omega
      | false =>
        simp only [Bool.false_eq_true, if_false]
        refine ⟨(l, ch), rfl, i1, i2, i3, i4, i5, fun hf => ⟨(i6 hf).1, fun r' hr' hall => ?_⟩⟩
        rw [take_suc hi] at hr'
        rcases List.mem_append.1 hr' with hr' | hr'
        · exact (i6 hf).2 r' hr' hall
        · simp only [List.mem_singleton] at hr'
          subst hr'
          have hl := (i6 hf).1
          subst hl
          rw [Bool.and_eq_false_iff] at hc
          rcases hc with hc | hc
          · simpa using hc
          · have : (r'.2.2.2.1.all fun y => decide (y ∈ l)) = true := List.all_eq_true.2 fun y hy => by simpa using hall y hy
            rw [this] at hc
            cases hc))
    (fun t hI => ⟨.inl (t.1, t.2), by
      unfold m_law07_ArgumentConclusions_L3
      simp only [end_dec, Bool.false_eq_true, if_false], t.1, t.2, rfl, by
      obtain ⟨i1, i2, i3, i4, i5, i6⟩ := hI
      rw [List.take_length] at i6
      exact ⟨i1, i2, i3, i4, i5, i6⟩⟩) (l0, false) ⟨by dsimp only; omega, ha0, hd0, fun y hy => hy, (fun hf => by cases hf), fun _ => ⟨rfl, by simp⟩⟩
  subst h2
  exact ⟨l, ch, h1, h3⟩
theorem closed_der {l : List T_Literal} (h1 : ∀ p ∈ b.1, p.1 ∈ l) (h2 : ∀ r ∈ b.2.1, (∀ y ∈ r.2.2.2.1, y ∈ l) → r.2.2.2.2 ∈ l) : ∀ (n : Nat) (y : T_Literal), DerN b n y → y ∈ l := by
  intro n
  induction n with
  | zero =>
    rintro y ⟨p, hp, rfl⟩
    exact h1 p hp
  | succ n ih =>
    rintro y (hy | ⟨r, hr, rfl, hb⟩)
    · exact ih y hy
    · exact h2 r hr fun z hz => ih z (hb z hz)
theorem Conc_L2 (hb : ∀ r ∈ b.2.1, r.2.2.2.1.length ≤ 100) (hr : b.2.1.length ≤ 100) (k : Int) (l0 : List T_Literal) (hl0 : l0.length ≤ 100) (ha0 : Asc litLt l0) (hp0 : ∀ y, y ∈ l0 ↔ ∃ p ∈ b.1, p.1 = y) :
    ∃ l, loop (m_law07_ArgumentConclusions_L2 (b, k)) (l0, true) = some l ∧ l.length ≤ 1000 ∧ Asc litLt l ∧ ∀ y, y ∈ l ↔ ∃ n, DerN b n y := by
  have hc0 : cntH b l0 ≤ 100 := Nat.le_trans (List.length_filter_le _ _) hr
  refine loop_spec (B := m_law07_ArgumentConclusions_L2 (b, k)) (fun t => t.1.length + cntH b t.1 ≤ 1000 ∧ Asc litLt t.1 ∧ (∀ y ∈ t.1, ∃ n, DerN b n y) ∧ (∀ p ∈ b.1, p.1 ∈ t.1) ∧ (t.2 = false → ∀ r ∈ b.2.1, (∀ y ∈ r.2.2.2.1, y ∈ t.1) → r.2.2.2.2 ∈ t.1))
    (fun t => 2 * cntH b t.1 + if t.2 then 1 else 0) (fun l => l.length ≤ 1000 ∧ Asc litLt l ∧ ∀ y, y ∈ l ↔ ∃ n, DerN b n y) (fun t ht => ?_) (l0, true) ⟨by dsimp only; omega, ha0, fun y hy => ?_, fun p hp => (hp0 _).2 ⟨p, hp, rfl⟩, fun hf => by cases hf⟩
  · obtain ⟨l, ch⟩ := t
    obtain ⟨t1, t2, t3, t4, t5⟩ := ht
    dsimp only at t1 t2 t3 t4 t5
    unfold m_law07_ArgumentConclusions_L2
    cases ch with
    | true =>
      simp only [if_true]
      obtain ⟨l', ch', g1, g2, g3, g4, g5, g6, g7⟩ := Conc_L3 hb hr k l t1 t2 t3 true
      rw [g1]
      refine .inl ⟨_, rfl, ⟨by dsimp only; omega, g3, g4, fun p hp => g5 _ (t4 p hp), fun hf => ?_⟩, ?_⟩
      · obtain ⟨e1, e2⟩ := g7 hf
        dsimp only
        rw [e1]
        exact e2
      · dsimp only
        cases ch' with
        | true =>
          have := g6 rfl
          simp only [if_true]
          omega
        | false =>
          obtain ⟨e1, _⟩ := g7 rfl
          rw [e1]
          simp
    | false =>
      simp only [Bool.false_eq_true, if_false]
      exact .inr ⟨l, rfl, by omega, t2, fun y => ⟨t3 y, fun ⟨n, hn⟩ => closed_der t4 (t5 rfl) n y hn⟩⟩
  · obtain ⟨p, hp, e⟩ := (hp0 y).1 hy
    exact ⟨0, p, hp, e⟩
theorem Conc_L1 (hp : b.1.length ≤ 100) (k : Int) : ∃ l, loop (m_law07_ArgumentConclusions_L1 (b, k)) (([] : List T_Literal), 0) = some l ∧ l.length ≤ 100 ∧ Asc litLt l ∧ ∀ y, y ∈ l ↔ ∃ p ∈ b.1, p.1 = y :=
  loop_forI (B := m_law07_ArgumentConclusions_L1 (b, k)) (fun i s => (s, (i : Int))) b.1 (fun i s => s.length ≤ i ∧ Asc litLt s ∧ ∀ y, y ∈ s ↔ ∃ p ∈ b.1.take i, p.1 = y) (fun l => l.length ≤ 100 ∧ Asc litLt l ∧ ∀ y, y ∈ l ↔ ∃ p ∈ b.1, p.1 = y) (fun i p s hi hI => .inl (by
    have hlt := at_lt hi
    obtain ⟨i1, i2, i3⟩ := hI
    obtain ⟨l', e1, e2, e3, e4⟩ := ref_insert (l := s) p.1 (by omega) i2
    unfold m_law07_ArgumentConclusions_L1
    simp only [at_dec hi, if_true, at_idx hi, Option.bind_some, e1, at_suc hi (show b.1.length < 4294967296 by omega)]
    refine ⟨l', rfl, by omega, e2, fun y => ?_⟩
    rw [e3, i3, take_suc hi]
    constructor
    · rintro (rfl | ⟨q, hq, rfl⟩)
      · exact ⟨p, by simp, rfl⟩
      · exact ⟨q, List.mem_append_left _ hq, rfl⟩
    · rintro ⟨q, hq, rfl⟩
      rcases List.mem_append.1 hq with hq | hq
      · exact .inr ⟨q, hq, rfl⟩
      · simp only [List.mem_singleton] at hq
        subst hq
        exact .inl rfl)) (fun s hI => ⟨s, by
    unfold m_law07_ArgumentConclusions_L1
    simp only [end_dec, Bool.false_eq_true, if_false], by
    obtain ⟨i1, i2, i3⟩ := hI
    rw [List.take_length] at i3
    exact ⟨by omega, i2, i3⟩⟩) [] ⟨by simp, List.Pairwise.nil, by simp⟩
theorem p_ArgumentConclusions (hw : m_law07_awake = some true) (y0 : List Int) : m_law07_ArgumentConclusions y0 = some true := by
  unfold m_law07_ArgumentConclusions
  rw [keep_New]
  obtain ⟨b, k, e1, hk, hd⟩ := keep_Base (srcOk_New y0) (n := 4) (p := 5) (q := 8) (by omega) (by omega) (by omega) (by omega) (by omega) (by omega)
  have hnr := hd.nr
  have hnp := hd.np
  simp only [Option.bind_some, e1]
  rcases arg_or hd.valid (by omega) with ⟨x, e2, h⟩ | ⟨e2, _⟩
  · have hlen := h.len
    simp only [e2, Option.bind_some, bne_self_eq_false, Bool.false_eq_true, if_false]
    obtain ⟨l1, g1, g2, g3, g4⟩ := Conc_L1 (b := b) (by omega) k
    obtain ⟨l2, f1, f2, f3, f4⟩ := Conc_L2 (b := b) (fun r hr => by have := hd.bd r hr; omega) (by omega) k l1 g2 g3 g4
    have hL5 : loop (m_law07_ArgumentConclusions_L5 (x, 0)) (([] : List Int), 0) = some (rng x.length) := by
      have := loop_flat (B := m_law07_ArgumentConclusions_L5 (x, 0)) (rng x.length) (fun i => [i]) (fun s => s) 1 (fun _ _ => by simp) [] (fun i z s hi hs => by
        obtain ⟨rfl, hin⟩ := rng_at hi
        have hdec : decide ((i : Int) < len x) = true := by simp [len]; omega
        unfold m_law07_ArgumentConclusions_L5
        simp only [hdec, if_true]
        rw [app_ok (by simp at hs ⊢; omega)]
        simp only [Option.bind_some, w64_succ i (by omega)]) (fun s => by
        unfold m_law07_ArgumentConclusions_L5
        have hdec : decide (((rng x.length).length : Int) < len x) = false := by rw [rng_len]; simp [len]
        simp only [hdec, Bool.false_eq_true, if_false])
      rw [this]
      simp
    have hrl : (rng x.length).length < 1000000 := by rw [rng_len]; omega
    simp only [g1, f1, hL5, Option.bind_some, arg_Conclusions (l := x) _ hrl]
    have hmem : ∀ y, y ∈ l2 ↔ y ∈ (rng x.length).flatMap (concF x) := fun y => by
      rw [f4, List.mem_flatMap]
      constructor
      · rintro ⟨n, hn⟩
        obtain ⟨i, a, h1, h2, _⟩ := ex_arg h n y hn
        have := idx_lt h1
        refine ⟨i, rng_mem.2 ⟨this.1, this.2⟩, ?_⟩
        unfold concF
        rw [h1]
        simpa using h2.symm
      · rintro ⟨i, hi, hy⟩
        unfold concF at hy
        cases ha : idx x i with
        | none => rw [ha] at hy; cases hy
        | some a =>
          rw [ha] at hy
          simp only [List.mem_singleton] at hy
          subst hy
          obtain ⟨j, _, hj⟩ := idx_at ha
          exact arg_der h j a hj
    rw [nrm_eq ord_lit f3 hmem, ref_same _ _ (by omega)]
    simp only [decide_true, Option.bind_some, if_true, hw]
  · simp only [e2, Option.bind_some, hw]
    rfl
end
section
theorem arg_awake : m_law07_awake = some true := (le_law07_awake 60).el true (by kernel_rfl)
theorem p_law07_ArgumentFormed (y0 : List Int) (_w0 : wList (wInt .i64) y0) : m_law07_ArgumentFormed y0 = some true := p_ArgumentFormed arg_awake y0
theorem p_law07_ArgumentAll (y0 : List Int) (y1 : Int) (y2 : List Int) (_w0 : wList (wInt .i64) y0) (_w1 : wInt .i64 y1) (_w2 : wList (wInt .i64) y2) : m_law07_ArgumentAll y0 y1 y2 = some true := p_ArgumentAll arg_awake y0 y1 y2
theorem p_law07_ArgumentConclusions (y0 : List Int) (_w0 : wList (wInt .i64) y0) : m_law07_ArgumentConclusions y0 = some true := p_ArgumentConclusions arg_awake y0
theorem p_law07_ArgumentBranches (y0 : List Int) (y1 : List Int) (_w0 : wList (wInt .i64) y0) (_w1 : wList (wInt .i64) y1) : m_law07_ArgumentBranches y0 y1 = some true := p_ArgumentBranches arg_awake y0 y1
end

end Go.GD
