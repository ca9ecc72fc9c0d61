/- The plain law: what the models compute, in plain Lean. Conditions: none. -/
import Derived.Test.YtofgcpbdgokpjaaGreatPl1
namespace Go.GD
set_option autoImplicit false

section
variable {b : T_Base} {l m : List T_Argument}
structure FormC (b : T_Base) (l : List T_Argument) : Prop extends FormB b l where
  l41 : l.length ≤ 41
  pr : ∀ (i : Nat) a p, l[i]? = some a → 0 ≤ a.1 → idx b.1 a.1 = some p → a.2.2.2 = p.1 ∧ a.2.2.1 = []
  ru : ∀ (i : Nat) a r, l[i]? = some a → 0 ≤ a.2.1 → idx b.2.1 a.2.1 = some r → a.2.2.2 = r.2.2.2.2 ∧ a.2.2.1.length = r.2.2.2.1.length ∧ ∀ (j : Nat) k y, a.2.2.1[j]? = some k → r.2.2.2.1[j]? = some y → ∃ a', idx l k = some a' ∧ a'.2.2.2 = y
/-- an application of a rule to arguments of a list -/
structure Good (b : T_Base) (l : List T_Argument) (a : T_Argument) : Prop where
  p : a.1 = -1
  r : ∃ q, idx b.2.1 a.2.1 = some q ∧ a.2.2.2 = q.2.2.2.2 ∧ a.2.2.1.length = q.2.2.2.1.length ∧ a.2.2.1.length ≤ 100 ∧ ∀ (j : Nat) k y, a.2.2.1[j]? = some k → q.2.2.2.1[j]? = some y → ∃ a', idx l k = some a' ∧ a'.2.2.2 = y
theorem idx_lt {α : Type} {l : List α} {i : Int} {x : α} (h : idx l i = some x) : 0 ≤ i ∧ i < l.length := by
  obtain ⟨n, rfl, hn⟩ := idx_at h
  exact ⟨by omega, by have := at_lt hn; omega⟩
theorem idx_app {α : Type} {l m : List α} {i : Int} {x : α} (h : idx l i = some x) : idx (l ++ m) i = some x := by
  obtain ⟨n, rfl, hn⟩ := idx_at h
  rw [idx_nat, List.getElem?_append_left (at_lt hn)]
  exact hn
theorem idx_app_lt {α : Type} {l m : List α} {i : Int} (h1 : i < l.length) : idx (l ++ m) i = idx l i := by
  unfold idx
  split
  · rw [List.getElem?_append_left (by omega)]
  · rfl
theorem Good.sub {a : T_Argument} (h : Good b l a) : ∀ k ∈ a.2.2.1, 0 ≤ k ∧ k < l.length := by
  intro k hk
  obtain ⟨q, _, _, h3, _, h5⟩ := h.r
  obtain ⟨j, hj⟩ := List.mem_iff_getElem?.1 hk
  have hjl := at_lt hj
  obtain ⟨a', h6, _⟩ := h5 j k _ hj (List.getElem?_eq_getElem (by omega))
  exact idx_lt h6
theorem Good.more {a : T_Argument} (h : Good b l a) : Good b (l ++ m) a := by
  obtain ⟨q, h1, h2, h3, h4, h5⟩ := h.r
  exact ⟨h.p, q, h1, h2, h3, h4, fun j k y hk hy => by obtain ⟨a', h6, h7⟩ := h5 j k y hk hy; exact ⟨a', idx_app h6, h7⟩⟩
theorem FormC.app (h : FormC b l) (hm : ∀ a ∈ m, Good b l a) (hl : l.length + m.length ≤ 41) : FormC b (l ++ m) := by
  have hlen : (l ++ m).length ≤ 41 := by rw [List.length_append]; exact hl
  have key : ∀ (i : Nat) a, (l ++ m)[i]? = some a → (l[i]? = some a ∧ i < l.length) ∨ (l.length ≤ i ∧ a ∈ m) := fun i a ha => by
    by_cases hi : i < l.length
    · rw [List.getElem?_append_left hi] at ha; exact .inl ⟨ha, hi⟩
    · rw [List.getElem?_append_right (by omega)] at ha; exact .inr ⟨by omega, mem_at ha⟩
  refine ⟨⟨⟨by omega, fun a ha => ?_, fun i a ha k hk => ?_⟩, h.np, h.nr, fun i a ha => ?_⟩, hlen, fun i a p ha h0 hp => ?_, fun i a r ha h0 hr => ?_⟩
  · rcases List.mem_append.1 ha with ha | ha
    · exact h.nsub a ha
    · obtain ⟨q, _, _, _, h4, _⟩ := (hm a ha).r; exact h4
  · rcases key i a ha with ⟨h1, _⟩ | ⟨h1, h2⟩
    · exact h.sub i a h1 k hk
    · have := (hm a h2).sub k hk; omega
  · rcases key i a ha with ⟨h1, _⟩ | ⟨h1, h2⟩
    · exact h.kind i a h1
    · obtain ⟨q, h3, _⟩ := (hm a h2).r
      have := idx_lt h3
      exact .inr ⟨(hm a h2).p, this⟩
  · rcases key i a ha with ⟨h1, _⟩ | ⟨h1, h2⟩
    · exact h.pr i a p h1 h0 hp
    · rw [(hm a h2).p] at h0; omega
  · rcases key i a ha with ⟨h1, _⟩ | ⟨h1, h2⟩
    · obtain ⟨g1, g2, g3⟩ := h.ru i a r h1 h0 hr
      exact ⟨g1, g2, fun j k y hk hy => by obtain ⟨a', h6, h7⟩ := g3 j k y hk hy; exact ⟨a', idx_app h6, h7⟩⟩
    · obtain ⟨q, g1, g2, g3, _, g5⟩ := (hm a h2).r
      rw [hr] at g1
      cases g1
      exact ⟨g2, g3, fun j k y hk hy => by obtain ⟨a', h6, h7⟩ := g5 j k y hk hy; exact ⟨a', idx_app h6, h7⟩⟩
theorem sub_app (h : FormA l) {i j : Int} (h0 : 0 ≤ i) (h1 : i < l.length) : SubOf (l ++ m) i j ↔ SubOf l i j := by
  constructor
  · intro hs
    induction hs with
    | self i => exact .self i
    | step hi hk _ ih =>
      rw [idx_app_lt h1] at hi
      have := (h.at hi).2.2.2 _ hk
      exact .step hi hk (ih this.1 (by omega))
  · intro hs
    clear h0 h1
    induction hs with
    | self i => exact .self i
    | step hi hk _ ih => exact .step (idx_app hi) hk ih
theorem subs_app (h : FormA l) (h' : FormA (l ++ m)) {i : Int} (h0 : 0 ≤ i) (h1 : i < l.length) : subsS (l ++ m) i = subsS l i := by
  refine Asc.ext ord_ltI (subsS_asc _ i) (subsS_asc _ i) fun j => ?_
  rw [subsS_mem h h0 h1, subsS_mem h' h0 (by rw [List.length_append]; omega), sub_app h h0 h1]
theorem defs_app (h : FormC b l) (h' : FormC b (l ++ m)) {i : Int} (h0 : 0 ≤ i) (h1 : i < l.length) : defsS b (l ++ m) i = defsS b l i := by
  refine Asc.ext ord_ltI (nrm_asc _) (nrm_asc _) fun y => ?_
  rw [defsS_mem h.toFormB h0 h1, defsS_mem h'.toFormB h0 (by rw [List.length_append]; omega), subs_app h.toFormA h'.toFormA h0 h1]
  refine exists_congr fun j => and_congr_right fun hj => ?_
  have := ((subsS_mem h.toFormA h0 h1 j).1 hj).le h.toFormA h0
  rw [idx_app_lt (by omega)]
inductive RunOf (b : T_Base) (l : List T_Argument) : Int → T_Literal → Prop
  | here {i : Int} {a : T_Argument} : idx l i = some a → RunOf b l i a.2.2.2
  | step {i k : Int} {a : T_Argument} {r : T_Rule} {y : T_Literal} : idx l i = some a → 0 ≤ a.2.1 → idx b.2.1 a.2.1 = some r → r.2.1 = true → k ∈ a.2.2.1 → RunOf b l k y → RunOf b l i y
theorem run_app (h : FormA l) {i : Int} {y : T_Literal} (h0 : 0 ≤ i) (h1 : i < l.length) : RunOf b (l ++ m) i y ↔ RunOf b l i y := by
  constructor
  · intro hs
    induction hs with
    | here hi => rw [idx_app_lt h1] at hi; exact .here hi
    | step hi hr hq hs hk _ ih =>
      rw [idx_app_lt h1] at hi
      have := (h.at hi).2.2.2 _ hk
      exact .step hi hr hq hs hk (ih this.1 (by omega))
  · intro hs
    clear h0 h1
    induction hs with
    | here hi => exact .here (idx_app hi)
    | step hi hr hq hs hk _ ih => exact .step (idx_app hi) hr hq hs hk ih
/-- both texts' runs can be counted -/
structure RunsB (b : T_Base) (l : List T_Argument) : Prop where
  ref : ∀ i : Int, 0 ≤ i → i < l.length → ∃ r, m_ref07_Run b l i = some r ∧ r.length < 4294967296 ∧ ∀ y, y ∈ r ↔ RunOf b l i y
/-- a bound on the runs' lengths -/
structure RunSz (b : T_Base) (l : List T_Argument) (sz : Int → Nat) : Prop where
  one : ∀ i, 1 ≤ sz i
  big : ∀ i : Int, 0 ≤ i → i < l.length → sz i < 4294967296
  step : ∀ i a r, idx l i = some a → 0 ≤ a.2.1 → idx b.2.1 a.2.1 = some r → r.2.1 = true → 1 + (a.2.2.1.map sz).sum ≤ sz i
theorem sum_take_le (f : Int → Nat) (l : List Int) (q : Nat) : ((l.take q).map f).sum ≤ (l.map f).sum := by
  have h := congrArg (fun x => (x.map f).sum) (List.take_append_drop q l)
  simp only [List.map_append, List.sum_append] at h
  omega
theorem ref_Run_k {sz : Int → Nat} (h : FormB b l) (hz : RunSz b l sz) : ∀ (n : Nat) (i : Int), 0 ≤ i → i < l.length → i < n → ∃ r, k_ref07_Run n b l i = some r ∧ r.length ≤ sz i ∧ ∀ y, y ∈ r ↔ RunOf b l i y := by
  intro n
  induction n with
  | zero => intro i h0 _ h2; omega
  | succ n ih =>
    intro i h0 h1 h2
    obtain ⟨a, ha⟩ := idx_ok h0 h1
    obtain ⟨hn, _, _, hsub⟩ := h.toFormA.at ha
    have h1z := hz.one i
    show ∃ r, F_ref07_Run (k_ref07_Run n) b l i = some r ∧ _
    unfold F_ref07_Run
    simp only [ha, Option.bind_some]
    have hone : ∀ (hno : ∀ r, 0 ≤ a.2.1 → idx b.2.1 a.2.1 = some r → r.2.1 = false) y, y ∈ [a.2.2.2] ↔ RunOf b l i y := fun hno y => by
      rw [List.mem_singleton]
      constructor
      · rintro rfl; exact .here ha
      · intro hr
        cases hr with
        | here h1 => rw [ha] at h1; cases h1; rfl
        | step h1 h2 h3 h4 _ _ => rw [ha] at h1; cases h1; rw [hno _ h2 h3] at h4; cases h4
    by_cases hr : 0 ≤ a.2.1
    · obtain ⟨r, hr2⟩ := (h.prem ha).2.1 ((h.prem ha).2.2.1 hr)
      simp only [hr, decide_true, if_true, hr2, Option.bind_some]
      cases hs : r.2.1 with
      | false =>
        exact ⟨_, rfl, by simpa using h1z, hone fun r' _ h3 => by rw [hr2] at h3; cases h3; exact hs⟩
      | true =>
        simp only [if_true]
        have hst := hz.step i a r ha hr hr2 hs
        have hbig := hz.big i h0 h1
        refine (loop_forI (B := m_ref07_Run_L1 l i (k_ref07_Run n) b) (fun q (s : List T_Literal) => (s, (q : Int))) a.2.2.1 (fun q s => s.length ≤ 1 + ((a.2.2.1.take q).map sz).sum ∧ ∀ y, y ∈ s ↔ y = a.2.2.2 ∨ ∃ k ∈ a.2.2.1.take q, RunOf b l k y)
          (fun r => r.length ≤ sz i ∧ ∀ y, y ∈ r ↔ RunOf b l i y) (fun q k s hk hI => ?_) (fun s hI => ?_) [a.2.2.2] (by simp))
        · obtain ⟨g1, g2⟩ := hI
          have hks := hsub k (mem_at hk)
          obtain ⟨r1, e1, e2, e3⟩ := ih k hks.1 (by omega) (by omega)
          have hq := sum_take_le sz a.2.2.1 (q + 1)
          rw [take_suc hk, List.map_append, List.sum_append] at hq
          simp only [List.map_cons, List.map_nil, List.sum_cons, List.sum_nil] at hq
          refine .inl ⟨s ++ r1, ?_, ?_, fun y => ?_⟩
          · unfold m_ref07_Run_L1
            simp only [ha, Option.bind_some, at_dec hk, if_true, at_idx hk, e1]
            rw [app_ok (by omega)]
            simp only [Option.bind_some, at_suc hk (show a.2.2.1.length < 4294967296 by omega)]
          · rw [take_suc hk, List.map_append, List.sum_append, List.length_append]
            simp only [List.map_cons, List.map_nil, List.sum_cons, List.sum_nil]
            omega
          · rw [List.mem_append, g2, e3, take_suc hk]
            simp only [List.mem_append, List.mem_singleton, or_and_right, exists_or, exists_eq_left, or_assoc]
        · obtain ⟨g1, g2⟩ := hI
          rw [List.take_length] at g1 g2
          refine ⟨s, by unfold m_ref07_Run_L1; simp only [ha, Option.bind_some, end_dec, Bool.false_eq_true, if_false], by omega, fun y => ?_⟩
          rw [g2]
          constructor
          · rintro (rfl | ⟨k, h1, h2⟩)
            · exact .here ha
            · exact .step ha hr hr2 hs h1 h2
          · intro hrun
            cases hrun with
            | here h1 => rw [ha] at h1; cases h1; exact .inl rfl
            | step h1 _ _ _ h5 h6 => rw [ha] at h1; cases h1; exact .inr ⟨_, h5, h6⟩
    · simp only [hr, decide_false, Bool.false_eq_true, if_false, Option.bind_some]
      exact ⟨_, rfl, by simpa using h1z, hone fun r' h2 _ => absurd h2 hr⟩
theorem k_ref_Run_eq {n n' : Nat} (b : T_Base) (l : List T_Argument) : n ≤ n' → ∀ i r, k_ref07_Run n b l i = some r → k_ref07_Run n' b l i = some r := by
  intro hn i r h
  have key : ∀ n n', n ≤ n' → ∀ i r, k_ref07_Run n b l i = some r → k_ref07_Run n' b l i = some r := by
    intro n
    induction n with
    | zero => intro n' _ i r h; cases h
    | succ n ih =>
      intro n' hn i r h
      obtain ⟨n', rfl⟩ : ∃ q, n' = q + 1 := ⟨n' - 1, by omega⟩
      have hle : Le (F_ref07_Run (k_ref07_Run n) b l i) (F_ref07_Run (k_ref07_Run n') b l i) := by
        have hrec : ∀ x, Le (k_ref07_Run n b l x) (k_ref07_Run n' b l x) := fun x => ⟨fun r hr => ih n' (by omega) x r hr⟩
        unfold F_ref07_Run
        refine Le.bind (Le.refl _) fun x1 => Le.bind (Le.refl _) fun s1 => ?_
        refine Le.ite ?_ (Le.refl _)
        refine ⟨fun r hr => ?_⟩
        obtain ⟨q, hq⟩ := iter_of_loop hr
        refine (Le.lp (B := m_ref07_Run_L1 l i (k_ref07_Run n) b) (fun s => ?_) q _).el r hq
        unfold m_ref07_Run_L1
        refine Le.bind (Le.refl _) fun x5 => ?_
        refine Le.ite ?_ (Le.refl _)
        refine Le.bind (Le.refl _) fun x6 => Le.bind (Le.refl _) fun x7 => Le.bind (hrec _) fun r1 => Le.refl _
      exact hle.el r h
  exact key n n' hn i r h
theorem ref_Run {sz : Int → Nat} (h : FormB b l) (hz : RunSz b l sz) {i : Int} (h0 : 0 ≤ i) (h1 : i < l.length) : ∃ r, m_ref07_Run b l i = some r ∧ r.length < 4294967296 ∧ ∀ y, y ∈ r ↔ RunOf b l i y := by
  obtain ⟨r, e1, e2, e3⟩ := ref_Run_k h hz (i.toNat + 1) i h0 h1 (by omega)
  have := hz.big i h0 h1
  exact ⟨r, limM_of (i.toNat + 1) fun m hm => k_ref_Run_eq b l hm i r e1, by omega, e3⟩
theorem runsB {sz : Int → Nat} (h : FormB b l) (hz : RunSz b l sz) : RunsB b l :=
  ⟨fun i h0 h1 => ref_Run h hz h0 h1⟩
open Classical in
noncomputable def cutB (b : T_Base) (l : List T_Argument) (q : Int) (r : T_Rule) (k : Int) : Bool := if r.2.1 then decide (RunOf b l k r.2.2.2.2) else decide (q ∈ defsS b l k)
noncomputable def withinS (b : T_Base) (l : List T_Argument) (q : Int) (r : T_Rule) (subs : List Int) : Bool := !subs.any (cutB b l q r)
theorem within_app (h : FormC b l) (h' : FormC b (l ++ m)) {q : Int} {r : T_Rule} {subs : List Int} (hs : ∀ k ∈ subs, 0 ≤ k ∧ k < l.length) : withinS b (l ++ m) q r subs = withinS b l q r subs := by
  unfold withinS
  congr 1
  rw [Bool.eq_iff_iff, List.any_eq_true, List.any_eq_true]
  refine exists_congr fun k => and_congr_right fun hk => ?_
  have := hs k hk
  unfold cutB
  rw [defs_app h h' this.1 this.2]
  split
  · simp only [decide_eq_true_eq]; exact run_app h.toFormA this.1 this.2
  · exact Iff.rfl
theorem ref_in (m : List Int) (x : Int) (hb : m.length < 4294967296) : m_ref07_in m x = some (decide (x ∈ m)) := by
  have h := loop_any (B := m_ref07_in_L1 m x) m (fun y => y == x) (fun i y hy => by
    unfold m_ref07_in_L1
    simp only [at_dec hy, if_true, at_idx hy, Option.bind_some, at_suc hy hb]
    split <;> rfl) (by unfold m_ref07_in_L1; simp only [end_dec, Bool.false_eq_true, if_false])
  refine h.trans ?_
  congr 1
  rw [Bool.eq_iff_iff]
  simp
theorem ref_Within (h : FormC b l) (hr : RunsB b l) {q : Int} {r : T_Rule} {subs : List Int} (hq : idx b.2.1 q = some r) (hs : ∀ k ∈ subs, 0 ≤ k ∧ k < l.length) (hn : subs.length < 4294967296) : m_ref07_Within b l q subs = some (withinS b l q r subs) := by
  have hl := h.len
  unfold m_ref07_Within
  simp only [hq, Option.bind_some]
  have hL := loop_find (B := m_ref07_Within_L1 subs r b l q) subs (cutB b l q r) false true (fun i k hk => ?_) (by unfold m_ref07_Within_L1; simp only [end_dec, Bool.false_eq_true, if_false])
  · rw [hL]
    unfold withinS
    cases subs.any (cutB b l q r) <;> rfl
  · have hks := hs k (mem_at hk)
    unfold m_ref07_Within_L1
    simp only [at_dec hk, if_true, at_idx hk, Option.bind_some, at_suc hk hn]
    unfold cutB
    cases hst : r.2.1 with
    | true =>
      obtain ⟨ru, e1, e2, e3⟩ := hr.ref k hks.1 hks.2
      simp only [if_true, e1, Option.bind_some, ref_has r.2.2.2.2 (show ru.length < 9223372036854775807 by omega), Bool.not_true, Bool.false_eq_true, if_false]
      by_cases hm : RunOf b l k r.2.2.2.2
      · simp [(e3 _).2 hm, hm]
      · have : ¬ r.2.2.2.2 ∈ ru := fun hc => hm ((e3 _).1 hc)
        simp [this, hm]
    | false =>
      have hd := defsS_len b l k
      simp only [Bool.false_eq_true, if_false, Bool.not_false, if_true, ref_Defeasible h.toFormB hks.1 hks.2, Option.bind_some, ref_in (defsS b l k) q (by omega)]
      by_cases hm : q ∈ defsS b l k <;> simp [hm]
/-- all ways to go on with the literals ys, in the order of the indices -/
def chS (l : List T_Argument) (n : Nat) : List T_Literal → List Int → List (List Int)
  | [], sofar => [sofar]
  | y :: ys, sofar => (rng n).flatMap fun i => match idx l i with
    | some a => if a.2.2.2 == y then chS l n ys (sofar ++ [i]) else []
    | none => []
theorem chS_len (l : List T_Argument) (n : Nat) : ∀ (ys : List T_Literal) (sofar : List Int), (chS l n ys sofar).length ≤ n ^ ys.length
  | [], sofar => by simp [chS]
  | y :: ys, sofar => by
    have := flat_le (fun i => match idx l i with | some a => if a.2.2.2 == y then chS l n ys (sofar ++ [i]) else [] | none => []) (n ^ ys.length) (rng n) (fun i _ => by
      split
      · split
        · exact chS_len l n ys _
        · simp
      · simp)
    rw [rng_len] at this
    simp only [chS, List.length_cons, Nat.pow_succ]
    rw [Nat.mul_comm]; exact this
theorem chS_mem (l : List T_Argument) (n : Nat) : ∀ (ys : List T_Literal) (sofar s : List Int), s ∈ chS l n ys sofar ↔ ∃ t, s = sofar ++ t ∧ t.length = ys.length ∧ ∀ (j : Nat) k y, t[j]? = some k → ys[j]? = some y → 0 ≤ k ∧ k < n ∧ ∃ a, idx l k = some a ∧ a.2.2.2 = y
  | [], sofar, s => by
    simp only [chS, List.mem_singleton]
    constructor
    · rintro rfl; exact ⟨[], by simp, rfl, fun j k y h _ => by simp at h⟩
    · rintro ⟨t, rfl, h2, _⟩; have := List.eq_nil_of_length_eq_zero h2; subst this; simp
  | y :: ys, sofar, s => by
    simp only [chS, List.mem_flatMap, rng_mem]
    constructor
    · rintro ⟨i, hi, hs⟩
      split at hs
      · rename_i a ha
        split at hs
        · rename_i hc
          obtain ⟨t, h1, h2, h3⟩ := (chS_mem l n ys _ s).1 hs
          refine ⟨i :: t, by rw [h1]; simp, by simp [h2], fun j k z hk hz => ?_⟩
          cases j with
          | zero =>
            simp at hk hz
            subst hk hz
            exact ⟨hi.1, hi.2, a, ha, by simpa using hc⟩
          | succ j => exact h3 j k z (by simpa using hk) (by simpa using hz)
        · cases hs
      · cases hs
    · rintro ⟨t, h1, h2, h3⟩
      cases t with
      | nil => simp at h2
      | cons i t =>
        obtain ⟨i0, i1, a, ha, hay⟩ := h3 0 i y rfl rfl
        refine ⟨i, ⟨i0, i1⟩, ?_⟩
        simp only [ha]
        rw [if_pos (by simp [hay])]
        exact (chS_mem l n ys _ s).2 ⟨t, by rw [h1]; simp, by simpa using h2, fun j k z hk hz => h3 (j + 1) k z (by simpa using hk) (by simpa using hz)⟩
theorem ref_choices_k {k : Nat} (hl : l.length ≤ 100) {n : Nat} (hn : n ≤ l.length) (body : List T_Literal) (hb : body.length ≤ 4) : ∀ (ys : List T_Literal) (sofar : List Int), ys = body.drop sofar.length → sofar.length ≤ body.length → ys.length < k → k_ref07_choices_2 k l (n : Int) body sofar = some (chS l n ys sofar) := by
  induction k with
  | zero => intro ys _ _ _ h; omega
  | succ k ih =>
    intro ys sofar hys hle hk
    show F_ref07_choices_2 (k_ref07_choices_2 k) l n body sofar = _
    unfold F_ref07_choices_2
    have hyl : ys.length = body.length - sofar.length := by rw [hys, List.length_drop]
    cases ys with
    | nil =>
      have : (len sofar == len body) = true := by simp [len] at hyl ⊢; omega
      simp only [this, if_true]
      rw [app_ok (by simp; omega)]
      rfl
    | cons y ys =>
      have hlt : sofar.length < body.length := by simp at hyl; omega
      have : (len sofar == len body) = false := by rw [beq_eq_false_iff_ne]; simp [len]; omega
      simp only [this, Bool.false_eq_true, if_false]
      have hy : body[sofar.length]? = some y := by
        have := congrArg (·[0]?) hys
        simp only [List.getElem?_cons_zero, List.getElem?_drop, Nat.add_zero] at this
        exact this.symm
      have hys2 : ys = body.drop (sofar.length + 1) := by
        have := congrArg List.tail hys
        simpa [List.tail_drop] using this
      have hpow : n ^ ys.length ≤ 1000000 := by
        have h1 : ys.length ≤ 3 := by simp at hyl; omega
        calc n ^ ys.length ≤ 100 ^ ys.length := Nat.pow_le_pow_left (by omega) _
          _ ≤ 100 ^ 3 := Nat.pow_le_pow_right (by omega) h1
      refine (loop_flat (B := m_ref07_choices_2_L1 n l body sofar (k_ref07_choices_2 k)) (rng n) (fun i => match idx l i with | some a => if a.2.2.2 == y then chS l n ys (sofar ++ [i]) else [] | none => []) (fun s => s) 1000000 (fun i _ => by
        split
        · split
          · exact Nat.le_trans (chS_len l n ys _) hpow
          · simp
        · simp) [] (fun q i s hi hs => ?_) (fun s => ?_))
      · obtain ⟨rfl, hq⟩ := rng_at hi
        obtain ⟨a, ha⟩ := idx_ok (l := l) (show (0 : Int) ≤ q by omega) (by omega)
        have hd : decide ((q : Int) < (n : Int)) = true := by simp; omega
        have hw : w64 ((q : Int) + 1) = ((q + 1 : Nat) : Int) := w64_succ q (by omega)
        unfold m_ref07_choices_2_L1
        simp only [hd, if_true, ha, Option.bind_some, show idx body (len sofar) = some y from by rw [show len sofar = ((sofar.length : Nat) : Int) from rfl, idx_nat]; exact hy]
        cases hc : a.2.2.2 == y with
        | false => simp only [Bool.false_eq_true, if_false, List.append_nil, hw]
        | true =>
          simp only [if_true]
          rw [sub_pre (by simp [len]) (by simp [len])]
          simp only [Option.bind_some, len, Int.toNat_natCast, List.take_length]
          rw [app_ok (by simp; omega)]
          simp only [Option.bind_some]
          have hcl := Nat.le_trans (chS_len l n ys (sofar ++ [(q : Int)])) hpow
          rw [ih ys (sofar ++ [(q : Int)]) (by simpa using hys2) (by simp; omega) (by simp at hk; omega)]
          simp only [Option.bind_some]
          simp only [List.length_nil] at hs
          rw [app_ok (by omega)]
          simp only [Option.bind_some, hw]
      · unfold m_ref07_choices_2_L1
        have hd : decide (((rng n).length : Int) < (n : Int)) = false := by rw [rng_len]; simp
        simp only [hd, Bool.false_eq_true, if_false]
theorem ref_choices (hl : l.length ≤ 100) {n : Nat} (hn : n ≤ l.length) (body : List T_Literal) (hb : body.length ≤ 4) : m_ref07_choices_2 l (n : Int) body [] = some (chS l n body []) :=
  limM_of 5 fun k hk => ref_choices_k hl hn body hb body [] (by simp) (by simp) (by omega)
theorem chS_app {n : Nat} (hn : n ≤ l.length) : ∀ (ys : List T_Literal) (sofar : List Int), chS (l ++ m) n ys sofar = chS l n ys sofar
  | [], _ => rfl
  | y :: ys, sofar => by
    simp only [chS]
    have key : ∀ is : List Int, (∀ i ∈ is, 0 ≤ i ∧ i < n) → is.flatMap (fun i => match idx (l ++ m) i with | some a => if a.2.2.2 == y then chS (l ++ m) n ys (sofar ++ [i]) else [] | none => []) = is.flatMap (fun i => match idx l i with | some a => if a.2.2.2 == y then chS l n ys (sofar ++ [i]) else [] | none => []) := by
      intro is
      induction is with
      | nil => intro _; rfl
      | cons i is ih =>
        intro h
        have h1 := h i List.mem_cons_self
        rw [List.flatMap_cons, List.flatMap_cons, ih fun j hj => h j (List.mem_cons_of_mem _ hj), idx_app_lt (by omega)]
        congr 1
        split
        · split
          · exact chS_app hn ys _
          · rfl
        · rfl
    exact key _ fun i hi => rng_mem.1 hi
theorem recent_ref (subs : List Int) (f : Int) (h : subs.length < 4294967296) : m_ref07_recent subs f = some (subs.any fun k => decide (f ≤ k)) :=
  loop_any (B := m_ref07_recent_L1 subs f) subs (fun k => decide (f ≤ k)) (fun i k hk => by
    unfold m_ref07_recent_L1
    simp only [at_dec hk, if_true, at_idx hk, Option.bind_some, at_suc hk h]
    split <;> rfl) (by unfold m_ref07_recent_L1; simp only [end_dec, Bool.false_eq_true, if_false])
end
section
variable {b : T_Base} {l m : List T_Argument}
structure FormD (b : T_Base) (l : List T_Argument) : Prop extends FormC b l where
  cut : ∀ (i : Nat) a r, l[i]? = some a → 0 ≤ a.2.1 → idx b.2.1 a.2.1 = some r → withinS b l a.2.1 r a.2.2.1 = true
/-- a valid rule base with literals of a small stock -/
structure Small (b : T_Base) (D : List T_Literal) (c : Nat) : Prop where
  valid : ValidB b
  rule : ∀ r ∈ b.2.1, r.2.2.2.2 ∈ D ∧ r.2.2.2.1.length ≤ c
  sz : (c + 1) ^ D.length < 4294967296
theorem ruleE_len {r : T_Rule} (h : ruleE r = 0) : r.2.2.2.1.length ≤ 4 := by
  unfold ruleE at h
  split at h
  · cases h
  · omega
theorem Small.body {D : List T_Literal} {c : Nat} (h : Small b D c) {q : Int} {r : T_Rule} (hq : idx b.2.1 q = some r) : r.2.2.2.1.length ≤ 4 := by
  obtain ⟨n, rfl, hn⟩ := idx_at hq
  exact ruleE_len (h.valid.rule r (mem_at hn))
theorem FormC.ruI (h : FormC b l) {i : Int} {a : T_Argument} (ha : idx l i = some a) {r : T_Rule} (h0 : 0 ≤ a.2.1) (hr : idx b.2.1 a.2.1 = some r) : a.2.2.2 = r.2.2.2.2 ∧ a.2.2.1.length = r.2.2.2.1.length ∧ ∀ (j : Nat) k y, a.2.2.1[j]? = some k → r.2.2.2.1[j]? = some y → ∃ a', idx l k = some a' ∧ a'.2.2.2 = y := by
  obtain ⟨n, rfl, hn⟩ := idx_at ha
  exact h.ru n a r hn h0 hr
theorem FormD.cutI (h : FormD b l) {i : Int} {a : T_Argument} (ha : idx l i = some a) {r : T_Rule} (h0 : 0 ≤ a.2.1) (hr : idx b.2.1 a.2.1 = some r) : withinS b l a.2.1 r a.2.2.1 = true := by
  obtain ⟨n, rfl, hn⟩ := idx_at ha
  exact h.cut n a r hn h0 hr
theorem count_lt {α : Type} {p q : α → Bool} : ∀ (D : List α), (∀ x, p x = true → q x = true) → ∀ x ∈ D, q x = true → p x = false → (D.filter p).length < (D.filter q).length
  | [], _, x, hx, _, _ => by cases hx
  | d :: D, h, x, hx, h1, h2 => by
    have hle : (D.filter p).length ≤ (D.filter q).length := by
      rw [← List.countP_eq_length_filter, ← List.countP_eq_length_filter]
      exact List.countP_mono_left fun y _ => h y
    rcases List.mem_cons.1 hx with rfl | hx
    · rw [List.filter_cons_of_neg (by simp [h2]), List.filter_cons_of_pos h1, List.length_cons]
      omega
    · have ih := count_lt D h x hx h1 h2
      rw [List.filter_cons, List.filter_cons]
      cases hp : p d with
      | true => simp [h d hp]; omega
      | false => cases hq : q d <;> simp <;> omega
theorem sum_bound (f : Int → Nat) (c : Nat) : ∀ (l : List Int), (∀ k ∈ l, f k ≤ c) → (l.map f).sum ≤ l.length * c
  | [], _ => by simp
  | k :: l, h => by
    have h1 := h k List.mem_cons_self
    have h2 := sum_bound f c l fun j hj => h j (List.mem_cons_of_mem _ hj)
    simp only [List.map_cons, List.sum_cons, List.length_cons, Nat.add_mul, Nat.one_mul]
    omega
open Classical in
noncomputable def runN (b : T_Base) (l : List T_Argument) (D : List T_Literal) (i : Int) : Nat := (D.filter fun y => decide (RunOf b l i y)).length
open Classical in
theorem runSz {D : List T_Literal} {c : Nat} (hs : Small b D c) (h : FormD b l) : RunSz b l fun i => (c + 1) ^ runN b l D i := by
  refine ⟨fun i => Nat.pow_pos (by omega), fun i _ _ => ?_, fun i a r ha h0 hr hst => ?_⟩
  · refine Nat.lt_of_le_of_lt (Nat.pow_le_pow_right (by omega) ?_) hs.sz
    exact List.length_filter_le _ _
  · have hcut := h.cutI ha h0 hr
    obtain ⟨g1, g2, _⟩ := h.toFormC.ruI ha h0 hr
    obtain ⟨n, hn1, hn2⟩ := idx_at hr
    obtain ⟨hD, hc⟩ := hs.rule r (mem_at hn2)
    have hlt : ∀ k ∈ a.2.2.1, runN b l D k < runN b l D i := fun k hk => by
      refine count_lt D (fun y hy => ?_) r.2.2.2.2 hD ?_ ?_
      · exact decide_eq_true (RunOf.step ha h0 hr hst hk (of_decide_eq_true hy))
      · exact decide_eq_true (by have := RunOf.here (b := b) ha; rwa [g1] at this)
      · unfold withinS at hcut
        have hc2 : (a.2.2.1.any (cutB b l a.2.1 r)) = false := by simpa using hcut
        have := List.any_eq_false.1 hc2 k hk
        simpa [cutB, hst] using this
    cases hv : a.2.2.1 with
    | nil =>
      have := Nat.pow_pos (n := runN b l D i) (show 0 < c + 1 by omega)
      simp only [List.map_nil, List.sum_nil]
      omega
    | cons k ks =>
      rw [← hv]
      have hpos : 0 < runN b l D i := by have := hlt k (by rw [hv]; exact List.mem_cons_self); omega
      obtain ⟨u, hu⟩ : ∃ u, runN b l D i = u + 1 := ⟨runN b l D i - 1, by omega⟩
      have hsum := sum_bound (fun k => (c + 1) ^ runN b l D k) ((c + 1) ^ u) a.2.2.1 fun k hk => Nat.pow_le_pow_right (by omega) (by have := hlt k hk; omega)
      have h3 : a.2.2.1.length * (c + 1) ^ u ≤ c * (c + 1) ^ u := Nat.mul_le_mul_right _ (by rw [g2]; exact hc)
      have h4 : 0 < (c + 1) ^ u := Nat.pow_pos (by omega)
      rw [hu, Nat.pow_succ, Nat.mul_add, Nat.mul_one, Nat.mul_comm ((c + 1) ^ u) c]
      omega
theorem FormD.runs {D : List T_Literal} {c : Nat} (h : FormD b l) (hs : Small b D c) : RunsB b l := runsB h.toFormB (runSz hs h)
theorem FormD.app (h : FormD b l) (hm : ∀ a ∈ m, Good b l a ∧ ∀ r, idx b.2.1 a.2.1 = some r → withinS b l a.2.1 r a.2.2.1 = true) (hl : l.length + m.length ≤ 41) : FormD b (l ++ m) := by
  have h' := h.toFormC.app (fun a ha => (hm a ha).1) hl
  refine ⟨h', fun i a r ha h0 hr => ?_⟩
  by_cases hi : i < l.length
  · rw [List.getElem?_append_left hi] at ha
    rw [within_app h.toFormC h' fun k hk => by have := h.sub i a ha k hk; omega]
    exact h.cut i a r ha h0 hr
  · rw [List.getElem?_append_right (by omega)] at ha
    obtain ⟨g1, g2⟩ := hm a (mem_at ha)
    rw [within_app h.toFormC h' g1.sub]
    exact g2 r hr
def freshB (f : Int) (first : Bool) (s : List Int) : Bool := s.any (fun k => decide (f ≤ k)) || (first && s.isEmpty)
noncomputable def roundR (b : T_Base) (l : List T_Argument) (f : Int) (first : Bool) (q : Int) : List T_Argument :=
  match idx b.2.1 q with
  | some r => ((chS l l.length r.2.2.2.1 []).filter fun s => freshB f first s && withinS b l q r s).map fun s => (-1, q, s, r.2.2.2.2)
  | none => []
noncomputable def roundS (b : T_Base) (l : List T_Argument) (f : Int) (first : Bool) : List T_Argument := (rng b.2.1.length).flatMap (roundR b l f first)
/-- the list at the end, or nothing beyond the limit -/
noncomputable def buildF (b : T_Base) : Nat → List T_Argument → Int → Bool → Option (List T_Argument)
  | 0, _, _, _ => none
  | k + 1, l, f, first =>
    if 40 < (l ++ roundS b l f first).length then none
    else if roundS b l f first = [] then some l
    else buildF b k (l ++ roundS b l f first) l.length false
def premA (b : T_Base) : List T_Argument := b.1.mapIdx fun i p => ((i : Int), -1, [], p.1)
theorem roundS_mem {f : Int} {first : Bool} {a : T_Argument} : a ∈ roundS b l f first ↔ a.1 = -1 ∧ ∃ r, idx b.2.1 a.2.1 = some r ∧ a.2.2.2 = r.2.2.2.2 ∧ freshB f first a.2.2.1 = true ∧ withinS b l a.2.1 r a.2.2.1 = true ∧ a.2.2.1.length = r.2.2.2.1.length ∧ ∀ (j : Nat) k y, a.2.2.1[j]? = some k → r.2.2.2.1[j]? = some y → ∃ a', idx l k = some a' ∧ a'.2.2.2 = y := by
  unfold roundS roundR
  simp only [List.mem_flatMap, rng_mem]
  constructor
  · rintro ⟨q, hq, ha⟩
    cases hr : idx b.2.1 q with
    | none => rw [hr] at ha; cases ha
    | some r =>
      rw [hr] at ha
      obtain ⟨s, hs, rfl⟩ := List.mem_map.1 ha
      obtain ⟨hs1, hs2⟩ := List.mem_filter.1 hs
      rw [Bool.and_eq_true] at hs2
      obtain ⟨t, rfl, ht1, ht2⟩ := (chS_mem l l.length r.2.2.2.1 [] s).1 hs1
      exact ⟨rfl, r, hr, rfl, hs2.1, hs2.2, ht1, fun j k y hk hy => (ht2 j k y hk hy).2.2⟩
  · rintro ⟨h1, r, hr, h2, h3, h4, h5, h6⟩
    refine ⟨a.2.1, by have := idx_lt hr; omega, ?_⟩
    rw [hr]
    refine List.mem_map.2 ⟨a.2.2.1, List.mem_filter.2 ⟨(chS_mem l l.length r.2.2.2.1 [] _).2 ⟨a.2.2.1, rfl, h5, fun j k y hk hy => ?_⟩, by rw [h3, h4]; rfl⟩, ?_⟩
    · obtain ⟨a', e1, e2⟩ := h6 j k y hk hy
      have := idx_lt e1
      exact ⟨this.1, this.2, a', e1, e2⟩
    · rw [← h1, ← h2]
theorem round_good {D : List T_Literal} {c : Nat} (hs : Small b D c) {f : Int} {first : Bool} : ∀ a ∈ roundS b l f first, Good b l a ∧ ∀ r, idx b.2.1 a.2.1 = some r → withinS b l a.2.1 r a.2.2.1 = true := fun a ha => by
  obtain ⟨h1, r, hr, h2, h3, h4, h5, h6⟩ := roundS_mem.1 ha
  refine ⟨⟨h1, r, hr, h2, h5, ?_, h6⟩, fun r' hr' => ?_⟩
  · have := hs.body hr; omega
  · rw [hr] at hr'; cases hr'; exact h4
theorem FormD.round {D : List T_Literal} {c : Nat} (h : FormD b l) (hs : Small b D c) {f : Int} {first : Bool} (hl : (l ++ roundS b l f first).length ≤ 41) : FormD b (l ++ roundS b l f first) :=
  h.app (round_good hs) (by rw [List.length_append] at hl; exact hl)
theorem premA_len (b : T_Base) : (premA b).length = b.1.length := by simp [premA]
theorem premA_at {i : Nat} {a : T_Argument} (h : (premA b)[i]? = some a) : ∃ p, b.1[i]? = some p ∧ a = ((i : Int), -1, [], p.1) := by
  unfold premA at h
  rw [List.getElem?_mapIdx] at h
  cases hp : b.1[i]? with
  | none => rw [hp] at h; cases h
  | some p => rw [hp] at h; exact ⟨p, rfl, by cases h; rfl⟩
theorem premA_form (h : ValidB b) : FormD b (premA b) := by
  have hl := premA_len b
  have hn := h.np
  have hr := h.nr
  refine ⟨⟨⟨⟨by omega, fun a ha => ?_, fun i a ha => ?_⟩, by omega, by omega, fun i a ha => ?_⟩, by omega, fun i a p ha h0 hp => ?_, fun i a r ha h0 hr => ?_⟩, fun i a r ha h0 hr => ?_⟩
  · obtain ⟨i, hi⟩ := List.mem_iff_getElem?.1 ha
    obtain ⟨p, _, rfl⟩ := premA_at hi
    simp
  · obtain ⟨p, _, rfl⟩ := premA_at ha
    intro k hk
    cases hk
  · obtain ⟨p, h1, rfl⟩ := premA_at ha
    exact .inl ⟨rfl, at_lt h1, rfl⟩
  · obtain ⟨p', h1, rfl⟩ := premA_at ha
    rw [idx_nat, h1] at hp
    cases hp
    exact ⟨rfl, rfl⟩
  · obtain ⟨p', h1, rfl⟩ := premA_at ha
    exact absurd h0 (by simp)
  · obtain ⟨p', h1, rfl⟩ := premA_at ha
    exact absurd h0 (by simp)
theorem buildF_form {D : List T_Literal} {c : Nat} (hs : Small b D c) : ∀ (k : Nat) (l : List T_Argument) (f : Int) (first : Bool) (x : List T_Argument), FormD b l → l.length ≤ 40 → buildF b k l f first = some x → FormD b x ∧ x.length ≤ 40
  | 0, _, _, _, _, _, _, h => by cases h
  | k + 1, l, f, first, x, h, hl, hx => by
    unfold buildF at hx
    split at hx
    · cases hx
    · rename_i hlim
      split at hx
      · cases hx
        exact ⟨h, hl⟩
      · exact buildF_form hs k _ _ _ x (h.round hs (by omega)) (by omega) hx
theorem loop_lim {α β σ ρ : Type} {B : σ → Option (σ ⊕ ρ)} (xs : List α) (h : α → List β) (st : List β → Int → σ) (e : ρ) (fin : List β → ρ) (N : Nat) (acc : List β) (h0 : acc.length ≤ N)
    (hB : ∀ (q : Nat) x n, xs[q]? = some x → n = (xs.take q).flatMap h → (acc ++ n).length ≤ N → B (st (acc ++ n) q) = some (if N < (acc ++ (n ++ h x)).length then .inr e else .inl (st (acc ++ (n ++ h x)) ((q + 1 : Nat) : Int))))
    (hE : (acc ++ xs.flatMap h).length ≤ N → B (st (acc ++ xs.flatMap h) (xs.length : Int)) = some (.inr (fin (acc ++ xs.flatMap h)))) :
    loop B (st acc 0) = some (if N < (acc ++ xs.flatMap h).length then e else fin (acc ++ xs.flatMap h)) := by
  have key : ∀ (n i : Nat), i + n = xs.length → (acc ++ (xs.take i).flatMap h).length ≤ N → loop B (st (acc ++ (xs.take i).flatMap h) (i : Int)) = some (if N < (acc ++ xs.flatMap h).length then e else fin (acc ++ xs.flatMap h)) := by
    intro n
    induction n with
    | zero =>
      intro i hi hn
      rw [Nat.add_zero] at hi
      subst hi
      rw [List.take_length] at hn ⊢
      rw [loop_eq, hE hn, if_neg (by omega)]
    | succ n ih =>
      intro i hi hn
      have hx : xs[i]? = some xs[i] := List.getElem?_eq_getElem (by omega)
      have ht : (xs.take (i + 1)).flatMap h = (xs.take i).flatMap h ++ h xs[i] := by rw [take_suc hx, List.flatMap_append, List.flatMap_singleton]
      rw [loop_eq, hB i _ _ hx rfl hn, ← ht]
      by_cases hN : N < (acc ++ (xs.take (i + 1)).flatMap h).length
      · rw [if_pos hN]
        have : (acc ++ (xs.take (i + 1)).flatMap h).length ≤ (acc ++ xs.flatMap h).length := by
          conv => rhs; rw [← List.take_append_drop (i + 1) xs, List.flatMap_append]
          simp only [List.length_append]
          omega
        rw [if_pos (by omega)]
      · rw [if_neg hN]
        exact ih (i + 1) (by omega) (by omega)
  have := key xs.length 0 (by omega) (by simpa using h0)
  simpa using this
end
section
variable {b : T_Base} {l : List T_Argument} {D : List T_Literal} {c : Nat}
/-- the answer of Build for what buildF says -/
def ansB : Option (List T_Argument) → List T_Argument × Int
  | some x => (x, 0)
  | none => ([], 2)
theorem ref_Build_L1 (h : ValidB b) : loop (m_ref07_Build_L1 b) (([] : List T_Argument), 0) = some (premA b) := by
  have hn := h.np
  have := loop_flat (B := m_ref07_Build_L1 b) (premA b) (fun a => [a]) (fun s => s) 1 (fun _ _ => by simp) [] (fun i a s hi hs => by
    obtain ⟨p, hp, rfl⟩ := premA_at hi
    have hlt := at_lt hp
    unfold m_ref07_Build_L1
    simp only [at_dec hp, if_true, at_idx hp, Option.bind_some]
    rw [app_ok (by simp at hs ⊢; omega)]
    simp only [Option.bind_some, at_suc hp (by omega)]) (fun s => by
    unfold m_ref07_Build_L1
    rw [premA_len]
    simp only [end_dec, Bool.false_eq_true, if_false])
  rw [this]
  simp
/-- one rule -/
theorem ref_Build_L4 (hs : Small b D c) (h : FormD b l) (hl : l.length ≤ 40) {f : Int} {r : Nat} {q : Nat} (hq : q < b.2.1.length) (n : List T_Argument) (hn : (l ++ n).length ≤ 40) (hf : FormD b (l ++ n))
    {ru : T_Rule} (hr : idx b.2.1 (q : Int) = some ru) :
    loop (m_ref07_Build_L4 (chS l l.length ru.2.2.2.1 []) (l, f, (r : Int)) b (l ++ n, (q : Int))) (l ++ n, 0) =
      some (if 40 < (l ++ (n ++ roundR b l f (decide (r ≤ 1)) q)).length then .inr (.inr (([] : List T_Argument), 2)) else .inl (l ++ (n ++ roundR b l f (decide (r ≤ 1)) q), ((q + 1 : Nat) : Int))) := by
  have hb := hs.body hr
  have hcl : (chS l l.length ru.2.2.2.1 []).length < 4294967296 := by
    have h1 := chS_len l l.length ru.2.2.2.1 []
    have h2 : l.length ^ ru.2.2.2.1.length ≤ 100 ^ 4 := Nat.le_trans (Nat.pow_le_pow_left (by omega) _) (Nat.pow_le_pow_right (by omega) hb)
    have h3 : (100 : Nat) ^ 4 = 100000000 := rfl
    omega
  have hnr := hs.valid.nr
  have key := loop_lim (B := m_ref07_Build_L4 (chS l l.length ru.2.2.2.1 []) (l, f, (r : Int)) b (l ++ n, (q : Int))) (chS l l.length ru.2.2.2.1 [])
    (fun s => if freshB f (decide (r ≤ 1)) s && withinS b l q ru s then [((-1 : Int), (q : Int), s, ru.2.2.2.2)] else []) (fun s i => (s, i))
    (.inr (.inr (([] : List T_Argument), 2))) (fun s => .inl (s, ((q + 1 : Nat) : Int))) 40 (l ++ n) hn (fun i s acc hi hacc hlen => ?_) (fun _ => ?_)
  · rw [key]
    have : (chS l l.length ru.2.2.2.1 []).flatMap (fun s => if freshB f (decide (r ≤ 1)) s && withinS b l q ru s then [((-1 : Int), (q : Int), s, ru.2.2.2.2)] else []) = roundR b l f (decide (r ≤ 1)) q := by
      unfold roundR
      rw [hr]
      rw [← flat_filter]
      rw [← List.map_eq_flatMap]
    rw [this, List.append_assoc]
  · have hs1 := (chS_mem l l.length ru.2.2.2.1 [] s).1 (mem_at hi)
    obtain ⟨t, ht, htl, htm⟩ := hs1
    rw [List.nil_append] at ht
    subst ht
    have hsub : ∀ k ∈ s, 0 ≤ k ∧ k < l.length := fun k hk => by
      obtain ⟨j, hj⟩ := List.mem_iff_getElem?.1 hk
      have := at_lt hj
      have := htm j k _ hj (List.getElem?_eq_getElem (by omega))
      omega
    -- the list of now is a form
    have hnow : FormD b (l ++ n ++ acc) := by
      refine hf.app (fun a ha => ?_) (by rw [List.length_append] at hlen; omega)
      rw [hacc] at ha
      obtain ⟨s', hs', ha⟩ := List.mem_flatMap.1 ha
      split at ha
      · rename_i hc
        rw [Bool.and_eq_true] at hc
        simp only [List.mem_singleton] at ha
        subst ha
        obtain ⟨t, ht, htl, htm⟩ := (chS_mem l l.length ru.2.2.2.1 [] s').1 (List.mem_of_mem_take hs')
        rw [List.nil_append] at ht
        subst ht
        have hg : Good b l ((-1 : Int), (q : Int), s', ru.2.2.2.2) := ⟨rfl, ru, hr, rfl, htl, by simp only; omega, fun j k y hk hy => (htm j k y hk hy).2.2⟩
        refine ⟨hg.more, fun r' hr' => ?_⟩
        rw [hr] at hr'
        cases hr'
        rw [within_app h.toFormC hf.toFormC hg.sub]
        exact hc.2
      · cases ha
    have hw : m_ref07_Within b (l ++ n ++ acc) q s = some (withinS b l q ru s) := by
      rw [ref_Within hnow.toFormC (hnow.runs hs) hr (fun k hk => by have := hsub k hk; simp only [List.length_append]; omega) (by omega)]
      rw [List.append_assoc, within_app h.toFormC (by rw [← List.append_assoc]; exact hnow.toFormC) hsub]
    unfold m_ref07_Build_L4
    simp only [at_dec hi, if_true, at_idx hi, Option.bind_some, at_suc hi hcl]
    rw [recent_ref s f (by omega)]
    simp only [Option.bind_some, hw, hr]
    have hdec : (if (!s.any fun k => decide (f ≤ k)) = true then (if decide (1 < (r : Int)) = true then some true else if decide (0 < len s) = true then some true else some (!withinS b l q ru s)) else some (!withinS b l q ru s)) = some (!(freshB f (decide (r ≤ 1)) s && withinS b l q ru s)) := by
      unfold freshB
      cases ha : s.any fun k => decide (f ≤ k) with
      | true => simp
      | false =>
        by_cases h1 : r ≤ 1
        · have : ¬ (1 < (r : Int)) := by omega
          cases s with
          | nil => simp [this, h1, len]
          | cons k s => simp [this, h1, len]
        · have : 1 < (r : Int) := by omega
          simp [this, h1]
    rw [hdec]
    simp only [Option.bind_some]
    cases hc : freshB f (decide (r ≤ 1)) s && withinS b l q ru s with
    | false =>
      simp only [Bool.not_false, if_true, Bool.false_eq_true, if_false, List.append_nil]
      rw [if_neg (by omega)]
    | true =>
      simp only [Bool.not_true, Bool.false_eq_true, if_false, if_true]
      rw [app_ok (by simp only [List.length_singleton]; omega)]
      simp only [Option.bind_some, List.append_assoc, len]
      by_cases h40 : 40 < (l ++ (n ++ (acc ++ [((-1 : Int), (q : Int), s, ru.2.2.2.2)]))).length
      · rw [if_pos (by simpa using (by omega : (40 : Int) < ((l ++ (n ++ (acc ++ [((-1 : Int), (q : Int), s, ru.2.2.2.2)]))).length : Int))), if_pos h40]
      · rw [if_neg (by simpa using (by omega : ¬ (40 : Int) < ((l ++ (n ++ (acc ++ [((-1 : Int), (q : Int), s, ru.2.2.2.2)]))).length : Int))), if_neg h40]
  · unfold m_ref07_Build_L4
    simp only [end_dec, Bool.false_eq_true, if_false, w64_succ q (by omega)]
/-- one round -/
theorem ref_Build_L3 (hs : Small b D c) (h : FormD b l) (hl : l.length ≤ 40) {f : Int} {r : Nat} (hr : r < 1000) :
    loop (m_ref07_Build_L3 b (l, f, (r : Int))) (l, 0) =
      some (if 40 < (l ++ roundS b l f (decide (r ≤ 1))).length then .inr (([] : List T_Argument), 2) else .inl (l ++ roundS b l f (decide (r ≤ 1)), (l.length : Int), ((r + 1 : Nat) : Int))) := by
  have hnr := hs.valid.nr
  refine loop_lim (B := m_ref07_Build_L3 b (l, f, (r : Int))) (rng b.2.1.length) (roundR b l f (decide (r ≤ 1))) (fun s i => (s, i)) (.inr (([] : List T_Argument), 2)) (fun s => .inl (s, (l.length : Int), ((r + 1 : Nat) : Int))) 40 l hl (fun q x n hq hn hlen => ?_) (fun _ => ?_)
  · obtain ⟨rfl, hqn⟩ := rng_at hq
    obtain ⟨ru, hru⟩ := idx_ok (l := b.2.1) (j := (q : Int)) (by omega) (by omega)
    have hd : decide ((q : Int) < len b.2.1) = true := by simp [len]; omega
    have hf : FormD b (l ++ n) := by
      refine h.app (fun a ha => round_good hs a ?_ (f := f) (first := decide (r ≤ 1))) (by rw [List.length_append] at hlen; omega)
      rw [hn] at ha
      obtain ⟨q', hq', ha⟩ := List.mem_flatMap.1 ha
      exact List.mem_flatMap.2 ⟨q', List.mem_of_mem_take hq', ha⟩
    unfold m_ref07_Build_L3
    simp only [hd, if_true, hru, Option.bind_some]
    have hch := ref_choices (l := l ++ n) (n := l.length) (by omega) (by simp) ru.2.2.2.1 (hs.body hru)
    rw [show len l = ((l.length : Nat) : Int) from rfl, hch]
    simp only [Option.bind_some]
    rw [chS_app (Nat.le_refl _), ref_Build_L4 hs h hl hqn n hlen hf hru]
  · unfold m_ref07_Build_L3
    have hd : decide (((rng b.2.1.length).length : Int) < len b.2.1) = false := by rw [rng_len]; simp [len]
    simp only [hd, Bool.false_eq_true, if_false, w64_succ r (by omega)]
/-- all rounds -/
theorem ref_Build_L2 (hs : Small b D c) : ∀ (k : Nat) (l : List T_Argument) (f : Int) (r : Nat), FormD b l → l.length ≤ 40 → 41 ≤ l.length + k → r + k ≤ 900 → 1 ≤ r → (r = 1 ∨ f < l.length) →
    loop (m_ref07_Build_L2 b) (l, f, (r : Int)) = some (ansB (buildF b k l f (decide (r ≤ 1)))) := by
  intro k
  induction k with
  | zero => intros; omega
  | succ k ih =>
    intro l f r h hl hk hr h1 hgo
    have hc : (((r : Int) == 1) || decide (f < len l)) = true := by
      rw [Bool.or_eq_true]
      rcases hgo with rfl | hgo
      · exact .inl rfl
      · exact .inr (by simpa [len] using hgo)
    have hstep : m_ref07_Build_L2 b (l, f, (r : Int)) = some (if 40 < (l ++ roundS b l f (decide (r ≤ 1))).length then .inr (([] : List T_Argument), 2) else .inl (l ++ roundS b l f (decide (r ≤ 1)), (l.length : Int), ((r + 1 : Nat) : Int))) := by
      unfold m_ref07_Build_L2
      simp only [hc, if_true]
      exact ref_Build_L3 hs h hl (by omega)
    rw [loop_eq, hstep]
    unfold buildF
    by_cases hlim : 40 < (l ++ roundS b l f (decide (r ≤ 1))).length
    · simp only [if_pos hlim]
      rfl
    · simp only [if_neg hlim]
      by_cases hn : roundS b l f (decide (r ≤ 1)) = []
      · rw [if_pos hn, hn, List.append_nil]
        have hstep2 : m_ref07_Build_L2 b (l, (l.length : Int), ((r + 1 : Nat) : Int)) = some (.inr (l, 0)) := by
          unfold m_ref07_Build_L2
          have hc2 : ((((r + 1 : Nat) : Int) == 1) || decide ((l.length : Int) < len l)) = false := by
            rw [Bool.or_eq_false_iff]
            exact ⟨by simp only [beq_eq_false_iff_ne]; omega, by simp [len]⟩
          simp only [hc2, Bool.false_eq_true, if_false]
        rw [loop_eq, hstep2]
        rfl
      · rw [if_neg hn]
        have hpos : 0 < (roundS b l f (decide (r ≤ 1))).length := List.length_pos_iff.2 hn
        have := ih (l ++ roundS b l f (decide (r ≤ 1))) l.length (r + 1) (h.round hs (by omega)) (by omega) (by rw [List.length_append]; omega) (by omega) (by omega) (.inr (by rw [List.length_append]; omega))
        rw [show decide (r + 1 ≤ 1) = false from by simp; omega] at this
        exact this
theorem cnt_of_valid (h : ValidB b) : Cnt b := by
  have h1 := h.np
  have h2 := h.nr
  have h3 := h.nm
  exact ⟨by omega, by omega, by omega, fun r hr => by have := ruleE_len (h.rule r hr); omega⟩
noncomputable def buildS (b : T_Base) : Option (List T_Argument) := buildF b 50 (premA b) 0 true
theorem ref_Build (hs : Small b D c) : m_ref07_Build b = some (ansB (buildS b)) := by
  unfold m_ref07_Build
  rw [ref_Validate (cnt_of_valid hs.valid), validS_iff.2 hs.valid]
  simp only [Option.bind_some, bne_self_eq_false, Bool.false_eq_true, if_false]
  rw [ref_Build_L1 hs.valid]
  have hn := hs.valid.np
  exact ref_Build_L2 hs 50 (premA b) 0 1 (premA_form hs.valid) (by rw [premA_len]; omega) (by omega) (by omega) (by omega) (.inl rfl)
theorem ref_Build_bad (hc : Cnt b) (h : ¬ ValidB b) : m_ref07_Build b = some ([], validS b) := by
  unfold m_ref07_Build
  rw [ref_Validate hc]
  have : (validS b != 0) = true := by
    rw [bne_iff_ne]
    exact fun h' => h (validS_iff.1 h')
  simp only [Option.bind_some, this, if_true]
end
section
theorem keep_Lits {s : T_keep_Src} {m n : Int} (h : SrcOk s) (h0 : 0 ≤ m) (hm : m ≤ 1000000) (h1 : 1 ≤ n) (h2 : n ≤ 26) : ∃ (l : List T_Literal) (k : Int), m_keep_Src_Literals s m n = some (l, k) ∧ (l.length : Int) ≤ m ∧ (∀ x ∈ l, ∃ j : Nat, (j : Int) < n ∧ x.2 = atomN j) ∧ SrcOk (s.1, k) := by
  obtain ⟨v, k, hr, hv0, hv1, hk⟩ := keep_N (n := m + 1) h (by omega) (by omega)
  unfold m_keep_Src_Literals
  rw [w64_id (x := m + 1) (by omega) (by omega), hr]
  simp only [Option.bind_some]
  obtain ⟨r, h3, h4⟩ := loop_spec (B := m_keep_Src_Literals_L1 s n) (fun t => 0 ≤ t.2.1 ∧ (t.1.length : Int) + t.2.1 = v ∧ (∀ x ∈ t.1, ∃ j : Nat, (j : Int) < n ∧ x.2 = atomN j) ∧ SrcOk (s.1, t.2.2)) (fun t => t.2.1.toNat)
    (fun r => (r.1.length : Int) ≤ m ∧ (∀ x ∈ r.1, ∃ j : Nat, (j : Int) < n ∧ x.2 = atomN j) ∧ SrcOk (s.1, r.2)) (fun t ht => by
      obtain ⟨l, q, k⟩ := t
      obtain ⟨t1, t2, t3, t4⟩ := ht
      dsimp only at t1 t2 t3 t4
      unfold m_keep_Src_Literals_L1
      by_cases hq : 0 < q
      · obtain ⟨g, j, k', h5, hj, hk'⟩ := keep_Literal t4 h1 h2
        refine .inl ⟨(l ++ [(g, atomN j)], q - 1, k'), ?_, ⟨by show 0 ≤ q - 1; omega, by simp; omega, fun x hx => ?_, hk'⟩, by show (q - 1).toNat < q.toNat; omega⟩
        · simp only [hq, decide_true, if_true, h5, Option.bind_some]
          rw [app_ok (by simp; omega), w64_id (by omega) (by omega)]
          rfl
        · rcases List.mem_append.1 hx with hx | hx
          · exact t3 x hx
          · simp at hx; subst hx; exact ⟨j, hj, rfl⟩
      · refine .inr ⟨(l, k), by simp [hq], by dsimp only; omega, t3, t4⟩) (([] : List T_Literal), v, k) ⟨hv0, by simp, by simp, hk⟩
  obtain ⟨l, k'⟩ := r
  exact ⟨l, k', h3, h4.1, h4.2.1, h4.2.2⟩
theorem sorted_at (s : List T_Literal) (hs : s.length < 1000000) (x : T_Literal) (n : Int) : ∃ r, loop (m_keep_sorted_L2 (s, n) x) 0 = some r ∧ 0 ≤ r ∧ r ≤ s.length := by
  refine loop_spec (B := m_keep_sorted_L2 (s, n) x) (fun t => 0 ≤ t ∧ t ≤ s.length) (fun t => s.length - t.toNat) (fun r => 0 ≤ r ∧ r ≤ s.length) (fun t ht => ?_) 0 ⟨Int.le_refl _, by omega⟩
  unfold m_keep_sorted_L2
  by_cases hd : t < (s.length : Int)
  · obtain ⟨y, hy⟩ := idx_ok (l := s) ht.1 hd
    have hdec : decide (t < len s) = true := by simpa [len] using hd
    simp only [hdec, if_true, hy, Option.bind_some]
    have go : (∃ s' : Int, (some (.inl (w64 (t + 1))) : Option (Int ⊕ Int)) = some (.inl s') ∧ (0 ≤ s' ∧ s' ≤ s.length) ∧ s.length - s'.toNat < s.length - t.toNat) := ⟨t + 1, by rw [w64_id (by omega) (by omega)], by omega, by omega⟩
    cases sless y.2 x.2 <;> cases y.2 == x.2 <;> cases y.1 <;> cases x.1 <;> simp only [Bool.not_true, Bool.not_false, Bool.false_eq_true, if_false, if_true, Option.bind_some] <;> first | exact .inl go | exact .inr ⟨t, rfl, ht⟩
  · have hdec : decide (t < len s) = false := by simpa [len] using hd
    simp only [hdec, Bool.false_eq_true, if_false, Option.bind_some]
    exact .inr ⟨t, rfl, ht⟩
theorem keep_sorted_ok (l : List T_Literal) (hl : l.length ≤ 1000) : ∃ r, m_keep_sorted l = some r ∧ r.length ≤ l.length := by
  unfold m_keep_sorted
  refine loop_forI (B := m_keep_sorted_L1 l) (fun i s => (s, (i : Int))) l (fun i s => s.length ≤ i) (fun r => r.length ≤ l.length) (fun i x s hi hs => .inl ?_) (fun s hs => ⟨s, ?_, hs⟩) [] (by simp)
  · have hlt := at_lt hi
    unfold m_keep_sorted_L1
    obtain ⟨r, h1, h2, h3⟩ := sorted_at s (by omega) x i
    simp only [at_dec hi, if_true, at_idx hi, Option.bind_some, h1, at_suc hi (by omega)]
    have key : ∃ v : Bool, (if decide (r < len s) = true then (idx s r).bind fun x5 => some (x5 == x) else some false) = some v := by
      by_cases hd : r < (s.length : Int)
      · obtain ⟨y, hy⟩ := idx_ok (l := s) h2 hd
        have hdec : decide (r < len s) = true := by simpa [len] using hd
        exact ⟨y == x, by simp only [hdec, if_true, hy, Option.bind_some]⟩
      · have hdec : decide (r < len s) = false := by simpa [len] using hd
        exact ⟨false, by simp only [hdec, Bool.false_eq_true, if_false]⟩
    obtain ⟨v, hv⟩ := key
    rw [hv]
    simp only [Option.bind_some]
    cases v with
    | true => exact ⟨s, by simp only [if_true], by omega⟩
    | false =>
      simp only [Bool.false_eq_true, if_false]
      rw [app_ok (by simp; omega)]
      have hr1 : w64 (r + 1) = r + 1 := w64_id (by omega) (by omega)
      have hc1 : (decide (0 ≤ r + 1) && decide (r + 1 ≤ len (s ++ [((false, []) : T_Literal)]))) = true := by simp [len]; omega
      have hc2 : (decide (0 ≤ r) && decide (r ≤ len (s ++ [((false, []) : T_Literal)]))) = true := by simp [len]; omega
      obtain ⟨z, hz⟩ := idx_ok (l := copyAt (s ++ [((false, []) : T_Literal)]) (r + 1) (List.drop (Int.toNat r) (s ++ [((false, []) : T_Literal)]))) h2 (by rw [length_copyAt]; simp; omega)
      simp only [Option.bind_some, hr1, chk, hc1, hc2, if_true, hz]
      exact ⟨_, rfl, by rw [List.length_set, length_copyAt]; simp; omega⟩
  · unfold m_keep_sorted_L1
    simp only [end_dec, Bool.false_eq_true, if_false]
theorem keep_PickI {s : T_keep_Src} {l : List Int} (h : SrcOk s) (h0 : l ≠ []) (h1 : l.length ≤ 1000) : ∃ x k, m_keep_Src_Pick s l = some (x, k) ∧ x ∈ l ∧ SrcOk (s.1, k) := by
  have hp := List.length_pos_iff.2 h0
  obtain ⟨v, k, hr, h2, h3, hk⟩ := keep_N (n := len l) h (by simp [len]; omega) (by simp [len]; omega)
  obtain ⟨x, hx, hx2⟩ := idx_some h2 h3
  exact ⟨x, k, by simp [m_keep_Src_Pick, hr, hx], List.mem_of_getElem? hx2, hk⟩
theorem strOf_len1 (x : Int) : (strOf [x]).length ≤ 100 := by
  simp [strOf]
theorem keep_RuleName (n : Int) : ∃ x, m_keep_RuleName n = some x := by
  obtain ⟨v, hv, _, _⟩ := keep_Mod (x := n) (n := 26) (by omega) (by omega)
  unfold m_keep_RuleName
  rw [hv]
  simp only [Option.bind_some]
  rw [cat_ok (by have := strOf_len1 (IntKind.u8.wrap (w64 (97 + v))); simp only [List.length_singleton]; omega)]
  exact ⟨_, rfl⟩
theorem Base_L1 {s : T_keep_Src} {n : Int} (h1 : 1 ≤ n) (h2 : n ≤ 26) {v k : Int} (hv0 : 0 ≤ v) (hv1 : v ≤ 100) (hk : SrcOk (s.1, k)) : ∃ r, loop (m_keep_Src_Base_L1 s n) (v, k, []) = some r ∧ SrcOk (s.1, r.1) ∧ (r.2.length : Int) ≤ v := by
  refine loop_spec (B := m_keep_Src_Base_L1 s n) (fun t => 0 ≤ t.1 ∧ (t.2.2.length : Int) + t.1 ≤ v ∧ SrcOk (s.1, t.2.1)) (fun t => t.1.toNat) (fun r => SrcOk (s.1, r.1) ∧ (r.2.length : Int) ≤ v) (fun t ht => ?_) _ ⟨hv0, by simp, hk⟩
  obtain ⟨q, k, l⟩ := t
  obtain ⟨t1, t2, t3⟩ := ht
  dsimp only at t1 t2 t3
  unfold m_keep_Src_Base_L1
  by_cases hq : 0 < q
  · obtain ⟨g, j, k1, e1, _, hk1⟩ := keep_Literal t3 h1 h2
    obtain ⟨p, k2, e2, _, hk2⟩ := keep_PickI (l := [1, 2, 2, 2, 3]) hk1 (by simp) (by simp)
    obtain ⟨x, k3, e3, _, hk3⟩ := keep_Text (l := [[], [], [97, 110, 110], [98, 111, 98]]) hk2 (by simp) (by simp)
    obtain ⟨u, k4, e4, _, _, hk4⟩ := keep_N (n := 4) hk3 (by omega) (by omega)
    have hloop : ∃ r, loop (m_keep_Src_Base_L2 (q, k, l) ((g, atomN j), k1)) (false, 0) = some r := by
      obtain ⟨r, hr, _⟩ := loop_forI (B := m_keep_Src_Base_L2 (q, k, l) ((g, atomN j), k1)) (fun i s => (s, (i : Int))) l (fun _ _ => True) (fun _ => True) (fun i x s hi _ => .inl (by
        unfold m_keep_Src_Base_L2
        simp only [at_dec hi, if_true, at_idx hi, Option.bind_some, at_suc hi (by omega)]
        exact ⟨_, rfl, trivial⟩)) (fun s _ => by
        unfold m_keep_Src_Base_L2
        simp only [end_dec, Bool.false_eq_true, if_false]
        exact ⟨_, rfl, trivial⟩) false trivial
      exact ⟨r, hr⟩
    obtain ⟨r, hr⟩ := hloop
    dsimp only at e2 e3 e4 hk2 hk3 hk4
    have hq1 : w64 (q - 1) = q - 1 := w64_id (by omega) (by omega)
    have hmid : ∃ w z, (if (p == 2) = true then (m_keep_Src_N (s.1, k3) 4).bind fun r5 => some (r5.2, r5.1) else some (k3, 0) : Option (Int × Int)) = some (w, z) ∧ SrcOk (s.1, w) := by
      split
      · exact ⟨k4, u, by rw [e4]; rfl, hk4⟩
      · exact ⟨k3, 0, rfl, hk3⟩
    obtain ⟨w, z, hm, hw⟩ := hmid
    simp only [hq, decide_true, if_true, e1, Option.bind_some, e2, e3, hm, hr, hq1]
    cases r with
    | true => exact .inl ⟨_, rfl, ⟨by show 0 ≤ q - 1; omega, by show (l.length : Int) + (q - 1) ≤ v; omega, hw⟩, by show (q - 1).toNat < q.toNat; omega⟩
    | false =>
      simp only [Bool.not_false, if_true]
      rw [app_ok (by simp; omega)]
      exact .inl ⟨_, rfl, ⟨by show 0 ≤ q - 1; omega, by show ((l ++ [((g, atomN j), p, z, x)]).length : Int) + (q - 1) ≤ v; simp; omega, hw⟩, by show (q - 1).toNat < q.toNat; omega⟩
  · simp only [hq, decide_false, Bool.false_eq_true, if_false]
    exact .inr ⟨_, rfl, t3, by show (l.length : Int) ≤ v; omega⟩
theorem Base_L3 {s : T_keep_Src} {n m : Int} (h1 : 1 ≤ n) (h2 : n ≤ 26) (hm : 1 ≤ m) (hm2 : m ≤ 100) {v k : Int} (hv0 : 0 ≤ v) (hv1 : v ≤ 100) (hk : SrcOk (s.1, k)) : ∃ r, loop (m_keep_Src_Base_L3 s n m) (v, k, []) = some r ∧ SrcOk (s.1, r.1) ∧ (r.2.length : Int) ≤ v ∧ ∀ q ∈ r.2, q.2.2.2.1.length ≤ 2 := by
  refine loop_spec (B := m_keep_Src_Base_L3 s n m) (fun t => 0 ≤ t.1 ∧ (t.2.2.length : Int) + t.1 ≤ v ∧ SrcOk (s.1, t.2.1) ∧ ∀ q ∈ t.2.2, q.2.2.2.1.length ≤ 2) (fun t => t.1.toNat) (fun r => SrcOk (s.1, r.1) ∧ (r.2.length : Int) ≤ v ∧ ∀ q ∈ r.2, q.2.2.2.1.length ≤ 2) (fun t ht => ?_) _ ⟨hv0, by simp, hk, by simp⟩
  obtain ⟨q, k, l⟩ := t
  obtain ⟨t1, t2, t3, t4⟩ := ht
  dsimp only at t1 t2 t3 t4
  unfold m_keep_Src_Base_L3
  by_cases hq : 0 < q
  · obtain ⟨nm, e0⟩ := keep_RuleName (len l)
    obtain ⟨u, k1, e1, _, _, hk1⟩ := keep_N (n := 3) t3 (by omega) (by omega)
    obtain ⟨bd, k2, e2, hb2, _, hk2⟩ := keep_Lits (m := 2) hk1 (by omega) (by omega) h1 h2
    obtain ⟨bs, e3, hb3⟩ := keep_sorted_ok bd (by omega)
    obtain ⟨g, j, k3, e4, _, hk3⟩ := keep_Literal hk2 h1 h2
    obtain ⟨u5, k5, e5, _, _, hk5⟩ := keep_N (n := 4) hk3 (by omega) (by omega)
    dsimp only at e1 e2 e3 e4 e5 hk1 hk2 hk3 hk5
    have hmid : ∃ w z, (if (!(u == 0)) = true then (m_keep_Src_N (s.1, k3) 4).bind fun r12 => some (r12.2, r12.1) else some (k3, 0) : Option (Int × Int)) = some (w, z) ∧ SrcOk (s.1, w) := by
      split
      · exact ⟨k5, u5, by rw [e5]; rfl, hk5⟩
      · exact ⟨k3, 0, rfl, hk3⟩
    obtain ⟨w, z, hmm, hw⟩ := hmid
    obtain ⟨u6, k6, e6, _, _, hk6⟩ := keep_N (n := 6) hw (by omega) (by omega)
    obtain ⟨u7, k7, e7, _, _, hk7⟩ := keep_N (n := 4) hk6 (by omega) (by omega)
    obtain ⟨u8, k8, e8, _, _, hk8⟩ := keep_N (n := m) hk7 (by omega) (by omega)
    obtain ⟨nm2, e9⟩ := keep_RuleName u8
    dsimp only at e6 e7 e8 hk6 hk7 hk8
    have hend : ∃ w2 z2 y2, ((m_keep_Src_N (s.1, w) 6).bind fun r13 => if (r13.1 == 5) = true then (m_keep_Src_N (s.1, r13.2) 4).bind fun r14 => (m_keep_Src_N (s.1, r14.2) m).bind fun r15 => (m_keep_RuleName r15.1).bind fun r16 => some (r15.2, decide (0 < r14.1), r16) else some (r13.2, g, atomN j) : Option (Int × Bool × Str)) = some (w2, z2, y2) ∧ SrcOk (s.1, w2) := by
      rw [e6]
      simp only [Option.bind_some]
      split
      · exact ⟨k8, decide (0 < u7), nm2, by rw [e7]; simp only [Option.bind_some, e8, e9], hk8⟩
      · exact ⟨k6, g, atomN j, rfl, hk6⟩
    obtain ⟨w2, z2, y2, he, hw2⟩ := hend
    have hq1 : w64 (q - 1) = q - 1 := w64_id (by omega) (by omega)
    simp only [hq, decide_true, if_true, e0, e1, Option.bind_some, e2, e3, e4, hmm, he, hq1]
    rw [app_ok (by simp; omega)]
    refine .inl ⟨_, rfl, ⟨by show 0 ≤ q - 1; omega, by show ((l ++ [_]).length : Int) + (q - 1) ≤ v; simp; omega, hw2, fun r hr => ?_⟩, by show (q - 1).toNat < q.toNat; omega⟩
    rcases List.mem_append.1 hr with hr | hr
    · exact t4 r hr
    · simp only [List.mem_singleton] at hr
      subst hr
      show bs.length ≤ 2
      omega
  · simp only [hq, decide_false, Bool.false_eq_true, if_false]
    exact .inr ⟨_, rfl, t3, by show (l.length : Int) ≤ v; omega, t4⟩
theorem Base_L4 {s : T_keep_Src} {n : Int} (h1 : 1 ≤ n) (h2 : n ≤ 26) (o : Int) (rs : List T_Rule) (hrs : rs.length ≤ 100) {v k : Int} (hv0 : 0 ≤ v) (hv1 : v ≤ 100) (hk : SrcOk (s.1, k)) : ∃ r, loop (m_keep_Src_Base_L4 (o, rs) s n) (v, k, []) = some r ∧ SrcOk (s.1, r.1) ∧ (r.2.length : Int) ≤ v := by
  refine loop_spec (B := m_keep_Src_Base_L4 (o, rs) s n) (fun t => 0 ≤ t.1 ∧ (t.2.2.length : Int) + t.1 ≤ v ∧ SrcOk (s.1, t.2.1)) (fun t => t.1.toNat) (fun r => SrcOk (s.1, r.1) ∧ (r.2.length : Int) ≤ v) (fun t ht => ?_) _ ⟨hv0, by simp, hk⟩
  obtain ⟨q, k, l⟩ := t
  obtain ⟨t1, t2, t3⟩ := ht
  dsimp only at t1 t2 t3
  unfold m_keep_Src_Base_L4
  by_cases hq : 0 < q ∧ 0 < rs.length
  · have hc : (decide (0 < q) && decide (0 < len rs)) = true := by simp [len]; omega
    obtain ⟨u, k1, e1, hu0, hu1, hk1⟩ := keep_N (n := len rs) t3 (by simp [len]; omega) (by simp [len]; omega)
    obtain ⟨r, hr⟩ := idx_ok (l := rs) hu0 hu1
    obtain ⟨u2, k2, e2, _, _, hk2⟩ := keep_N (n := 10) hk1 (by omega) (by omega)
    obtain ⟨g, j, k3, e3, _, hk3⟩ := keep_Literal hk2 h1 h2
    dsimp only at e1 e2 e3 hk1 hk2 hk3
    have hq1 : w64 (q - 1) = q - 1 := w64_id (by omega) (by omega)
    simp only [hc, if_true, e1, Option.bind_some, hr, hq1]
    cases hst : r.2.1 with
    | true =>
      simp only [Bool.not_true, Bool.false_eq_true, if_false]
      exact .inl ⟨_, rfl, ⟨by show 0 ≤ q - 1; omega, by show (l.length : Int) + (q - 1) ≤ v; omega, hk1⟩, by show (q - 1).toNat < q.toNat; omega⟩
    | false =>
      simp only [Bool.not_false, if_true, e2, e3, Option.bind_some]
      rw [app_ok (by simp; omega)]
      exact .inl ⟨_, rfl, ⟨by show 0 ≤ q - 1; omega, by show ((l ++ [_]).length : Int) + (q - 1) ≤ v; simp; omega, hk3⟩, by show (q - 1).toNat < q.toNat; omega⟩
  · have hc : (decide (0 < q) && decide (0 < len rs)) = false := by
      rw [Bool.and_eq_false_iff]
      by_cases h : 0 < q
      · have h0 : ¬ 0 < rs.length := fun h3 => hq ⟨h, h3⟩
        exact .inr (decide_eq_false (by show ¬ (0 : Int) < (rs.length : Int); omega))
      · exact .inl (by simpa using h)
    simp only [hc, Bool.false_eq_true, if_false]
    exact .inr ⟨_, rfl, t3, by show (l.length : Int) ≤ v; omega⟩
/-- the sizes of a base that is drawn -/
structure Drawn (b : T_Base) (p q : Int) : Prop where
  np : (b.1.length : Int) ≤ p
  nr : (b.2.1.length : Int) ≤ q
  nm : b.2.2.length ≤ 2
  bd : ∀ r ∈ b.2.1, r.2.2.2.1.length ≤ 2
theorem keep_Base {s : T_keep_Src} (h : SrcOk s) {n p q : Int} (h1 : 1 ≤ n) (h2 : n ≤ 26) (hp : 0 ≤ p) (hp2 : p ≤ 100) (hq : 1 ≤ q) (hq2 : q ≤ 100) : ∃ b k, m_keep_Src_Base s n p q = some (b, k) ∧ SrcOk (s.1, k) ∧ Drawn b p q := by
  unfold m_keep_Src_Base
  obtain ⟨u1, k1, e1, a1, b1, hk1⟩ := keep_N (n := p + 1) h (by omega) (by omega)
  obtain ⟨⟨o1, ps⟩, e2, hk2, hl2⟩ := Base_L1 (s := s) h1 h2 a1 (by omega) hk1
  obtain ⟨u3, k3, e3, a3, b3, hk3⟩ := keep_N (n := q + 1) hk2 (by omega) (by omega)
  obtain ⟨⟨o4, rs⟩, e4, hk4, hl4, hb4⟩ := Base_L3 (s := s) h1 h2 hq hq2 a3 (by omega) hk3
  obtain ⟨u5, k5, e5, a5, b5, hk5⟩ := keep_N (n := 3) hk4 (by omega) (by omega)
  dsimp only at hl2 hl4 hb4
  obtain ⟨⟨o6, ms⟩, e6, hk6, hl6⟩ := Base_L4 (s := s) h1 h2 o4 rs (by omega) a5 (by omega) hk5
  dsimp only at e3 e5 hl6
  rw [w64_id (x := p + 1) (by omega) (by omega), w64_id (x := q + 1) (by omega) (by omega)]
  refine ⟨(ps, rs, ms), o6, ?_, hk6, by show (ps.length : Int) ≤ p; omega, by show (rs.length : Int) ≤ q; omega, by show ms.length ≤ 2; omega, hb4⟩
  simp only [e1, Option.bind_some, e2, e3, e4, e5, e6]
end
section
theorem att_awake : m_law09_awake = some true := (le_law09_awake 60).el true (by rfl)
theorem keep_Pick {s : T_keep_Src} {l : List Int} (h : SrcOk s) (h0 : l ≠ []) (h1 : l.length ≤ 1000) : ∃ x k, m_keep_Src_Pick s l = some (x, k) ∧ x ∈ l ∧ SrcOk (s.1, k) := by
  have hp := List.length_pos_iff.2 h0
  obtain ⟨v, k, hr, h2, h3, hk⟩ := keep_N (n := len l) h (by simp [len]; omega) (by simp [len]; omega)
  obtain ⟨x, hx, hx2⟩ := idx_some h2 h3
  exact ⟨x, k, by simp [m_keep_Src_Pick, hr, hx], List.mem_of_getElem? hx2, hk⟩
theorem graphS_len (n : Int) (l : List T_Attack) (hl : l.length ≤ 100) : (graphS n l).1.2.length < 4294967000 := by
  unfold graphS
  split
  · simp
  · split
    · simp
    · have := nrm_len lt2 (pairsOf l)
      have h2 : (pairsOf l).length = l.length := by simp [pairsOf]
      show (nrm lt2 (pairsOf l)).length < _
      omega
theorem graphs_L1 (l : List Int) (v k : Int) (h0 : 0 ≤ v) (h1 : v < 20) (hk : SrcOk (l, k)) :
    ∃ r, loop (m_law09_AttackGraphs_L1 (l, 0)) ([], v, k) = some r ∧ (r.1.length ≤ 20 ∧ SrcOk (l, r.2)) := by
  refine loop_nat (fun s => s.2.1.toNat) (fun s => 0 ≤ s.2.1 ∧ (s.1.length : Int) + s.2.1 ≤ 20 ∧ SrcOk (l, s.2.2)) _ (fun s hs => ?_) _ ⟨h0, by simp; omega, hk⟩
  obtain ⟨acc, v, k⟩ := s
  obtain ⟨a0, a1, a2⟩ := hs
  simp only at a0 a1 a2
  unfold m_law09_AttackGraphs_L1
  by_cases hv : 0 < v
  · obtain ⟨u1, k1, e1, _, _, s1⟩ := keep_N (n := 8) a2 (by omega) (by omega)
    obtain ⟨u2, k2, e2, _, _, s2⟩ := keep_N (n := 8) s1 (by omega) (by omega)
    obtain ⟨u3, k3, e3, _, _, s3⟩ := keep_N (n := 3) s2 (by omega) (by omega)
    obtain ⟨u4, k4, e4, _, _, s4⟩ := keep_N (n := 3) s3 (by omega) (by omega)
    simp only at e2 e3 e4
    refine .inl ⟨(acc ++ [(u1, u2, u3, w64 (1 + u4))], v - 1, k4), ?_, ⟨by show 0 ≤ v - 1; omega, by simp; omega, s4⟩, by show (v - 1).toNat < v.toNat; omega⟩
    simp only [hv, decide_true, if_true, e1, e2, e3, e4, Option.bind_some]
    rw [app_ok (by simp; omega), w64_id (x := v - 1) (by omega) (by omega)]
    rfl
  · exact .inr ⟨(acc, k), by simp [hv], by simp only; omega, a2⟩
theorem p_law09_AttackGraphs (y0 : Int) (y1 : List T_Attack) (y2 : List Int) (_w0 : wInt .i64 y0) (_w1 : wList (wProd (wInt .i64) (wProd (wInt .i64) (wProd (wInt .i64) (wInt .i64)))) y1) (_w2 : wList (wInt .i64) y2) : m_law09_AttackGraphs y0 y1 y2 = some true := by
  unfold m_law09_AttackGraphs
  by_cases hbig : decide (60 < len y1) = true
  · rw [if_pos hbig]
  rw [if_neg hbig, keep_New]
  simp only [decide_eq_true_eq, len] at hbig
  simp only [Option.bind_some]
  obtain ⟨v, k, hN, v0, v1, hk⟩ := keep_N (srcOk_New y2) (n := 20) (by omega) (by omega)
  rw [hN]
  simp only [Option.bind_some]
  obtain ⟨⟨good, src⟩, hL1, hgood, hsrc⟩ := graphs_L1 _ v k v0 v1 hk
  rw [hL1]
  simp only [Option.bind_some]
  have hL2 : ∃ r, loop (m_law09_AttackGraphs_L2 y1 (good, src) (y2.take 2000, 0) y0) (0, src) = some r ∧ r = .inl () := by
    refine loop_forI (B := m_law09_AttackGraphs_L2 y1 (good, src) (y2.take 2000, 0) y0) (fun i (s : Int) => ((i : Int), s)) [y1, good] (fun _ s => SrcOk (y2.take 2000, s)) (fun r => r = .inl ()) (fun i x s hx hI => ?_) (fun s hI => ?_) src hsrc
    · have hi := (List.getElem?_eq_some_iff.1 hx).1
      have hxl : x.length ≤ 100 := by
        have hm := List.mem_of_getElem? hx
        simp only [List.mem_cons, List.not_mem_nil, or_false] at hm
        rcases hm with rfl | rfl
        · omega
        · simp only at hgood; omega
      obtain ⟨u1, k1, e1, _, _, s1⟩ := keep_N (n := 9) hI (by omega) (by omega)
      obtain ⟨u2, k2, e2, _, s2⟩ := keep_Pick (l := [(-1), 40, 41]) s1 (by simp) (by simp)
      simp only at e2
      refine .inl ⟨k2, ?_, s2⟩
      unfold m_law09_AttackGraphs_L2
      have hlt : decide ((i : Int) < len [y1, good]) = true := by simp [len] at hi ⊢; omega
      simp only [hlt, if_true, idx_nat, hx, Option.bind_some, e1, e2]
      have hi2 : i < 2 := hi
      refine loop_for (l := [y0, 8, u1, u2]) (fun j z hz => ?_) ?_
      · have hj := (List.getElem?_eq_some_iff.1 hz).1
        unfold m_law09_AttackGraphs_L3
        have hlt : decide ((j : Int) < len [y0, 8, u1, u2]) = true := by simp [len] at hj ⊢; omega
        simp only [hlt, if_true, idx_nat, hz, Option.bind_some, attack_Graph z x (by omega), ref_Graph z x (by omega), bne_self_eq_false, Bool.false_eq_true, if_false, ref_SameGraph _ (graphS_len z x hxl), Bool.not_true]
        simp at hj
        rw [w64_succ j (by omega)]
      · unfold m_law09_AttackGraphs_L3
        simp [len, w64_succ i (by omega)]
    · refine ⟨.inl (), ?_, rfl⟩
      unfold m_law09_AttackGraphs_L2
      simp [len]
  obtain ⟨r, hr, rfl⟩ := hL2
  simp only [hr, seqE, Option.bind_some, att_awake]
end
section
variable {b : T_Base} {l : List T_Argument}
theorem small_of (h : ValidB b) (hr : b.2.1.length ≤ 12) : Small b (b.2.1.map fun r => r.2.2.2.2) 4 := by
  refine ⟨h, fun r hr => ⟨List.mem_map.2 ⟨r, hr, rfl⟩, ruleE_len (h.rule r hr)⟩, ?_⟩
  rw [List.length_map]
  calc (4 + 1) ^ b.2.1.length ≤ 5 ^ 12 := Nat.pow_le_pow_right (by omega) hr
    _ < 4294967296 := by decide
/-- what Build answers -/
theorem ref_Build_all (hc : Cnt b) (hr : b.2.1.length ≤ 12) : ∃ x e, m_ref07_Build b = some (x, e) ∧ (x = [] ∨ ValidB b ∧ e = 0 ∧ buildS b = some x) := by
  by_cases h : ValidB b
  · rw [ref_Build (small_of h hr)]
    cases hb : buildS b with
    | none => exact ⟨_, _, rfl, .inl rfl⟩
    | some x => exact ⟨_, _, rfl, .inr ⟨h, rfl, rfl⟩⟩
  · rw [ref_Build_bad hc h]
    exact ⟨_, _, rfl, .inl rfl⟩
theorem buildS_form (h : ValidB b) (hr : b.2.1.length ≤ 12) {x : List T_Argument} (hx : buildS b = some x) : FormD b x ∧ x.length ≤ 40 :=
  buildF_form (small_of h hr) 50 (premA b) 0 true x (premA_form h) (by rw [premA_len]; have := h.np; omega) hx
theorem FormC.nil (hp : b.1.length ≤ 100) (hr : b.2.1.length ≤ 100) : FormC b [] :=
  ⟨⟨⟨by simp, by simp, by simp⟩, hp, hr, by simp⟩, by simp, by simp, by simp⟩
def Got (b : T_Base) (x : List T_Argument) (e : Int) : Prop := x = [] ∨ ValidB b ∧ e = 0 ∧ buildS b = some x
theorem Got.form {x : List T_Argument} {e : Int} (h : Got b x e) (hp : b.1.length ≤ 100) (hr : b.2.1.length ≤ 12) : FormC b x ∧ (x = [] ∨ ValidB b ∧ FormD b x ∧ x.length ≤ 40) := by
  rcases h with rfl | ⟨h1, _, h3⟩
  · exact ⟨FormC.nil hp (by omega), .inl rfl⟩
  · have := buildS_form h1 hr h3
    exact ⟨this.1.toFormC, .inr ⟨h1, this⟩⟩
theorem norules {x : List T_Argument} (h : FormC b x) (hr : b.2.1 = []) : x.length ≤ b.1.length := by
  by_cases hx : x.length = 0
  · omega
  · have hg : x[x.length - 1]? = some x[x.length - 1] := List.getElem?_eq_getElem (by omega)
    rcases h.kind _ _ hg with ⟨_, h2, _⟩ | ⟨_, h2, h3⟩
    · omega
    · rw [hr] at h3
      simp at h3
      omega
theorem law09_built {s : T_keep_Src} (h : SrcOk s) : ∃ b x k, m_law09_built s = some (b, x, k) ∧ FormC b x ∧ (x = [] ∨ ValidB b ∧ FormD b x ∧ x.length ≤ 40) := by
  obtain ⟨b, k, e1, hk, hd⟩ := keep_Base h (n := 3) (p := 5) (q := 7) (by omega) (by omega) (by omega) (by omega) (by omega) (by omega)
  obtain ⟨d1, d2, d3, d4⟩ := hd
  unfold m_law09_built
  rw [e1]
  simp only [Option.bind_some]
  have hcnt : ∀ (rs : List T_Rule) (ms : List T_Promotion), rs.length ≤ 7 → ms.length ≤ 2 → (∀ r ∈ rs, r.2.2.2.1.length ≤ 2) → Cnt (b.1, rs, ms) := fun rs ms h1 h2 h3 => ⟨by show b.1.length < _; omega, by show rs.length < _; omega, by show ms.length < _; omega, fun r hr => by have := h3 r hr; omega⟩
  obtain ⟨x, e, e2, hg⟩ := ref_Build_all (hcnt b.2.1 b.2.2 (by omega) d3 d4) (by show b.2.1.length ≤ 12; omega)
  rw [show (b.1, b.2.1, b.2.2) = b from rfl] at e2 hg
  rw [e2]
  simp only [Option.bind_some]
  obtain ⟨⟨x', rs, ms⟩, h3, h4, h5⟩ := loop_spec (B := m_law09_built_L1 (b, k))
    (fun t => Got (b.1, t.2.2.1, t.2.2.2) t.1 t.2.1 ∧ t.2.2.1.length ≤ 7 ∧ t.2.2.2.length ≤ 2 ∧ ∀ r ∈ t.2.2.1, r.2.2.2.1.length ≤ 2) (fun t => t.2.2.1.length)
    (fun r => r.2.1.length ≤ 7 ∧ ∃ e, Got (b.1, r.2.1, r.2.2) r.1 e) (fun t ht => by
      obtain ⟨x, e, rs, ms⟩ := t
      obtain ⟨t1, t2, t3, t4⟩ := ht
      dsimp only at t1 t2 t3 t4
      unfold m_law09_built_L1
      dsimp only
      cases hc : (e != 0) || decide (24 < len x) with
      | false =>
        simp only [Bool.false_eq_true, if_false]
        exact .inr ⟨_, rfl, t2, e, t1⟩
      | true =>
        simp only [if_true]
        cases rs with
        | nil =>
          have : x = [] := by
            rcases t1 with rfl | ⟨g1, g2, g3⟩
            · rfl
            · have hf := buildS_form g1 (by simp) g3
              have := norules hf.1.toFormC rfl
              subst g2
              simp [len] at hc
              dsimp only at this
              omega
          subst this
          exact .inr ⟨([], [], []), rfl, by simp, 0, .inl rfl⟩
        | cons r rs =>
          simp only [List.length_cons] at t2
          have hl : ((len (r :: rs)) == 0) = false := by simp [len]; omega
          have hw : w64 ((len (r :: rs)) - 1) = (rs.length : Int) := by
            rw [show len (r :: rs) - 1 = (rs.length : Int) by simp [len], w64_id (by omega) (by omega)]
          simp only [hl, Bool.false_eq_true, if_false, hw]
          rw [sub_pre (by omega) (by simp; omega)]
          simp only [Option.bind_some, Int.toNat_natCast]
          have hb : ∀ q ∈ (r :: rs).take rs.length, q.2.2.2.1.length ≤ 2 := fun q hq => t4 q (List.mem_of_mem_take hq)
          have hlen : ((r :: rs).take rs.length).length = rs.length := by simp
          obtain ⟨y, e', e3, g⟩ := ref_Build_all (hcnt ((r :: rs).take rs.length) [] (by omega) (by simp) hb) (by show ((r :: rs).take rs.length).length ≤ 12; omega)
          rw [e3]
          simp only [Option.bind_some]
          exact .inl ⟨_, rfl, ⟨g, by show ((r :: rs).take rs.length).length ≤ 7; omega, by simp, hb⟩, by show ((r :: rs).take rs.length).length < (r :: rs).length; rw [hlen]; simp⟩) (x, e, b.2.1, b.2.2) ⟨hg, by show b.2.1.length ≤ 7; omega, d3, d4⟩
  obtain ⟨e', h5⟩ := h5
  dsimp only at h4 h5
  obtain ⟨f1, f2⟩ := h5.form (by show b.1.length ≤ 100; omega) (by show rs.length ≤ 12; omega)
  exact ⟨_, _, _, by rw [h3]; rfl, f1, f2⟩
theorem ref09_Same (m : List T_Attack) (hb : m.length < 4294967296) : m_ref09_Same m m = some true := by
  unfold m_ref09_Same
  simp only [bne_self_eq_false, Bool.false_eq_true, if_false]
  exact loop_for (l := m) (fun j z hz => by
    unfold m_ref09_Same_L1
    simp only [at_dec hz, if_true, at_idx hz, Option.bind_some, beq_self_eq_true, Bool.not_true, Bool.false_eq_true, if_false, at_suc hz hb]) (by
    unfold m_ref09_Same_L1
    simp only [end_dec, Bool.false_eq_true, if_false])
theorem law09_has (m : List T_Attack) (i k c : Int) (hb : m.length < 4294967296) : m_law09_has m i k c = some (m.any fun y => y.1 == i && (y.2.1 == k && y.2.2.1 == c)) :=
  loop_any (B := m_law09_has_L1 m i k c) m _ (fun j y hy => by
    unfold m_law09_has_L1
    simp only [at_dec hy, if_true, at_idx hy, Option.bind_some, at_suc hy hb]
    cases y.1 == i <;> cases y.2.1 == k <;> cases y.2.2.1 == c <;> rfl) (by
    unfold m_law09_has_L1
    simp only [end_dec, Bool.false_eq_true, if_false])
theorem defs_len (h : l.length ≤ 100) (o : T_Ordering) : (defeatsS b l o).length ≤ 3000000 := Nat.le_trans (List.length_filter_le _ _) (attsS_len h)
theorem p_AttackFinds (hw : m_law09_awake = some true) (y0 : List Int) (y1 : T_Ordering) : m_law09_AttackFinds y0 y1 = some true := by
  unfold m_law09_AttackFinds
  rw [keep_New]
  obtain ⟨b, x, k, hb, hf, _⟩ := law09_built (srcOk_New y0)
  have hl := hf.len
  have ha := attsS_len (b := b) hl
  simp only [Option.bind_some, hb, att_Attacks hf.toFormB, ref_Attacks hf.toFormB, ref09_Same _ (show (attsS b x).length < 4294967296 by omega), Bool.not_true, Bool.false_eq_true, if_false, m_keep_Orderings]
  rw [app_ok (by simp)]
  simp only [Option.bind_some]
  have hloop : loop (m_law09_AttackFinds_L1 ([(1, 1), (1, 2), (2, 1), (2, 2), y1], 5, 0) (b, x, k)) 0 = some (.inl ()) :=
    loop_for (l := [(1, 1), (1, 2), (2, 1), (2, 2), y1]) (fun j z hz => by
      have hj := at_lt hz
      have hd := defs_len (b := b) hl z
      unfold m_law09_AttackFinds_L1
      have hlt : decide ((j : Int) < 5) = true := by simp at hj ⊢; omega
      simp only [hlt, if_true, at_idx hz, Option.bind_some, att_Defeats hf.toFormB, ref_Defeats hf.toFormB, ref09_Same _ (show (defeatsS b x z).length < 4294967296 by omega), Bool.not_true, Bool.false_eq_true, if_false, at_suc hz (by simp)]) (by
      unfold m_law09_AttackFinds_L1
      rfl)
  have hrun : loop (m_law09_AttackFinds_L1 (([(1, 1), (1, 2), (2, 1), (2, 2)] : List T_Ordering) ++ [y1], len (([(1, 1), (1, 2), (2, 1), (2, 2)] : List T_Ordering) ++ [y1]), 0) (b, x, k)) 0 = some (.inl ()) := hloop
  rw [hrun]
  simp only [seqE, Option.bind_some, hw]
def ords : List T_Ordering := [(1, 1), (1, 2), (2, 1), (2, 2)]
theorem keep_Orderings : m_keep_Orderings = some ords := rfl
theorem any_hit {m : List T_Attack} {i k c : Int} : (m.any fun y => y.1 == i && (y.2.1 == k && y.2.2.1 == c)) = true ↔ ∃ kd, (i, k, c, kd) ∈ m := by
  rw [List.any_eq_true]
  constructor
  · rintro ⟨⟨i', k', c', kd⟩, h1, h2⟩
    simp only [Bool.and_eq_true, beq_iff_eq] at h2
    obtain ⟨rfl, rfl, rfl⟩ := h2
    exact ⟨kd, h1⟩
  · rintro ⟨kd, h⟩
    exact ⟨_, h, by simp⟩
theorem self_sub (h : FormA l) {c : Int} (h0 : 0 ≤ c) (h1 : c < l.length) : c ∈ subsS l c := (subsS_mem h h0 h1 c).2 (.self c)
/-- whoever attacks a subargument attacks the whole there -/
theorem att_whole (h : FormB b l) {i k c kd : Int} (k0 : 0 ≤ k) (k1 : k < l.length) (hc : c ∈ subsS l k) : (i, c, c, kd) ∈ attsS b l ↔ (i, k, c, kd) ∈ attsS b l := by
  have hr := subs_rng hc
  rw [attsS_mem, attsS_mem]
  constructor
  · rintro ⟨h1, _, _, h4⟩
    exact ⟨h1, ⟨k0, k1⟩, hc, h4⟩
  · rintro ⟨h1, _, _, h4⟩
    exact ⟨h1, hr, self_sub h.toFormA hr.1 hr.2, h4⟩
theorem def_whole (h : FormB b l) {i k c kd : Int} (o : T_Ordering) (k0 : 0 ≤ k) (k1 : k < l.length) (hc : c ∈ subsS l k) : (i, c, c, kd) ∈ defeatsS b l o ↔ (i, k, c, kd) ∈ defeatsS b l o := by
  unfold defeatsS
  rw [List.mem_filter, List.mem_filter, att_whole h k0 k1 hc]
  exact Iff.rfl
theorem p_AttackWhole (hw : m_law09_awake = some true) (y0 : List Int) : m_law09_AttackWhole y0 = some true := by
  unfold m_law09_AttackWhole
  rw [keep_New]
  obtain ⟨b, x, k, hb, hf, _⟩ := law09_built (srcOk_New y0)
  have hl := hf.len
  have ha := attsS_len (b := b) hl
  simp only [Option.bind_some, hb, att_Attacks hf.toFormB, keep_Orderings]
  have hloop : loop (m_law09_AttackWhole_L1 ords (b, x, k) (attsS b x)) 0 = some (.inl ()) :=
    loop_for (l := ords) (fun j o hj => by
      have hd := defs_len (b := b) hl o
      unfold m_law09_AttackWhole_L1
      simp only [at_dec hj, if_true, at_idx hj, Option.bind_some, att_Defeats hf.toFormB]
      refine loop_for (l := rng x.length) (fun u q hq => ?_) ?_
      · obtain ⟨rfl, hqn⟩ := rng_at hq
        have hdq : decide ((u : Int) < len x) = true := by simp [len]; omega
        unfold m_law09_AttackWhole_L2
        simp only [hdq, if_true, ref_Subs hf.toFormA (show (0 : Int) ≤ (u : Int) by omega) (by omega), Option.bind_some]
        have hsl := subsS_len x (u : Int)
        refine loop_for (l := subsS x (u : Int)) (fun v c hc => ?_) ?_
        · have hcm := mem_at hc
          unfold m_law09_AttackWhole_L3
          simp only [at_dec hc, if_true, at_idx hc, Option.bind_some]
          refine loop_for (l := rng x.length) (fun w i hi => ?_) ?_
          · obtain ⟨rfl, hwn⟩ := rng_at hi
            have hdw : decide ((w : Int) < len x) = true := by simp [len]; omega
            have e1 : ((attsS b x).any fun y => y.1 == (w : Int) && (y.2.1 == c && y.2.2.1 == c)) = ((attsS b x).any fun y => y.1 == (w : Int) && (y.2.1 == (u : Int) && y.2.2.1 == c)) := by
              rw [Bool.eq_iff_iff, any_hit, any_hit]
              exact exists_congr fun kd => att_whole hf.toFormB (by omega) (by omega) hcm
            have e2 : ((defeatsS b x o).any fun y => y.1 == (w : Int) && (y.2.1 == c && y.2.2.1 == c)) = ((defeatsS b x o).any fun y => y.1 == (w : Int) && (y.2.1 == (u : Int) && y.2.2.1 == c)) := by
              rw [Bool.eq_iff_iff, any_hit, any_hit]
              exact exists_congr fun kd => def_whole hf.toFormB o (by omega) (by omega) hcm
            unfold m_law09_AttackWhole_L4
            simp only [hdw, if_true, law09_has _ _ _ _ (show (attsS b x).length < 4294967296 by omega), law09_has _ _ _ _ (show (defeatsS b x o).length < 4294967296 by omega), Option.bind_some, e1, e2, beq_self_eq_true, Bool.not_true, Bool.false_eq_true, if_false, w64_succ w (by omega)]
          · unfold m_law09_AttackWhole_L4
            have hdw : decide (((rng x.length).length : Int) < len x) = false := by rw [rng_len]; simp [len]
            simp only [hdw, Bool.false_eq_true, if_false, at_suc hc (by omega)]
        · unfold m_law09_AttackWhole_L3
          simp only [end_dec, Bool.false_eq_true, if_false, w64_succ u (by omega)]
      · unfold m_law09_AttackWhole_L2
        have hdw : decide (((rng x.length).length : Int) < len x) = false := by rw [rng_len]; simp [len]
        simp only [hdw, Bool.false_eq_true, if_false, at_suc hj (show ords.length < 4294967296 by decide)]) (by
      unfold m_law09_AttackWhole_L1
      rfl)
  rw [hloop]
  simp only [seqE, Option.bind_some, hw]
theorem prem_kind (h : ValidB b) {i : Int} {p : T_Premise} (hp : idx b.1 i = some p) : p.2.1 = 1 ∨ p.2.1 = 2 ∨ p.2.1 = 3 := by
  obtain ⟨n, rfl, hn⟩ := idx_at hp
  have := h.prem p (mem_at hn)
  unfold premE at this
  split at this
  · rename_i h1
    simp only [Bool.or_eq_true, beq_iff_eq] at h1
    omega
  · cases this
theorem att_firm (hv : ValidB b) (h : FormB b l) {y : T_Attack} (hy : y ∈ attsS b l) : ¬ (premRanksS b l y.2.1 = [] ∧ ranksS b (defsS b l y.2.1) = []) := by
  obtain ⟨h1, h2, h3, h4⟩ := attsS_mem _ |>.1 hy
  obtain ⟨h5, h6⟩ := (kinds_mem b l y.1 y.2.2.1 y.2.2.2).1 h4
  have hr := subs_rng h3
  obtain ⟨a, ha⟩ := idx_ok (l := l) hr.1 hr.2
  obtain ⟨z, hz⟩ := idx_ok (l := l) h1.1 h1.2
  obtain ⟨p1, p2, p3⟩ := h.prem ha
  rintro ⟨e1, e2⟩
  unfold hits at h6
  rw [hz, ha] at h6
  dsimp only at h6
  by_cases hn : a.2.1 < 0
  · simp only [hn, decide_true, if_true] at h6
    have ha1 : 0 ≤ a.1 := by omega
    obtain ⟨_, ⟨p, hp⟩, _⟩ := p1 ha1
    rw [hp] at h6
    simp only [Bool.and_eq_true, bne_iff_ne] at h6
    have hk := prem_kind hv hp
    have hm : y.2.2.1 ∈ premsS l y.2.1 := List.mem_filter.2 ⟨h3, by rw [ha]; simpa using ha1⟩
    have hi := (p1 ha1).1
    have : premRank b y.2.2.1 ≠ [] := by
      unfold premRank
      rw [← hi, hp]
      rcases hk with hk | hk | hk
      · exact absurd hk h6.2
      · simp [hk]
      · simp [hk]
    exact this (List.flatMap_eq_nil_iff.1 e1 _ hm)
  · simp only [hn, decide_false, Bool.false_eq_true, if_false] at h6
    obtain ⟨r, hr2⟩ := p2 (by omega)
    rw [hr2] at h6
    simp only [Bool.and_eq_true, Bool.not_eq_true'] at h6
    have hd : a.2.1 ∈ defsS b l y.2.1 := (defsS_mem h h2.1 h2.2 _).2 ⟨_, h3, a, ha, by omega, by simp [isDef, hr2, h6.1], rfl⟩
    rw [List.map_eq_nil_iff] at e2
    rw [e2] at hd
    cases hd
theorem p_AttackFirm (hw : m_law09_awake = some true) (y0 : List Int) : m_law09_AttackFirm y0 = some true := by
  unfold m_law09_AttackFirm
  rw [keep_New]
  obtain ⟨b, x, k, hb, hf, hg⟩ := law09_built (srcOk_New y0)
  have hl := hf.len
  have ha := attsS_len (b := b) hl
  simp only [Option.bind_some, hb, att_Attacks hf.toFormB]
  have hloop : loop (m_law09_AttackFirm_L1 (attsS b x) (b, x, k)) 0 = some (.inl ()) :=
    loop_for (l := attsS b x) (fun j y hj => by
      have hy := mem_at hj
      obtain ⟨h1, h2, h3, h4⟩ := attsS_mem _ |>.1 hy
      have hv : ValidB b := by
        rcases hg with rfl | hg
        · simp at h2; omega
        · exact hg.1
      unfold m_law09_AttackFirm_L1
      simp only [at_dec hj, if_true, at_idx hj, Option.bind_some, at_suc hj (by omega)]
      have d1 : decide (y.2.1 < 0) = false := by simp; omega
      have d2 : decide (len x ≤ y.2.1) = false := by simp [len]; omega
      simp only [d1, d2, Bool.false_eq_true, if_false, ref_PremiseRanks hf.toFormB h2.1 h2.2, ref_RuleRanks hf.toFormB h2.1 h2.2, Option.bind_some, len0]
      have := att_firm hv hf.toFormB hy
      cases hp : (premRanksS b x y.2.1).isEmpty with
      | false => simp only [Bool.false_eq_true, if_false, Option.bind_some]
      | true =>
        cases hq : (ranksS b (defsS b x y.2.1)).isEmpty with
        | false => simp only [Bool.false_eq_true, if_false, if_true, Option.bind_some]
        | true => exact absurd ⟨List.isEmpty_iff.1 hp, List.isEmpty_iff.1 hq⟩ this) (by
      unfold m_law09_AttackFirm_L1
      simp only [end_dec, Bool.false_eq_true, if_false])
  rw [hloop]
  simp only [seqE, Option.bind_some, hw]
theorem setLess_asym {x y : List Int} {o : Int} (h : setLess x y o = true) : setLess y x o = false := by
  unfold setLess at h ⊢
  simp only [Bool.and_eq_true, Bool.or_eq_true] at h
  obtain ⟨⟨_, h2⟩, h3⟩ := h
  rcases h3 with h3 | h3
  · simp [h3]
  · split at h3
    · have : ¬ minF y < minF x := by simp at h3; omega
      rename_i ho
      simp only [Bool.not_eq_true'] at h2
      simp [h2, ho, this]
    · have : ¬ maxF y < maxF x := by simp at h3; omega
      rename_i ho
      simp only [Bool.not_eq_true'] at h2
      simp [h2, ho, this]
theorem setLess_ne {x y : List Int} {o : Int} (h : setLess x y o = true) : x.isEmpty = false := by
  unfold setLess at h
  simp only [Bool.and_eq_true, Bool.not_eq_true'] at h
  exact h.1.2
theorem setLess_nil (y : List Int) (o : Int) : setLess [] y o = false := by simp [setLess]
theorem less_asym {i k : Int} {o : T_Ordering} (h : lessS b l i k o = true) : lessS b l k i o = false := by
  unfold lessS at h ⊢
  have h2 := (Bool.and_eq_true_iff.1 h).2
  rw [Bool.and_eq_false_iff]
  refine .inr ?_
  by_cases o1 : (o.1 == 1) = true
  · simp only [o1, if_true] at h2 ⊢
    rw [Bool.or_eq_true] at h2
    rcases h2 with h2 | h2
    · have h3 := setLess_asym h2
      have h4 := setLess_ne h2
      rw [map_isEmpty] at h4
      simp [h3, h4]
    · simp only [Bool.and_eq_true] at h2
      have h3 := setLess_asym h2.2
      have h4 : lastS b l k = [] := List.isEmpty_iff.1 h2.1.2
      simp [h3, h4, setLess_nil]
  · simp only [o1, Bool.false_eq_true, if_false] at h2 ⊢
    by_cases o2 : (o.1 == 2) = true
    · simp only [o2, if_true] at h2 ⊢
      rw [Bool.and_comm (defsS b l k).isEmpty, Bool.and_comm (premRanksS b l k).isEmpty]
      cases c1 : (defsS b l i).isEmpty && (defsS b l k).isEmpty with
      | true =>
        simp only [c1, if_true] at h2 ⊢
        exact setLess_asym h2
      | false =>
        simp only [c1, Bool.false_eq_true, if_false] at h2 ⊢
        cases c2 : (premRanksS b l i).isEmpty && (premRanksS b l k).isEmpty with
        | true =>
          simp only [c2, if_true] at h2 ⊢
          exact setLess_asym h2
        | false =>
          simp only [c2, Bool.false_eq_true, if_false, Bool.and_eq_true] at h2 ⊢
          rw [setLess_asym h2.1, Bool.false_and]
    · simp [o2] at h2
/-- an axiom, or the head of a strict rule -/
def endB (b : T_Base) (l : List T_Argument) (i : Int) : Bool := match idx l i with
  | some a => if decide (0 ≤ a.2.1) then (match idx b.2.1 a.2.1 with | some r => r.2.1 | none => false) else (match idx b.1 a.1 with | some p => p.2.1 == 1 | none => false)
  | none => false
theorem hit_end {i c kd : Int} (h : endB b l c = true) : hits b l i c kd = false := by
  unfold endB at h
  unfold hits
  cases hi : idx l i with
  | none => rfl
  | some z =>
    cases hc : idx l c with
    | none => rfl
    | some a =>
      rw [hc] at h
      dsimp only at h ⊢
      by_cases hn : a.2.1 < 0
      · have : ¬ 0 ≤ a.2.1 := by omega
        simp only [this, decide_false, Bool.false_eq_true, if_false] at h
        simp only [hn, decide_true, if_true]
        cases hp : idx b.1 a.1 with
        | none => simp
        | some p =>
          rw [hp] at h
          dsimp only at h ⊢
          simp only [beq_iff_eq] at h
          simp [h]
      · have : 0 ≤ a.2.1 := by omega
        simp only [this, decide_true, if_true] at h
        simp only [hn, decide_false, Bool.false_eq_true, if_false]
        cases hp : idx b.2.1 a.2.1 with
        | none => rfl
        | some r =>
          rw [hp] at h
          dsimp only at h ⊢
          simp [h]
theorem hit_compl {i c kd : Int} (hk : kd ≠ 3) (hh : hits b l i c kd = true) : ∃ z a, idx l i = some z ∧ idx l c = some a ∧ z.2.2.2 = compl a.2.2.2 := by
  unfold hits at hh
  cases hi : idx l i with
  | none => rw [hi] at hh; cases hh
  | some z =>
    cases hc : idx l c with
    | none => rw [hi, hc] at hh; cases hh
    | some a =>
      rw [hi, hc] at hh
      dsimp only at hh
      refine ⟨z, a, rfl, rfl, ?_⟩
      by_cases hn : a.2.1 < 0
      · simp only [hn, decide_true, if_true, Bool.and_eq_true, beq_iff_eq] at hh
        exact hh.1.2
      · simp only [hn, decide_false, Bool.false_eq_true, if_false] at hh
        cases hp : idx b.2.1 a.2.1 with
        | none => rw [hp] at hh; cases hh
        | some r =>
          rw [hp] at hh
          simp only [Bool.and_eq_true, Bool.or_eq_true, beq_iff_eq] at hh
          rcases hh.2 with hh | hh
          · exact hh.2
          · exact absurd hh.1 hk
theorem hit_back (h : FormB b l) {i c kd : Int} (hk : kd ≠ 3) (hh : hits b l i c kd = true) (he : endB b l i = false) : ∃ kd', (kd' = 1 ∨ kd' = 2) ∧ hits b l c i kd' = true := by
  obtain ⟨z, a, hz, ha, hc⟩ := hit_compl hk hh
  unfold endB at he
  rw [hz] at he
  dsimp only at he
  obtain ⟨p1, p2, p3⟩ := h.prem hz
  have hcc : (a.2.2.2 == compl z.2.2.2) = true := by rw [hc, compl_compl]; simp
  by_cases hn : z.2.1 < 0
  · have h0 : 0 ≤ z.1 := by omega
    obtain ⟨_, ⟨p, hp⟩, _⟩ := p1 h0
    have : ¬ 0 ≤ z.2.1 := by omega
    simp only [this, decide_false, Bool.false_eq_true, if_false, hp] at he
    refine ⟨1, .inl rfl, ?_⟩
    unfold hits
    simp only [ha, hz, hn, decide_true, if_true, hp, hcc, bne, he]
    rfl
  · obtain ⟨r, hr⟩ := p2 (by omega)
    have : 0 ≤ z.2.1 := by omega
    simp only [this, decide_true, if_true, hr] at he
    refine ⟨2, .inr rfl, ?_⟩
    unfold hits
    simp only [ha, hz, hn, decide_false, Bool.false_eq_true, if_false, hr, hcc, he]
    rfl
theorem p_AttackBack (hw : m_law09_awake = some true) (y0 : List Int) : m_law09_AttackBack y0 = some true := by
  unfold m_law09_AttackBack
  rw [keep_New]
  obtain ⟨b, x, k, hb, hf, hg⟩ := law09_built (srcOk_New y0)
  have hl := hf.len
  have ha := attsS_len (b := b) hl
  simp only [Option.bind_some, hb, att_Attacks hf.toFormB, keep_Orderings]
  have hloop : loop (m_law09_AttackBack_L1 ords (b, x, k) (attsS b x)) 0 = some (.inl ()) :=
    loop_for (l := ords) (fun j o hj => by
      have hd := defs_len (b := b) hl o
      unfold m_law09_AttackBack_L1
      simp only [at_dec hj, if_true, at_idx hj, Option.bind_some, att_Defeats hf.toFormB]
      refine loop_for (l := attsS b x) (fun u y hy => ?_) ?_
      · obtain ⟨h1, h2, h3, h4⟩ := attsS_mem _ |>.1 (mem_at hy)
        unfold m_law09_AttackBack_L2
        simp only [at_dec hy, if_true, at_idx hy, Option.bind_some, at_suc hy (show (attsS b x).length < 4294967296 by omega)]
        split
        · rfl
        · rename_i hcond
          simp only [Bool.or_eq_true, beq_iff_eq, bne_iff_ne, decide_eq_true_eq, not_or, Decidable.not_not] at hcond
          obtain ⟨hk3, hkc, _, _⟩ := hcond
          obtain ⟨h5, h6⟩ := (kinds_mem b x y.1 y.2.2.1 y.2.2.2).1 h4
          rw [← hkc] at h6
          have hs1 := self_sub hf.toFormA h1.1 h1.2
          have hs2 := self_sub hf.toFormA h2.1 h2.2
          obtain ⟨z, a, hz, hza, hcc⟩ := hit_compl hk3 h6
          obtain ⟨p1, p2, p3⟩ := hf.toFormB.prem hz
          have hend : (if decide (0 ≤ z.2.1) = true then (idx b.2.1 z.2.1).bind fun x4 => some x4.2.1 else (idx b.1 z.1).bind fun x6 => some (x6.2.1 == 1)) = some (endB b x y.1) := by
            unfold endB
            rw [hz]
            dsimp only
            by_cases hn : 0 ≤ z.2.1
            · obtain ⟨r, hr⟩ := p2 (by omega)
              simp only [hn, decide_true, if_true, hr, Option.bind_some]
            · obtain ⟨_, ⟨p, hp⟩, _⟩ := p1 (by omega)
              simp only [hn, decide_false, Bool.false_eq_true, if_false, hp, Option.bind_some]
          simp only [hz, Option.bind_some, hend, law09_has _ _ _ _ (show (attsS b x).length < 4294967296 by omega), law09_has _ _ _ _ (show (defeatsS b x o).length < 4294967296 by omega)]
          cases he : endB b x y.1 with
          | true =>
            have hr6 : ((attsS b x).any fun w => w.1 == y.2.1 && (w.2.1 == y.1 && w.2.2.1 == y.1)) = false := by
              rw [Bool.eq_false_iff]
              intro hh
              obtain ⟨kd, hkd⟩ := any_hit.1 hh
              obtain ⟨_, _, _, g4⟩ := attsS_mem _ |>.1 hkd
              obtain ⟨_, g6⟩ := (kinds_mem b x _ _ _).1 g4
              dsimp only at g6
              rw [hit_end he] at g6
              cases g6
            simp only [hr6, Option.bind_some, Bool.false_beq, Bool.not_true, Bool.false_eq_true, if_false]
          | false =>
            obtain ⟨kd', hkd, hb1⟩ := hit_back hf.toFormB hk3 h6 he
            have hm : (y.2.1, y.1, y.1, kd') ∈ attsS b x := (attsS_mem _).2 ⟨h2, h1, hs1, (kinds_mem b x _ _ _).2 ⟨by dsimp only; omega, hb1⟩⟩
            have hm2 : (y.1, y.2.1, y.2.1, y.2.2.2) ∈ attsS b x := by
              have := mem_at hy
              have e : y = (y.1, y.2.1, y.2.1, y.2.2.2) := by
                conv => lhs; rw [show y = (y.1, y.2.1, y.2.2.1, y.2.2.2) from rfl, ← hkc]
              rwa [e] at this
            have hr6 : ((attsS b x).any fun w => w.1 == y.2.1 && (w.2.1 == y.1 && w.2.2.1 == y.1)) = true := any_hit.2 ⟨kd', hm⟩
            simp only [hr6, Option.bind_some, Bool.true_beq, Bool.false_eq_true, if_false, Bool.not_false, if_true]
            cases hr7 : (defeatsS b x o).any fun w => w.1 == y.1 && (w.2.1 == y.2.1 && w.2.2.1 == y.2.1) with
            | true => simp only [Bool.not_true, Bool.false_eq_true, if_false, Option.bind_some]
            | false =>
              have hless : lessS b x y.1 y.2.1 o = true := by
                cases hle : lessS b x y.1 y.2.1 o with
                | true => rfl
                | false =>
                  rw [Bool.eq_false_iff] at hr7
                  exact absurd (any_hit.2 ⟨y.2.2.2, List.mem_filter.2 ⟨hm2, by simp [isDefeat, hle]⟩⟩) hr7
              have hr8 : ((defeatsS b x o).any fun w => w.1 == y.2.1 && (w.2.1 == y.1 && w.2.2.1 == y.1)) = true := any_hit.2 ⟨kd', List.mem_filter.2 ⟨hm, by simp [isDefeat, less_asym hless]⟩⟩
              simp only [hr8, Bool.not_false, if_true, Option.bind_some, Bool.not_true, Bool.false_eq_true, if_false]
      · unfold m_law09_AttackBack_L2
        simp only [end_dec, Bool.false_eq_true, if_false, at_suc hj (show ords.length < 4294967296 by decide)]) (by
      unfold m_law09_AttackBack_L1
      rfl)
  rw [hloop]
  simp only [seqE, Option.bind_some, hw]
theorem idx_map {α β : Type} (g : α → β) (l : List α) (i : Int) : idx (l.map g) i = (idx l i).map g := by
  unfold idx
  split
  · rw [List.getElem?_map]
  · rfl
def noRankP (p : T_Premise) : T_Premise := (p.1, p.2.1, 0, p.2.2.2)
def noRankR (r : T_Rule) : T_Rule := (r.1, r.2.1, 0, r.2.2.2.1, r.2.2.2.2)
def noRank (b : T_Base) : T_Base := (b.1.map noRankP, b.2.1.map noRankR, [])
theorem hits_noRank (i c kd : Int) : hits (noRank b) l i c kd = hits b l i c kd := by
  unfold hits
  cases idx l i with
  | none => rfl
  | some z =>
    cases idx l c with
    | none => rfl
    | some a =>
      simp only [noRank, idx_map]
      cases idx b.1 a.1 <;> cases idx b.2.1 a.2.1 <;> rfl
theorem atts_noRank : attsS (noRank b) l = attsS b l := by
  have : ∀ i c, kindsS (noRank b) l i c = kindsS b l i c := fun i c => by
    unfold kindsS
    congr 1
    funext kd
    exact hits_noRank i c kd
  unfold attsS rowK
  simp only [this]
theorem form_noRank (h : FormB b l) : FormB (noRank b) l :=
  ⟨h.toFormA, by simpa [noRank] using h.np, by simpa [noRank] using h.nr, fun i a ha => by simpa [noRank] using h.kind i a ha⟩
theorem Assumed_L1 {x : List T_Argument} {k : Int} (h : b.2.1.length ≤ 100) : loop (m_law09_AttackAssumed_L1 (b, x, k)) (0, []) = some (b.2.1.map noRankR) := by
  have := (loop_fold' (B := m_law09_AttackAssumed_L1 (b, x, k)) b.2.1 (fun s r => s ++ [noRankR r]) (fun s => s) (fun i s => s.length ≤ i) [] (by simp) (fun i r s hi hs => by
    have := at_lt hi
    refine ⟨?_, by simp; omega⟩
    unfold m_law09_AttackAssumed_L1
    simp only [at_dec hi, if_true, at_idx hi, Option.bind_some]
    rw [app_ok (by simp; omega)]
    simp only [Option.bind_some, at_suc hi (by omega)]
    rfl) (fun s _ => by
    unfold m_law09_AttackAssumed_L1
    simp only [end_dec, Bool.false_eq_true, if_false])).1
  rw [this, foldl_app_map]
  rfl
theorem Assumed_L2 (ps : List T_Premise) (h : ps.length ≤ 100) : loop (m_law09_AttackAssumed_L2 ps) (0, ps) = some (ps.map noRankP) := by
  obtain ⟨r, h1, h2⟩ := loop_forI (B := m_law09_AttackAssumed_L2 ps) (fun i s => ((i : Int), s)) ps (fun i s => s = (ps.take i).map noRankP ++ ps.drop i) (fun r => r = ps.map noRankP) (fun i p s hi hs => .inl ⟨(ps.take (i + 1)).map noRankP ++ ps.drop (i + 1), by
    have hlt := at_lt hi
    have hd : ps.drop i = p :: ps.drop (i + 1) := by
      rw [List.drop_eq_getElem_cons hlt]
      congr 1
      rw [List.getElem?_eq_getElem hlt] at hi
      exact Option.some.inj hi
    have hl : ((ps.take i).map noRankP).length = i := by simp; omega
    have hat : s[i]? = some p := by
      rw [hs, hd, List.getElem?_append_right (by omega), hl]
      simp
    unfold m_law09_AttackAssumed_L2
    simp only [at_dec hi, if_true, at_idx hat, Option.bind_some, at_suc hi (by omega), Int.toNat_natCast]
    refine congrArg some (congrArg Sum.inl (Prod.ext rfl ?_))
    show s.set i (noRankP p) = _
    rw [hs, List.set_append_right _ _ (by omega), hl, Nat.sub_self, hd, List.set_cons_zero, take_suc hi, List.map_append, List.append_assoc]
    rfl, rfl⟩) (fun s hs => ⟨s, by
    unfold m_law09_AttackAssumed_L2
    simp only [end_dec, Bool.false_eq_true, if_false], by rw [hs]; simp⟩) ps (by simp)
  rw [← h2]
  exact h1
theorem less_assumes {i c : Int} {o : T_Ordering} (h : assumesS b l c = true) : lessS b l i c o = false := by
  unfold lessS
  simp [h]
theorem p_AttackAssumed (hw : m_law09_awake = some true) (y0 : List Int) : m_law09_AttackAssumed y0 = some true := by
  unfold m_law09_AttackAssumed
  rw [keep_New]
  obtain ⟨b, x, k, hb, hf, hg⟩ := law09_built (srcOk_New y0)
  have hl := hf.len
  have hp := hf.np
  have ha := attsS_len (b := b) hl
  simp only [Option.bind_some, hb, att_Attacks hf.toFormB]
  rw [app_ok (by simp; omega)]
  simp only [Option.bind_some, List.nil_append, Assumed_L1 hf.nr, Assumed_L2 b.1 hp]
  rw [show ((b.1.map noRankP, b.2.1.map noRankR, ([] : List T_Promotion)) : T_Base) = noRank b from rfl, att_Attacks (form_noRank hf.toFormB), atts_noRank]
  simp only [Option.bind_some, ref09_Same _ (show (attsS b x).length < 4294967296 by omega), Bool.not_true, Bool.false_eq_true, if_false, keep_Orderings]
  have hloop : loop (m_law09_AttackAssumed_L3 ords (b, x, k) (attsS b x)) 0 = some (.inl ()) :=
    loop_for (l := ords) (fun j o hj => by
      have hd := defs_len (b := b) hl o
      unfold m_law09_AttackAssumed_L3
      simp only [at_dec hj, if_true, at_idx hj, Option.bind_some, att_Defeats hf.toFormB]
      have hin : loop (m_law09_AttackAssumed_L4 (attsS b x) (defeatsS b x o) (b, x, k)) 0 = some (.inl ()) :=
        loop_for (l := attsS b x) (fun u y hy => by
          have hm := mem_at hy
          obtain ⟨h1, h2, h3, h4⟩ := attsS_mem _ |>.1 hm
          have hc := subs_rng h3
          unfold m_law09_AttackAssumed_L4
          simp only [at_dec hy, if_true, at_idx hy, Option.bind_some, at_suc hy (show (attsS b x).length < 4294967296 by omega), law09_has _ _ _ _ (show (defeatsS b x o).length < 4294967296 by omega), ref_Assumes hf.toFormB hc.1 hc.2]
          have hhas : isDefeat b x o y = true → ((defeatsS b x o).any fun w => w.1 == y.1 && (w.2.1 == y.2.1 && w.2.2.1 == y.2.2.1)) = true := fun hi => any_hit.2 ⟨y.2.2.2, List.mem_filter.2 ⟨hm, hi⟩⟩
          cases h3 : y.2.2.2 == 3 with
          | true =>
            simp only [if_true, hhas (by simp [isDefeat, h3]), Bool.not_true, Option.bind_some, Bool.false_eq_true, if_false]
          | false =>
            cases hA : assumesS b x y.2.2.1 with
            | true =>
              simp only [Bool.false_eq_true, if_false, if_true, hhas (by simp [isDefeat, less_assumes hA]), Bool.not_true, Option.bind_some]
            | false => simp only [Bool.false_eq_true, if_false, Option.bind_some]) (by
          unfold m_law09_AttackAssumed_L4
          simp only [end_dec, Bool.false_eq_true, if_false])
      rw [hin]
      have hle : (defeatsS b x o).length ≤ (attsS b x).length := List.length_filter_le _ _
      have hd2 : decide ((len (attsS b x)) < (len (defeatsS b x o))) = false := by simp [len]; omega
      simp only [seqE, Option.bind_some, hd2, Bool.false_eq_true, if_false, at_suc hj (show ords.length < 4294967296 by decide)]) (by
      unfold m_law09_AttackAssumed_L3
      rfl)
  rw [hloop]
  simp only [seqE, Option.bind_some, hw]
end
section
theorem p_law09_AttackFinds (y0 : List Int) (y1 : T_Ordering) (_w0 : wList (wInt .i64) y0) (_w1 : wProd (wInt .i64) (wInt .i64) y1) : m_law09_AttackFinds y0 y1 = some true := p_AttackFinds att_awake y0 y1
theorem p_law09_AttackWhole (y0 : List Int) (_w0 : wList (wInt .i64) y0) : m_law09_AttackWhole y0 = some true := p_AttackWhole att_awake y0
theorem p_law09_AttackFirm (y0 : List Int) (_w0 : wList (wInt .i64) y0) : m_law09_AttackFirm y0 = some true := p_AttackFirm att_awake y0
theorem p_law09_AttackBack (y0 : List Int) (_w0 : wList (wInt .i64) y0) : m_law09_AttackBack y0 = some true := p_AttackBack att_awake y0
theorem p_law09_AttackAssumed (y0 : List Int) (_w0 : wList (wInt .i64) y0) : m_law09_AttackAssumed y0 = some true := p_AttackAssumed att_awake y0
end

end Go.GD
