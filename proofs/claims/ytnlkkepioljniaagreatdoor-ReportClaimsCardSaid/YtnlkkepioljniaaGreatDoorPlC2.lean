/- The plain law: what the models compute, in plain Lean. Conditions: none. -/
import Derived.Test.YtnlkkepioljniaaGreatDoorPlC1
namespace Go.GD
set_option autoImplicit false

section
set_option linter.unusedVariables false
theorem gr_list_L1 : ∀ (n m : Nat) (acc : List Int), m < 18446744073709551616 → (bitsL m).length ≤ n → acc.length + n ≤ 64 → loop m_graph_list_L1 ((m : Int), acc) = some (acc ++ bitsL m) := by
  intro n
  induction n with
  | zero =>
    intro m acc hm hn ha
    have h0 : bitsL m = [] := List.eq_nil_of_length_eq_zero (by omega)
    have hz : m = 0 := by
      apply Nat.eq_of_testBit_eq
      intro i
      rw [Nat.zero_testBit]
      cases ht : m.testBit i with
      | false => rfl
      | true =>
        have := (bitsL_mem' hm).2 ht
        rw [h0] at this; cases this
    subst hz
    rw [loop_eq]
    simp [m_graph_list_L1, h0]
  | succ n ih =>
    intro m acc hm hn ha
    by_cases h0 : m = 0
    · subst h0
      have hb : bitsL 0 = [] := by
        apply List.eq_nil_iff_forall_not_mem.2
        intro x hx
        obtain ⟨i, _, _, h⟩ := bitsL_mem.1 hx
        rw [Nat.zero_testBit] at h; cases h
      rw [loop_eq]
      simp [m_graph_list_L1, hb]
    · obtain ⟨k, q, ht, hk, hmq⟩ := tz_nat h0 hm
      have hcons : bitsL m = (k : Int) :: bitsL (2 ^ (k + 1) * q) := by
        have hq2 : ∀ j, (2 ^ (k + 1) * q).testBit j = (decide (k < j) && q.testBit (j - k - 1)) := by
          intro j
          have e2 : 2 ^ (k + 1) * q = 2 ^ (k + 1) * q + 0 := rfl
          rw [e2, Nat.testBit_two_pow_mul_add _ (Nat.pow_pos (by decide))]
          by_cases hj : j < k + 1
          · have h1 : decide (k < j) = false := by simp; omega
            rw [if_pos hj, Nat.zero_testBit, h1, Bool.false_and]
          · have h1 : decide (k < j) = true := by simp; omega
            rw [if_neg hj, h1, Bool.true_and]
            congr 1
        apply Asc.ext ord_ltI (bitsL_asc m)
        · refine List.pairwise_cons.2 ⟨fun x hx => ?_, bitsL_asc _⟩
          obtain ⟨j, rfl, hj, hb⟩ := bitsL_mem.1 hx
          rw [hq2, Bool.and_eq_true, decide_eq_true_eq] at hb
          simp [ltI]; omega
        · intro x
          rw [List.mem_cons, bitsL_mem, bitsL_mem]
          constructor
          · rintro ⟨i, rfl, h1, h2⟩
            rw [hmq, bits_low, Bool.or_eq_true, decide_eq_true_eq] at h2
            rcases h2 with rfl | h2
            · exact .inl rfl
            · exact .inr ⟨i, rfl, h1, by rw [hq2]; exact h2⟩
          · rintro (rfl | ⟨i, rfl, h1, h2⟩)
            · exact ⟨k, rfl, hk, by rw [hmq, bits_low]; simp⟩
            · rw [hq2] at h2
              exact ⟨i, rfl, h1, by rw [hmq, bits_low, h2, Bool.or_true]⟩
      have hw : IntKind.u64.wrap ((m : Int) - 1) = ((m - 1 : Nat) : Int) := by rw [wrapU (by omega) (by omega)]; omega
      have hand : m &&& (m - 1) = 2 ^ (k + 1) * q := by rw [hmq]; exact bits_clear q k
      have hlt : 2 ^ (k + 1) * q < 18446744073709551616 := by rw [← hand]; exact and_lt hm
      have hne : ((m : Int) != 0) = true := by simp; omega
      have hstep : m_graph_list_L1 ((m : Int), acc) = some (.inl (((2 ^ (k + 1) * q : Nat) : Int), acc ++ [(k : Int)])) := by
        unfold m_graph_list_L1
        simp only [hne, if_true, ht, Option.bind_some]
        rw [app_ok (by simp; omega)]
        simp only [Option.bind_some]
        rw [hw, band_nat hm (by omega), hand]
      rw [loop_eq, hstep]
      have := ih (2 ^ (k + 1) * q) (acc ++ [(k : Int)]) hlt (by rw [hcons] at hn; simp at hn; omega) (by simp; omega)
      rw [hcons]
      simpa using this
theorem gr_list {m : Nat} (hm : m < 18446744073709551616) : m_graph_list (m : Int) = some (bitsL m) := by
  have := gr_list_L1 64 m [] hm (bitsL_len m) (by simp)
  simpa [m_graph_list] using this
/-- what both checks ask of a graph -/
structure GoodG (N : Nat) (L : List T_Pair) : Prop where
  hN : N ≤ 40
  inr : ∀ p ∈ L, badE (N : Int) p = false
  asc : Asc lt2 L
theorem badE_nat {N : Nat} {p : T_Pair} (h : badE (N : Int) p = false) : ∃ i j : Nat, i < N ∧ j < N ∧ p = ((i : Int), (j : Int)) := by
  obtain ⟨a, b⟩ := p
  simp only [badE, Bool.or_eq_false_iff, decide_eq_false_iff_not] at h
  exact ⟨a.toNat, b.toNat, by omega, by omega, by simp only [Prod.mk.injEq]; omega⟩
section
variable {N : Nat} {L : List T_Pair}
theorem GoodG.nodup (h : GoodG N L) : L.Nodup := h.asc.imp fun {x y} hh e => by subst e; rw [ord2.irrefl] at hh; cases hh
theorem GoodG.inN (h : GoodG N L) : inN N L := fun a b he => by
  obtain ⟨i, j, h1, h2, h3⟩ := badE_nat (h.inr _ (ed_mem.1 he))
  simp only [Prod.mk.injEq] at h3
  exact ⟨i, j, h1, h2, h3.1, h3.2⟩
theorem nodup_len {α : Type} [DecidableEq α] : ∀ {l m : List α}, l.Nodup → (∀ x ∈ l, x ∈ m) → l.length ≤ m.length
  | [], _, _, _ => Nat.zero_le _
  | x :: l, m, hn, hs => by
    obtain ⟨h1, h2⟩ := List.nodup_cons.1 hn
    have hx : x ∈ m := hs x List.mem_cons_self
    have h3 := nodup_len (m := m.erase x) h2 fun y hy => (List.mem_erase_of_ne (fun e => by subst e; exact h1 hy)).2 (hs y (List.mem_cons_of_mem _ hy))
    rw [List.length_erase_of_mem hx] at h3
    have : 0 < m.length := List.length_pos_of_mem hx
    simp only [List.length_cons]
    omega
theorem GoodG.len (h : GoodG N L) : L.length ≤ 1600 := by
  have h1 := nodup_len (m := (rng N).flatMap fun i => (rng N).map fun j => (i, j)) h.nodup fun p hp => by
    obtain ⟨i, j, hi, hj, rfl⟩ := badE_nat (h.inr p hp)
    exact List.mem_flatMap.2 ⟨(i : Int), rng_mem.2 ⟨by omega, by omega⟩, List.mem_map.2 ⟨(j : Int), rng_mem.2 ⟨by omega, by omega⟩, rfl⟩⟩
  have h2 := flat_le (fun i : Int => (rng N).map fun j : Int => (i, j)) N (rng N) fun x _ => by simp [rng_len]
  rw [rng_len] at h2
  have h3 : N * N ≤ 40 * 40 := Nat.mul_le_mul h.hN h.hN
  omega
theorem GoodG.len' (h : GoodG N L) : L.length < 4294967296 := by have := h.len; omega
theorem vStep_none {n : Int} {i : Nat} {p : T_Pair} (hp : L[i]? = some p) : vStep n L i = none ↔ badE n p = false ∧ (i = 0 ∨ ∃ q, L[i - 1]? = some q ∧ lt2 q p = true) := by
  unfold vStep
  rw [hp]
  cases hb : badE n p with
  | true => simp [hb]
  | false =>
    by_cases h0 : i = 0
    · subst h0; simp [hb]
    · have hi := at_lt hp
      obtain ⟨q, hq⟩ : ∃ q, L[i - 1]? = some q := ⟨L[i - 1], List.getElem?_eq_getElem (by omega)⟩
      simp only [hb, h0, if_false, hq, false_or, Bool.false_eq_true, Option.some.injEq, exists_eq_left', true_and]
      cases lt2 q p <;> simp
theorem vLoop (n : Int) (hL : L.length < 4294967296) : ∃ e, loop (m_graph_Validate_L1 (n, L)) 0 = some e ∧ (e = 0 ↔ ∀ i, i < L.length → vStep n L i = none) := by
  have h := loop_forI (B := m_graph_Validate_L1 (n, L)) (fun i (_ : Unit) => (i : Int)) L (fun i _ => ∀ j, j < i → vStep n L j = none) (fun e => e = 0 ↔ ∀ i, i < L.length → vStep n L i = none) ?_ ?_ () (fun j hj => absurd hj (Nat.not_lt_zero _))
  · obtain ⟨e, h1, h2⟩ := h
    exact ⟨e, h1, h2⟩
  · intro i x _ hx hI
    have hi := at_lt hx
    rw [valid_step1 n L hL i (by omega)]
    cases hv : vStep n L i with
    | some e =>
      refine .inr ⟨e, rfl, ?_⟩
      constructor
      · intro he
        subst he
        exfalso
        unfold vStep at hv
        rw [hx] at hv
        simp only at hv
        split at hv
        · cases hv
        · split at hv
          · cases hv
          · split at hv
            · cases hv
            · split at hv <;> cases hv
      · intro h
        rw [h i hi] at hv; cases hv
    | none =>
      refine .inl ⟨(), rfl, fun j hj => ?_⟩
      by_cases he : j = i
      · subst he; exact hv
      · exact hI j (by omega)
  · intro _ hI
    rw [valid_step1 n L hL _ (Nat.le_refl _)]
    exact ⟨0, by simp [vStep], by simp; exact hI⟩
theorem pair_asc {α : Type} {lt : α → α → Bool} (O : Ord1 lt) : ∀ {l : List α}, (∀ i x y, l[i]? = some x → l[i + 1]? = some y → lt x y = true) → Asc lt l
  | [], _ => List.Pairwise.nil
  | [x], _ => List.pairwise_singleton _ _
  | x :: y :: l, h => by
    have h1 := pair_asc O (l := y :: l) fun i a b ha hb => h (i + 1) a b (by simpa using ha) (by simpa using hb)
    have h2 : lt x y = true := h 0 x y rfl rfl
    refine List.pairwise_cons.2 ⟨fun z hz => ?_, h1⟩
    rcases List.mem_cons.1 hz with rfl | hz
    · exact h2
    · exact O.trans _ _ _ h2 ((List.pairwise_cons.1 h1).1 z hz)
theorem asc_pair {α : Type} {lt : α → α → Bool} {l : List α} (h : Asc lt l) {i : Nat} {x y : α} (hx : l[i]? = some x) (hy : l[i + 1]? = some y) : lt x y = true := by
  obtain ⟨h1, rfl⟩ := List.getElem?_eq_some_iff.1 hx
  obtain ⟨h2, rfl⟩ := List.getElem?_eq_some_iff.1 hy
  exact List.pairwise_iff_getElem.1 h i (i + 1) h1 h2 (Nat.lt_succ_self i)
theorem vSteps_iff {n : Int} : (∀ i, i < L.length → vStep n L i = none) ↔ (∀ p ∈ L, badE n p = false) ∧ Asc lt2 L := by
  constructor
  · intro h
    have h1 : ∀ (i : Nat) p, L[i]? = some p → badE n p = false ∧ (i = 0 ∨ ∃ q, L[i - 1]? = some q ∧ lt2 q p = true) := fun i p hp => (vStep_none hp).1 (h i (at_lt hp))
    refine ⟨fun p hp => ?_, pair_asc ord2 fun i x y hx hy => ?_⟩
    · obtain ⟨i, hi⟩ := List.getElem?_of_mem hp
      exact (h1 i p hi).1
    · rcases (h1 (i + 1) y hy).2 with h2 | ⟨q, h2, h3⟩
      · omega
      · rw [Nat.add_sub_cancel, hx] at h2
        cases h2; exact h3
  · rintro ⟨h1, h2⟩ i hi
    have hp : L[i]? = some L[i] := List.getElem?_eq_getElem hi
    refine (vStep_none hp).2 ⟨h1 _ (List.getElem_mem hi), ?_⟩
    by_cases h0 : i = 0
    · exact .inl h0
    · have hq : L[i - 1]? = some L[i - 1] := List.getElem?_eq_getElem (by omega)
      exact .inr ⟨_, hq, asc_pair h2 hq (by rw [show i - 1 + 1 = i by omega]; exact hp)⟩
theorem graph_Validate_iff (n : Int) (hL : L.length < 4294967296) : ∃ e, m_graph_Validate (n, L) = some e ∧ m_ref10_Validate (n, L) = some e ∧ (e = 0 ↔ ∃ N : Nat, n = (N : Int) ∧ GoodG N L) := by
  obtain ⟨e, h1, h2, h3⟩ := validates (n, L) hL
  refine ⟨e, h1, h2, ?_⟩
  constructor
  · intro he
    obtain ⟨k1, k2, k3⟩ := h3 he
    obtain ⟨N, rfl⟩ := Int.eq_ofNat_of_zero_le k1
    refine ⟨N, rfl, by have : (N : Int) ≤ 40 := k2; omega, k3, ?_⟩
    subst he
    unfold m_graph_Validate at h1
    have hc : (decide ((N : Int) < 0) || decide (40 < (N : Int))) = false := by
      have : (N : Int) ≤ 40 := k2
      simp; omega
    simp only [hc, Bool.false_eq_true, if_false] at h1
    obtain ⟨e', h4, h5⟩ := vLoop (L := L) (N : Int) hL
    rw [h4] at h1
    exact (vSteps_iff.1 (h5.1 (Option.some.inj h1))).2
  · rintro ⟨N, rfl, hG⟩
    unfold m_graph_Validate at h1
    have hc : (decide ((N : Int) < 0) || decide (40 < (N : Int))) = false := by
      have := hG.hN
      simp; omega
    simp only [hc, Bool.false_eq_true, if_false] at h1
    obtain ⟨e', h4, h5⟩ := vLoop (L := L) (N : Int) hL
    rw [h4] at h1
    rw [← Option.some.inj h1]
    exact h5.2 (vSteps_iff.2 ⟨hG.inr, hG.asc⟩)
theorem GoodG.v1 (h : GoodG N L) : m_graph_Validate ((N : Int), L) = some 0 := by
  obtain ⟨e, h1, _, h3⟩ := graph_Validate_iff (N : Int) h.len'
  rw [h1, h3.2 ⟨N, rfl, h⟩]
theorem GoodG.v2 (h : GoodG N L) : m_ref10_Validate ((N : Int), L) = some 0 := by
  obtain ⟨e, _, h1, h3⟩ := graph_Validate_iff (N : Int) h.len'
  rw [h1, h3.2 ⟨N, rfl, h⟩]
theorem GoodG.proper (h : GoodG N L) : m_graph_proper ((N : Int), L) = some ((N : Int), L) := by
  unfold m_graph_proper; rw [h.v1]; rfl
theorem GoodG.valid (h : GoodG N L) : m_ref10_Valid ((N : Int), L) = some ((N : Int), L) := by
  unfold m_ref10_Valid; rw [h.v2]; rfl
/-- a graph that the two functions make is valid -/
theorem good_graphS {n : Int} {l : List T_Attack} {g : T_Graph} (h : graphS n l = (g, 0)) : ∃ N : Nat, n = (N : Int) ∧ g.1 = (N : Int) ∧ GoodG N g.2 ∧ g.2 = nrm lt2 (pairsOf l) := by
  unfold graphS at h
  cases h0 : (decide (n < 0) || decide (40 < n)) with
  | true => simp [h0] at h
  | false =>
    cases h1 : l.any (badA n) with
    | true => simp [h0, h1] at h
    | false =>
      simp only [h0, h1, Bool.false_eq_true, if_false, Prod.mk.injEq, and_true] at h
      subst h
      simp only [Bool.or_eq_false_iff, decide_eq_false_iff_not] at h0
      refine ⟨n.toNat, by omega, by show n = _; omega, ⟨by omega, fun p hp => ?_, (nrm_spec ord2 _).1⟩, rfl⟩
      have hp : p ∈ pairsOf l := ((nrm_spec ord2 _).2 p).1 hp
      obtain ⟨a, ha, rfl⟩ := List.mem_map.1 hp
      have := List.any_eq_false.1 h1 a ha
      simp only [badA, Bool.or_eq_true, decide_eq_true_eq, not_or] at this
      simp only [badE, Bool.or_eq_false_iff, decide_eq_false_iff_not]
      omega
def rowM (L : List T_Pair) (i : Nat) : Nat := maskL ((L.filter fun p => p.1 == (i : Int)).map (·.2))
theorem rowM_lt (h : GoodG N L) (i : Nat) : rowM L i < 18446744073709551616 := maskL_lt fun x hx => by
  obtain ⟨p, hp, rfl⟩ := List.mem_map.1 hx
  obtain ⟨a, b, h1, h2, rfl⟩ := badE_nat (h.inr p (List.mem_filter.1 hp).1)
  have := h.hN
  show (b : Int) < 64
  omega
theorem rowM_bit (h : GoodG N L) (i j : Nat) : (rowM L i).testBit j = ed L (i : Int) (j : Int) := by
  unfold rowM
  rw [maskL_bit (fun x hx => ?_), Bool.eq_iff_iff, decide_eq_true_eq, ed_mem]
  · constructor
    · intro hx
      obtain ⟨p, hp, h2⟩ := List.mem_map.1 hx
      obtain ⟨h3, h4⟩ := List.mem_filter.1 hp
      have h5 : p.1 = (i : Int) := by simpa using h4
      have : p = ((i : Int), (j : Int)) := by rw [← h5, ← h2]
      rw [← this]; exact h3
    · intro hx
      exact List.mem_map.2 ⟨_, List.mem_filter.2 ⟨hx, by simp⟩, rfl⟩
  · obtain ⟨p, hp, rfl⟩ := List.mem_map.1 hx
    obtain ⟨a, b, h1, h2, rfl⟩ := badE_nat (h.inr p (List.mem_filter.1 hp).1)
    show (0 : Int) ≤ (b : Int)
    omega
theorem maskL_snoc (l : List Int) (x : Int) : maskL (l ++ [x]) = maskL l ||| 2 ^ x.toNat := by simp [maskL]
theorem shlK_u1 {i : Nat} (h : i < 64) : shlK .u64 1 (i : Int) = some ((2 ^ i : Nat) : Int) := by
  have := shlK_one h
  rwa [wrapU_nat (by omega)] at this
theorem graph_masks (h : GoodG N L) : m_graph_masks ((N : Int), L) = some (mapN N fun i => ((rowM L i : Nat) : Int)) := by
  unfold m_graph_masks
  have hN := h.hN
  rw [mkS_ok (by omega)]
  simp only [Option.bind_some]
  have hlp := loop_forI (B := m_graph_masks_L1 ((N : Int), L)) (fun i (s : List Int) => (s, (i : Int))) L (fun i s => s = mapN N fun a => ((rowM (L.take i) a : Nat) : Int)) (fun r => r = mapN N fun i => ((rowM L i : Nat) : Int)) ?_ ?_ (mapN N fun _ => 0) (by
      apply mapN_congr; intro i _; simp [rowM, maskL])
  · obtain ⟨r, h1, rfl⟩ := hlp
    exact h1
  · rintro i p s hp rfl
    refine .inl ⟨_, ?_, rfl⟩
    obtain ⟨a, b, h1, h2, rfl⟩ := badE_nat (h.inr p (mem_at hp))
    have hg : ∀ q ∈ L.take i, q ∈ L := fun q hq => List.mem_of_mem_take hq
    have hgood : GoodG N (L.take i) := ⟨hN, fun q hq => h.inr q (hg q hq), h.asc.sublist (List.take_sublist _ _)⟩
    unfold m_graph_masks_L1
    simp only [at_dec hp, if_true, at_idx hp, Option.bind_some, mapN_idx _ h1, shlK_u1 (i := b) (by omega), at_suc hp h.len', Int.toNat_natCast, mapN_set]
    rw [bor_nat (rowM_lt hgood a) (pow_lt64 (by omega))]
    congr 3
    apply mapN_congr
    intro q _
    rw [take_suc hp]
    by_cases hq : q = a
    · subst hq
      simp only [if_true]
      unfold rowM
      rw [List.filter_append, List.map_append]
      simp [maskL_snoc]
    · have hf : (((a : Nat) : Int) == (q : Int)) = false := by simp; omega
      simp only [hq, if_false]
      unfold rowM
      rw [List.filter_append]
      simp [hf]
  · rintro s rfl
    refine ⟨_, ?_, rfl⟩
    unfold m_graph_masks_L1
    simp [len]
abbrev succL (N : Nat) (L : List T_Pair) (i : Int) : List Int := (rng N).filter fun j => ed L i j
abbrev predL (N : Nat) (L : List T_Pair) (i : Int) : List Int := (rng N).filter fun j => ed L j i
theorem bits_row (h : GoodG N L) (i : Nat) : bitsL (rowM L i) = succL N L (i : Int) := by
  apply Asc.ext ord_ltI (bitsL_asc _) ((rng_asc N).filter _)
  intro x
  rw [bitsL_mem, List.mem_filter, rng_mem]
  constructor
  · rintro ⟨j, rfl, h1, h2⟩
    rw [rowM_bit h] at h2
    obtain ⟨a, b, h3, h4, h5, h6⟩ := h.inN _ _ h2
    exact ⟨by omega, h2⟩
  · rintro ⟨h1, h2⟩
    obtain ⟨j, rfl⟩ := Int.eq_ofNat_of_zero_le h1.1
    have := h.hN
    exact ⟨j, rfl, by omega, by rw [rowM_bit h]; exact h2⟩
theorem graph_Attacked (h : GoodG N L) (i : Int) : m_graph_Attacked ((N : Int), L) i = some (succL N L i) := by
  unfold m_graph_Attacked
  rw [h.proper]
  simp only [Option.bind_some]
  cases hc : (decide (i < 0) || decide ((N : Int) ≤ i)) with
  | true =>
    simp only [if_true, Option.some.injEq]
    symm
    apply List.filter_eq_nil_iff.2
    intro x _ he
    obtain ⟨a, b, h1, h2, h3, h4⟩ := h.inN _ _ he
    simp only [Bool.or_eq_true, decide_eq_true_eq] at hc
    omega
  | false =>
    simp only [Bool.or_eq_false_iff, decide_eq_false_iff_not] at hc
    obtain ⟨k, rfl⟩ := Int.eq_ofNat_of_zero_le (show 0 ≤ i by omega)
    simp only [Bool.false_eq_true, if_false, graph_masks h, Option.bind_some, mapN_idx _ (show k < N by omega), gr_list (rowM_lt h k), bits_row h]
theorem ref10_Attackers (h : GoodG N L) (i : Int) : m_ref10_Attackers ((N : Int), L) i = some (predL N L i) := by
  unfold m_ref10_Attackers
  rw [h.valid]
  simp only [Option.bind_some]
  have hl := loop_fold (B := m_ref10_Attackers_L1 ((N : Int), L) i) L (fun s p => if p.2 == i then s ++ [p.1] else s) id (fun i s => s.length ≤ i) ([] : List Int) (by simp) ?_ ?_
  · rw [hl.1, foldl_app_filter (fun p : T_Pair => p.2 == i) (·.1)]
    simp only [id, List.nil_append, Option.some.injEq]
    apply Asc.ext ord_ltI ?_ ((rng_asc N).filter _)
    · intro x
      rw [List.mem_map, List.mem_filter, rng_mem, ed_mem]
      constructor
      · rintro ⟨p, hp, rfl⟩
        obtain ⟨h1, h2⟩ := List.mem_filter.1 hp
        have h3 : p.2 = i := by simpa using h2
        obtain ⟨a, b, h4, h5, h6⟩ := badE_nat (h.inr p h1)
        subst h6
        exact ⟨⟨by show (0 : Int) ≤ (a : Int); omega, by show (a : Int) < (N : Int); omega⟩, by rw [← h3]; exact h1⟩
      · rintro ⟨_, h1⟩
        exact ⟨_, List.mem_filter.2 ⟨h1, by simp⟩, rfl⟩
    · have h1 := h.asc.filter fun p : T_Pair => p.2 == i
      rw [Asc, List.pairwise_map]
      refine List.Pairwise.imp_of_mem ?_ h1
      intro p q hp hq hlt
      have h2 : p.2 = i := by simpa using (List.mem_filter.1 hp).2
      have h3 : q.2 = i := by simpa using (List.mem_filter.1 hq).2
      simp only [lt2, lexLt, h2, h3, ord_ltI.irrefl, Bool.and_false, Bool.or_false] at hlt
      exact hlt
  · intro k p s hp hI
    have := h.len
    have := at_lt hp
    unfold m_ref10_Attackers_L1
    simp only [at_dec hp, if_true, at_idx hp, Option.bind_some, at_suc hp h.len']
    by_cases hc : (p.2 == i) = true
    · simp only [hc, if_true]
      rw [app_ok (by simp; omega)]
      exact ⟨rfl, by simp; omega⟩
    · simp only [hc, Bool.false_eq_true, if_false]
      exact ⟨trivial, by omega⟩
  · intro s _
    unfold m_ref10_Attackers_L1
    simp [len]
end
end
section
set_option linter.unusedVariables false
theorem mapN_get {N i : Nat} (f : Nat → Int) : (mapN N f)[i]? = if i < N then some (f i) else none := by
  unfold mapN
  by_cases h : i < N
  · simp [h]
  · simp [h]
theorem mapN_snoc (N : Nat) (f : Nat → Int) : mapN (N + 1) f = mapN N f ++ [f N] := by simp [mapN, List.range_succ]
theorem mapN_take {N c : Nat} (f : Nat → Int) (h : c ≤ N) : (mapN N f).take c = mapN c f := by
  apply List.ext_getElem?
  intro i
  rw [List.getElem?_take, mapN_get, mapN_get]
  by_cases h1 : i < c
  · simp [h1, show i < N by omega]
  · simp [h1]
theorem aput_mapN (k : Nat) (f : Nat → Int) {x : Nat} (hx : x < k) (v : Int) : aput k (mapN k f) (x : Int) v = mapN k fun j => if j = x then v else f j := by
  unfold aput mapN
  apply List.map_congr_left
  intro j hj
  have hj := List.mem_range.1 hj
  rw [Int.toNat_natCast]
  by_cases h : j = x
  · simp [h]
  · simp only [h, if_false]
    simp [List.getD, hj]
theorem aget_mapN (k : Nat) (f : Nat → Int) {x : Nat} (hx : x < k) : aget (mapN k f) (x : Int) = f x := by
  unfold aget mapN
  simp [List.getD, hx]
theorem rep_mapN (k : Nat) (v : Int) : List.replicate k v = mapN k fun _ => v := by
  apply List.ext_getElem?
  intro i
  rw [mapN_get, List.getElem?_replicate]
theorem chk_in {x k : Nat} {K : Int} (hK : K = (k : Int)) (h : x < k) : chk (decide (0 ≤ (x : Int)) && decide ((x : Int) < K)) = some () := by
  subst hK
  simp [chk]; omega
theorem mul_small : ∀ n, n < 41 → m_math_bits_Mul (IntKind.u64.wrap 1) (IntKind.u64.wrap ((n : Nat) : Int)) = some (0, (n : Int)) := by decide +kernel
theorem copyAt_mapN {n c : Nat} (x : Int) (hc : c ≤ n) : copyAt (mapN n fun i => if i < c then x else 0) (c : Int) (mapN c fun i => if i < c then x else 0) = mapN n fun i => if i < min (c + c) n then x else 0 := by
  unfold copyAt
  apply List.ext_getElem?
  intro i
  rw [Int.toNat_natCast, mapN_len, mapN_len, mapN_take _ hc]
  rw [List.getElem?_append, List.getElem?_append, List.length_append, mapN_len, List.length_take, mapN_len, List.getElem?_take, List.getElem?_drop]
  rw [mapN_get, mapN_get, mapN_get, mapN_get]
  by_cases h1 : i < c
  · have h2 : i < c + min (n - c) c := by omega
    have h3 : i < n := by omega
    have h4 : i < min (c + c) n := by omega
    simp only [h1, h2, h3, h4, if_true]
  · by_cases h2 : i < c + min (n - c) c
    · have h3 : i < n := by omega
      have h4 : i < min (c + c) n := by omega
      have h5 : i - c < n - c := by omega
      have h6 : i - c < c := by omega
      simp only [h1, h2, h3, h4, h5, h6, if_true, if_false]
    · by_cases h3 : i < n
      · have h4 : c + c + (i - (c + min (n - c) c)) = i := by omega
        have h5 : ¬ i < min (c + c) n := by omega
        rw [h4]
        simp only [h1, h2, h3, h5, if_true, if_false]
      · have h4 : ¬ c + c + (i - (c + min (n - c) c)) < n := by omega
        simp only [h1, h2, h3, h4, if_false]
theorem repeat_int (x : Int) {n : Nat} (hn : n ≤ 40) : m_slices_Repeat_int [x] (n : Int) = some (mapN n fun _ => x) := by
  unfold m_slices_Repeat_int
  have h0 : decide ((n : Int) < 0) = false := decide_eq_false (by omega)
  have h1 : IntKind.u64.wrap (len [x]) = IntKind.u64.wrap 1 := rfl
  have h2 : (decide ((0 : Int) < 0) || decide (9223372036854775807 < (n : Int))) = false := by simp; omega
  simp only [h0, Bool.false_eq_true, if_false, Option.bind_some, h1, mul_small n (by omega), h2, w64_nat n (by omega)]
  rw [mkS_ok (by omega)]
  simp only [Option.bind_some, mapN_len]
  have hs : copyAt (mapN n fun _ => (0 : Int)) 0 [x] = mapN n fun i => if i < min 1 n then x else 0 := by
    cases n with
    | zero => rfl
    | succ n =>
      unfold copyAt mapN
      rw [List.range_succ_eq_map]
      simp only [List.map_cons, List.map_map]
      have h4 : min 1 (n + 1) = 1 := by omega
      simp [Function.comp_def, h4]
  rw [hs]
  have hm : ((Nat.min (List.length [x]) n : Nat) : Int) = ((min 1 n : Nat) : Int) := rfl
  rw [hm]
  have hl := loop_nat (B := m_slices_Repeat_int_L1 (mapN n fun _ => 0)) (fun s => n - s.2.toNat) (fun s => ∃ c : Nat, c ≤ n ∧ min 1 n ≤ c ∧ s = (mapN n (fun i => if i < c then x else 0), (c : Int))) (fun r => r = mapN n fun _ => x) ?_ (mapN n (fun i => if i < min 1 n then x else 0), ((min 1 n : Nat) : Int)) ⟨min 1 n, by omega, Nat.le_refl _, rfl⟩
  · obtain ⟨r, h3, rfl⟩ := hl
    exact h3
  · rintro _ ⟨c, hc, h1c, rfl⟩
    unfold m_slices_Repeat_int_L1
    by_cases hlt : c < n
    · refine .inl ⟨(mapN n (fun i => if i < min (c + c) n then x else 0), ((min (c + c) n : Nat) : Int)), ?_, ⟨min (c + c) n, by omega, by omega, rfl⟩, ?_⟩
      · have hd : decide ((c : Int) < len (mapN n fun _ => (0 : Int))) = true := decide_eq_true (by simp only [len, mapN_len]; omega)
        have hck : (decide (0 ≤ (c : Int)) && decide ((c : Int) ≤ len (mapN n fun i => if i < c then x else 0))) = true := by
          rw [decide_eq_true (show 0 ≤ (c : Int) by omega), decide_eq_true (show (c : Int) ≤ len (mapN n fun i => if i < c then x else 0) by simp only [len, mapN_len]; omega)]
          rfl
        simp only [hd, if_true, hck, chk, Option.bind_some]
        rw [sub_pre (by omega) (by rw [mapN_len]; omega)]
        simp only [Option.bind_some, Int.toNat_natCast, mapN_take _ hc, copyAt_mapN x hc, mapN_len]
        have hnum : ((Nat.min c (Int.toNat (((n : Nat) : Int) - (c : Int))) : Nat) : Int) = ((min c (n - c) : Nat) : Int) := by
          have : Int.toNat (((n : Nat) : Int) - (c : Int)) = n - c := by omega
          rw [this]
        rw [hnum, w64_id (by omega) (by omega)]
        congr 3
        omega
      · simp only [Int.toNat_natCast]
        omega
    · have hcn : c = n := by omega
      subst hcn
      have hd : decide ((c : Int) < len (mapN c fun _ => (0 : Int))) = false := by simp [len, mapN_len]
      refine .inr ⟨mapN c fun i => if i < c then x else 0, by simp only [hd, Bool.false_eq_true, if_false], ?_⟩
      apply mapN_congr
      intro i hi
      simp [hi]
section
variable (N : Nat) (L : List T_Pair)
/-- the round in which a node got its label -/
noncomputable def rnk : Nat → Nat → Int
  | 0, _ => 0
  | k + 1, i => if lab N L (k + 1) i = lab N L k i then rnk k i else ((k + 1 : Nat) : Int)
theorem rnk_le : ∀ k i, rnk N L k i ≤ (k : Int)
  | 0, _ => Int.le_refl _
  | k + 1, i => by
    unfold rnk
    have := rnk_le k i
    split <;> omega
theorem lab_123 (k i : Nat) : lab N L k i = 1 ∨ lab N L k i = 2 ∨ lab N L k i = 3 := by
  unfold lab
  by_cases h1 : grN N L k i
  · simp [h1]
  · by_cases h2 : att (edN L) (grN N L k) i <;> simp [h1, h2]
theorem now3 {k i : Nat} (h : nowP N L k i) : lab N L k i = 3 := (lab3 N L).2 ⟨h.2, fun ⟨m, h3, h4⟩ => gr_not_att N L h3 (h.1.2 m h4)⟩
theorem lab_stay2 {k i : Nat} (h : lab N L k i = 2) : lab N L (k + 1) i = 2 := (lab2' N L).2 (by obtain ⟨m, h1, h2⟩ := (lab2' N L).1 h; exact ⟨m, gr_mono h1, h2⟩)
/-- when nothing is new, nothing will be -/
theorem lab_end {k : Nat} (h : ∀ i, ¬ nowP N L k i) : ∀ m, k ≤ m → ∀ i, lab N L m i = lab N L k i := by
  intro m hm i
  have hs := gr_stay (D := (· < N)) (R := edN L) (k := k) fun i hi => Classical.byContradiction fun hn => h i ⟨hi, hn⟩
  have he : ∀ i, grN N L m i ↔ grN N L k i := fun i => ⟨hs m hm i, gr_le hm⟩
  unfold lab
  have ha : att (edN L) (grN N L m) i ↔ att (edN L) (grN N L k) i := ⟨fun ⟨j, h1, h2⟩ => ⟨j, (he j).1 h1, h2⟩, fun ⟨j, h1, h2⟩ => ⟨j, (he j).2 h1, h2⟩⟩
  by_cases h1 : grN N L k i
  · rw [if_pos ((he i).2 h1), if_pos h1]
  · rw [if_neg (fun h => h1 ((he i).1 h)), if_neg h1]
    by_cases h2 : att (edN L) (grN N L k) i
    · rw [if_pos (ha.2 h2), if_pos h2]
    · rw [if_neg (fun h => h2 (ha.1 h)), if_neg h2]
theorem rnk_end {k : Nat} (h : ∀ i, ¬ nowP N L k i) : ∀ m, k ≤ m → ∀ i, rnk N L m i = rnk N L k i := by
  intro m hm i
  induction m with
  | zero => rw [show k = 0 by omega]
  | succ m ih =>
    by_cases he : k = m + 1
    · rw [he]
    · have h1 : lab N L (m + 1) i = lab N L m i := by rw [lab_end N L h (m + 1) hm, lab_end N L h m (by omega)]
      rw [rnk, if_pos h1, ih (by omega)]
theorem now_last {i : Nat} : ¬ nowP N L N i := fun h => h.2 (gr_last (D := (· < N)) (fun _ h => h) h.1)
end
section
variable {N : Nat} {L : List T_Pair}
noncomputable abbrev lb (N : Nat) (L : List T_Pair) (k : Nat) : List Int := mapN N (lab N L k)
noncomputable abbrev rn (N : Nat) (L : List T_Pair) (k : Nat) : List Int := mapN N (rnk N L k)
/-- the grounded labelling, its ranks -/
noncomputable def grLab (N : Nat) (L : List T_Pair) : List Int := lb N L (N + 1)
noncomputable def grRnk (N : Nat) (L : List T_Pair) : List Int := rn N L (N + 1)
theorem lb_zero : lb N L 0 = mapN N fun _ => 3 := mapN_congr fun i _ => (lab3 N L).2 ⟨fun h : grN N L 0 i => h.elim, fun ⟨m, (h : grN N L 0 m), _⟩ => h.elim⟩
theorem end_lb {k : Nat} (hk : k ≤ N) (h : ∀ i, ¬ nowP N L k i) : lb N L k = grLab N L ∧ rn N L k = grRnk N L := by
  refine ⟨mapN_congr fun i _ => (lab_end N L h (N + 1) (by omega) i).symm, mapN_congr fun i _ => (rnk_end N L h (N + 1) (by omega) i).symm⟩
theorem GoodG.hR (h : GoodG N L) : ∀ a b : Int, ed L a b = true → ∃ m, m < N ∧ a = (m : Int) := fun a b he => by
  obtain ⟨i, j, h1, _, h3, _⟩ := h.inN a b he
  exact ⟨i, h1, h3⟩
theorem pred_at {i : Int} {q : Nat} {x : Int} (h : (predL N L i)[q]? = some x) : ∃ a : Nat, x = (a : Int) ∧ a < N ∧ ed L (a : Int) i = true := by
  obtain ⟨h1, h2⟩ := List.mem_filter.1 (mem_at h)
  obtain ⟨h3, h4⟩ := rng_mem.1 h1
  obtain ⟨a, rfl⟩ := Int.eq_ofNat_of_zero_le h3
  exact ⟨a, rfl, by omega, h2⟩
theorem pred_len (i : Int) : (predL N L i).length ≤ N := Nat.le_trans (List.length_filter_le _ _) (by rw [rng_len]; exact Nat.le_refl _)
theorem succ_len (i : Int) : (succL N L i).length ≤ N := Nat.le_trans (List.length_filter_le _ _) (by rw [rng_len]; exact Nat.le_refl _)
theorem refg_L1 (hN : N ≤ 40) : loop (m_ref12_build_L1 ((N : Int), L)) (([] : List Int), ([] : List Int), 0) = some (lb N L 0, rn N L 0) := by
  have h := loop_forI (B := m_ref12_build_L1 ((N : Int), L)) (fun i (s : List Int × List Int) => (s.1, s.2, (i : Int))) (rng N) (fun i s => s = (mapN i (fun _ => 3), mapN i fun _ => 0)) (fun r => r = (mapN N (fun _ => 3), mapN N fun _ => 0)) ?_ ?_ ([], []) rfl
  · obtain ⟨r, h1, rfl⟩ := h
    rw [lb_zero]; exact h1
  · rintro i x s hx rfl
    obtain ⟨rfl, hi⟩ := rng_at hx
    refine .inl ⟨(mapN (i + 1) (fun _ => 3), mapN (i + 1) fun _ => 0), ?_, rfl⟩
    have hd : decide ((i : Int) < (N : Int)) = true := by simp; omega
    unfold m_ref12_build_L1
    simp only [hd, if_true]
    rw [app_ok (by simp [mapN_len]; omega), app_ok (by simp [mapN_len]; omega)]
    simp only [Option.bind_some, mapN_snoc, w64_succ i (by omega)]
  · rintro s rfl
    rw [rng_len]
    refine ⟨_, ?_, rfl⟩
    unfold m_ref12_build_L1
    simp
theorem refg_L4 (f : Nat → Int) {l : List Int} (hl : ∀ (q : Nat) x, l[q]? = some x → ∃ a : Nat, x = (a : Int) ∧ a < N) (hb : l.length < 4294967296) (ok : Bool) :
    loop (m_ref12_build_L4 l (mapN N f)) (ok, 0) = some (ok && l.all fun b => f b.toNat == 2) := by
  have h := loop_fold (B := m_ref12_build_L4 l (mapN N f)) l (fun ok b => ok && f b.toNat == 2) id (fun _ _ => True) ok trivial ?_ ?_
  · rw [h.1]
    have : ∀ (l : List Int) (ok : Bool), l.foldl (fun ok b => ok && f b.toNat == 2) ok = (ok && l.all fun b => f b.toNat == 2) := by
      intro l
      induction l with
      | nil => intro b; simp
      | cons x l ih => intro b; rw [List.foldl_cons, ih, List.all_cons, Bool.and_assoc]
    rw [this]; rfl
  · intro i x s hx _
    obtain ⟨a, rfl, ha⟩ := hl i x hx
    unfold m_ref12_build_L4
    simp only [at_dec hx, if_true, at_idx hx, Option.bind_some, at_suc hx hb, mapN_idx f ha, Int.toNat_natCast]
    cases s <;> simp
  · intro s _
    unfold m_ref12_build_L4
    simp [len]
theorem now_all (h : GoodG N L) {k i : Nat} (hi : i < N) : (lab N L k i == 3 && (predL N L (i : Int)).all fun b => lab N L k b.toNat == 2) = true ↔ nowP N L k i := by
  rw [← now_iff N L hi h.hR, Bool.and_eq_true, beq_iff_eq, List.all_eq_true]
  refine and_congr_right fun _ => ⟨fun hh b hb he => ?_, fun hh x hx => ?_⟩
  · have := hh (b : Int) (List.mem_filter.2 ⟨rng_mem.2 ⟨by omega, by omega⟩, he⟩)
    simpa using this
  · obtain ⟨h1, h2⟩ := List.mem_filter.1 hx
    obtain ⟨h3, h4⟩ := rng_mem.1 h1
    obtain ⟨a, rfl⟩ := Int.eq_ofNat_of_zero_le h3
    simpa using hh a (by omega) h2
open Classical in
noncomputable def lab' (N : Nat) (L : List T_Pair) (k i : Nat) : Int := if nowP N L k i then 1 else lab N L k i
open Classical in
noncomputable def rnk' (N : Nat) (L : List T_Pair) (k i : Nat) : Int := if nowP N L k i then ((k + 1 : Nat) : Int) else rnk N L k i
open Classical in
theorem refg_L3 (h : GoodG N L) {k : Nat} (hk : k ≤ 100) : ∃ c : Bool, (c = true ↔ ∃ i, nowP N L k i) ∧
    loop (m_ref12_build_L3 ((N : Int), L) (lb N L k) (lb N L k, rn N L k, ((k + 1 : Nat) : Int))) (lb N L k, rn N L k, false, 0) = some (mapN N (lab' N L k), mapN N (rnk' N L k), c) := by
  have hN := h.hN
  have hl := loop_forI (B := m_ref12_build_L3 ((N : Int), L) (lb N L k) (lb N L k, rn N L k, ((k + 1 : Nat) : Int))) (fun i (s : List Int × List Int × Bool) => (s.1, s.2.1, s.2.2, (i : Int))) (rng N)
    (fun i s => s.1 = mapN N (fun j => if j < i ∧ nowP N L k j then 1 else lab N L k j) ∧ s.2.1 = mapN N (fun j => if j < i ∧ nowP N L k j then ((k + 1 : Nat) : Int) else rnk N L k j) ∧ (s.2.2 = true ↔ ∃ j, j < i ∧ nowP N L k j))
    (fun r => r.1 = mapN N (lab' N L k) ∧ r.2.1 = mapN N (rnk' N L k) ∧ (r.2.2 = true ↔ ∃ j, nowP N L k j)) ?_ ?_ (lb N L k, rn N L k, false) ⟨by simp, by simp, by simp⟩
  · obtain ⟨⟨r1, r2, r3⟩, h1, rfl, rfl, h2⟩ := hl
    exact ⟨r3, h2, h1⟩
  · rintro i x ⟨s1, s2, s3⟩ hx ⟨rfl, rfl, h3⟩
    obtain ⟨rfl, hi⟩ := rng_at hx
    have hd : decide ((i : Int) < (N : Int)) = true := by simp; omega
    have hpl := pred_len (N := N) (L := L) (i : Int)
    unfold m_ref12_build_L3
    simp only [hd, if_true, mapN_idx _ hi, Option.bind_some, ref10_Attackers h, w64_succ i (by omega), Int.toNat_natCast]
    rw [refg_L4 _ (fun q x hx => by obtain ⟨a, h1, h2, _⟩ := pred_at hx; exact ⟨a, h1, h2⟩) (by omega)]
    simp only [Option.bind_some]
    by_cases hn : nowP N L k i
    · have hc := (now_all h hi).2 hn
      refine .inl ⟨(mapN N (fun j => if j < i + 1 ∧ nowP N L k j then 1 else lab N L k j), mapN N (fun j => if j < i + 1 ∧ nowP N L k j then ((k + 1 : Nat) : Int) else rnk N L k j), true), ?_, rfl, rfl, by simp; exact ⟨i, by omega, hn⟩⟩
      simp only [hc, if_true, mapN_set]
      have e1 : (mapN N fun j => if j = i then 1 else if j < i ∧ nowP N L k j then 1 else lab N L k j) = mapN N (fun j => if j < i + 1 ∧ nowP N L k j then 1 else lab N L k j) := by
        apply mapN_congr
        intro q _
        by_cases hq : q = i
        · subst hq; simp [hn]
        · have e : (q < i + 1) = (q < i) := by rw [eq_iff_iff]; omega
          simp [hq, e]
      have e2 : (mapN N fun j => if j = i then ((k + 1 : Nat) : Int) else if j < i ∧ nowP N L k j then ((k + 1 : Nat) : Int) else rnk N L k j) = mapN N (fun j => if j < i + 1 ∧ nowP N L k j then ((k + 1 : Nat) : Int) else rnk N L k j) := by
        apply mapN_congr
        intro q _
        by_cases hq : q = i
        · subst hq; simp [hn]
        · have e : (q < i + 1) = (q < i) := by rw [eq_iff_iff]; omega
          simp [hq, e]
      rw [e1, e2]
    · have hc : (lab N L k i == 3 && (predL N L (i : Int)).all fun b => lab N L k b.toNat == 2) = false := by
        cases hb : (lab N L k i == 3 && (predL N L (i : Int)).all fun b => lab N L k b.toNat == 2) with
        | false => rfl
        | true => exact absurd ((now_all h hi).1 hb) hn
      have e : ∀ q, (q < i + 1 ∧ nowP N L k q) ↔ (q < i ∧ nowP N L k q) := fun q => ⟨fun ⟨h1, h2⟩ => ⟨by
        by_cases hq : q = i
        · subst hq; exact absurd h2 hn
        · omega, h2⟩, fun ⟨h1, h2⟩ => ⟨by omega, h2⟩⟩
      refine .inl ⟨(mapN N (fun j => if j < i + 1 ∧ nowP N L k j then 1 else lab N L k j), mapN N (fun j => if j < i + 1 ∧ nowP N L k j then ((k + 1 : Nat) : Int) else rnk N L k j), s3), ?_, rfl, rfl, ?_⟩
      · simp only [hc, Bool.false_eq_true, if_false, e]
      · simp only [e]; exact h3
  · rintro ⟨s1, s2, s3⟩ ⟨rfl, rfl, h3⟩
    rw [rng_len]
    refine ⟨(mapN N (lab' N L k), mapN N (rnk' N L k), s3), ?_, rfl, rfl, ?_⟩
    · unfold m_ref12_build_L3
      simp only [Int.lt_irrefl, decide_false, Bool.false_eq_true, if_false]
      have e1 : (mapN N fun j => if j < N ∧ nowP N L k j then 1 else lab N L k j) = mapN N (lab' N L k) := mapN_congr fun q hq => by simp [lab', hq]
      have e2 : (mapN N fun j => if j < N ∧ nowP N L k j then ((k + 1 : Nat) : Int) else rnk N L k j) = mapN N (rnk' N L k) := mapN_congr fun q hq => by simp [rnk', hq]
      rw [e1, e2]
    · rw [h3]
      exact ⟨fun ⟨j, _, h1⟩ => ⟨j, h1⟩, fun ⟨j, h1⟩ => ⟨j, by rw [rng_len]; exact gr_dom (D := (· < N)) h1.1, h1⟩⟩
theorem refg_L6 {f g : Nat → Int} {i : Nat} (hi : i < N) (rd : Int) (l1 l2 s1 s2 : List Int) {l : List Int} (hl : ∀ (q : Nat) x, l[q]? = some x → ∃ a : Nat, x = (a : Int) ∧ a < N) (hb : l.length < 4294967296) (hii : i < 1000) :
    loop (m_ref12_build_L6 l (s1, s2, (i : Int)) (l1, l2, rd)) (mapN N f, mapN N g, 0) =
      some (.inl (mapN N (fun j => if j = i ∧ f i = 3 ∧ (l.any fun b => f b.toNat == 1 && g b.toNat == rd) = true then 2 else f j), mapN N (fun j => if j = i ∧ f i = 3 ∧ (l.any fun b => f b.toNat == 1 && g b.toNat == rd) = true then rd else g j), ((i + 1 : Nat) : Int))) := by
  have h := loop_forI (B := m_ref12_build_L6 l (s1, s2, (i : Int)) (l1, l2, rd)) (fun q (s : List Int × List Int) => (s.1, s.2, (q : Int))) l
    (fun q s => s.1 = mapN N (fun j => if j = i ∧ f i = 3 ∧ ((l.take q).any fun b => f b.toNat == 1 && g b.toNat == rd) = true then 2 else f j) ∧ s.2 = mapN N (fun j => if j = i ∧ f i = 3 ∧ ((l.take q).any fun b => f b.toNat == 1 && g b.toNat == rd) = true then rd else g j))
    (fun r => r = .inl (mapN N (fun j => if j = i ∧ f i = 3 ∧ (l.any fun b => f b.toNat == 1 && g b.toNat == rd) = true then 2 else f j), mapN N (fun j => if j = i ∧ f i = 3 ∧ (l.any fun b => f b.toNat == 1 && g b.toNat == rd) = true then rd else g j), ((i + 1 : Nat) : Int))) ?_ ?_ (mapN N f, mapN N g) ⟨by simp, by simp⟩
  · obtain ⟨r, h1, rfl⟩ := h
    exact h1
  · rintro q x ⟨t1, t2⟩ hx ⟨rfl, rfl⟩
    obtain ⟨a, rfl, ha⟩ := hl q x hx
    have hta : ((l.take (q + 1)).any fun b => f b.toNat == 1 && g b.toNat == rd) = (((l.take q).any fun b => f b.toNat == 1 && g b.toNat == rd) || (f a == 1 && g a == rd)) := by
      rw [take_any_succ _ hx]; simp
    unfold m_ref12_build_L6
    simp only [at_dec hx, if_true, at_idx hx, Option.bind_some, at_suc hx hb, mapN_idx _ hi, mapN_idx _ ha, Int.toNat_natCast, hta]
    cases hA : ((l.take q).any fun b => f b.toNat == 1 && g b.toNat == rd) with
    | true =>
      refine .inl ⟨(mapN N (fun j => if j = i ∧ f i = 3 then 2 else f j), mapN N (fun j => if j = i ∧ f i = 3 then rd else g j)), ?_, by simp, by simp⟩
      by_cases h3 : f i = 3
      · simp [h3]
      · have : (f i == 3) = false := by simpa using h3
        simp [h3, this]
    | false =>
      by_cases h3 : f i = 3
      · have hai : a = i → (f a == 1) = false := fun e => by subst e; rw [h3]; rfl
        cases h1 : (f a == 1 && g a == rd) with
        | true =>
          refine .inl ⟨(mapN N (fun j => if j = i then 2 else f j), mapN N (fun j => if j = i then rd else g j)), ?_, by simp [h3], by simp [h3]⟩
          rw [Bool.and_eq_true] at h1
          simp [h3, h1.1, h1.2, mapN_set]
        | false =>
          refine .inl ⟨(mapN N f, mapN N g), ?_, by simp, by simp⟩
          cases h4 : f a == 1 with
          | false => simp [h3, h4]
          | true =>
            rw [h4, Bool.true_and] at h1
            simp [h3, h4, h1]
      · have h3' : (f i == 3) = false := by simpa using h3
        refine .inl ⟨(mapN N f, mapN N g), by simp [h3', h3], by simp [h3], by simp [h3]⟩
  · rintro ⟨t1, t2⟩ ⟨rfl, rfl⟩
    rw [List.take_length]
    refine ⟨_, ?_, rfl⟩
    unfold m_ref12_build_L6
    simp only [end_dec, Bool.false_eq_true, if_false, w64_succ i (by omega)]
theorem rank_now (h : GoodG N L) {k b : Nat} (hb : lab' N L k b = 1) : (rnk' N L k b == ((k + 1 : Nat) : Int)) = true ↔ nowP N L k b := by
  unfold rnk'
  by_cases hn : nowP N L k b
  · simp [hn]
  · have := rnk_le N L k b
    simp only [hn, if_false, iff_false, beq_iff_eq]
    omega
theorem att_any (h : GoodG N L) {k : Nat} {f g : Nat → Int} (hf : ∀ b, f b = 1 ↔ lab' N L k b = 1) (hg : ∀ b, f b = 1 → g b = rnk' N L k b) (i : Nat) :
    ((predL N L (i : Int)).any fun b => f b.toNat == 1 && g b.toNat == ((k + 1 : Nat) : Int)) = true ↔ att (edN L) (nowP N L k) i := by
  rw [List.any_eq_true]
  constructor
  · rintro ⟨x, hx, h1⟩
    obtain ⟨h2, h3⟩ := List.mem_filter.1 hx
    obtain ⟨h4, h5⟩ := rng_mem.1 h2
    obtain ⟨a, rfl⟩ := Int.eq_ofNat_of_zero_le h4
    rw [Bool.and_eq_true, Int.toNat_natCast, beq_iff_eq] at h1
    rw [hg a h1.1] at h1
    exact ⟨a, (rank_now h ((hf a).1 h1.1)).1 h1.2, h3⟩
  · rintro ⟨m, h1, h2⟩
    have hm : m < N := gr_dom (D := (· < N)) h1.1
    have h3 : lab' N L k m = 1 := by simp [lab', h1]
    have h4 := (hf m).2 h3
    refine ⟨(m : Int), List.mem_filter.2 ⟨rng_mem.2 ⟨by omega, by omega⟩, h2⟩, ?_⟩
    rw [Bool.and_eq_true, Int.toNat_natCast, beq_iff_eq]
    refine ⟨h4, ?_⟩
    rw [hg m h4]
    exact (rank_now h h3).2 h1
theorem lab_next (k i : Nat) : lab N L (k + 1) i = (open Classical in if lab' N L k i = 3 ∧ att (edN L) (nowP N L k) i then 2 else lab' N L k i) := by
  rw [lab_step]
  unfold lab'
  by_cases hn : nowP N L k i
  · simp [hn]
  · rw [if_neg hn, if_neg hn]
theorem rnk_next (k i : Nat) : rnk N L (k + 1) i = (open Classical in if lab' N L k i = 3 ∧ att (edN L) (nowP N L k) i then ((k + 1 : Nat) : Int) else rnk' N L k i) := by
  rw [rnk, lab_step]
  unfold lab' rnk'
  by_cases hn : nowP N L k i
  · have := now3 N L hn
    simp [hn, this]
  · by_cases h1 : lab N L k i = 3 ∧ att (edN L) (nowP N L k) i
    · simp [hn, h1]
    · simp [hn, h1]
open Classical in
theorem refg_L5 (h : GoodG N L) {k : Nat} (hk : k ≤ 100) (l1 l2 : List Int) :
    loop (m_ref12_build_L5 ((N : Int), L) (l1, l2, ((k + 1 : Nat) : Int))) (mapN N (lab' N L k), mapN N (rnk' N L k), 0) = some (lb N L (k + 1), rn N L (k + 1)) := by
  have hN := h.hN
  let c (j : Nat) : Prop := lab' N L k j = 3 ∧ att (edN L) (nowP N L k) j
  let F (i j : Nat) : Int := if j < i ∧ c j then 2 else lab' N L k j
  let G (i j : Nat) : Int := if j < i ∧ c j then ((k + 1 : Nat) : Int) else rnk' N L k j
  have hF : ∀ i b, F i b = 1 ↔ lab' N L k b = 1 := fun i b => by
    show (if b < i ∧ c b then 2 else lab' N L k b) = 1 ↔ _
    by_cases hc : b < i ∧ c b
    · rw [if_pos hc, hc.2.1]; simp
    · rw [if_neg hc]
  have hG : ∀ i b, F i b = 1 → G i b = rnk' N L k b := fun i b hb => by
    have h1 := (hF i b).1 hb
    show (if b < i ∧ c b then ((k + 1 : Nat) : Int) else rnk' N L k b) = _
    rw [if_neg (fun hc => by have := hc.2.1; omega)]
  have hl := loop_forI (B := m_ref12_build_L5 ((N : Int), L) (l1, l2, ((k + 1 : Nat) : Int))) (fun i (s : List Int × List Int) => (s.1, s.2, (i : Int))) (rng N)
    (fun i s => s = (mapN N (F i), mapN N (G i))) (fun r => r = (lb N L (k + 1), rn N L (k + 1))) ?_ ?_ (mapN N (lab' N L k), mapN N (rnk' N L k)) (by simp [F, G])
  · obtain ⟨r, h1, rfl⟩ := hl
    exact h1
  · rintro i x s hx rfl
    obtain ⟨rfl, hi⟩ := rng_at hx
    have hd : decide ((i : Int) < (N : Int)) = true := by simp; omega
    have hpl := pred_len (N := N) (L := L) (i : Int)
    refine .inl ⟨_, ?_, rfl⟩
    unfold m_ref12_build_L5
    simp only [hd, if_true, ref10_Attackers h, Option.bind_some]
    rw [refg_L6 hi _ _ _ _ _ (fun q x hx => by obtain ⟨a, h1, h2, _⟩ := pred_at hx; exact ⟨a, h1, h2⟩) (by omega) (by omega)]
    have hfi : F i i = lab' N L k i := by simp [F]
    have e0 : ∀ j, (j = i ∧ F i i = 3 ∧ ((predL N L (i : Int)).any fun b => F i b.toNat == 1 && G i b.toNat == ((k + 1 : Nat) : Int)) = true) ↔ j = i ∧ c i := fun j => by
      rw [att_any h (hF i) (hG i) i, hfi]
    congr 3
    · apply mapN_congr
      intro q _
      by_cases hq : q = i
      · subst hq
        by_cases hc : c q
        · rw [if_pos ((e0 q).2 ⟨rfl, hc⟩)]; simp [F, hc]
        · rw [if_neg (fun hh => hc ((e0 q).1 hh).2)]; simp [F, hc]
      · have e : (q < i + 1) = (q < i) := by rw [eq_iff_iff]; omega
        rw [if_neg (fun hh => hq hh.1)]
        simp [F, e]
    · congr 1
      apply mapN_congr
      intro q _
      by_cases hq : q = i
      · subst hq
        by_cases hc : c q
        · rw [if_pos ((e0 q).2 ⟨rfl, hc⟩)]; simp [G, hc]
        · rw [if_neg (fun hh => hc ((e0 q).1 hh).2)]; simp [G, hc]
      · have e : (q < i + 1) = (q < i) := by rw [eq_iff_iff]; omega
        rw [if_neg (fun hh => hq hh.1)]
        simp [G, e]
  · rintro s rfl
    rw [rng_len]
    refine ⟨_, ?_, rfl⟩
    unfold m_ref12_build_L5
    simp only [Int.lt_irrefl, decide_false, Bool.false_eq_true, if_false]
    have e1 : mapN N (F N) = lb N L (k + 1) := mapN_congr fun q hq => by rw [lab_next]; simp [F, hq, c]
    have e2 : mapN N (G N) = rn N L (k + 1) := mapN_congr fun q hq => by rw [rnk_next]; simp [G, hq, c]
    rw [e1, e2]
theorem ref12_build (h : GoodG N L) : m_ref12_build ((N : Int), L) = some (grLab N L, grRnk N L) := by
  have hN := h.hN
  unfold m_ref12_build
  rw [refg_L1 hN]
  simp only [Option.bind_some]
  have hstep : ∀ k, k ≤ N → ∃ c : Bool, (c = true ↔ ∃ i, nowP N L k i) ∧ m_ref12_build_L2 ((N : Int), L) (lb N L k, rn N L k, ((k + 1 : Nat) : Int)) = if !c then some (.inr (lb N L (k + 1), rn N L (k + 1))) else some (.inl (lb N L (k + 1), rn N L (k + 1), ((k + 2 : Nat) : Int))) := by
    intro k hk
    obtain ⟨c, hc, h3⟩ := refg_L3 h (k := k) (by omega)
    refine ⟨c, hc, ?_⟩
    unfold m_ref12_build_L2
    rw [app_ok (by rw [mapN_len]; simp; omega)]
    simp only [List.nil_append, Option.bind_some, h3, refg_L5 h (show k ≤ 100 by omega)]
    rw [w64_succ (k + 1) (by omega)]
  have hl := loop_uptoS (B := m_ref12_build_L2 ((N : Int), L)) (fun (_ : Unit) k => (lb N L k, rn N L k, ((k + 1 : Nat) : Int))) N (fun _ _ => True) (fun r => r = (grLab N L, grRnk N L)) ?_ ?_ () trivial
  · obtain ⟨r, h1, rfl⟩ := hl
    exact h1
  · intro k _ hk _
    obtain ⟨c, hc, h1⟩ := hstep k (by omega)
    rw [h1]
    cases c with
    | true => exact .inl ⟨(), rfl, trivial⟩
    | false =>
      have hno : ∀ i, ¬ nowP N L k i := fun i hi => by have := hc.2 ⟨i, hi⟩; cases this
      obtain ⟨e1, e2⟩ := end_lb (by omega) hno
      refine .inr ⟨_, rfl, ?_⟩
      rw [← e1, ← e2]
      exact Prod.ext (mapN_congr fun i _ => lab_end N L hno (k + 1) (by omega) i) (mapN_congr fun i _ => rnk_end N L hno (k + 1) (by omega) i)
  · intro _ _
    obtain ⟨c, hc, h1⟩ := hstep N (Nat.le_refl _)
    rw [h1]
    cases c with
    | true => obtain ⟨i, hi⟩ := hc.1 rfl; exact absurd hi (now_last N L)
    | false => exact ⟨_, rfl, rfl⟩
theorem ref12_Label (h : GoodG N L) : m_ref12_Label ((N : Int), L) = some (grLab N L) := by
  unfold m_ref12_Label
  rw [ref12_build h]
  rfl
end
end
section
set_option linter.unusedVariables false
section
variable {N : Nat} {L : List T_Pair}
theorem pred_eq (h : GoodG N L) (i : Int) : (L.filter fun p => p.2 == i).map (·.1) = predL N L i := by
  apply Asc.ext ord_ltI ?_ ((rng_asc N).filter _)
  · intro x
    rw [List.mem_map, List.mem_filter, rng_mem, ed_mem]
    constructor
    · rintro ⟨p, hp, rfl⟩
      obtain ⟨h1, h2⟩ := List.mem_filter.1 hp
      have h3 : p.2 = i := by simpa using h2
      obtain ⟨a, b, h4, h5, h6⟩ := badE_nat (h.inr p h1)
      subst h6
      exact ⟨⟨by show (0 : Int) ≤ (a : Int); omega, by show (a : Int) < (N : Int); omega⟩, by rw [← h3]; exact h1⟩
    · rintro ⟨_, h1⟩
      exact ⟨_, List.mem_filter.2 ⟨h1, by simp⟩, rfl⟩
  · have h1 := h.asc.filter fun p : T_Pair => p.2 == i
    rw [Asc, List.pairwise_map]
    refine List.Pairwise.imp_of_mem ?_ h1
    intro p q hp hq hlt
    have h2 : p.2 = i := by simpa using (List.mem_filter.1 hp).2
    have h3 : q.2 = i := by simpa using (List.mem_filter.1 hq).2
    simp only [lt2, lexLt, h2, h3, ord_ltI.irrefl, Bool.and_false, Bool.or_false] at hlt
    exact hlt
/-- how many attackers are not Out -/
def cnt (N : Nat) (L : List T_Pair) (f : Nat → Int) (j : Nat) : Nat := ((predL N L (j : Int)).filter fun b => !(f b.toNat == 2)).length
theorem cnt_le (f : Nat → Int) (j : Nat) : cnt N L f j ≤ N := Nat.le_trans (List.length_filter_le _ _) (pred_len _)
theorem cnt_zero {f : Nat → Int} {j : Nat} : cnt N L f j = 0 ↔ ∀ b, b < N → edN L b j → f b = 2 := by
  unfold cnt
  rw [List.length_eq_zero_iff, List.filter_eq_nil_iff]
  constructor
  · intro h b hb he
    have := h (b : Int) (List.mem_filter.2 ⟨rng_mem.2 ⟨by omega, by omega⟩, he⟩)
    simpa using this
  · intro h x hx
    obtain ⟨h1, h2⟩ := List.mem_filter.1 hx
    obtain ⟨h3, h4⟩ := rng_mem.1 h1
    obtain ⟨a, rfl⟩ := Int.eq_ofNat_of_zero_le h3
    simp [h a (by omega) h2]
theorem filter_one {α : Type} [DecidableEq α] {p q : α → Bool} {x : α} : ∀ {l : List α}, l.Nodup → x ∈ l → p x = true → q x = false → (∀ y ∈ l, y ≠ x → p y = q y) → (l.filter p).length = (l.filter q).length + 1
  | [], _, hx, _, _, _ => by cases hx
  | y :: l, hn, hx, h1, h2, h3 => by
    obtain ⟨hy, hl⟩ := List.nodup_cons.1 hn
    by_cases he : y = x
    · subst he
      have : l.filter p = l.filter q := List.filter_congr fun z hz => h3 z (List.mem_cons_of_mem _ hz) fun e => by subst e; exact hy hz
      simp [h1, h2, this]
    · have hm : x ∈ l := by
        rcases List.mem_cons.1 hx with h | h
        · exact absurd h.symm he
        · exact h
      have ih := filter_one hl hm h1 h2 fun z hz => h3 z (List.mem_cons_of_mem _ hz)
      have hpq := h3 y List.mem_cons_self he
      cases hq : q y with
      | true => simp [hpq, hq, ih]
      | false => simp [hpq, hq, ih]
/-- a node that becomes Out -/
theorem cnt_out {f : Nat → Int} {a : Nat} (ha : a < N) (h3 : f a = 3) (j : Nat) :
    cnt N L f j = cnt N L (fun b => if b = a then 2 else f b) j + (if ed L (a : Int) (j : Int) = true then 1 else 0) := by
  unfold cnt
  by_cases he : ed L (a : Int) (j : Int) = true
  · rw [if_pos he]
    refine filter_one (x := (a : Int)) ?_ (List.mem_filter.2 ⟨rng_mem.2 ⟨by omega, by omega⟩, he⟩) (by simp [h3]) (by simp) ?_
    · exact ((rng_asc N).filter _).imp fun {x y} hh e => by subst e; simp at hh
    · intro y hy hne
      obtain ⟨h1, h2⟩ := List.mem_filter.1 hy
      obtain ⟨h4, h5⟩ := rng_mem.1 h1
      obtain ⟨b, rfl⟩ := Int.eq_ofNat_of_zero_le h4
      have h6 : b ≠ a := fun e => hne (by rw [e])
      simp [h6]
  · rw [if_neg he, Nat.add_zero]
    congr 1
    apply List.filter_congr
    intro x hx
    obtain ⟨h1, h2⟩ := List.mem_filter.1 hx
    obtain ⟨h4, h5⟩ := rng_mem.1 h1
    obtain ⟨b, rfl⟩ := Int.eq_ofNat_of_zero_le h4
    have hne : b ≠ a := fun e => by subst e; exact he h2
    simp [hne]
theorem lab'_two {k b : Nat} : lab' N L k b = 2 ↔ lab N L k b = 2 := by
  unfold lab'
  by_cases h : nowP N L k b
  · have := now3 N L h
    simp [h, this]
  · rw [if_neg h]
theorem cnt_congr {f f' : Nat → Int} (h : ∀ b, b < N → (f b = 2 ↔ f' b = 2)) (j : Nat) : cnt N L f j = cnt N L f' j := by
  unfold cnt
  congr 1
  apply List.filter_congr
  intro x hx
  obtain ⟨h4, h5⟩ := rng_mem.1 (List.mem_filter.1 hx).1
  obtain ⟨b, rfl⟩ := Int.eq_ofNat_of_zero_le h4
  have h1 := h b (by omega)
  rw [Int.toNat_natCast, Bool.eq_iff_iff]
  simp [h1]
theorem now_cnt (h : GoodG N L) {k j : Nat} (hj : j < N) : (lab N L k j = 3 ∧ cnt N L (lab N L k) j = 0) ↔ nowP N L k j := by
  rw [cnt_zero, now_iff N L hj h.hR]
/-- what waits for the next round -/
structure Nxt (N : Nat) (L : List T_Pair) (f : Nat → Int) (nx : List Int) : Prop where
  nd : nx.Nodup
  rg : ∀ x ∈ nx, 0 ≤ x ∧ x < N
  mem : ∀ j : Nat, (j : Int) ∈ nx ↔ j < N ∧ f j = 3 ∧ cnt N L f j = 0
theorem nd_len {nx : List Int} (h1 : nx.Nodup) (h2 : ∀ x ∈ nx, 0 ≤ x ∧ x < (N : Int)) : nx.length ≤ N := by
  have := nodup_len (m := rng N) h1 fun x hx => rng_mem.2 (h2 x hx)
  rwa [rng_len] at this
theorem succ_at {i : Int} {q : Nat} {x : Int} (h : (succL N L i)[q]? = some x) : ∃ a : Nat, x = (a : Int) ∧ a < N ∧ ed L i (a : Int) = true := by
  obtain ⟨h1, h2⟩ := List.mem_filter.1 (mem_at h)
  obtain ⟨h3, h4⟩ := rng_mem.1 h1
  obtain ⟨a, rfl⟩ := Int.eq_ofNat_of_zero_le h3
  exact ⟨a, rfl, by omega, h2⟩
theorem succ_nodup (i : Int) : (succL N L i).Nodup := ((rng_asc N).filter _).imp fun {x y} hh e => by subst e; simp at hh
theorem succ_mem {i : Int} {j : Nat} (hj : j < N) : (j : Int) ∈ succL N L i ↔ ed L i (j : Int) = true := by
  rw [List.mem_filter, rng_mem]
  exact ⟨fun h => h.2, fun h => ⟨⟨by omega, by omega⟩, h⟩⟩
theorem take_not {α : Type} {l : List α} (hn : l.Nodup) {i : Nat} {x : α} (hx : l[i]? = some x) : x ∉ l.take i := by
  intro hm
  obtain ⟨j, hj⟩ := List.getElem?_of_mem hm
  rw [List.getElem?_take] at hj
  split at hj
  · rename_i hji
    obtain ⟨h1, h2⟩ := List.getElem?_eq_some_iff.1 hj
    obtain ⟨h3, h4⟩ := List.getElem?_eq_some_iff.1 hx
    have := (List.getElem_inj hn).1 (h2.trans h4.symm)
    omega
  · cases hj
theorem grp_L7 (h : GoodG N L) {f : Nat → Int} (l2 : List Int) {a : Nat} (ha : a < N) (h3 : f a = 3) (hca : cnt N L f a ≠ 0) (q : Int) (s6 : List Int × List Int × List Int × Int × List Int) {nx : List Int} (hnx : Nxt N L f nx) (hq : 0 ≤ q ∧ q < 1000) :
    ∃ nx', Nxt N L (fun b => if b = a then 2 else f b) nx' ∧
      loop (m_grounded_build_L7 (succL N L (a : Int)) (mapN N f, l2, nx, q, mapN 40 fun j => (cnt N L f j : Int)) (a : Int) s6) (nx, 0, mapN 40 fun j => (cnt N L f j : Int)) =
        some (.inl (mapN N (fun b => if b = a then 2 else f b), List.set l2 a s6.2.2.2.1, nx', q + 1, mapN 40 fun j => (cnt N L (fun b => if b = a then 2 else f b) j : Int))) := by
  have hN := h.hN
  let f' : Nat → Int := fun b => if b = a then 2 else f b
  let o (t j : Nat) : Nat := cnt N L f' j + if ed L (a : Int) (j : Int) = true ∧ (j : Int) ∉ (succL N L (a : Int)).take t then 1 else 0
  have ho0 : ∀ j, o 0 j = cnt N L f j := fun j => by
    show cnt N L f' j + _ = _
    rw [cnt_out ha h3 j]
    simp [f']
  have hsl := succ_len (N := N) (L := L) (a : Int)
  have hl := loop_forI (B := m_grounded_build_L7 (succL N L (a : Int)) (mapN N f, l2, nx, q, mapN 40 fun j => (cnt N L f j : Int)) (a : Int) s6) (fun t (s : List Int × List Int) => (s.1, (t : Int), s.2)) (succL N L (a : Int))
    (fun t s => s.2 = mapN 40 (fun j => (o t j : Int)) ∧ s.1.Nodup ∧ (∀ x ∈ s.1, 0 ≤ x ∧ x < (N : Int)) ∧ ∀ j : Nat, (j : Int) ∈ s.1 ↔ j < N ∧ f' j = 3 ∧ o t j = 0)
    (fun r => ∃ nx', Nxt N L f' nx' ∧ r = .inl (mapN N f', List.set l2 a s6.2.2.2.1, nx', q + 1, mapN 40 fun j => (cnt N L f' j : Int))) ?_ ?_ (nx, mapN 40 fun j => (cnt N L f j : Int)) ?_
  · obtain ⟨r, h1, nx', h2, rfl⟩ := hl
    exact ⟨nx', h2, h1⟩
  · rintro t x ⟨n1, op⟩ hx ⟨hop, hnd, hrg, hmem⟩
    simp only at hop hnd hrg hmem
    subst hop
    obtain ⟨j0, rfl, hj0, he⟩ := succ_at hx
    have hnot := take_not (succ_nodup (N := N) (L := L) (a : Int)) hx
    have hn1 := nd_len hnd hrg
    have ho1 : o t j0 = cnt N L f' j0 + 1 := by
      show cnt N L f' j0 + _ = _
      rw [if_pos ⟨he, hnot⟩]
    have ho2 : o (t + 1) j0 = cnt N L f' j0 := by
      show cnt N L f' j0 + _ = _
      rw [if_neg (fun hh => hh.2 (by rw [take_suc hx]; simp)), Nat.add_zero]
    have ho3 : ∀ j, j ≠ j0 → o (t + 1) j = o t j := fun j hj => by
      show cnt N L f' j + _ = cnt N L f' j + _
      congr 1
      have : (j : Int) ∉ (succL N L (a : Int)).take (t + 1) ↔ (j : Int) ∉ (succL N L (a : Int)).take t := by
        rw [take_suc hx, List.mem_append, List.mem_singleton]
        have : ¬ (j : Int) = (j0 : Int) := by omega
        simp [this]
      simp only [this]
    have hc0 := cnt_le (N := N) (L := L) f' j0
    have hnew : aput 40 (mapN 40 fun j => (o t j : Int)) (j0 : Int) (w64 ((aget (mapN 40 fun j => (o t j : Int)) (j0 : Int)) - 1)) = mapN 40 fun j => (o (t + 1) j : Int) := by
      rw [aget_mapN _ _ (by omega), aput_mapN _ _ (by omega), w64_id (by omega) (by omega)]
      apply mapN_congr
      intro j _
      by_cases hj : j = j0
      · subst hj; rw [if_pos rfl, ho1, ho2]; omega
      · rw [if_neg hj, ho3 j hj]
    have hset : List.set (mapN N f) (Int.toNat (a : Int)) 2 = mapN N f' := by rw [Int.toNat_natCast, mapN_set]
    unfold m_grounded_build_L7
    simp only [at_dec hx, if_true, at_idx hx, Option.bind_some, chk_in (show (40 : Int) = ((40 : Nat) : Int) from rfl) (show j0 < 40 by omega), hnew, aget_mapN 40 (fun j => (o (t + 1) j : Int)) (show j0 < 40 by omega), hset, mapN_idx f' hj0, at_suc hx (show (succL N L (a : Int)).length < 4294967296 by omega), ho2]
    cases hz : (((cnt N L f' j0 : Nat) : Int) == 0) && (f' j0 == 3) with
    | true =>
      rw [Bool.and_eq_true, beq_iff_eq, beq_iff_eq] at hz
      have hnin : (j0 : Int) ∉ n1 := fun hm => by have := ((hmem j0).1 hm).2.2; omega
      refine .inl ⟨(n1 ++ [(j0 : Int)], mapN 40 fun j => (o (t + 1) j : Int)), ?_, rfl, ?_, ?_, ?_⟩
      · simp only [hz.1, hz.2, beq_self_eq_true, if_true, Option.bind_some]
        rw [app_ok (by simp; omega)]
        rfl
      · rw [List.nodup_append]
        exact ⟨hnd, by simp, fun x hx y hy e => by rw [List.mem_singleton] at hy; subst hy; subst e; exact hnin hx⟩
      · intro x hx
        rcases List.mem_append.1 hx with hx | hx
        · exact hrg x hx
        · rw [List.mem_singleton] at hx; subst hx; omega
      · intro j
        rw [List.mem_append, List.mem_singleton]
        by_cases hj : j = j0
        · subst hj
          exact ⟨fun _ => ⟨hj0, hz.2, by rw [ho2]; omega⟩, fun _ => .inr rfl⟩
        · rw [ho3 j hj, hmem j]
          exact ⟨fun hh => hh.elim id fun e => absurd (by omega) hj, .inl⟩
    | false =>
      refine .inl ⟨(n1, mapN 40 fun j => (o (t + 1) j : Int)), ?_, rfl, hnd, hrg, ?_⟩
      · cases h1 : (((cnt N L f' j0 : Nat) : Int) == 0) with
        | false => simp only [Bool.false_eq_true, if_false, Option.bind_some]
        | true =>
          rw [h1, Bool.true_and] at hz
          simp only [if_true, Option.bind_some, hz, Bool.false_eq_true, if_false]
      · intro j
        by_cases hj : j = j0
        · subst hj
          rw [hmem j, ho1, ho2]
          constructor
          · rintro ⟨_, _, h0⟩; omega
          · rintro ⟨_, h1, h0⟩
            rw [h0, h1] at hz
            simp at hz
        · rw [ho3 j hj, hmem j]
  · rintro ⟨n1, op⟩ ⟨hop, hnd, hrg, hmem⟩
    simp only at hop hnd hrg hmem
    subst hop
    have hoe : ∀ j, j < 40 → o (succL N L (a : Int)).length j = cnt N L f' j := fun j _ => by
      show cnt N L f' j + _ = _
      rw [List.take_length, if_neg]
      · rfl
      · rintro ⟨h1, h2⟩
        obtain ⟨x, y, _, h4, _, h6⟩ := h.inN _ _ h1
        exact h2 ((succ_mem (by omega)).2 h1)
    refine ⟨_, ?_, n1, ⟨hnd, hrg, fun j => ?_⟩, rfl⟩
    · unfold m_grounded_build_L7
      have hset : List.set (mapN N f) a 2 = mapN N f' := mapN_set f 2
      have hm : (mapN 40 fun j => (o (succL N L (a : Int)).length j : Int)) = mapN 40 fun j => (cnt N L f' j : Int) := mapN_congr fun j hj => by rw [hoe j hj]
      simp only [end_dec, Bool.false_eq_true, if_false, Int.toNat_natCast, hset, hm]
      rw [w64_id (by omega) (by omega)]
    · rw [hmem j]
      constructor
      · rintro ⟨h1, h2, h4⟩; exact ⟨h1, h2, by rw [hoe j (by omega)] at h4; exact h4⟩
      · rintro ⟨h1, h2, h4⟩; exact ⟨h1, h2, by rw [hoe j (by omega)]; exact h4⟩
  · refine ⟨?_, hnx.nd, hnx.rg, fun j => ?_⟩
    · show (mapN 40 fun j => (cnt N L f j : Int)) = _
      exact mapN_congr fun j _ => by rw [ho0]
    · show (j : Int) ∈ nx ↔ _
      rw [hnx.mem j, ho0]
      show _ ↔ j < N ∧ (if j = a then 2 else f j) = 3 ∧ cnt N L f j = 0
      by_cases hj : j = a
      · subst hj
        rw [if_pos rfl]
        exact ⟨fun hh => absurd hh.2.2 hca, fun hh => absurd hh.2.2 hca⟩
      · rw [if_neg hj]
/-- how far the labels of a round are -/
structure Mid (N : Nat) (L : List T_Pair) (k : Nat) (f g : Nat → Int) (nx : List Int) : Prop where
  v : ∀ j, j < N → f j = 1 ∨ f j = 2 ∨ f j = 3
  one : ∀ j, j < N → (f j = 1 ↔ lab N L (k + 1) j = 1)
  two : ∀ j, j < N → f j = 2 → lab N L (k + 1) j = 2
  old : ∀ j, j < N → lab N L k j = 2 → f j = 2
  rk : ∀ j, j < N → g j = if f j = lab N L k j then rnk N L k j else ((k + 1 : Nat) : Int)
  nx : Nxt N L f nx
theorem grp_L6 (h : GoodG N L) {k : Nat} (hk : k ≤ 100) {i : Nat} (hi : nowP N L k i) (s6 : List Int × List Int × List Int × Int × List Int) (hs6 : s6.2.2.2.1 = ((k + 1 : Nat) : Int)) (D : Nat → Prop)
    {f g : Nat → Int} {nx : List Int} (hM : Mid N L k f g nx) (hD : ∀ j, D j → f j ≠ 3) (q : Nat) (hq : q < 1000) (z1 z2 z3 z5 : List Int) :
    ∃ f' g' nx', Mid N L k f' g' nx' ∧ (∀ j, j < N → D j ∨ edN L i j → f' j ≠ 3) ∧
      loop (m_grounded_build_L6 (succL N L (i : Int)) ((N : Int), L) s6 (z1, z2, z3, (q : Int), z5)) (mapN N f, mapN N g, nx, 0, mapN 40 fun j => (cnt N L f j : Int)) =
        some (.inl (mapN N f', mapN N g', nx', ((q + 1 : Nat) : Int), mapN 40 fun j => (cnt N L f' j : Int))) := by
  have hN := h.hN
  have hsl := succ_len (N := N) (L := L) (i : Int)
  have hl := loop_forI (B := m_grounded_build_L6 (succL N L (i : Int)) ((N : Int), L) s6 (z1, z2, z3, (q : Int), z5)) (fun t (s : List Int × List Int × List Int × List Int) => (s.1, s.2.1, s.2.2.1, (t : Int), s.2.2.2)) (succL N L (i : Int))
    (fun t s => ∃ f' g' nx', Mid N L k f' g' nx' ∧ (∀ j, j < N → D j ∨ (j : Int) ∈ (succL N L (i : Int)).take t → f' j ≠ 3) ∧ s = (mapN N f', mapN N g', nx', mapN 40 fun j => (cnt N L f' j : Int)))
    (fun r => ∃ f' g' nx', Mid N L k f' g' nx' ∧ (∀ j, j < N → D j ∨ edN L i j → f' j ≠ 3) ∧ r = .inl (mapN N f', mapN N g', nx', ((q + 1 : Nat) : Int), mapN 40 fun j => (cnt N L f' j : Int))) ?_ ?_ (mapN N f, mapN N g, nx, mapN 40 fun j => (cnt N L f j : Int)) ⟨f, g, nx, hM, fun j _ hj => by simp at hj; exact hD j hj, rfl⟩
  · obtain ⟨r, h1, f', g', nx', h2, h3, rfl⟩ := hl
    exact ⟨f', g', nx', h2, h3, h1⟩
  · rintro t x _ hx ⟨f', g', nx', hM', hD', rfl⟩
    obtain ⟨a, rfl, ha, he⟩ := succ_at hx
    by_cases h3 : f' a = 3
    · have hb : (f' a != 3) = false := by simp [h3]
      have hfi : f' i = 1 := (hM'.one i (gr_dom (D := (· < N)) hi.1)).2 ((lab1 N L).2 hi.1)
      have hca : cnt N L f' a ≠ 0 := fun h0 => by have := cnt_zero.1 h0 i (gr_dom (D := (· < N)) hi.1) he; omega
      have ht : t < 1000 := by have := at_lt hx; omega
      obtain ⟨n2, hn2, h7⟩ := grp_L7 h (mapN N g') ha h3 hca (t : Int) s6 hM'.nx ⟨by omega, by omega⟩
      have hla : lab N L k a ≠ 2 := fun e => by have := hM'.old a ha e; omega
      refine .inl ⟨(mapN N (fun b => if b = a then 2 else f' b), mapN N (fun b => if b = a then ((k + 1 : Nat) : Int) else g' b), n2, mapN 40 fun j => (cnt N L (fun b => if b = a then 2 else f' b) j : Int)), ?_, _, _, n2, ⟨?_, ?_, ?_, ?_, ?_, hn2⟩, ?_, rfl⟩
      · unfold m_grounded_build_L6
        simp only [at_dec hx, if_true, at_idx hx, Option.bind_some, mapN_idx _ ha, hb, Bool.false_eq_true, if_false, graph_Attacked h]
        rw [h7, hs6, mapN_set]
        rfl
      · intro j hj
        by_cases e : j = a
        · simp [e]
        · simpa [e] using hM'.v j hj
      · intro j hj
        by_cases e : j = a
        · subst e
          have h1 := hM'.one j hj
          rw [h3] at h1
          simp only [if_true]
          constructor
          · intro h2; cases h2
          · intro h2; have := h1.2 h2; omega
        · simpa [e] using hM'.one j hj
      · intro j hj
        by_cases e : j = a
        · subst e
          intro _
          exact (lab2' N L).2 ⟨i, hi.1, he⟩
        · simpa [e] using hM'.two j hj
      · intro j hj hj2
        by_cases e : j = a
        · subst e; exact absurd hj2 hla
        · simpa [e] using hM'.old j hj hj2
      · intro j hj
        by_cases e : j = a
        · subst e
          rw [if_pos rfl, if_pos rfl, if_neg (fun e2 => hla e2.symm)]
        · simpa [e] using hM'.rk j hj
      · intro j hj hjd
        by_cases e : j = a
        · simp [e]
        · simp only [e, if_false]
          refine hD' j hj (hjd.imp id fun hm => ?_)
          rw [take_suc hx, List.mem_append, List.mem_singleton] at hm
          exact hm.resolve_right (by omega)
    · have hb : (f' a != 3) = true := by simp [h3]
      refine .inl ⟨(mapN N f', mapN N g', nx', mapN 40 fun j => (cnt N L f' j : Int)), ?_, f', g', nx', hM', ?_, rfl⟩
      · unfold m_grounded_build_L6
        simp only [at_dec hx, if_true, at_idx hx, Option.bind_some, mapN_idx _ ha, hb, at_suc hx (show (succL N L (i : Int)).length < 4294967296 by omega)]
      · intro j hj hjd
        by_cases e : j = a
        · subst e; exact h3
        · refine hD' j hj (hjd.imp id fun hm => ?_)
          rw [take_suc hx, List.mem_append, List.mem_singleton] at hm
          exact hm.resolve_right (by omega)
  · rintro _ ⟨f', g', nx', hM', hD', rfl⟩
    refine ⟨_, ?_, f', g', nx', hM', fun j hj hjd => hD' j hj (hjd.imp id fun he => ?_), rfl⟩
    · unfold m_grounded_build_L6
      simp only [end_dec, Bool.false_eq_true, if_false, w64_succ q (by omega)]
    · rw [List.take_length]
      exact (succ_mem hj).2 he
/-- the nodes of a round -/
structure QueueOf (N : Nat) (L : List T_Pair) (k : Nat) (Q : List Int) : Prop where
  nd : Q.Nodup
  rg : ∀ x ∈ Q, 0 ≤ x ∧ x < N
  mem : ∀ j : Nat, (j : Int) ∈ Q ↔ nowP N L k j
theorem mid_start (h : GoodG N L) (k : Nat) : Mid N L k (lab' N L k) (rnk' N L k) [] := by
  have h1 : ∀ j, lab' N L k j = 1 ↔ lab N L (k + 1) j = 1 := fun j => by
    rw [lab1 N L]
    unfold lab'
    by_cases hn : nowP N L k j
    · simp [hn, hn.1]
    · rw [if_neg hn, lab1 N L]
      exact ⟨fun hg => gr_mono hg, fun hg => Classical.byContradiction fun hc => hn ⟨hg, hc⟩⟩
  refine ⟨fun j _ => ?_, fun j _ => h1 j, fun j _ h2 => lab_stay2 N L (lab'_two.1 h2), fun j _ h2 => lab'_two.2 h2, fun j _ => ?_, ⟨List.nodup_nil, (fun x hx => by cases hx), fun j => ?_⟩⟩
  · unfold lab'
    by_cases hn : nowP N L k j
    · simp [hn]
    · rw [if_neg hn]; exact lab_123 N L k j
  · unfold lab' rnk'
    by_cases hn : nowP N L k j
    · have := now3 N L hn
      simp [hn, this]
    · simp [hn]
  · constructor
    · intro hm; cases hm
    · rintro ⟨hj, h3, h0⟩
      exfalso
      have hc : cnt N L (lab' N L k) j = cnt N L (lab N L k) j := cnt_congr (fun b _ => lab'_two) j
      rw [hc] at h0
      by_cases hn : nowP N L k j
      · unfold lab' at h3; rw [if_pos hn] at h3; cases h3
      · unfold lab' at h3; rw [if_neg hn] at h3
        exact hn ((now_cnt h hj).1 ⟨h3, h0⟩)
theorem grp_L5 (h : GoodG N L) {k : Nat} (hk : k ≤ 100) {Q : List Int} (hQ : QueueOf N L k Q) (z1 z2 z5 : List Int) :
    ∃ Q', QueueOf N L (k + 1) Q' ∧ loop (m_grounded_build_L5 (z1, z2, Q, ((k + 1 : Nat) : Int), z5) ((N : Int), L)) (mapN N (lab' N L k), mapN N (rnk' N L k), ([] : List Int), 0, mapN 40 fun j => (cnt N L (lab N L k) j : Int)) =
      some (.inl (lb N L (k + 1), rn N L (k + 1), Q', ((k + 2 : Nat) : Int), mapN 40 fun j => (cnt N L (lab N L (k + 1)) j : Int))) := by
  have hN := h.hN
  have hql := nd_len hQ.nd hQ.rg
  have hl := loop_forI (B := m_grounded_build_L5 (z1, z2, Q, ((k + 1 : Nat) : Int), z5) ((N : Int), L)) (fun t (s : List Int × List Int × List Int × List Int) => (s.1, s.2.1, s.2.2.1, (t : Int), s.2.2.2)) Q
    (fun t s => ∃ f' g' nx', Mid N L k f' g' nx' ∧ (∀ j, j < N → (∃ i : Nat, (i : Int) ∈ Q.take t ∧ edN L i j) → f' j ≠ 3) ∧ s = (mapN N f', mapN N g', nx', mapN 40 fun j => (cnt N L f' j : Int)))
    (fun r => ∃ Q', QueueOf N L (k + 1) Q' ∧ r = .inl (lb N L (k + 1), rn N L (k + 1), Q', ((k + 2 : Nat) : Int), mapN 40 fun j => (cnt N L (lab N L (k + 1)) j : Int))) ?_ ?_ (mapN N (lab' N L k), mapN N (rnk' N L k), [], mapN 40 fun j => (cnt N L (lab N L k) j : Int)) ?_
  · obtain ⟨r, h1, Q', h2, rfl⟩ := hl
    exact ⟨Q', h2, h1⟩
  · rintro t x _ hx ⟨f', g', nx', hM, hD, rfl⟩
    have ht := at_lt hx
    obtain ⟨h0, h1⟩ := hQ.rg x (mem_at hx)
    obtain ⟨i, rfl⟩ := Int.eq_ofNat_of_zero_le h0
    have hi := (hQ.mem i).1 (mem_at hx)
    obtain ⟨f2, g2, n2, hM2, hD2, h6⟩ := grp_L6 h hk hi (z1, z2, Q, ((k + 1 : Nat) : Int), z5) rfl (fun j => j < N ∧ ∃ i : Nat, (i : Int) ∈ Q.take t ∧ edN L i j) hM (fun j hj => hD j hj.1 hj.2) t (by omega) (mapN N f') (mapN N g') nx' (mapN 40 fun j => (cnt N L f' j : Int))
    refine .inl ⟨(mapN N f2, mapN N g2, n2, mapN 40 fun j => (cnt N L f2 j : Int)), ?_, f2, g2, n2, hM2, ?_, rfl⟩
    · unfold m_grounded_build_L5
      simp only [at_dec hx, if_true, at_idx hx, Option.bind_some, graph_Attacked h]
      rw [h6]
    · rintro j hj ⟨i', hi', he⟩
      rw [take_suc hx, List.mem_append, List.mem_singleton] at hi'
      rcases hi' with hi' | hi'
      · exact hD2 j hj (.inl ⟨hj, i', hi', he⟩)
      · have : i' = i := by omega
        subst this
        exact hD2 j hj (.inr he)
  · rintro _ ⟨f', g', nx', hM, hD, rfl⟩
    rw [List.take_length] at hD
    have hf : ∀ j, j < N → f' j = lab N L (k + 1) j := fun j hj => by
      rcases hM.v j hj with h1 | h1 | h1
      · rw [h1, (hM.one j hj).1 h1]
      · rw [h1, hM.two j hj h1]
      · rcases lab_123 N L (k + 1) j with h2 | h2 | h2
        · have := (hM.one j hj).2 h2; omega
        · exfalso
          rw [lab_step] at h2
          by_cases hn : nowP N L k j
          · rw [if_pos hn] at h2; cases h2
          · rw [if_neg hn] at h2
            by_cases hc : lab N L k j = 3 ∧ att (edN L) (nowP N L k) j
            · obtain ⟨m, h4, h5⟩ := hc.2
              exact hD j hj ⟨m, (hQ.mem m).2 h4, h5⟩ h1
            · rw [if_neg hc] at h2
              have := hM.old j hj h2; omega
        · rw [h1, h2]
    have hg : ∀ j, j < N → g' j = rnk N L (k + 1) j := fun j hj => by
      rw [hM.rk j hj, hf j hj, rnk]
    have hc : ∀ j, cnt N L f' j = cnt N L (lab N L (k + 1)) j := cnt_congr fun b hb => by rw [hf b hb]
    refine ⟨_, ?_, nx', ⟨hM.nx.nd, hM.nx.rg, fun j => ?_⟩, rfl⟩
    · unfold m_grounded_build_L5
      have e1 : mapN N f' = lb N L (k + 1) := mapN_congr hf
      have e2 : mapN N g' = rn N L (k + 1) := mapN_congr hg
      have e3 : (mapN 40 fun j => (cnt N L f' j : Int)) = mapN 40 fun j => (cnt N L (lab N L (k + 1)) j : Int) := mapN_congr fun j _ => by rw [hc]
      simp only [end_dec, Bool.false_eq_true, if_false, e1, e2, e3, w64_succ (k + 1) (show k + 1 + 1 < 9223372036854775808 by omega)]
    · rw [hM.nx.mem j, hc j]
      constructor
      · rintro ⟨h1, h2, h3⟩; rw [hf j h1] at h2; exact (now_cnt h h1).1 ⟨h2, h3⟩
      · intro hn
        have h1 : j < N := gr_dom (D := (· < N)) hn.1
        obtain ⟨h2, h3⟩ := (now_cnt h h1).2 hn
        exact ⟨h1, by rw [hf j h1]; exact h2, h3⟩
  · refine ⟨lab' N L k, rnk' N L k, [], mid_start h k, fun j _ hj => by obtain ⟨i, hi, _⟩ := hj; simp at hi, ?_⟩
    have : (mapN 40 fun j => (cnt N L (lab N L k) j : Int)) = mapN 40 fun j => (cnt N L (lab' N L k) j : Int) := mapN_congr fun j _ => by rw [cnt_congr fun b _ => lab'_two]
    rw [this]
open Classical in
theorem grp_L4 (h : GoodG N L) {k : Nat} {Q : List Int} (hQ : QueueOf N L k Q) (z1 z2 z5 : List Int) :
    loop (m_grounded_build_L4 (z1, z2, Q, ((k + 1 : Nat) : Int), z5)) (lb N L k, rn N L k, 0) = some (mapN N (lab' N L k), mapN N (rnk' N L k)) := by
  have hN := h.hN
  have hql := nd_len hQ.nd hQ.rg
  have hl := loop_forI (B := m_grounded_build_L4 (z1, z2, Q, ((k + 1 : Nat) : Int), z5)) (fun t (s : List Int × List Int) => (s.1, s.2, (t : Int))) Q
    (fun t s => s = (mapN N (fun j => if (j : Int) ∈ Q.take t then 1 else lab N L k j), mapN N (fun j => if (j : Int) ∈ Q.take t then ((k + 1 : Nat) : Int) else rnk N L k j)))
    (fun r => r = (mapN N (lab' N L k), mapN N (rnk' N L k))) ?_ ?_ (lb N L k, rn N L k) (by simp)
  · obtain ⟨r, h1, rfl⟩ := hl
    exact h1
  · rintro t x _ hx rfl
    obtain ⟨h0, h1⟩ := hQ.rg x (mem_at hx)
    obtain ⟨i, rfl⟩ := Int.eq_ofNat_of_zero_le h0
    refine .inl ⟨_, ?_, rfl⟩
    unfold m_grounded_build_L4
    simp only [at_dec hx, if_true, at_idx hx, Option.bind_some, mapN_idx _ (show i < N by omega), Int.toNat_natCast, mapN_set, at_suc hx (show Q.length < 4294967296 by omega)]
    congr 3
    · apply mapN_congr
      intro j _
      rw [take_suc hx]
      by_cases e : j = i
      · subst e; simp
      · have : ¬ (j : Int) = (i : Int) := by omega
        simp [e, this]
    · congr 1
      apply mapN_congr
      intro j _
      rw [take_suc hx]
      by_cases e : j = i
      · subst e; simp
      · have : ¬ (j : Int) = (i : Int) := by omega
        simp [e, this]
  · rintro _ rfl
    rw [List.take_length]
    refine ⟨_, ?_, rfl⟩
    unfold m_grounded_build_L4
    simp only [end_dec, Bool.false_eq_true, if_false]
    have e1 : (mapN N fun j => if (j : Int) ∈ Q then 1 else lab N L k j) = mapN N (lab' N L k) := mapN_congr fun j _ => by simp only [hQ.mem j]; rfl
    have e2 : (mapN N fun j => if (j : Int) ∈ Q then ((k + 1 : Nat) : Int) else rnk N L k j) = mapN N (rnk' N L k) := mapN_congr fun j _ => by simp only [hQ.mem j]; rfl
    rw [e1, e2]
theorem grp_L1 (h : GoodG N L) : loop (m_grounded_build_L1 ((N : Int), L)) (0, List.replicate 40 (0 : Int)) = some (mapN 40 fun j => (cnt N L (lab N L 0) j : Int)) := by
  have hN := h.hN
  have hL := h.len
  have hl := loop_forI (B := m_grounded_build_L1 ((N : Int), L)) (fun t (s : List Int) => ((t : Int), s)) L
    (fun t s => s = mapN 40 fun j => (((L.take t).filter fun p => p.2 == (j : Int)).length : Int)) (fun r => r = mapN 40 fun j => (cnt N L (lab N L 0) j : Int)) ?_ ?_ (List.replicate 40 (0 : Int)) (by rw [rep_mapN]; simp)
  · obtain ⟨r, h1, rfl⟩ := hl
    exact h1
  · rintro t p _ hp rfl
    obtain ⟨a, b, ha, hb, rfl⟩ := badE_nat (h.inr p (mem_at hp))
    have hle : ((L.take t).filter fun p => p.2 == (b : Int)).length ≤ 1600 := Nat.le_trans (List.length_filter_le _ _) (Nat.le_trans (List.length_take_le _ _) (by have := at_lt hp; omega))
    refine .inl ⟨_, ?_, rfl⟩
    unfold m_grounded_build_L1
    simp only [at_dec hp, if_true, at_idx hp, Option.bind_some, chk_in (show (40 : Int) = ((40 : Nat) : Int) from rfl) (show b < 40 by omega), at_suc hp h.len', aget_mapN 40 _ (show b < 40 by omega), aput_mapN 40 _ (show b < 40 by omega)]
    congr 3
    apply mapN_congr
    intro j _
    rw [take_suc hp, List.filter_append, List.length_append]
    by_cases e : j = b
    · subst e
      rw [if_pos rfl, w64_id (by omega) (by omega)]
      simp
    · have : ¬ (b : Int) = (j : Int) := by omega
      simp [e, this]
  · rintro _ rfl
    rw [List.take_length]
    refine ⟨_, ?_, rfl⟩
    unfold m_grounded_build_L1
    have e1 : (mapN 40 fun j => ((L.filter fun p => p.2 == (j : Int)).length : Int)) = mapN 40 fun j => (cnt N L (lab N L 0) j : Int) := mapN_congr fun j _ => by
      have h1 : (L.filter fun p => p.2 == (j : Int)).length = (predL N L (j : Int)).length := by rw [← pred_eq h, List.length_map]
      rw [h1]
      unfold cnt
      rw [List.filter_eq_self.2]
      intro x hx
      obtain ⟨q, hq⟩ := List.getElem?_of_mem hx
      obtain ⟨a, rfl, ha, _⟩ := pred_at hq
      have : lab N L 0 a = 3 := by
        have := congrArg (fun l : List Int => l[a]?) (lb_zero (N := N) (L := L))
        simpa [mapN_get, ha] using this
      simp [this]
    simp only [end_dec, Bool.false_eq_true, if_false, e1]
theorem grp_L2 (h : GoodG N L) : ∃ Q, QueueOf N L 0 Q ∧ loop (m_grounded_build_L2 ((N : Int), L) (mapN 40 fun j => (cnt N L (lab N L 0) j : Int))) (([] : List Int), 0) = some Q := by
  have hN := h.hN
  refine ⟨(rng N).filter fun j => cnt N L (lab N L 0) j.toNat == 0, ⟨((rng_asc N).filter _).imp fun {x y} hh e => by subst e; simp at hh, fun x hx => rng_mem.1 (List.mem_filter.1 hx).1, fun j => ?_⟩, ?_⟩
  · rw [List.mem_filter, rng_mem, Int.toNat_natCast, beq_iff_eq]
    have h0 : ∀ j, j < N → lab N L 0 j = 3 := fun j hj => by
      have := congrArg (fun l : List Int => l[j]?) (lb_zero (N := N) (L := L))
      simpa [mapN_get, hj] using this
    constructor
    · rintro ⟨h1, h2⟩
      exact (now_cnt h (show j < N by omega)).1 ⟨h0 j (by omega), h2⟩
    · intro hn
      have hj : j < N := gr_dom (D := (· < N)) hn.1
      exact ⟨⟨by omega, by omega⟩, ((now_cnt h hj).2 hn).2⟩
  · have hl := loop_fold (B := m_grounded_build_L2 ((N : Int), L) (mapN 40 fun j => (cnt N L (lab N L 0) j : Int))) (rng N) (fun s j => if (cnt N L (lab N L 0) j.toNat == 0) then s ++ [j] else s) id (fun i s => s.length ≤ i) ([] : List Int) (by simp) ?_ ?_
    · have h2 := foldl_app_filter (fun j : Int => cnt N L (lab N L 0) j.toNat == 0) id (rng N) []
      simp only [id, List.map_id, List.nil_append] at h2
      rw [hl.1, h2]; rfl
    · intro i x s hx hI
      obtain ⟨rfl, hi⟩ := rng_at hx
      unfold m_grounded_build_L2
      have hd : decide ((i : Int) < (N : Int)) = true := decide_eq_true (by omega)
      simp only [hd, if_true, chk_in (show (40 : Int) = ((40 : Nat) : Int) from rfl) (show i < 40 by omega), Option.bind_some, aget_mapN 40 _ (show i < 40 by omega), w64_succ i (by omega), Int.toNat_natCast]
      have hz : (((cnt N L (lab N L 0) i : Nat) : Int) == 0) = (cnt N L (lab N L 0) i == 0) := by rw [Bool.eq_iff_iff, beq_iff_eq, beq_iff_eq]; omega
      rw [hz]
      by_cases hc : (cnt N L (lab N L 0) i == 0) = true
      · rw [if_pos hc, if_pos hc, app_ok (by simp; omega)]
        exact ⟨rfl, by simp; omega⟩
      · rw [if_neg hc, if_neg hc]
        exact ⟨rfl, by omega⟩
    · intro s _
      rw [rng_len]
      unfold m_grounded_build_L2
      simp
theorem grounded_build (h : GoodG N L) : m_grounded_build ((N : Int), L) = some (grLab N L, grRnk N L) := by
  have hN := h.hN
  unfold m_grounded_build
  simp only
  rw [repeat_int 3 hN, mkS_ok (by omega)]
  simp only [Option.bind_some]
  rw [grp_L1 h]
  simp only [Option.bind_some]
  obtain ⟨Q0, hQ0, h2⟩ := grp_L2 h
  rw [h2, ← lb_zero (N := N) (L := L)]
  simp only [Option.bind_some]
  have hstep : ∀ k, k ≤ N → ∀ Q, QueueOf N L k Q → (Q = [] ∧ m_grounded_build_L3 ((N : Int), L) (lb N L k, rn N L k, Q, ((k + 1 : Nat) : Int), mapN 40 fun j => (cnt N L (lab N L k) j : Int)) = some (.inr (lb N L k, rn N L k))) ∨
      ∃ Q', QueueOf N L (k + 1) Q' ∧ m_grounded_build_L3 ((N : Int), L) (lb N L k, rn N L k, Q, ((k + 1 : Nat) : Int), mapN 40 fun j => (cnt N L (lab N L k) j : Int)) = some (.inl (lb N L (k + 1), rn N L (k + 1), Q', ((k + 2 : Nat) : Int), mapN 40 fun j => (cnt N L (lab N L (k + 1)) j : Int))) := by
    intro k hk Q hQ
    by_cases he : Q = []
    · subst he
      refine .inl ⟨rfl, ?_⟩
      unfold m_grounded_build_L3
      simp [len]
    · obtain ⟨Q', hQ', h5⟩ := grp_L5 h (k := k) (by omega) hQ (lb N L k) (rn N L k) (mapN 40 fun j => (cnt N L (lab N L k) j : Int))
      refine .inr ⟨Q', hQ', ?_⟩
      have hd : decide (0 < len Q) = true := decide_eq_true (by have := List.length_pos_iff.2 he; simp only [len]; omega)
      unfold m_grounded_build_L3
      simp only [hd, if_true]
      rw [grp_L4 h hQ]
      simp only [Option.bind_some]
      rw [h5]
  have hl := loop_uptoS (B := m_grounded_build_L3 ((N : Int), L)) (fun (Q : List Int) k => (lb N L k, rn N L k, Q, ((k + 1 : Nat) : Int), mapN 40 fun j => (cnt N L (lab N L k) j : Int))) N (fun k Q => QueueOf N L k Q) (fun r => r = (grLab N L, grRnk N L)) ?_ ?_ Q0 hQ0
  · obtain ⟨r, h1, rfl⟩ := hl
    exact h1
  · intro k Q hk hQ
    rcases hstep k (by omega) Q hQ with ⟨he, h1⟩ | ⟨Q', hQ', h1⟩
    · subst he
      have hno : ∀ i, ¬ nowP N L k i := fun i hi => by have := (hQ.mem i).2 hi; cases this
      obtain ⟨e1, e2⟩ := end_lb (by omega) hno
      exact .inr ⟨_, h1, by rw [e1, e2]⟩
    · exact .inl ⟨Q', h1, hQ'⟩
  · intro Q hQ
    rcases hstep N (Nat.le_refl _) Q hQ with ⟨he, h1⟩ | ⟨Q', hQ', h1⟩
    · subst he
      have hno : ∀ i, ¬ nowP N L N i := fun i => now_last N L
      obtain ⟨e1, e2⟩ := end_lb (Nat.le_refl _) hno
      exact ⟨_, h1, by rw [e1, e2]⟩
    · exfalso
      have hne : Q ≠ [] := by
        intro e
        subst e
        unfold m_grounded_build_L3 at h1
        simp [len] at h1
      obtain ⟨x, hx⟩ := List.exists_mem_of_ne_nil Q hne
      obtain ⟨h3, _⟩ := hQ.rg x hx
      obtain ⟨i, rfl⟩ := Int.eq_ofNat_of_zero_le h3
      exact now_last N L ((hQ.mem i).1 hx)
theorem grounded_Label (h : GoodG N L) : m_grounded_Label ((N : Int), L) = some (grLab N L) := by
  unfold m_grounded_Label
  rw [grounded_build h]
  rfl
end
end
section
variable {b : T_Base} {l m : List T_Argument} {D : List T_Literal} {c : Nat}
theorem FormC.pre (h : FormC b (l ++ m)) : FormC b l := by
  have key : ∀ (i : Nat) a, l[i]? = some a → (l ++ m)[i]? = some a := fun i a ha => by rw [List.getElem?_append_left (at_lt ha)]; exact ha
  have hl := h.len
  have hl41 := h.l41
  rw [List.length_append] at hl hl41
  refine ⟨⟨⟨by omega, fun a ha => h.nsub a (List.mem_append_left _ ha), fun i a ha => h.sub i a (key i a ha)⟩, h.np, h.nr, fun i a ha => h.kind i a (key i a ha)⟩, by omega, fun i a p ha => h.pr i a p (key i a ha), fun i a r ha h0 hr => ?_⟩
  obtain ⟨g1, g2, g3⟩ := h.ru i a r (key i a ha) h0 hr
  refine ⟨g1, g2, fun j k y hk hy => ?_⟩
  obtain ⟨a', e1, e2⟩ := g3 j k y hk hy
  have := h.sub i a (key i a ha) k (mem_at hk)
  have hi := at_lt ha
  rw [idx_app_lt (by omega)] at e1
  exact ⟨a', e1, e2⟩
theorem FormD.pre (h : FormD b (l ++ m)) : FormD b l := by
  refine ⟨h.toFormC.pre, fun i a r ha h0 hr => ?_⟩
  have hi := at_lt ha
  have hk : (l ++ m)[i]? = some a := by rw [List.getElem?_append_left hi]; exact ha
  rw [← within_app h.toFormC.pre h.toFormC fun k hk2 => by have := h.sub i a hk k hk2; omega]
  exact h.cut i a r hk h0 hr
theorem FormD.take (h : FormD b l) (n : Nat) : FormD b (l.take n) := by
  rw [← List.take_append_drop n l] at h
  exact h.pre
end
section
variable {b : T_Base} {l : List T_Argument}
theorem small_ofA (h : ValidB b) (hr : b.2.1.length ≤ 12) : Small b (b.2.1.map fun r => r.2.2.2.2) 4 := by
  refine ⟨h, fun r hr => ⟨List.mem_map.2 ⟨r, hr, rfl⟩, ruleE_len (h.rule r hr)⟩, ?_⟩
  rw [List.length_map]
  calc (4 + 1) ^ b.2.1.length ≤ 5 ^ 12 := Nat.pow_le_pow_right (by omega) hr
    _ < 4294967296 := by decide
theorem buildS_form (h : ValidB b) (hr : b.2.1.length ≤ 12) {x : List T_Argument} (hx : buildS b = some x) : FormD b x ∧ x.length ≤ 40 :=
  buildF_form (small_ofA h hr) 50 (premA b) 0 true x (premA_form h) (by rw [premA_len]; have := h.np; omega) hx
theorem FormC.nil (hp : b.1.length ≤ 100) (hr : b.2.1.length ≤ 100) : FormC b [] :=
  ⟨⟨⟨by simp, by simp, by simp⟩, hp, hr, by simp⟩, by simp, by simp, by simp⟩
theorem defs_len (h : l.length ≤ 100) (o : T_Ordering) : (defeatsS b l o).length ≤ 3000000 := Nat.le_trans (List.length_filter_le _ _) (attsS_len h)
end
section
variable {b : T_Base} {l : List T_Argument}
theorem small_of (h : ValidB b) (hr : b.2.1.length ≤ 12) : Small b (b.2.1.map fun r => r.2.2.2.2) 4 := by
  refine ⟨h, fun r hr => ⟨List.mem_map.2 ⟨r, hr, rfl⟩, ruleE_len (h.rule r hr)⟩, ?_⟩
  rw [List.length_map]
  calc (4 + 1) ^ b.2.1.length ≤ 5 ^ 12 := Nat.pow_le_pow_right (by omega) hr
    _ < 4294967296 := by decide
end
section
variable {b : T_Base} {l : List T_Argument}
def concF (l : List T_Argument) (i : Int) : List T_Literal := match idx l i with | some a => [a.2.2.2] | none => []
theorem idx_out {α : Type} {l : List α} {i : Int} (h : ¬ (0 ≤ i ∧ i < l.length)) : idx l i = none := by
  unfold idx
  split
  · rename_i h0
    exact List.getElem?_eq_none (by omega)
  · rfl
theorem concF_len (is : List Int) : (is.flatMap (concF l)).length ≤ is.length * 1 := flat_le (concF l) 1 is fun i _ => by
  unfold concF
  split <;> simp
theorem ref_Conclusions (is : List Int) (h : is.length < 1000000) : m_ref07_Conclusions l is = some (nrm litLt (is.flatMap (concF l))) := by
  unfold m_ref07_Conclusions
  obtain ⟨r, h1, h2⟩ := loop_forI (B := m_ref07_Conclusions_L1 is l) (fun i s => (s, (i : Int))) is (fun i s => Asc litLt s ∧ s.length ≤ i ∧ ∀ y, y ∈ s ↔ y ∈ (is.take i).flatMap (concF l)) (fun r => r = nrm litLt (is.flatMap (concF l))) (fun i x s hi hI => .inl (by
    obtain ⟨hI1, hI2, hI3⟩ := hI
    have hlt := at_lt hi
    unfold m_ref07_Conclusions_L1
    simp only [at_dec hi, if_true, at_idx hi, Option.bind_some, at_suc hi (show is.length < 4294967296 by omega)]
    have hnext : ∀ y, y ∈ (is.take (i + 1)).flatMap (concF l) ↔ y ∈ (is.take i).flatMap (concF l) ∨ y ∈ concF l x := fun y => by
      rw [take_suc hi, List.flatMap_append, List.flatMap_singleton, List.mem_append]
    by_cases hin : 0 ≤ x ∧ x < l.length
    · obtain ⟨a, ha⟩ := idx_ok (l := l) hin.1 hin.2
      have d1 : decide (0 ≤ x) = true := by simpa using hin.1
      have d2 : decide (x < len l) = true := by simpa [len] using hin.2
      obtain ⟨r, e1, e2, e3, e4⟩ := ref_insert (l := s) a.2.2.2 (by omega) hI1
      simp only [d1, d2, if_true, Option.bind_some, ha, e1]
      refine ⟨r, rfl, e2, by omega, fun y => ?_⟩
      rw [e3, hnext, hI3]
      unfold concF
      rw [ha]
      simp [or_comm]
    · have hc : (if decide (0 ≤ x) = true then some (decide (x < len l)) else some false) = some false := by
        by_cases h0 : 0 ≤ x
        · have d2 : decide (x < len l) = false := by simp [len]; omega
          simp only [h0, decide_true, if_true, d2]
        · simp only [h0, decide_false, Bool.false_eq_true, if_false]
      rw [hc]
      simp only [Option.bind_some, Bool.false_eq_true, if_false]
      refine ⟨s, rfl, hI1, by omega, fun y => ?_⟩
      rw [hnext, hI3]
      unfold concF
      rw [idx_out hin]
      simp)) (fun s hI => ⟨s, by
    unfold m_ref07_Conclusions_L1
    simp only [end_dec, Bool.false_eq_true, if_false], by
    obtain ⟨hI1, hI2, hI3⟩ := hI
    rw [List.take_length] at hI3
    exact (nrm_eq ord_lit hI1 hI3).symm⟩) [] ⟨List.Pairwise.nil, by simp, by simp⟩
  rw [← h2]
  exact h1
end
section
def rankK (y : List T_Literal) (r : T_Rule) (k : Int) (p : T_Promotion) : Int := if (!r.2.1 && p.1 == r.1 && decide (p.2.2 ∈ y)) = true then p.2.1 else k
def rankS (ps : List T_Promotion) (y : List T_Literal) (r : T_Rule) : Int := ps.foldl (rankK y r) r.2.2.1
def promR (ps : List T_Promotion) (y : List T_Literal) (r : T_Rule) : T_Rule := (r.1, r.2.1, rankS ps y r, r.2.2.2.1, r.2.2.2.2)
def promS (b : T_Base) (y : List T_Literal) : T_Base := (b.1, b.2.1.map (promR b.2.2 y), b.2.2)
/-- the rules up to i are promoted -/
def upto (b : T_Base) (y : List T_Literal) (i : Nat) : List T_Rule := (b.2.1.take i).map (promR b.2.2 y) ++ b.2.1.drop i
theorem upto_len (b : T_Base) (y : List T_Literal) (i : Nat) : (upto b y i).length = b.2.1.length := by simp [upto]; omega
theorem upto_at {b : T_Base} {y : List T_Literal} {i : Nat} {r : T_Rule} (hr : b.2.1[i]? = some r) : (upto b y i)[i]? = some r := by
  have hi := (List.getElem?_eq_some_iff.1 hr).1
  unfold upto
  rw [List.getElem?_append_right (by simp; omega)]
  simp only [List.length_map, List.length_take, List.getElem?_drop]
  rw [show i + (i - min i b.2.1.length) = i by omega]
  exact hr
theorem upto_set {b : T_Base} {y : List T_Literal} {i : Nat} {r : T_Rule} (hr : b.2.1[i]? = some r) : (upto b y i).set i (promR b.2.2 y r) = upto b y (i + 1) := by
  have hi := (List.getElem?_eq_some_iff.1 hr).1
  have h1 : ((b.2.1.take i).map (promR b.2.2 y)).length = i := by simp; omega
  unfold upto
  rw [List.set_append_right _ _ (by omega), h1, Nat.sub_self, List.take_add_one, hr]
  have h2 : b.2.1.drop i = r :: b.2.1.drop (i + 1) := by
    rw [List.drop_eq_getElem_cons hi]
    congr 1
    rw [List.getElem?_eq_getElem hi] at hr
    exact Option.some.inj hr
  rw [h2]
  simp
theorem upto_all (b : T_Base) (y : List T_Literal) : upto b y b.2.1.length = b.2.1.map (promR b.2.2 y) := by simp [upto]
/-- within the rule i, behind k promotions -/
def mid (b : T_Base) (y : List T_Literal) (i : Nat) (r : T_Rule) (k : Nat) : List T_Rule := (upto b y i).set i (r.1, r.2.1, (b.2.2.take k).foldl (rankK y r) r.2.2.1, r.2.2.2.1, r.2.2.2.2)
theorem mid_all {b : T_Base} {y : List T_Literal} {i : Nat} {r : T_Rule} (hr : b.2.1[i]? = some r) : mid b y i r b.2.2.length = upto b y (i + 1) := by
  unfold mid
  rw [List.take_of_length_le (Nat.le_refl _)]
  exact upto_set hr
theorem mid_zero {b : T_Base} {y : List T_Literal} {i : Nat} {r : T_Rule} : mid b y i r 0 = (upto b y i).set i r := by simp [mid]
theorem mid_at {b : T_Base} {y : List T_Literal} {i : Nat} {r : T_Rule} (hr : b.2.1[i]? = some r) (k : Nat) : (mid b y i r k)[i]? = some (r.1, r.2.1, (b.2.2.take k).foldl (rankK y r) r.2.2.1, r.2.2.2.1, r.2.2.2.2) := by
  have hi := (List.getElem?_eq_some_iff.1 hr).1
  unfold mid
  rw [List.getElem?_set_self (by rw [upto_len]; exact hi)]
theorem mid_suc {b : T_Base} {y : List T_Literal} {i : Nat} {r : T_Rule} {k : Nat} {p : T_Promotion} (hp : b.2.2[k]? = some p) :
    (if (!r.2.1 && p.1 == r.1 && decide (p.2.2 ∈ y)) = true then (mid b y i r k).set i (r.1, r.2.1, p.2.1, r.2.2.2.1, r.2.2.2.2) else mid b y i r k) = mid b y i r (k + 1) := by
  unfold mid
  rw [List.take_add_one, hp]
  simp only [Option.toList, List.foldl_append, List.foldl_cons, List.foldl_nil]
  show _ = List.set _ i (r.1, r.2.1, rankK y r _ p, r.2.2.2.1, r.2.2.2.2)
  unfold rankK
  by_cases hc : (!r.2.1 && p.1 == r.1 && decide (p.2.2 ∈ y)) = true
  · rw [if_pos hc, if_pos hc, List.set_set]
  · rw [if_neg hc, if_neg hc]
theorem ref_Copy {b : T_Base} (h : Cnt b) : m_ref05_Copy b = some b := by
  unfold m_ref05_Copy
  simp only [app_nil_ok h.p, app_nil_ok h.m, Option.bind_some]
  have hl := loop_fold' (B := m_ref05_Copy_L1 b) b.2.1 (fun s x => s ++ [x]) (fun s => s) (fun i s => s.length = i) [] rfl (fun i x s hx hI => ?_) (fun s _ => ?_)
  · rw [hl.1, foldl_snoc, List.nil_append]
    rfl
  · have hlt := (List.getElem?_eq_some_iff.1 hx).1
    have hbr := h.r
    refine ⟨?_, by simp [hI]⟩
    unfold m_ref05_Copy_L1
    simp only [dec_lt hx, if_true, idx_nat, hx, Option.bind_some]
    rw [app_nil_ok (h.q x (List.mem_of_getElem? hx))]
    simp only [Option.bind_some]
    rw [app_ok (by simp; omega), w64_succ i (by omega)]
    rfl
  · unfold m_ref05_Copy_L1
    simp only [dec_end, Bool.false_eq_true, if_false]
theorem ref_Promote {b : T_Base} {y : List T_Literal} (h : Cnt b) (hy : y.length < 4294967296) : m_ref05_Promote b y = some (promS b y) := by
  unfold m_ref05_Promote
  rw [ref_Copy h]
  simp only [Option.bind_some]
  suffices hh : Ok (loop (m_ref05_Promote_L1 b y) (0, b.2.1)) fun r => r = upto b y b.2.1.length by
    obtain ⟨r, e, rfl⟩ := hh
    rw [e, upto_all]
    rfl
  refine Ok.forI (fun i (s : List T_Rule) => ((i : Int), s)) b.2.1 (fun i s => s = upto b y i) _ (fun i r s hr hs => ?_) (fun s hs => ?_) b.2.1 (by simp [upto])
  · have hi := (List.getElem?_eq_some_iff.1 hr).1
    have hbr := h.r
    subst hs
    unfold m_ref05_Promote_L1
    have hx := upto_at (y := y) hr
    simp only [dec_lt hx, if_true]
    refine Ok.forI (fun k (s : List T_Rule) => ((k : Int), s)) b.2.2 (fun k s => s = mid b y i r k) _ (fun k p s hp hs => ?_) (fun s hs => ?_) _ (by rw [mid_zero, set_same hx])
    · have hk := (List.getElem?_eq_some_iff.1 hp).1
      have hbm := h.m
      subst hs
      unfold m_ref05_Promote_L2
      simp only [dec_lt hp, if_true, idx_nat, hp, Option.bind_some, ref_has _ (show y.length < 9223372036854775807 by omega), Int.toNat_natCast, mid_at hr k]
      have hif : (if (p.1 == r.1) = true then (if (!r.2.1) = true then some (decide (p.2.2 ∈ y)) else some false) else some false) = some (!r.2.1 && p.1 == r.1 && decide (p.2.2 ∈ y)) := by
        cases hg : (!r.2.1) <;> cases hh : (p.1 == r.1) <;> simp
      rw [hif, Option.bind_some]
      have hm := mid_suc (b := b) (y := y) (i := i) (r := r) hp
      refine .ite (fun hc => ?_) fun hc => ?_
      · rw [if_pos hc] at hm
        exact .ret ⟨_, by rw [w64_succ k (by omega)], hm⟩
      · rw [hc] at hm
        simp only [Bool.false_eq_true, if_false] at hm
        exact .ret ⟨_, by rw [w64_succ k (by omega)], hm⟩
    · subst hs
      unfold m_ref05_Promote_L2
      simp only [dec_end, Bool.false_eq_true, if_false]
      exact .ret ⟨_, by simp only [w64_succ i (by omega)], mid_all hr⟩
  · subst hs
    have hl : decide ((b.2.1.length : Int) < len (upto b y b.2.1.length)) = false := decide_eq_false (show ¬ (b.2.1.length : Int) < ((upto b y b.2.1.length).length : Int) by rw [upto_len]; omega)
    unfold m_ref05_Promote_L1
    simp only [hl, Bool.false_eq_true, if_false]
    exact .ret rfl
end
section
theorem Ok.Rng {s : T_keep_Src} {lo hi : Int} (h : SrcOk s) (h0 : -1000 ≤ lo) (h1 : lo ≤ hi) (h2 : hi ≤ 1000) : Ok (m_keep_Src_Range s lo hi) fun r => lo ≤ r.1 ∧ r.1 ≤ hi ∧ SrcOk (s.1, r.2) := by
  have e1 : w64 (hi - lo) = hi - lo := w64_id (by omega) (by omega)
  have e2 : w64 (hi - lo + 1) = hi - lo + 1 := w64_id (by omega) (by omega)
  obtain ⟨v, k, h3, h4, h5, h6⟩ := keep_N h (n := hi - lo + 1) (by omega) (by omega)
  exact ⟨(lo + v, k), by unfold m_keep_Src_Range; rw [e1, e2, h3]; simp [w64_id (show -9223372036854775808 ≤ lo + v by omega) (by omega)], by show lo ≤ lo + v; omega, by show lo + v ≤ hi; omega, h6⟩
theorem sames_same (l : List Str) (h : l.length < 4294967296) : m_ref42_Same l l = some true := by
  unfold m_ref42_Same
  simp only [bne_self_eq_false, Bool.false_eq_true, if_false]
  exact loop_for (l := l) (fun i x hx => by
    unfold m_ref42_Same_L1
    simp only [at_dec hx, if_true, at_idx hx, Option.bind_some, beq_self_eq_true, Bool.not_true, Bool.false_eq_true, if_false, at_suc hx h]) (by
    unfold m_ref42_Same_L1
    simp only [end_dec, Bool.false_eq_true, if_false])
end
section
set_option linter.unusedVariables false
def withS (l : List Int) (x : Int) : List Int := (rng l.length).filter fun i => decide (l[i.toNat]? = some x)
theorem withS_len (l : List Int) (x : Int) : (withS l x).length ≤ l.length := Nat.le_trans (List.length_filter_le _ _) (by rw [rng_len]; exact Nat.le_refl _)
theorem lab_With (l : List Int) (x : Int) (hl : l.length < 4294967000) : m_labelling_With l x = some (withS l x) := by
  unfold m_labelling_With
  have h := loop_fold (B := m_labelling_With_L1 l x) (rng l.length) (fun s i => if decide (l[i.toNat]? = some x) then s ++ [i] else s) id (fun i s => s.length ≤ i) ([] : List Int) (by simp) ?_ ?_
  · have h2 := foldl_app_filter (fun i : Int => decide (l[i.toNat]? = some x)) id (rng l.length) []
    simp only [id, List.map_id, List.nil_append] at h2
    rw [h.1, h2]; rfl
  · intro i y s hy hI
    obtain ⟨rfl, hi⟩ := rng_at hy
    have hx : l[i]? = some l[i] := List.getElem?_eq_getElem hi
    unfold m_labelling_With_L1
    simp only [at_dec hx, if_true, at_idx hx, Option.bind_some, at_suc hx (by omega), Int.toNat_natCast, hx, Option.some.injEq]
    by_cases he : l[i] = x
    · simp only [he, beq_self_eq_true, if_true, decide_true]
      rw [app_ok (by simp; omega)]
      exact ⟨rfl, by simp; omega⟩
    · have hb : (l[i] == x) = false := by simpa using he
      simp only [hb, he, decide_false, Bool.false_eq_true, if_false]
      exact ⟨trivial, by omega⟩
  · intro s _
    rw [rng_len]
    unfold m_labelling_With_L1
    simp [len]
theorem ref11_With (l : List Int) (x : Int) (hl : l.length < 4294967000) : m_ref11_With l x = some (withS l x) := lab_With l x hl
abbrev zeroC : T_Compiled := (([], [], []), [], [], (0, []))
def badO (o : T_Ordering) : Bool := if o.1 != 1 then (o.1 != 2) || ((o.2 != 1) && (o.2 != 2)) else (o.2 != 1) && (o.2 != 2)
noncomputable def gphS (b : T_Base) (l : List T_Argument) (o : T_Ordering) : List T_Pair := nrm lt2 (pairsOf (defeatsS b l o))
noncomputable def accS (b : T_Base) (l : List T_Argument) (o : T_Ordering) : List T_Literal := nrm litLt ((withS (grLab l.length (gphS b l o)) 1).flatMap (concF l))
noncomputable def compC (b : T_Base) (l : List T_Argument) (o : T_Ordering) : T_Compiled := (promS b (accS b l o), l, defeatsS (promS b (accS b l o)) l o, ((l.length : Int), gphS (promS b (accS b l o)) l o))
open Classical in
noncomputable def compS (b : T_Base) (o : T_Ordering) : T_Compiled × Int := if ValidB b then (match buildS b with
    | none => (zeroC, 2)
    | some l => if badO o then (zeroC, 4) else (compC b l o, 0))
  else (zeroC, validS b)
theorem good_defeats {b : T_Base} {l : List T_Argument} (hl : l.length ≤ 40) (o : T_Ordering) : graphS (len l) (defeatsS b l o) = (((l.length : Int), gphS b l o), 0) ∧ GoodG l.length (gphS b l o) := by
  have h0 : (decide (len l < 0) || decide (40 < len l)) = false := by
    simp only [len, Bool.or_eq_false_iff, decide_eq_false_iff_not]; omega
  have h1 : (defeatsS b l o).any (badA (len l)) = false := by
    rw [List.any_eq_false]
    intro y hy
    have hy := attsS_mem (b := b) (l := l) y |>.1 (List.mem_filter.1 hy).1
    simp only [badA, len, Bool.or_eq_true, decide_eq_true_eq, not_or]
    omega
  have h2 : graphS (len l) (defeatsS b l o) = (((l.length : Int), gphS b l o), 0) := by
    unfold graphS gphS
    simp only [h0, h1, Bool.false_eq_true, if_false]
  refine ⟨h2, ?_⟩
  obtain ⟨N, e1, e2, e3, _⟩ := good_graphS h2
  have : N = l.length := by simp only [len] at e1; omega
  rw [← this]; exact e3
theorem form_prom {b : T_Base} {l : List T_Argument} {y : List T_Literal} (h : FormB b l) : FormB (promS b y) l :=
  ⟨h.toFormA, by simpa [promS] using h.np, by simpa [promS] using h.nr, fun i a ha => by simpa [promS] using h.kind i a ha⟩
theorem accS_len (b : T_Base) (l : List T_Argument) (o : T_Ordering) : (accS b l o).length ≤ l.length := by
  refine Nat.le_trans (nrm_len _ _) (Nat.le_trans (concF_len _) ?_)
  rw [Nat.mul_one]
  refine Nat.le_trans (withS_len _ _) ?_
  rw [grLab, mapN_len]; exact Nat.le_refl _
section
variable {b : T_Base}
theorem ref20_Compile (hc : Cnt b) (hr : b.2.1.length ≤ 12) (o : T_Ordering) : m_ref20_Compile b o = some (compS b o) := by
  unfold m_ref20_Compile compS
  by_cases hv : ValidB b
  · rw [ref_Build (small_of hv hr), if_pos hv]
    cases hb : buildS b with
    | none => rfl
    | some l =>
      obtain ⟨hf, hl⟩ := buildS_form hv hr hb
      have hB := hf.toFormC.toFormB
      simp only [ansB, Option.bind_some, bne_self_eq_false, Bool.false_eq_true, if_false]
      show (if badO o = true then _ else _) = _
      cases ho : badO o with
      | true => rfl
      | false =>
        have hd := defs_len (b := b) (l := l) (by omega) o
        obtain ⟨hg, hG⟩ := good_defeats (b := b) hl o
        have hac := accS_len b l o
        have hd2 := defs_len (b := promS b (accS b l o)) (l := l) (by omega) o
        obtain ⟨hg2, _⟩ := good_defeats (b := promS b (accS b l o)) hl o
        have hgl : (grLab l.length (gphS b l o)).length = l.length := mapN_len _ _
        have hw := withS_len (grLab l.length (gphS b l o)) 1
        simp only [Bool.false_eq_true, if_false, ref_Defeats hB o, Option.bind_some]
        rw [ref_Graph _ _ (by omega), hg]
        simp only [Option.bind_some]
        rw [ref12_Label hG]
        simp only [Option.bind_some]
        rw [ref11_With _ _ (by omega)]
        simp only [Option.bind_some]
        rw [ref_Conclusions _ (by omega)]
        simp only [Option.bind_some]
        rw [show nrm litLt ((withS (grLab l.length (gphS b l o)) 1).flatMap (concF l)) = accS b l o from rfl, ref_Promote hc (by omega)]
        simp only [Option.bind_some, ref_Defeats (form_prom hB) o]
        rw [ref_Graph _ _ (by omega), hg2]
        rfl
  · rw [ref_Build_bad hc hv, if_neg hv]
    have : (validS b != 0) = true := by
      rw [bne_iff_ne]
      exact fun h' => hv (validS_iff.1 h')
    simp only [Option.bind_some, this, if_true]
/-- a base that compiles -/
theorem comp_ok (hr : b.2.1.length ≤ 12) {o : T_Ordering} {c : T_Compiled} (h : compS b o = (c, 0)) : ∃ l, ValidB b ∧ FormD b l ∧ l.length ≤ 40 ∧ buildS b = some l ∧ badO o = false ∧ c = compC b l o := by
  unfold compS at h
  by_cases hv : ValidB b
  · rw [if_pos hv] at h
    cases hb : buildS b with
    | none => rw [hb] at h; cases h
    | some l =>
      rw [hb] at h
      obtain ⟨hf, hl⟩ := buildS_form hv hr hb
      cases ho : badO o with
      | true => simp only [ho, if_true] at h; cases h
      | false =>
        simp only [ho, Bool.false_eq_true, if_false, Prod.mk.injEq, and_true] at h
        exact ⟨l, hv, hf, hl, rfl, rfl, h.symm⟩
  · rw [if_neg hv] at h
    simp only [Prod.mk.injEq] at h
    exact absurd (validS_iff.1 h.2) hv
end
end
section
set_option linter.unusedVariables false
section
variable (l : List T_Argument) (f : Nat → Int) (x : T_Literal)
/-- the argument at a place concludes x -/
def mtB (j : Nat) : Bool := match l[j]? with | some a => a.2.2.2 == x | none => false
def anyN (n : Nat) (p : Nat → Bool) : Bool := (List.range n).any p
theorem anyN_succ (n : Nat) (p : Nat → Bool) : anyN (n + 1) p = (anyN n p || p n) := by simp [anyN, List.range_succ]
def accB (n : Nat) : Bool := anyN n fun j => mtB l x j && f j == 1
def opnB (n : Nat) : Bool := anyN n fun j => mtB l x j && f j != 2
abbrev sAcc : Str := [97, 99, 99, 101, 112, 116, 101, 100]
abbrev sRej : Str := [114, 101, 106, 101, 99, 116, 101, 100]
abbrev sOpn : Str := [111, 112, 101, 110]
def wordS (n : Nat) : Str := if accB l f x n then sAcc else if opnB l f x n then sOpn else sRej
end
section
variable {l : List T_Argument} {f : Nat → Int} {x : T_Literal} {b : T_Base} {d : List T_Attack} {L : List T_Pair}
theorem rep_L3 (hl : l.length ≤ 40) : loop (m_report_Claims_L3 (b, l, d, ((l.length : Int), L)) x (mapN l.length f)) (sRej, 0) = some (wordS l f x l.length) := by
  have h := loop_forI (B := m_report_Claims_L3 (b, l, d, ((l.length : Int), L)) x (mapN l.length f)) (fun i (s : Str) => (s, (i : Int))) l (fun i s => s = wordS l f x i) (fun r => r = wordS l f x l.length) ?_ ?_ sRej rfl
  · obtain ⟨r, h1, rfl⟩ := h
    exact h1
  · rintro i a s ha rfl
    have hi := at_lt ha
    have hm : mtB l x i = (a.2.2.2 == x) := by simp [mtB, ha]
    refine .inl ⟨_, ?_, rfl⟩
    unfold m_report_Claims_L3
    have hlen : decide (len (mapN l.length f) ≤ (i : Int)) = false := decide_eq_false (by simp only [len, mapN_len]; omega)
    simp only [at_dec ha, if_true, at_idx ha, Option.bind_some, hlen, Bool.false_or, mapN_idx f hi, at_suc ha (by omega)]
    have e1 : accB l f x (i + 1) = (accB l f x i || (a.2.2.2 == x && f i == 1)) := by rw [accB, anyN_succ, hm]; rfl
    have e2 : opnB l f x (i + 1) = (opnB l f x i || (a.2.2.2 == x && f i != 2)) := by rw [opnB, anyN_succ, hm]; rfl
    unfold wordS
    rw [e1, e2]
    cases hx : a.2.2.2 == x with
    | false => simp
    | true =>
      cases hA : accB l f x i with
      | true => simp
      | false =>
        have hne : ((if opnB l f x i = true then sOpn else sRej) == sAcc) = false := by cases opnB l f x i <;> rfl
        simp only [Bool.not_true, Bool.false_or, hne, Bool.false_eq_true, if_false, Bool.true_and]
        by_cases h1 : f i = 1
        · simp [h1]
        · have h1' : (f i == 1) = false := by simpa using h1
          simp only [h1', Bool.false_eq_true, if_false]
          by_cases h2 : f i = 2
          · simp [h2]
          · have h2' : (f i != 2) = true := by simpa using h2
            simp only [h2', if_true, Bool.or_true]
  · rintro s rfl
    refine ⟨_, ?_, rfl⟩
    unfold m_report_Claims_L3
    simp only [end_dec, Bool.false_eq_true, if_false]
theorem refc_L3 (hl : l.length ≤ 40) : loop (m_ref42_Claims_L3 (b, l, d, ((l.length : Int), L)) x (mapN l.length f)) (false, true, 0) = some (accB l f x l.length, !opnB l f x l.length) := by
  have h := loop_forI (B := m_ref42_Claims_L3 (b, l, d, ((l.length : Int), L)) x (mapN l.length f)) (fun i (s : Bool × Bool) => (s.1, s.2, (i : Int))) l (fun i s => s = (accB l f x i, !opnB l f x i)) (fun r => r = (accB l f x l.length, !opnB l f x l.length)) ?_ ?_ (false, true) rfl
  · obtain ⟨r, h1, rfl⟩ := h
    exact h1
  · rintro i a s ha rfl
    have hi := at_lt ha
    have hm : mtB l x i = (a.2.2.2 == x) := by simp [mtB, ha]
    have e1 : accB l f x (i + 1) = (accB l f x i || (a.2.2.2 == x && f i == 1)) := by rw [accB, anyN_succ, hm]; rfl
    have e2 : opnB l f x (i + 1) = (opnB l f x i || (a.2.2.2 == x && f i != 2)) := by rw [opnB, anyN_succ, hm]; rfl
    refine .inl ⟨_, ?_, rfl⟩
    unfold m_ref42_Claims_L3
    simp only [at_dec ha, if_true, at_idx ha, Option.bind_some, mapN_idx f hi, at_suc ha (by omega), e1, e2]
    cases hx : a.2.2.2 == x with
    | false => simp
    | true =>
      cases accB l f x i <;> cases opnB l f x i <;> cases h2 : (f i == 2) <;> simp [bne, h2]
  · rintro s rfl
    refine ⟨_, ?_, rfl⟩
    unfold m_ref42_Claims_L3
    simp only [end_dec, Bool.false_eq_true, if_false]
def lineC (x : T_Literal) (w : Str) : Str := litText x ++ 32 :: w
theorem cat3 (x : T_Literal) (w : Str) (hw : w.length ≤ 100) : ((cat (litText x) [32]).bind fun x7 => cat x7 w) = some (lineC x w) := by
  have := litText_len x
  rw [cat_ok (by simp; omega)]
  simp only [Option.bind_some]
  rw [cat_ok (by simp; omega)]
  simp [lineC]
theorem wordS_len (n : Nat) : (wordS l f x n).length ≤ 100 := by
  unfold wordS
  cases accB l f x n <;> cases opnB l f x n <;> simp
/-- the conclusions, ascending -/
def concs (l : List T_Argument) : List T_Literal := nrm litLt (l.map (·.2.2.2))
theorem concs_len (hl : l.length ≤ 40) : (concs l).length ≤ 40 := Nat.le_trans (nrm_len _ _) (by simpa using hl)
def linesC (l : List T_Argument) (f : Nat → Int) : List Str := (concs l).map fun x => lineC x (wordS l f x l.length)
theorem rep_L1 (hl : l.length ≤ 40) (g : T_Graph) : loop (m_report_Claims_L1 (b, l, d, g)) (([] : List T_Literal), 0) = some (l.map (·.2.2.2)) := by
  have h := loop_fold (B := m_report_Claims_L1 (b, l, d, g)) l (fun s a => s ++ [a.2.2.2]) id (fun i s => s.length ≤ i) ([] : List T_Literal) (by simp) ?_ ?_
  · rw [h.1, foldl_app_map]; simp
  · intro i a s ha hI
    have := at_lt ha
    unfold m_report_Claims_L1
    simp only [at_dec ha, if_true, at_idx ha, Option.bind_some, at_suc ha (by omega)]
    rw [app_ok (by simp; omega)]
    exact ⟨rfl, by simp; omega⟩
  · intro s _
    unfold m_report_Claims_L1
    simp [len]
theorem report_ClaimsS (hl : l.length ≤ 40) (hG : GoodG l.length L) : m_report_Claims (b, l, d, ((l.length : Int), L)) = some (linesC l (lab l.length L (l.length + 1))) := by
  unfold m_report_Claims
  simp only
  rw [grounded_Label hG]
  simp only [Option.bind_some]
  rw [rep_L1 hl]
  simp only [Option.bind_some]
  rw [lit_normal (by simp; omega)]
  simp only [Option.bind_some]
  have hcl := concs_len hl
  have h := loop_fold (B := m_report_Claims_L2 (concs l) (b, l, d, ((l.length : Int), L)) (grLab l.length L)) (concs l) (fun s x => s ++ [lineC x (wordS l (lab l.length L (l.length + 1)) x l.length)]) id (fun i s => s.length ≤ i) ([] : List Str) (by simp) ?_ ?_
  · show loop (m_report_Claims_L2 (concs l) (b, l, d, ((l.length : Int), L)) (grLab l.length L)) _ = _
    rw [h.1, foldl_app_map]; rfl
  · intro i x s hx hI
    have := at_lt hx
    unfold m_report_Claims_L2
    simp only [at_dec hx, if_true, at_idx hx, Option.bind_some, at_suc hx (by omega)]
    have h3 := rep_L3 (l := l) (f := lab l.length L (l.length + 1)) (x := x) (b := b) (d := d) (L := L) hl
    rw [show loop (m_report_Claims_L3 (b, l, d, ((l.length : Int), L)) x (grLab l.length L)) ([114, 101, 106, 101, 99, 116, 101, 100], 0) = some (wordS l (lab l.length L (l.length + 1)) x l.length) from h3]
    simp only [Option.bind_some, lit_format]
    have hc := cat3 x (wordS l (lab l.length L (l.length + 1)) x l.length) (wordS_len _)
    have hassoc : ∀ (k : Str → Option ((List Str × Int) ⊕ List Str)), ((cat (litText x) [32]).bind fun x7 => (cat x7 (wordS l (lab l.length L (l.length + 1)) x l.length)).bind k) = (((cat (litText x) [32]).bind fun x7 => cat x7 (wordS l (lab l.length L (l.length + 1)) x l.length))).bind k := fun k => by rw [Option.bind_assoc]
    rw [hassoc, hc]
    simp only [Option.bind_some]
    rw [app_ok (by simp; omega)]
    exact ⟨rfl, by simp; omega⟩
  · intro s _
    unfold m_report_Claims_L2
    simp [len]
theorem ref42_ClaimsS (hl : l.length ≤ 40) (hG : GoodG l.length L) : m_ref42_Claims (b, l, d, ((l.length : Int), L)) = some (linesC l (lab l.length L (l.length + 1))) := by
  unfold m_ref42_Claims
  simp only
  rw [ref12_Label hG]
  simp only [Option.bind_some]
  have h1 : loop (m_ref42_Claims_L1 (b, l, d, ((l.length : Int), L))) (([] : List T_Literal), 0) = some (l.map (·.2.2.2)) := rep_L1 hl _
  rw [h1]
  simp only [Option.bind_some]
  rw [ref_normal (by simp; omega)]
  simp only [Option.bind_some]
  have hcl := concs_len hl
  have h := loop_fold (B := m_ref42_Claims_L2 (concs l) (b, l, d, ((l.length : Int), L)) (grLab l.length L)) (concs l) (fun s x => s ++ [lineC x (wordS l (lab l.length L (l.length + 1)) x l.length)]) id (fun i s => s.length ≤ i) ([] : List Str) (by simp) ?_ ?_
  · show loop (m_ref42_Claims_L2 (concs l) (b, l, d, ((l.length : Int), L)) (grLab l.length L)) _ = _
    rw [h.1, foldl_app_map]; rfl
  · intro i x s hx hI
    have := at_lt hx
    have hlt := litText_len x
    unfold m_ref42_Claims_L2
    simp only [at_dec hx, if_true, at_idx hx, Option.bind_some, at_suc hx (by omega)]
    have h3 := refc_L3 (l := l) (f := lab l.length L (l.length + 1)) (x := x) (b := b) (d := d) (L := L) hl
    rw [show loop (m_ref42_Claims_L3 (b, l, d, ((l.length : Int), L)) x (grLab l.length L)) (false, true, 0) = _ from h3]
    simp only [Option.bind_some, ref_format]
    have hw : (if accB l (lab l.length L (l.length + 1)) x l.length = true then some ([32, 97, 99, 99, 101, 112, 116, 101, 100] : Str) else if (!opnB l (lab l.length L (l.length + 1)) x l.length) = true then some [32, 114, 101, 106, 101, 99, 116, 101, 100] else some [32, 111, 112, 101, 110]) = some (32 :: wordS l (lab l.length L (l.length + 1)) x l.length) := by
      unfold wordS
      cases accB l (lab l.length L (l.length + 1)) x l.length <;> cases opnB l (lab l.length L (l.length + 1)) x l.length <;> rfl
    rw [hw]
    simp only [Option.bind_some]
    rw [cat_ok (by have := wordS_len (l := l) (f := lab l.length L (l.length + 1)) (x := x) l.length; simp; omega)]
    simp only [Option.bind_some]
    rw [app_ok (by simp; omega)]
    exact ⟨rfl, by simp; omega⟩
  · intro s _
    unfold m_ref42_Claims_L2
    simp [len]
def inB (l : List T_Argument) (f : Nat → Int) (x : T_Literal) (n : Nat) : Bool := anyN n fun j => mtB l x j && (f j != 1 && f j != 2)
theorem law_L3 (hl : l.length ≤ 40) {cs : List T_Literal} {q : Nat} (hq : cs[q]? = some x) (e : Int) (g : T_Graph) (rk : List Int) : ∃ n o : Int, (decide (0 < n) = accB l f x l.length) ∧ ((o == 0) = !inB l f x l.length) ∧
    loop (m_law42_ReportClaims_L3 (e, (b, l, d, g)) cs (q : Int) (mapN l.length f, rk)) (0, 0, 0, 0) = some (n, o) := by
  have h := loop_forI (B := m_law42_ReportClaims_L3 (e, (b, l, d, g)) cs (q : Int) (mapN l.length f, rk)) (fun i (s : Int × Int × Int) => (s.1, s.2.1, s.2.2, (i : Int))) l
    (fun i s => (0 ≤ s.1 ∧ s.1 ≤ i ∧ decide (0 < s.1) = accB l f x i) ∧ (0 ≤ s.2.1 ∧ s.2.1 ≤ i) ∧ (0 ≤ s.2.2 ∧ s.2.2 ≤ i ∧ (s.2.2 == 0) = !inB l f x i))
    (fun r => decide (0 < r.1) = accB l f x l.length ∧ (r.2 == 0) = !inB l f x l.length) ?_ ?_ (0, 0, 0) ⟨⟨by simp, by simp, rfl⟩, ⟨by simp, by simp⟩, by simp, by simp, rfl⟩
  · obtain ⟨⟨n, o⟩, h1, h2, h3⟩ := h
    exact ⟨n, o, h2, h3, h1⟩
  · rintro i a ⟨n, m, o⟩ ha ⟨⟨n0, n1, n2⟩, ⟨m0, m1⟩, o0, o1, o2⟩
    simp only at n0 n1 n2 m0 m1 o0 o1 o2
    have hi := at_lt ha
    have hm : mtB l x i = (a.2.2.2 == x) := by simp [mtB, ha]
    have e1 : accB l f x (i + 1) = (accB l f x i || (a.2.2.2 == x && f i == 1)) := by rw [accB, anyN_succ, hm]; rfl
    have e2 : inB l f x (i + 1) = (inB l f x i || (a.2.2.2 == x && (f i != 1 && f i != 2))) := by rw [inB, anyN_succ, hm]; rfl
    refine .inl ?_
    unfold m_law42_ReportClaims_L3
    simp only [at_dec ha, if_true, at_idx ha, Option.bind_some, mapN_idx f hi, at_idx hq, at_suc ha (by omega)]
    rw [e1, e2]
    have w : ∀ z : Int, 0 ≤ z → z ≤ 100 → w64 (z + 1) = z + 1 := fun z h1 h2 => w64_id (by omega) (by omega)
    cases hx : a.2.2.2 == x with
    | false => exact ⟨(n, m, o), by simp, ⟨n0, by dsimp only; omega, by simpa using n2⟩, ⟨m0, by dsimp only; omega⟩, o0, by dsimp only; omega, by simpa using o2⟩
    | true =>
      by_cases h1 : f i = 1
      · refine ⟨(n + 1, m, o), ?_, ⟨by dsimp only; omega, by dsimp only; omega, ?_⟩, ⟨m0, by dsimp only; omega⟩, o0, by dsimp only; omega, ?_⟩
        · simp only [h1, beq_self_eq_true, if_true, w n n0 (by omega)]
        · rw [h1]; simp; omega
        · simpa [h1] using o2
      · have h1' : (f i == 1) = false := by simpa using h1
        by_cases h2 : f i = 2
        · refine ⟨(n, m + 1, o), ?_, ⟨n0, by dsimp only; omega, ?_⟩, ⟨by dsimp only; omega, by dsimp only; omega⟩, o0, by dsimp only; omega, ?_⟩
          · simp [h2, w m m0 (by omega)]
          · simpa [h1'] using n2
          · simpa [h2] using o2
        · have h2' : (f i == 2) = false := by simpa using h2
          refine ⟨(n, m, o + 1), ?_, ⟨n0, by dsimp only; omega, ?_⟩, ⟨m0, by dsimp only; omega⟩, by dsimp only; omega, by dsimp only; omega, ?_⟩
          · simp only [h1', h2', if_true, Bool.false_eq_true, if_false, w o o0 (by omega)]
          · simpa [h1'] using n2
          · have e3 : ((o + 1 : Int) == 0) = false := by simpa using (by omega : o + 1 ≠ 0)
            have e4 : (f i != 1 && f i != 2) = true := by simp [h1, h2]
            show ((o + 1 : Int) == 0) = _
            rw [e3, e4]; simp
  · rintro ⟨n, m, o⟩ ⟨⟨n0, n1, n2⟩, ⟨m0, m1⟩, o0, o1, o2⟩
    refine ⟨(n, o), ?_, n2, o2⟩
    unfold m_law42_ReportClaims_L3
    simp only [end_dec, Bool.false_eq_true, if_false]
theorem word_law : (if accB l f x l.length = true then some sAcc else if (!inB l f x l.length) = true then some sRej else some sOpn) = some (wordS l f x l.length) ∨ accB l f x l.length = false ∧ inB l f x l.length ≠ opnB l f x l.length := by
  unfold wordS
  cases accB l f x l.length with
  | true => exact .inl rfl
  | false =>
    cases h1 : inB l f x l.length <;> cases h2 : opnB l f x l.length <;> first | exact .inl rfl | exact .inr ⟨rfl, by simp⟩
theorem in_opn (h : accB l f x l.length = false) : inB l f x l.length = opnB l f x l.length := by
  unfold inB opnB anyN
  unfold accB anyN at h
  rw [Bool.eq_iff_iff, List.any_eq_true, List.any_eq_true]
  rw [List.any_eq_false] at h
  constructor
  · rintro ⟨j, hj, h1⟩
    simp only [Bool.and_eq_true] at h1 ⊢
    exact ⟨j, hj, h1.1, h1.2.2⟩
  · rintro ⟨j, hj, h1⟩
    have h2 := h j hj
    simp only [Bool.and_eq_true] at h1 h2 ⊢
    exact ⟨j, hj, h1.1, by simpa using fun h3 => h2 ⟨h1.1, by simpa using h3⟩, h1.2⟩
end
theorem p_ReportClaims (hw : m_law42_awake = some true) (y0 : List Int) : m_law42_ReportClaims y0 = some true := by
  unfold m_law42_ReportClaims
  rw [keep_New]
  simp only [Option.bind_some]
  obtain ⟨r2, e2, h2a, h2b, h2⟩ := Ok.Rng (srcOk_New y0) (lo := 1) (hi := 2) (by omega) (by omega) (by omega)
  rw [e2]
  simp only [Option.bind_some]
  obtain ⟨r3, e3, h3a, h3b, h3⟩ := Ok.Rng h2 (lo := 1) (hi := 2) (by omega) (by omega) (by omega)
  simp only at e3
  rw [e3]
  simp only [Option.bind_some]
  obtain ⟨b, k, e4, hk, hd⟩ := keep_Base h3 (n := 3) (p := 4) (q := 5) (by omega) (by omega) (by omega) (by omega) (by omega) (by omega)
  simp only at e4
  rw [e4]
  have hr : b.2.1.length ≤ 12 := by have := hd.nr; omega
  simp only [Option.bind_some]
  rw [ref20_Compile (cnt_of_valid hd.valid) hr]
  simp only [Option.bind_some]
  by_cases he : (compS b (r2.1, r3.1)).2 = 0
  · have hne : ((compS b (r2.1, r3.1)).2 != 0) = false := by simp [he]
    rw [hne]
    simp only [Bool.false_eq_true, if_false]
    obtain ⟨l, hv, hf, hl, hb, ho, hc⟩ := comp_ok hr (c := (compS b (r2.1, r3.1)).1) (o := (r2.1, r3.1)) (Prod.ext rfl he)
    have hG := (good_defeats (b := promS b (accS b l (r2.1, r3.1))) hl (r2.1, r3.1)).2
    rw [hc, he]
    unfold compC
    rw [report_ClaimsS hl hG]
    simp only [Option.bind_some]
    obtain ⟨rk, hgr⟩ := net_Grounded (by omega) hG.len' hG.hR
    rw [hgr]
    simp only [Option.bind_some]
    have hL1 : ∀ e : Int, loop (m_law42_ReportClaims_L1 (e, (promS b (accS b l (r2.1, r3.1)), l, defeatsS (promS b (accS b l (r2.1, r3.1))) l (r2.1, r3.1), ((l.length : Int), gphS (promS b (accS b l (r2.1, r3.1))) l (r2.1, r3.1))))) (([] : List T_Literal), 0) = some (l.map (·.2.2.2)) := fun _ => rep_L1 hl _
    rw [hL1]
    simp only [Option.bind_some]
    rw [ref_normal (by simp; omega)]
    have hcl := concs_len hl
    have hll : (linesC l (lab l.length (gphS (promS b (accS b l (r2.1, r3.1))) l (r2.1, r3.1)) (l.length + 1))).length = (concs l).length := by simp [linesC]
    have hlen : (len (linesC l (lab l.length (gphS (promS b (accS b l (r2.1, r3.1))) l (r2.1, r3.1)) (l.length + 1))) != len (nrm litLt (l.map (·.2.2.2)))) = false := by
      rw [bne_eq_false_iff_eq]
      show ((linesC l _).length : Int) = ((concs l).length : Int)
      rw [hll]
    simp only [Option.bind_some, hlen, Bool.false_eq_true, if_false]
    rw [ref42_ClaimsS hl hG]
    simp only [Option.bind_some]
    rw [sames_same _ (by omega)]
    simp only [Option.bind_some, Bool.not_true, Bool.false_eq_true, if_false]
    have hlp : ∀ e : Int, loop (m_law42_ReportClaims_L2 (concs l) (e, (promS b (accS b l (r2.1, r3.1)), l, defeatsS (promS b (accS b l (r2.1, r3.1))) l (r2.1, r3.1), ((l.length : Int), gphS (promS b (accS b l (r2.1, r3.1))) l (r2.1, r3.1)))) (mapN l.length (lab l.length (gphS (promS b (accS b l (r2.1, r3.1))) l (r2.1, r3.1)) (l.length + 1)), rk) (linesC l (lab l.length (gphS (promS b (accS b l (r2.1, r3.1))) l (r2.1, r3.1)) (l.length + 1)))) 0 = some (.inl ()) := fun e => by
      refine loop_for (l := concs l) (fun i x hx => ?_) ?_
      · have hi := at_lt hx
        obtain ⟨n, o, hn, hoo, h3'⟩ := law_L3 (l := l) (f := lab l.length (gphS (promS b (accS b l (r2.1, r3.1))) l (r2.1, r3.1)) (l.length + 1)) (b := promS b (accS b l (r2.1, r3.1))) (d := defeatsS (promS b (accS b l (r2.1, r3.1))) l (r2.1, r3.1)) hl hx e ((l.length : Int), gphS (promS b (accS b l (r2.1, r3.1))) l (r2.1, r3.1)) rk
        unfold m_law42_ReportClaims_L2
        simp only [at_dec hx, if_true]
        rw [h3']
        simp only [Option.bind_some, hn, hoo]
        have hword := (word_law (l := l) (f := lab l.length (gphS (promS b (accS b l (r2.1, r3.1))) l (r2.1, r3.1)) (l.length + 1)) (x := x)).resolve_right fun h => h.2 (in_opn h.1)
        rw [hword]
        have hline : (linesC l (lab l.length (gphS (promS b (accS b l (r2.1, r3.1))) l (r2.1, r3.1)) (l.length + 1)))[i]? = some (lineC x (wordS l (lab l.length (gphS (promS b (accS b l (r2.1, r3.1))) l (r2.1, r3.1)) (l.length + 1)) x l.length)) := by
          simp [linesC, hx]
        simp only [Option.bind_some, at_idx hline, at_idx hx, ref_format]
        have hc3 := cat3 x (wordS l (lab l.length (gphS (promS b (accS b l (r2.1, r3.1))) l (r2.1, r3.1)) (l.length + 1)) x l.length) (wordS_len _)
        rw [← Option.bind_assoc, hc3]
        simp only [Option.bind_some, beq_self_eq_true, Bool.not_true, Bool.false_eq_true, if_false, at_suc hx (show (concs l).length < 4294967296 by omega)]
      · unfold m_law42_ReportClaims_L2
        simp only [end_dec, Bool.false_eq_true, if_false]
    have hlp0 := hlp 0
    unfold concs at hlp0
    rw [hlp0]
    simp only [seqE, Option.bind_some, hw]
  · have hne : ((compS b (r2.1, r3.1)).2 != 0) = true := by simpa using he
    rw [hne]
    simp only [if_true, hw, Option.bind_some]
end
section
set_option linter.unusedVariables false
def e_keep_Voc_L1 (n_ : Nat) (y0 : Int) (s1 : (List Str) × Int) : Option (((List Str) × Int) ⊕ (List Str)) :=
  if decide (s1.2 < y0) then
    (app s1.1 ([strOf ([IntKind.u8.wrap (w64 (97 + s1.2))] : List Int)] : List Str)).bind fun x1 =>
    some (.inl (x1, w64 (s1.2 + 1)))
  else
    some (.inr s1.1)
theorem le_keep_Voc_L1 (n_ : Nat) (y0 : Int) (s1 : (List Str) × Int) : Le (e_keep_Voc_L1 n_ y0 s1) (m_keep_Voc_L1 y0 s1) := by
  unfold e_keep_Voc_L1 m_keep_Voc_L1
  repeat with_reducible (first | intro _ | exact Le.refl _ | apply Le.ite | apply Le.seqE | apply Le.bind | apply Le.lp | exact Le.none _)
def e_keep_Voc (n_ : Nat) (y0 : Int) : Option (List Str) :=
  (lp n_) ((e_keep_Voc_L1 n_) y0) (([] : List Str), 0)
theorem le_keep_Voc (n_ : Nat) (y0 : Int) : Le (e_keep_Voc n_ y0) (m_keep_Voc y0) := by
  unfold e_keep_Voc m_keep_Voc
  repeat with_reducible (first | intro _ | apply le_keep_Voc_L1 | exact Le.refl _ | apply Le.ite | apply Le.seqE | apply Le.bind | apply Le.lp | exact Le.none _)
def e_ref42_Same_L1 (n_ : Nat) (y0 : List Str) (y1 : List Str) (s1 : Int) : Option (Int ⊕ Bool) :=
  if decide (s1 < (len y0)) then
    (idx y0 s1).bind fun x1 =>
    (idx y1 s1).bind fun x2 =>
    if !(x1 == x2) then
      some (.inr false)
    else
      some (.inl (w64 (s1 + 1)))
  else
    some (.inr true)
theorem le_ref42_Same_L1 (n_ : Nat) (y0 : List Str) (y1 : List Str) (s1 : Int) : Le (e_ref42_Same_L1 n_ y0 y1 s1) (m_ref42_Same_L1 y0 y1 s1) := by
  unfold e_ref42_Same_L1 m_ref42_Same_L1
  repeat with_reducible (first | intro _ | exact Le.refl _ | apply Le.ite | apply Le.seqE | apply Le.bind | apply Le.lp | exact Le.none _)
def e_ref42_Same (n_ : Nat) (y0 : List Str) (y1 : List Str) : Option Bool :=
  if (len y0) != (len y1) then
    some false
  else
    (lp n_) ((e_ref42_Same_L1 n_) y0 y1) 0
theorem le_ref42_Same (n_ : Nat) (y0 : List Str) (y1 : List Str) : Le (e_ref42_Same n_ y0 y1) (m_ref42_Same y0 y1) := by
  unfold e_ref42_Same m_ref42_Same
  repeat with_reducible (first | intro _ | apply le_ref42_Same_L1 | exact Le.refl _ | apply Le.ite | apply Le.seqE | apply Le.bind | apply Le.lp | exact Le.none _)
def e_formula_Depth_L1 (n_ : Nat) (y0 : T_Formula) (rec_formula_Depth : T_Formula → Option Int) (s1 : Int × Int) : Option ((Int × Int) ⊕ Int) :=
  if decide (s1.2 < (len ((fv y0).2.2))) then
    (idx ((fv y0).2.2) s1.2).bind fun x1 =>
    (rec_formula_Depth x1).bind fun r1 =>
    some (.inl (if (w64 (1 + r1)) > s1.1 then w64 (1 + r1) else s1.1, w64 (s1.2 + 1)))
  else
    some (.inr s1.1)
theorem le_formula_Depth_L1 (n_ : Nat) (y0 : T_Formula) {rec_formula_Depth rec_formula_Depth' : T_Formula → Option Int} (h_rec_formula_Depth : ∀ u0, Le (rec_formula_Depth u0) (rec_formula_Depth' u0)) (s1 : Int × Int) : Le (e_formula_Depth_L1 n_ y0 rec_formula_Depth s1) (m_formula_Depth_L1 y0 rec_formula_Depth' s1) := by
  unfold e_formula_Depth_L1 m_formula_Depth_L1
  repeat with_reducible (first | intro _ | apply h_rec_formula_Depth | exact Le.refl _ | apply Le.ite | apply Le.seqE | apply Le.bind | apply Le.lp | exact Le.none _)
def fe_formula_Depth (n_ : Nat) (rec_formula_Depth : T_Formula → Option Int) (y0 : T_Formula) : Option Int :=
  (lp n_) ((e_formula_Depth_L1 n_) y0 rec_formula_Depth) (0, 0)
theorem lef_formula_Depth (n_ : Nat) {rec_formula_Depth rec_formula_Depth' : T_Formula → Option Int} (h_rec_formula_Depth : ∀ u0, Le (rec_formula_Depth u0) (rec_formula_Depth' u0)) (y0 : T_Formula) : Le (fe_formula_Depth n_ rec_formula_Depth y0) (F_formula_Depth rec_formula_Depth' y0) := by
  unfold fe_formula_Depth F_formula_Depth
  repeat with_reducible (first | intro _ | apply h_rec_formula_Depth | apply le_formula_Depth_L1 | exact Le.refl _ | apply Le.ite | apply Le.seqE | apply Le.bind | apply Le.lp | exact Le.none _)
def ke_formula_Depth (n_ : Nat) : Nat → T_Formula → Option Int
  | 0 => fun _ => none
  | k + 1 => fun y0 => (fe_formula_Depth n_) ((ke_formula_Depth n_) k) y0
theorem lek_formula_Depth (n_ : Nat) : ∀ (k m : Nat), k ≤ m → ∀ u0, Le (ke_formula_Depth n_ k u0) (k_formula_Depth m u0)
  | 0, _, _ => fun u0 => Le.none _
  | k + 1, m, h => fun u0 => by
    obtain ⟨m, rfl⟩ : ∃ q, m = q + 1 := ⟨m - 1, by omega⟩
    exact lef_formula_Depth n_ (lek_formula_Depth n_ k m (by omega)) _
def e_formula_Depth (n_ : Nat) (y0 : T_Formula) : Option Int :=
  ke_formula_Depth n_ n_ y0
theorem le_formula_Depth (n_ : Nat) (y0 : T_Formula) : Le (e_formula_Depth n_ y0) (m_formula_Depth y0) := Le.lim n_ fun m h => lek_formula_Depth n_ n_ m h _
def e_formula_Size_L1 (n_ : Nat) (y0 : T_Formula) (rec_formula_Size : T_Formula → Option Int) (s1 : Int × Int) : Option ((Int × Int) ⊕ Int) :=
  if decide (s1.2 < (len ((fv y0).2.2))) then
    (idx ((fv y0).2.2) s1.2).bind fun x1 =>
    (rec_formula_Size x1).bind fun r1 =>
    some (.inl (w64 (s1.1 + r1), w64 (s1.2 + 1)))
  else
    some (.inr s1.1)
theorem le_formula_Size_L1 (n_ : Nat) (y0 : T_Formula) {rec_formula_Size rec_formula_Size' : T_Formula → Option Int} (h_rec_formula_Size : ∀ u0, Le (rec_formula_Size u0) (rec_formula_Size' u0)) (s1 : Int × Int) : Le (e_formula_Size_L1 n_ y0 rec_formula_Size s1) (m_formula_Size_L1 y0 rec_formula_Size' s1) := by
  unfold e_formula_Size_L1 m_formula_Size_L1
  repeat with_reducible (first | intro _ | apply h_rec_formula_Size | exact Le.refl _ | apply Le.ite | apply Le.seqE | apply Le.bind | apply Le.lp | exact Le.none _)
def fe_formula_Size (n_ : Nat) (rec_formula_Size : T_Formula → Option Int) (y0 : T_Formula) : Option Int :=
  (lp n_) ((e_formula_Size_L1 n_) y0 rec_formula_Size) (1, 0)
theorem lef_formula_Size (n_ : Nat) {rec_formula_Size rec_formula_Size' : T_Formula → Option Int} (h_rec_formula_Size : ∀ u0, Le (rec_formula_Size u0) (rec_formula_Size' u0)) (y0 : T_Formula) : Le (fe_formula_Size n_ rec_formula_Size y0) (F_formula_Size rec_formula_Size' y0) := by
  unfold fe_formula_Size F_formula_Size
  repeat with_reducible (first | intro _ | apply h_rec_formula_Size | apply le_formula_Size_L1 | exact Le.refl _ | apply Le.ite | apply Le.seqE | apply Le.bind | apply Le.lp | exact Le.none _)
def ke_formula_Size (n_ : Nat) : Nat → T_Formula → Option Int
  | 0 => fun _ => none
  | k + 1 => fun y0 => (fe_formula_Size n_) ((ke_formula_Size n_) k) y0
theorem lek_formula_Size (n_ : Nat) : ∀ (k m : Nat), k ≤ m → ∀ u0, Le (ke_formula_Size n_ k u0) (k_formula_Size m u0)
  | 0, _, _ => fun u0 => Le.none _
  | k + 1, m, h => fun u0 => by
    obtain ⟨m, rfl⟩ : ∃ q, m = q + 1 := ⟨m - 1, by omega⟩
    exact lef_formula_Size n_ (lek_formula_Size n_ k m (by omega)) _
def e_formula_Size (n_ : Nat) (y0 : T_Formula) : Option Int :=
  ke_formula_Size n_ n_ y0
theorem le_formula_Size (n_ : Nat) (y0 : T_Formula) : Le (e_formula_Size n_ y0) (m_formula_Size y0) := Le.lim n_ fun m h => lek_formula_Size n_ n_ m h _
def e_formula_counted (n_ : Nat) (y0 : T_Formula) : Option Bool :=
  (
    if ((fv y0).1) == 1 then
      some (((fv y0).1) == 1)
    else
      if ((fv y0).1) == 2 then
        some (((fv y0).1) == 2)
      else
        some (((fv y0).1) == 3) : Option Bool).bind fun s1 =>
  if s1 then
    some ((len ((fv y0).2.2)) == 0)
  else
    if ((fv y0).1) == 4 then
      some ((len ((fv y0).2.2)) == 1)
    else
      (
        if ((fv y0).1) == 5 then
          some (((fv y0).1) == 5)
        else
          some (((fv y0).1) == 6) : Option Bool).bind fun s2 =>
      if s2 then
        some ((decide (2 ≤ (len ((fv y0).2.2)))) && (decide ((len ((fv y0).2.2)) ≤ 6)))
      else
        (
          if ((fv y0).1) == 7 then
            some (((fv y0).1) == 7)
          else
            some (((fv y0).1) == 8) : Option Bool).bind fun s3 =>
        if s3 then
          some ((len ((fv y0).2.2)) == 2)
        else
          some false
theorem le_formula_counted (n_ : Nat) (y0 : T_Formula) : Le (e_formula_counted n_ y0) (m_formula_counted y0) := by
  unfold e_formula_counted m_formula_counted
  repeat with_reducible (first | intro _ | exact Le.refl _ | apply Le.ite | apply Le.seqE | apply Le.bind | apply Le.lp | exact Le.none _)
def e_formula_all__formula_counted_L1 (n_ : Nat) (y0 : T_Formula) (rec_formula_all__formula_counted : T_Formula → Option Bool) (s1 : Int) : Option (Int ⊕ Bool) :=
  if decide (s1 < (len ((fv y0).2.2))) then
    (idx ((fv y0).2.2) s1).bind fun x1 =>
    (rec_formula_all__formula_counted x1).bind fun r2 =>
    if !r2 then
      some (.inr false)
    else
      some (.inl (w64 (s1 + 1)))
  else
    some (.inr true)
theorem le_formula_all__formula_counted_L1 (n_ : Nat) (y0 : T_Formula) {rec_formula_all__formula_counted rec_formula_all__formula_counted' : T_Formula → Option Bool} (h_rec_formula_all__formula_counted : ∀ u0, Le (rec_formula_all__formula_counted u0) (rec_formula_all__formula_counted' u0)) (s1 : Int) : Le (e_formula_all__formula_counted_L1 n_ y0 rec_formula_all__formula_counted s1) (m_formula_all__formula_counted_L1 y0 rec_formula_all__formula_counted' s1) := by
  unfold e_formula_all__formula_counted_L1 m_formula_all__formula_counted_L1
  repeat with_reducible (first | intro _ | apply h_rec_formula_all__formula_counted | exact Le.refl _ | apply Le.ite | apply Le.seqE | apply Le.bind | apply Le.lp | exact Le.none _)
def fe_formula_all__formula_counted (n_ : Nat) (rec_formula_all__formula_counted : T_Formula → Option Bool) (y0 : T_Formula) : Option Bool :=
  ((e_formula_counted n_) y0).bind fun r1 =>
  if !r1 then
    some false
  else
    (lp n_) ((e_formula_all__formula_counted_L1 n_) y0 rec_formula_all__formula_counted) 0
theorem lef_formula_all__formula_counted (n_ : Nat) {rec_formula_all__formula_counted rec_formula_all__formula_counted' : T_Formula → Option Bool} (h_rec_formula_all__formula_counted : ∀ u0, Le (rec_formula_all__formula_counted u0) (rec_formula_all__formula_counted' u0)) (y0 : T_Formula) : Le (fe_formula_all__formula_counted n_ rec_formula_all__formula_counted y0) (F_formula_all__formula_counted rec_formula_all__formula_counted' y0) := by
  unfold fe_formula_all__formula_counted F_formula_all__formula_counted
  repeat with_reducible (first | intro _ | apply h_rec_formula_all__formula_counted | apply le_formula_all__formula_counted_L1 | apply le_formula_counted | exact Le.refl _ | apply Le.ite | apply Le.seqE | apply Le.bind | apply Le.lp | exact Le.none _)
def ke_formula_all__formula_counted (n_ : Nat) : Nat → T_Formula → Option Bool
  | 0 => fun _ => none
  | k + 1 => fun y0 => (fe_formula_all__formula_counted n_) ((ke_formula_all__formula_counted n_) k) y0
theorem lek_formula_all__formula_counted (n_ : Nat) : ∀ (k m : Nat), k ≤ m → ∀ u0, Le (ke_formula_all__formula_counted n_ k u0) (k_formula_all__formula_counted m u0)
  | 0, _, _ => fun u0 => Le.none _
  | k + 1, m, h => fun u0 => by
    obtain ⟨m, rfl⟩ : ∃ q, m = q + 1 := ⟨m - 1, by omega⟩
    exact lef_formula_all__formula_counted n_ (lek_formula_all__formula_counted n_ k m (by omega)) _
def e_formula_all__formula_counted (n_ : Nat) (y0 : T_Formula) : Option Bool :=
  ke_formula_all__formula_counted n_ n_ y0
theorem le_formula_all__formula_counted (n_ : Nat) (y0 : T_Formula) : Le (e_formula_all__formula_counted n_ y0) (m_formula_all__formula_counted y0) := Le.lim n_ fun m h => lek_formula_all__formula_counted n_ n_ m h _
def e_literal_ValidName_L1 (n_ : Nat) (y0 : Str) (s1 : Int) : Option (Int ⊕ Bool) :=
  if decide (s1 < (len y0)) then
    (sidx y0 s1).bind fun x1 =>
    if (decide (97 ≤ x1)) && (decide (x1 ≤ 122)) then
      some (.inl (w64 (s1 + 1)))
    else
      if (decide (0 < s1)) && (if decide (48 ≤ x1) then (decide (x1 ≤ 57)) || (x1 == 95) else x1 == 95) then
        some (.inl (w64 (s1 + 1)))
      else
        some (.inr false)
  else
    some (.inr true)
theorem le_literal_ValidName_L1 (n_ : Nat) (y0 : Str) (s1 : Int) : Le (e_literal_ValidName_L1 n_ y0 s1) (m_literal_ValidName_L1 y0 s1) := by
  unfold e_literal_ValidName_L1 m_literal_ValidName_L1
  repeat with_reducible (first | intro _ | exact Le.refl _ | apply Le.ite | apply Le.seqE | apply Le.bind | apply Le.lp | exact Le.none _)
def e_literal_ValidName (n_ : Nat) (y0 : Str) : Option Bool :=
  if ((len y0) == 0) || (decide (12 < (len y0))) then
    some false
  else
    (lp n_) ((e_literal_ValidName_L1 n_) y0) 0
theorem le_literal_ValidName (n_ : Nat) (y0 : Str) : Le (e_literal_ValidName n_ y0) (m_literal_ValidName y0) := by
  unfold e_literal_ValidName m_literal_ValidName
  repeat with_reducible (first | intro _ | apply le_literal_ValidName_L1 | exact Le.refl _ | apply Le.ite | apply Le.seqE | apply Le.bind | apply Le.lp | exact Le.none _)
def e_formula_named (n_ : Nat) (y0 : T_Formula) : Option Bool :=
  if ((fv y0).1) == 3 then
    ((e_literal_ValidName n_) ((fv y0).2.1)).bind fun r1 =>
    some r1
  else
    some (((fv y0).2.1) == [])
theorem le_formula_named (n_ : Nat) (y0 : T_Formula) : Le (e_formula_named n_ y0) (m_formula_named y0) := by
  unfold e_formula_named m_formula_named
  repeat with_reducible (first | intro _ | apply le_literal_ValidName | exact Le.refl _ | apply Le.ite | apply Le.seqE | apply Le.bind | apply Le.lp | exact Le.none _)
def e_formula_all__formula_named_L1 (n_ : Nat) (y0 : T_Formula) (rec_formula_all__formula_named : T_Formula → Option Bool) (s1 : Int) : Option (Int ⊕ Bool) :=
  if decide (s1 < (len ((fv y0).2.2))) then
    (idx ((fv y0).2.2) s1).bind fun x1 =>
    (rec_formula_all__formula_named x1).bind fun r2 =>
    if !r2 then
      some (.inr false)
    else
      some (.inl (w64 (s1 + 1)))
  else
    some (.inr true)
theorem le_formula_all__formula_named_L1 (n_ : Nat) (y0 : T_Formula) {rec_formula_all__formula_named rec_formula_all__formula_named' : T_Formula → Option Bool} (h_rec_formula_all__formula_named : ∀ u0, Le (rec_formula_all__formula_named u0) (rec_formula_all__formula_named' u0)) (s1 : Int) : Le (e_formula_all__formula_named_L1 n_ y0 rec_formula_all__formula_named s1) (m_formula_all__formula_named_L1 y0 rec_formula_all__formula_named' s1) := by
  unfold e_formula_all__formula_named_L1 m_formula_all__formula_named_L1
  repeat with_reducible (first | intro _ | apply h_rec_formula_all__formula_named | exact Le.refl _ | apply Le.ite | apply Le.seqE | apply Le.bind | apply Le.lp | exact Le.none _)
def fe_formula_all__formula_named (n_ : Nat) (rec_formula_all__formula_named : T_Formula → Option Bool) (y0 : T_Formula) : Option Bool :=
  ((e_formula_named n_) y0).bind fun r1 =>
  if !r1 then
    some false
  else
    (lp n_) ((e_formula_all__formula_named_L1 n_) y0 rec_formula_all__formula_named) 0
theorem lef_formula_all__formula_named (n_ : Nat) {rec_formula_all__formula_named rec_formula_all__formula_named' : T_Formula → Option Bool} (h_rec_formula_all__formula_named : ∀ u0, Le (rec_formula_all__formula_named u0) (rec_formula_all__formula_named' u0)) (y0 : T_Formula) : Le (fe_formula_all__formula_named n_ rec_formula_all__formula_named y0) (F_formula_all__formula_named rec_formula_all__formula_named' y0) := by
  unfold fe_formula_all__formula_named F_formula_all__formula_named
  repeat with_reducible (first | intro _ | apply h_rec_formula_all__formula_named | apply le_formula_all__formula_named_L1 | apply le_formula_named | exact Le.refl _ | apply Le.ite | apply Le.seqE | apply Le.bind | apply Le.lp | exact Le.none _)
def ke_formula_all__formula_named (n_ : Nat) : Nat → T_Formula → Option Bool
  | 0 => fun _ => none
  | k + 1 => fun y0 => (fe_formula_all__formula_named n_) ((ke_formula_all__formula_named n_) k) y0
theorem lek_formula_all__formula_named (n_ : Nat) : ∀ (k m : Nat), k ≤ m → ∀ u0, Le (ke_formula_all__formula_named n_ k u0) (k_formula_all__formula_named m u0)
  | 0, _, _ => fun u0 => Le.none _
  | k + 1, m, h => fun u0 => by
    obtain ⟨m, rfl⟩ : ∃ q, m = q + 1 := ⟨m - 1, by omega⟩
    exact lef_formula_all__formula_named n_ (lek_formula_all__formula_named n_ k m (by omega)) _
def e_formula_all__formula_named (n_ : Nat) (y0 : T_Formula) : Option Bool :=
  ke_formula_all__formula_named n_ n_ y0
theorem le_formula_all__formula_named (n_ : Nat) (y0 : T_Formula) : Le (e_formula_all__formula_named n_ y0) (m_formula_all__formula_named y0) := Le.lim n_ fun m h => lek_formula_all__formula_named n_ n_ m h _
def e_formula_Validate (n_ : Nat) (y0 : T_Formula) : Option Int :=
  (
    ((e_formula_Size n_) y0).bind fun r1 =>
    if decide (600 < r1) then
      some true
    else
      ((e_formula_Depth n_) y0).bind fun r2 =>
      some (decide (20 < r2)) : Option Bool).bind fun s1 =>
  if s1 then
    some 2
  else
    ((e_formula_all__formula_counted n_) y0).bind fun r3 =>
    if !r3 then
      some 4
    else
      ((e_formula_all__formula_named n_) y0).bind fun r4 =>
      if !r4 then
        some 3
      else
        some 0
theorem le_formula_Validate (n_ : Nat) (y0 : T_Formula) : Le (e_formula_Validate n_ y0) (m_formula_Validate y0) := by
  unfold e_formula_Validate m_formula_Validate
  repeat with_reducible (first | intro _ | apply le_formula_all__formula_named | apply le_formula_all__formula_counted | apply le_formula_Depth | apply le_formula_Size | exact Le.refl _ | apply Le.ite | apply Le.seqE | apply Le.bind | apply Le.lp | exact Le.none _)
def e_formula_needed (n_ : Nat) (y0 : T_Formula) (y1 : Int) : Option Int :=
  (
    if ((fv y0).1) == 4 then
      some (((fv y0).1) == 4)
    else
      some (((fv y0).1) == 5) : Option Bool).bind fun s1 =>
  if s1 then
    some 5
  else
    if ((fv y0).1) == 6 then
      some 4
    else
      if ((fv y0).1) == 7 then
        some (w64 (3 - y1))
      else
        some 2
theorem le_formula_needed (n_ : Nat) (y0 : T_Formula) (y1 : Int) : Le (e_formula_needed n_ y0 y1) (m_formula_needed y0 y1) := by
  unfold e_formula_needed m_formula_needed
  repeat with_reducible (first | intro _ | exact Le.refl _ | apply Le.ite | apply Le.seqE | apply Le.bind | apply Le.lp | exact Le.none _)
def e_formula_strength (n_ : Nat) (y0 : T_Formula) : Option Int :=
  if ((fv y0).1) == 8 then
    some 1
  else
    if ((fv y0).1) == 7 then
      some 2
    else
      if ((fv y0).1) == 6 then
        some 3
      else
        if ((fv y0).1) == 5 then
          some 4
        else
          some 5
theorem le_formula_strength (n_ : Nat) (y0 : T_Formula) : Le (e_formula_strength n_ y0) (m_formula_strength y0) := by
  unfold e_formula_strength m_formula_strength
  repeat with_reducible (first | intro _ | exact Le.refl _ | apply Le.ite | apply Le.seqE | apply Le.bind | apply Le.lp | exact Le.none _)
def e_strings_Builder_WriteByte (n_ : Nat) (y0 : Str) (y1 : Int) : Option (Unit × Str) :=
  (some () : Option Unit).bind fun _ =>
  (chk (decide (0 ≤ y1) && decide (y1 < 256) && decide (len y0 + 1 < 4294967296))).bind fun _ =>
  some ((), y0 ++ [UInt8.ofNat y1.toNat])
theorem le_strings_Builder_WriteByte (n_ : Nat) (y0 : Str) (y1 : Int) : Le (e_strings_Builder_WriteByte n_ y0 y1) (m_strings_Builder_WriteByte y0 y1) := by
  unfold e_strings_Builder_WriteByte m_strings_Builder_WriteByte
  repeat with_reducible (first | intro _ | exact Le.refl _ | apply Le.ite | apply Le.seqE | apply Le.bind | apply Le.lp | exact Le.none _)
def e_strings_Builder_WriteString (n_ : Nat) (y0 : Str) (y1 : Str) : Option (Int × Unit × Str) := wstrM y0 y1
theorem le_strings_Builder_WriteString (n_ : Nat) (y0 : Str) (y1 : Str) : Le (e_strings_Builder_WriteString n_ y0 y1) (m_strings_Builder_WriteString y0 y1) := by
  unfold e_strings_Builder_WriteString m_strings_Builder_WriteString
  repeat with_reducible (first | intro _ | exact Le.refl _ | apply Le.ite | apply Le.seqE | apply Le.bind | apply Le.lp | exact Le.none _)
def e_formula_write_L1 (n_ : Nat) (y1 : T_Formula) (rec_formula_write : Str → T_Formula → Option Str) (s2 : Int × Str) : Option ((Int × Str) ⊕ Str) :=
  if decide (s2.1 < (len ((fv y1).2.2))) then
    (idx ((fv y1).2.2) s2.1).bind fun x1 =>
    (
      if decide (0 < s2.1) then
        (idx tab_formula_words ((fv y1).1)).bind fun x2 =>
        ((e_strings_Builder_WriteString n_) s2.2 x2).bind fun r5 =>
        some r5.2.2
      else
        some s2.2 : Option Str).bind fun s3 =>
    ((e_formula_strength n_) x1).bind fun r6 =>
    ((e_formula_needed n_) y1 s2.1).bind fun r7 =>
    if decide (r6 < r7) then
      ((e_strings_Builder_WriteByte n_) s3 40).bind fun r8 =>
      (rec_formula_write r8.2 x1).bind fun r9 =>
      ((e_strings_Builder_WriteByte n_) r9 41).bind fun r10 =>
      some (.inl (w64 (s2.1 + 1), r10.2))
    else
      (rec_formula_write s3 x1).bind fun r11 =>
      some (.inl (w64 (s2.1 + 1), r11))
  else
    some (.inr s2.2)
theorem le_formula_write_L1 (n_ : Nat) (y1 : T_Formula) {rec_formula_write rec_formula_write' : Str → T_Formula → Option Str} (h_rec_formula_write : ∀ u0 u1, Le (rec_formula_write u0 u1) (rec_formula_write' u0 u1)) (s2 : Int × Str) : Le (e_formula_write_L1 n_ y1 rec_formula_write s2) (m_formula_write_L1 y1 rec_formula_write' s2) := by
  unfold e_formula_write_L1 m_formula_write_L1
  repeat with_reducible (first | intro _ | apply h_rec_formula_write | apply le_strings_Builder_WriteByte | apply le_formula_needed | apply le_formula_strength | apply le_strings_Builder_WriteString | exact Le.refl _ | apply Le.ite | apply Le.seqE | apply Le.bind | apply Le.lp | exact Le.none _)
def fe_formula_write (n_ : Nat) (rec_formula_write : Str → T_Formula → Option Str) (y0 : Str) (y1 : T_Formula) : Option Str :=
  (
    if ((fv y1).1) == 1 then
      ((e_strings_Builder_WriteByte n_) y0 49).bind fun r1 =>
      some r1.2
    else
      if ((fv y1).1) == 2 then
        ((e_strings_Builder_WriteByte n_) y0 48).bind fun r2 =>
        some r2.2
      else
        if ((fv y1).1) == 3 then
          ((e_strings_Builder_WriteString n_) y0 ((fv y1).2.1)).bind fun r3 =>
          some r3.2.2
        else
          if ((fv y1).1) == 4 then
            ((e_strings_Builder_WriteByte n_) y0 126).bind fun r4 =>
            some r4.2
          else
            some y0 : Option Str).bind fun s1 =>
  (lp n_) ((e_formula_write_L1 n_) y1 rec_formula_write) (0, s1)
theorem lef_formula_write (n_ : Nat) {rec_formula_write rec_formula_write' : Str → T_Formula → Option Str} (h_rec_formula_write : ∀ u0 u1, Le (rec_formula_write u0 u1) (rec_formula_write' u0 u1)) (y0 : Str) (y1 : T_Formula) : Le (fe_formula_write n_ rec_formula_write y0 y1) (F_formula_write rec_formula_write' y0 y1) := by
  unfold fe_formula_write F_formula_write
  repeat with_reducible (first | intro _ | apply h_rec_formula_write | apply le_formula_write_L1 | apply le_strings_Builder_WriteString | apply le_strings_Builder_WriteByte | exact Le.refl _ | apply Le.ite | apply Le.seqE | apply Le.bind | apply Le.lp | exact Le.none _)
def ke_formula_write (n_ : Nat) : Nat → Str → T_Formula → Option Str
  | 0 => fun _ _ => none
  | k + 1 => fun y0 y1 => (fe_formula_write n_) ((ke_formula_write n_) k) y0 y1
theorem lek_formula_write (n_ : Nat) : ∀ (k m : Nat), k ≤ m → ∀ u0 u1, Le (ke_formula_write n_ k u0 u1) (k_formula_write m u0 u1)
  | 0, _, _ => fun u0 u1 => Le.none _
  | k + 1, m, h => fun u0 u1 => by
    obtain ⟨m, rfl⟩ : ∃ q, m = q + 1 := ⟨m - 1, by omega⟩
    exact lef_formula_write n_ (lek_formula_write n_ k m (by omega)) _ _
def e_formula_write (n_ : Nat) (y0 : Str) (y1 : T_Formula) : Option Str :=
  ke_formula_write n_ n_ y0 y1
theorem le_formula_write (n_ : Nat) (y0 : Str) (y1 : T_Formula) : Le (e_formula_write n_ y0 y1) (m_formula_write y0 y1) := Le.lim n_ fun m h => lek_formula_write n_ n_ m h _ _
def e_strings_Builder_Len (n_ : Nat) (y0 : Str) : Option Int := some (len y0)
theorem le_strings_Builder_Len (n_ : Nat) (y0 : Str) : Le (e_strings_Builder_Len n_ y0) (m_strings_Builder_Len y0) := by
  unfold e_strings_Builder_Len m_strings_Builder_Len
  repeat with_reducible (first | intro _ | exact Le.refl _ | apply Le.ite | apply Le.seqE | apply Le.bind | apply Le.lp | exact Le.none _)
def e_strings_Builder_String (n_ : Nat) (y0 : Str) : Option Str := some y0
theorem le_strings_Builder_String (n_ : Nat) (y0 : Str) : Le (e_strings_Builder_String n_ y0) (m_strings_Builder_String y0) := by
  unfold e_strings_Builder_String m_strings_Builder_String
  repeat with_reducible (first | intro _ | exact Le.refl _ | apply Le.ite | apply Le.seqE | apply Le.bind | apply Le.lp | exact Le.none _)
def e_formula_Format (n_ : Nat) (y0 : T_Formula) : Option (Str × Int) :=
  ((e_formula_Validate n_) y0).bind fun r1 =>
  if r1 != 0 then
    some ([], r1)
  else
    ((e_formula_write n_) ([] : Str) y0).bind fun r2 =>
    ((e_strings_Builder_Len n_) r2).bind fun r3 =>
    if decide (4096 < r3) then
      some ([], 2)
    else
      ((e_strings_Builder_String n_) r2).bind fun r4 =>
      some (r4, 0)
theorem le_formula_Format (n_ : Nat) (y0 : T_Formula) : Le (e_formula_Format n_ y0) (m_formula_Format y0) := by
  unfold e_formula_Format m_formula_Format
  repeat with_reducible (first | intro _ | apply le_strings_Builder_String | apply le_strings_Builder_Len | apply le_formula_write | apply le_formula_Validate | exact Le.refl _ | apply Le.ite | apply Le.seqE | apply Le.bind | apply Le.lp | exact Le.none _)
def e_slices_Index_bool_L1 (n_ : Nat) (y0 : List Bool) (y1 : Bool) (s1 : Int) : Option (Int ⊕ Int) :=
  if decide (s1 < (len y0)) then
    (idx y0 s1).bind fun x1 =>
    if y1 == x1 then
      some (.inr s1)
    else
      some (.inl (w64 (s1 + 1)))
  else
    some (.inr (-1))
theorem le_slices_Index_bool_L1 (n_ : Nat) (y0 : List Bool) (y1 : Bool) (s1 : Int) : Le (e_slices_Index_bool_L1 n_ y0 y1 s1) (m_slices_Index_bool_L1 y0 y1 s1) := by
  unfold e_slices_Index_bool_L1 m_slices_Index_bool_L1
  repeat with_reducible (first | intro _ | exact Le.refl _ | apply Le.ite | apply Le.seqE | apply Le.bind | apply Le.lp | exact Le.none _)
def e_slices_Index_bool (n_ : Nat) (y0 : List Bool) (y1 : Bool) : Option Int :=
  (lp n_) ((e_slices_Index_bool_L1 n_) y0 y1) 0
theorem le_slices_Index_bool (n_ : Nat) (y0 : List Bool) (y1 : Bool) : Le (e_slices_Index_bool n_ y0 y1) (m_slices_Index_bool y0 y1) := by
  unfold e_slices_Index_bool m_slices_Index_bool
  repeat with_reducible (first | intro _ | apply le_slices_Index_bool_L1 | exact Le.refl _ | apply Le.ite | apply Le.seqE | apply Le.bind | apply Le.lp | exact Le.none _)
def e_slices_Contains_bool (n_ : Nat) (y0 : List Bool) (y1 : Bool) : Option Bool :=
  ((e_slices_Index_bool n_) y0 y1).bind fun r1 =>
  some (decide (0 ≤ r1))
theorem le_slices_Contains_bool (n_ : Nat) (y0 : List Bool) (y1 : Bool) : Le (e_slices_Contains_bool n_ y0 y1) (m_slices_Contains_bool y0 y1) := by
  unfold e_slices_Contains_bool m_slices_Contains_bool
  repeat with_reducible (first | intro _ | apply le_slices_Index_bool | exact Le.refl _ | apply Le.ite | apply Le.seqE | apply Le.bind | apply Le.lp | exact Le.none _)
def e_world_Valid_L1 (n_ : Nat) (y0 : List Str) (s1 : Int) : Option (Int ⊕ Bool) :=
  if decide (s1 < (len y0)) then
    (idx y0 s1).bind fun x1 =>
    (
      ((e_literal_ValidName n_) x1).bind fun r1 =>
      if !r1 then
        some true
      else
        if decide (0 < s1) then
          (idx y0 (w64 (s1 - 1))).bind fun x2 =>
          some (!(sless x2 x1))
        else
          some false : Option Bool).bind fun s2 =>
    if s2 then
      some (.inr false)
    else
      some (.inl (w64 (s1 + 1)))
  else
    some (.inr true)
theorem le_world_Valid_L1 (n_ : Nat) (y0 : List Str) (s1 : Int) : Le (e_world_Valid_L1 n_ y0 s1) (m_world_Valid_L1 y0 s1) := by
  unfold e_world_Valid_L1 m_world_Valid_L1
  repeat with_reducible (first | intro _ | apply le_literal_ValidName | exact Le.refl _ | apply Le.ite | apply Le.seqE | apply Le.bind | apply Le.lp | exact Le.none _)
def e_world_Valid (n_ : Nat) (y0 : List Str) : Option Bool :=
  if decide (6 < (len y0)) then
    some false
  else
    (lp n_) ((e_world_Valid_L1 n_) y0) 0
theorem le_world_Valid (n_ : Nat) (y0 : List Str) : Le (e_world_Valid n_ y0) (m_world_Valid y0) := by
  unfold e_world_Valid m_world_Valid
  repeat with_reducible (first | intro _ | apply le_world_Valid_L1 | exact Le.refl _ | apply Le.ite | apply Le.seqE | apply Le.bind | apply Le.lp | exact Le.none _)
def e_order_Validate_L1 (n_ : Nat) (y0 : T_Order) (x2 : List Bool) (s3 : (List Bool) × Int × Int) : Option (((List Bool) × Int × Int) ⊕ (((List Bool) × Int) ⊕ Int)) :=
  if decide (s3.2.2 < (len y0.2)) then
    (idx y0.2 s3.2.2).bind fun x3 =>
    if (decide (x3 < 0)) || (decide ((len x2) ≤ x3)) then
      some (.inr (.inr 8))
    else
      (idx s3.1 x3).bind fun _ =>
      some (.inl (List.set s3.1 (Int.toNat x3) true, if x3 > s3.2.1 then x3 else s3.2.1, w64 (s3.2.2 + 1)))
  else
    some (.inr (.inl (s3.1, s3.2.1)))
theorem le_order_Validate_L1 (n_ : Nat) (y0 : T_Order) (x2 : List Bool) (s3 : (List Bool) × Int × Int) : Le (e_order_Validate_L1 n_ y0 x2 s3) (m_order_Validate_L1 y0 x2 s3) := by
  unfold e_order_Validate_L1 m_order_Validate_L1
  repeat with_reducible (first | intro _ | exact Le.refl _ | apply Le.ite | apply Le.seqE | apply Le.bind | apply Le.lp | exact Le.none _)
def e_order_Validate (n_ : Nat) (y0 : T_Order) : Option Int :=
  (
    ((e_world_Valid n_) y0.1).bind fun r1 =>
    if !r1 then
      some true
    else
      (shlK .i64 1 (len y0.1)).bind fun x1 =>
      some ((len y0.2) != x1) : Option Bool).bind fun s1 =>
  if s1 then
    some 1
  else
    (mkS (len y0.2) (len y0.2) (false : Bool)).bind fun x2 =>
    seqE ((lp n_) ((e_order_Validate_L1 n_) y0 x2) (x2, 0, 0) : Option (((List Bool) × Int) ⊕ Int)) fun s2 =>
    (sub s2.1 0 s2.2).bind fun x5 =>
    ((e_slices_Contains_bool n_) x5 false).bind fun r2 =>
    if r2 then
      some 8
    else
      some 0
theorem le_order_Validate (n_ : Nat) (y0 : T_Order) : Le (e_order_Validate n_ y0) (m_order_Validate y0) := by
  unfold e_order_Validate m_order_Validate
  repeat with_reducible (first | intro _ | apply le_slices_Contains_bool | apply le_order_Validate_L1 | apply le_world_Valid | exact Le.refl _ | apply Le.ite | apply Le.seqE | apply Le.bind | apply Le.lp | exact Le.none _)
def e_slices_Max_int_L1 (n_ : Nat) (y0 : List Int) (s2 : Int × Int) : Option ((Int × Int) ⊕ Int) :=
  if decide (s2.2 < (len y0)) then
    (idx y0 s2.2).bind fun x2 =>
    some (.inl (if x2 > s2.1 then x2 else s2.1, w64 (s2.2 + 1)))
  else
    some (.inr s2.1)
theorem le_slices_Max_int_L1 (n_ : Nat) (y0 : List Int) (s2 : Int × Int) : Le (e_slices_Max_int_L1 n_ y0 s2) (m_slices_Max_int_L1 y0 s2) := by
  unfold e_slices_Max_int_L1 m_slices_Max_int_L1
  repeat with_reducible (first | intro _ | exact Le.refl _ | apply Le.ite | apply Le.seqE | apply Le.bind | apply Le.lp | exact Le.none _)
def e_slices_Max_int (n_ : Nat) (y0 : List Int) : Option Int :=
  (
    if decide ((len y0) < 1) then
      none
    else
      some () : Option Unit).bind fun _ =>
  (idx y0 0).bind fun x1 =>
  (lp n_) ((e_slices_Max_int_L1 n_) y0) (x1, 1)
theorem le_slices_Max_int (n_ : Nat) (y0 : List Int) : Le (e_slices_Max_int n_ y0) (m_slices_Max_int y0) := by
  unfold e_slices_Max_int m_slices_Max_int
  repeat with_reducible (first | intro _ | apply le_slices_Max_int_L1 | exact Le.refl _ | apply Le.ite | apply Le.seqE | apply Le.bind | apply Le.lp | exact Le.none _)
def e_order_Levels_L1 (n_ : Nat) (y0 : T_Order) (s1 : (List Int) × Int) : Option (((List Int) × Int) ⊕ (List Int)) :=
  if decide (s1.2 < (len y0.2)) then
    (idx y0.2 s1.2).bind fun x2 =>
    (idx s1.1 x2).bind fun x3 =>
    (shlK .u64 1 (IntKind.u64.wrap (s1.2))).bind fun x4 =>
    (idx s1.1 x2).bind fun _ =>
    some (.inl (List.set s1.1 (Int.toNat x2) (bor .u64 x3 x4), w64 (s1.2 + 1)))
  else
    some (.inr s1.1)
theorem le_order_Levels_L1 (n_ : Nat) (y0 : T_Order) (s1 : (List Int) × Int) : Le (e_order_Levels_L1 n_ y0 s1) (m_order_Levels_L1 y0 s1) := by
  unfold e_order_Levels_L1 m_order_Levels_L1
  repeat with_reducible (first | intro _ | exact Le.refl _ | apply Le.ite | apply Le.seqE | apply Le.bind | apply Le.lp | exact Le.none _)
def e_order_Levels (n_ : Nat) (y0 : T_Order) : Option (List Int) :=
  ((e_order_Validate n_) y0).bind fun r1 =>
  if r1 != 0 then
    some ([] : List Int)
  else
    ((e_slices_Max_int n_) y0.2).bind fun r2 =>
    (mkS (w64 (r2 + 1)) (w64 (r2 + 1)) (0 : Int)).bind fun x1 =>
    (lp n_) ((e_order_Levels_L1 n_) y0) (x1, 0)
theorem le_order_Levels (n_ : Nat) (y0 : T_Order) : Le (e_order_Levels n_ y0) (m_order_Levels y0) := by
  unfold e_order_Levels m_order_Levels
  repeat with_reducible (first | intro _ | apply le_order_Levels_L1 | apply le_slices_Max_int | apply le_order_Validate | exact Le.refl _ | apply Le.ite | apply Le.seqE | apply Le.bind | apply Le.lp | exact Le.none _)
def e_internal_strconv_small (n_ : Nat) (y0 : Int) : Option Str :=
  if decide (y0 < 10) then
    (sub [48, 49, 50, 51, 52, 53, 54, 55, 56, 57, 97, 98, 99, 100, 101, 102, 103, 104, 105, 106, 107, 108, 109, 110, 111, 112, 113, 114, 115, 116, 117, 118, 119, 120, 121, 122] y0 (w64 (y0 + 1))).bind fun x1 =>
    some x1
  else
    (sub [48, 48, 48, 49, 48, 50, 48, 51, 48, 52, 48, 53, 48, 54, 48, 55, 48, 56, 48, 57, 49, 48, 49, 49, 49, 50, 49, 51, 49, 52, 49, 53, 49, 54, 49, 55, 49, 56, 49, 57, 50, 48, 50, 49, 50, 50, 50, 51, 50, 52, 50, 53, 50, 54, 50, 55, 50, 56, 50, 57, 51, 48, 51, 49, 51, 50, 51, 51, 51, 52, 51, 53, 51, 54, 51, 55, 51, 56, 51, 57, 52, 48, 52, 49, 52, 50, 52, 51, 52, 52, 52, 53, 52, 54, 52, 55, 52, 56, 52, 57, 53, 48, 53, 49, 53, 50, 53, 51, 53, 52, 53, 53, 53, 54, 53, 55, 53, 56, 53, 57, 54, 48, 54, 49, 54, 50, 54, 51, 54, 52, 54, 53, 54, 54, 54, 55, 54, 56, 54, 57, 55, 48, 55, 49, 55, 50, 55, 51, 55, 52, 55, 53, 55, 54, 55, 55, 55, 56, 55, 57, 56, 48, 56, 49, 56, 50, 56, 51, 56, 52, 56, 53, 56, 54, 56, 55, 56, 56, 56, 57, 57, 48, 57, 49, 57, 50, 57, 51, 57, 52, 57, 53, 57, 54, 57, 55, 57, 56, 57, 57] (w64 (y0 * 2)) (w64 ((w64 (y0 * 2)) + 2))).bind fun x2 =>
    some x2
theorem le_internal_strconv_small (n_ : Nat) (y0 : Int) : Le (e_internal_strconv_small n_ y0) (m_internal_strconv_small y0) := by
  unfold e_internal_strconv_small m_internal_strconv_small
  repeat with_reducible (first | intro _ | exact Le.refl _ | apply Le.ite | apply Le.seqE | apply Le.bind | apply Le.lp | exact Le.none _)
def e_internal_strconv_FormatInt (n_ : Nat) (y0 : Int) (y1 : Int) : Option Str :=
  if y1 == 10 then
    if (decide (0 ≤ y0)) && (decide (y0 < 100)) then
      ((e_internal_strconv_small n_) y0).bind fun r1 =>
      some r1
    else
      none
  else
    none
theorem le_internal_strconv_FormatInt (n_ : Nat) (y0 : Int) (y1 : Int) : Le (e_internal_strconv_FormatInt n_ y0 y1) (m_internal_strconv_FormatInt y0 y1) := by
  unfold e_internal_strconv_FormatInt m_internal_strconv_FormatInt
  repeat with_reducible (first | intro _ | apply le_internal_strconv_small | exact Le.refl _ | apply Le.ite | apply Le.seqE | apply Le.bind | apply Le.lp | exact Le.none _)
def e_internal_strconv_Itoa (n_ : Nat) (y0 : Int) : Option Str :=
  ((e_internal_strconv_FormatInt n_) y0 10).bind fun r1 =>
  some r1
theorem le_internal_strconv_Itoa (n_ : Nat) (y0 : Int) : Le (e_internal_strconv_Itoa n_ y0) (m_internal_strconv_Itoa y0) := by
  unfold e_internal_strconv_Itoa m_internal_strconv_Itoa
  repeat with_reducible (first | intro _ | apply le_internal_strconv_FormatInt | exact Le.refl _ | apply Le.ite | apply Le.seqE | apply Le.bind | apply Le.lp | exact Le.none _)
def e_strconv_Itoa (n_ : Nat) (y0 : Int) : Option Str :=
  ((e_internal_strconv_Itoa n_) y0).bind fun r1 =>
  some r1
theorem le_strconv_Itoa (n_ : Nat) (y0 : Int) : Le (e_strconv_Itoa n_ y0) (m_strconv_Itoa y0) := by
  unfold e_strconv_Itoa m_strconv_Itoa
  repeat with_reducible (first | intro _ | apply le_internal_strconv_Itoa | exact Le.refl _ | apply Le.ite | apply Le.seqE | apply Le.bind | apply Le.lp | exact Le.none _)
def e_report_number (n_ : Nat) (y0 : Int) : Option Str :=
  ((e_strconv_Itoa n_) y0).bind fun r1 =>
  some r1
theorem le_report_number (n_ : Nat) (y0 : Int) : Le (e_report_number n_ y0) (m_report_number y0) := by
  unfold e_report_number m_report_number
  repeat with_reducible (first | intro _ | apply le_strconv_Itoa | exact Le.refl _ | apply Le.ite | apply Le.seqE | apply Le.bind | apply Le.lp | exact Le.none _)
def e_world_whole (n_ : Nat) (y0 : Int) : Option Int :=
  (shlK .u64 1 y0).bind fun x1 =>
  (shrK .u64 18446744073709551615 (IntKind.u64.wrap (64 - x1))).bind fun x2 =>
  some x2
theorem le_world_whole (n_ : Nat) (y0 : Int) : Le (e_world_whole n_ y0) (m_world_whole y0) := by
  unfold e_world_whole m_world_whole
  repeat with_reducible (first | intro _ | exact Le.refl _ | apply Le.ite | apply Le.seqE | apply Le.bind | apply Le.lp | exact Le.none _)
def e_world_All (n_ : Nat) (y0 : List Str) : Option Int :=
  ((e_world_Valid n_) y0).bind fun r1 =>
  if !r1 then
    some 0
  else
    ((e_world_whole n_) (len y0)).bind fun r2 =>
    some r2
theorem le_world_All (n_ : Nat) (y0 : List Str) : Le (e_world_All n_ y0) (m_world_All y0) := by
  unfold e_world_All m_world_All
  repeat with_reducible (first | intro _ | apply le_world_whole | apply le_world_Valid | exact Le.refl _ | apply Le.ite | apply Le.seqE | apply Le.bind | apply Le.lp | exact Le.none _)
def e_world_split_L1 (n_ : Nat) (y0 : Int) (s1 : Int × Int × Int) : Option ((Int × Int × Int) ⊕ (Int × Int)) :=
  if decide (s1.2.2 < 32) then
    (shrK .u64 y0 (w64 (2 * s1.2.2))).bind fun x1 =>
    (shlK .u64 (band .u64 x1 1) s1.2.2).bind fun x2 =>
    (shrK .u64 y0 (w64 ((w64 (2 * s1.2.2)) + 1))).bind fun x3 =>
    (shlK .u64 (band .u64 x3 1) s1.2.2).bind fun x4 =>
    some (.inl (bor .u64 s1.1 x4, bor .u64 s1.2.1 x2, w64 (s1.2.2 + 1)))
  else
    some (.inr (s1.1, s1.2.1))
theorem le_world_split_L1 (n_ : Nat) (y0 : Int) (s1 : Int × Int × Int) : Le (e_world_split_L1 n_ y0 s1) (m_world_split_L1 y0 s1) := by
  unfold e_world_split_L1 m_world_split_L1
  repeat with_reducible (first | intro _ | exact Le.refl _ | apply Le.ite | apply Le.seqE | apply Le.bind | apply Le.lp | exact Le.none _)
def e_world_split (n_ : Nat) (y0 : Int) : Option (Int × Int) :=
  (lp n_) ((e_world_split_L1 n_) y0) (0, 0, 0)
theorem le_world_split (n_ : Nat) (y0 : Int) : Le (e_world_split n_ y0) (m_world_split y0) := by
  unfold e_world_split m_world_split
  repeat with_reducible (first | intro _ | apply le_world_split_L1 | exact Le.refl _ | apply Le.ite | apply Le.seqE | apply Le.bind | apply Le.lp | exact Le.none _)
def e_world_two (n_ : Nat) (y0 : Int) (y1 : T_Formula) (y2 : T_Formula) : Option T_Formula :=
  some (fm (y0, [], ([y1, y2] : List T_Formula)))
theorem le_world_two (n_ : Nat) (y0 : Int) (y1 : T_Formula) (y2 : T_Formula) : Le (e_world_two n_ y0 y1 y2) (m_world_two y0 y1 y2) := by
  unfold e_world_two m_world_two
  repeat with_reducible (first | intro _ | exact Le.refl _ | apply Le.ite | apply Le.seqE | apply Le.bind | apply Le.lp | exact Le.none _)
def fe_world_theory (n_ : Nat) (rec_world_theory : (List Str) → Int → Option T_Formula) (y0 : List Str) (y1 : Int) : Option T_Formula :=
  ((e_world_whole n_) (len y0)).bind fun r1 =>
  if y1 == 0 then
    some (fm (2, [], ([] : List T_Formula)))
  else
    if y1 == r1 then
      some (fm (1, [], ([] : List T_Formula)))
    else
      (sub y0 1 (len y0)).bind fun x1 =>
      ((e_world_split n_) y1).bind fun r2 =>
      if r2.1 == r2.2 then
        (rec_world_theory x1 r2.1).bind fun r3 =>
        some r3
      else
        (idx y0 0).bind fun x2 =>
        (idx y0 0).bind fun x3 =>
        ((e_world_whole n_) (len x1)).bind fun r4 =>
        if (r2.1 == r4) && (r2.2 == 0) then
          some (fm (3, x2, ([] : List T_Formula)))
        else
          if r2.1 == r4 then
            (rec_world_theory x1 r2.2).bind fun r5 =>
            ((e_world_two n_) 6 (fm (3, x2, ([] : List T_Formula))) r5).bind fun r6 =>
            some r6
          else
            if (r2.1 == 0) && (r2.2 == r4) then
              some (fm (4, [], ([fm (3, x3, ([] : List T_Formula))] : List T_Formula)))
            else
              if r2.1 == 0 then
                (rec_world_theory x1 r2.2).bind fun r7 =>
                ((e_world_two n_) 5 (fm (4, [], ([fm (3, x3, ([] : List T_Formula))] : List T_Formula))) r7).bind fun r8 =>
                some r8
              else
                if r2.2 == r4 then
                  (rec_world_theory x1 r2.1).bind fun r9 =>
                  ((e_world_two n_) 6 (fm (4, [], ([fm (3, x3, ([] : List T_Formula))] : List T_Formula))) r9).bind fun r10 =>
                  some r10
                else
                  if r2.2 == 0 then
                    (rec_world_theory x1 r2.1).bind fun r11 =>
                    ((e_world_two n_) 5 (fm (3, x2, ([] : List T_Formula))) r11).bind fun r12 =>
                    some r12
                  else
                    (rec_world_theory x1 r2.1).bind fun r13 =>
                    ((e_world_two n_) 5 (fm (3, x2, ([] : List T_Formula))) r13).bind fun r14 =>
                    (rec_world_theory x1 r2.2).bind fun r15 =>
                    ((e_world_two n_) 5 (fm (4, [], ([fm (3, x3, ([] : List T_Formula))] : List T_Formula))) r15).bind fun r16 =>
                    ((e_world_two n_) 6 r14 r16).bind fun r17 =>
                    some r17
theorem lef_world_theory (n_ : Nat) {rec_world_theory rec_world_theory' : (List Str) → Int → Option T_Formula} (h_rec_world_theory : ∀ u0 u1, Le (rec_world_theory u0 u1) (rec_world_theory' u0 u1)) (y0 : List Str) (y1 : Int) : Le (fe_world_theory n_ rec_world_theory y0 y1) (F_world_theory rec_world_theory' y0 y1) := by
  unfold fe_world_theory F_world_theory
  repeat with_reducible (first | intro _ | apply h_rec_world_theory | apply le_world_two | apply le_world_split | apply le_world_whole | exact Le.refl _ | apply Le.ite | apply Le.seqE | apply Le.bind | apply Le.lp | exact Le.none _)
def ke_world_theory (n_ : Nat) : Nat → (List Str) → Int → Option T_Formula
  | 0 => fun _ _ => none
  | k + 1 => fun y0 y1 => (fe_world_theory n_) ((ke_world_theory n_) k) y0 y1
theorem lek_world_theory (n_ : Nat) : ∀ (k m : Nat), k ≤ m → ∀ u0 u1, Le (ke_world_theory n_ k u0 u1) (k_world_theory m u0 u1)
  | 0, _, _ => fun u0 u1 => Le.none _
  | k + 1, m, h => fun u0 u1 => by
    obtain ⟨m, rfl⟩ : ∃ q, m = q + 1 := ⟨m - 1, by omega⟩
    exact lef_world_theory n_ (lek_world_theory n_ k m (by omega)) _ _
def e_world_theory (n_ : Nat) (y0 : List Str) (y1 : Int) : Option T_Formula :=
  ke_world_theory n_ n_ y0 y1
theorem le_world_theory (n_ : Nat) (y0 : List Str) (y1 : Int) : Le (e_world_theory n_ y0 y1) (m_world_theory y0 y1) := Le.lim n_ fun m h => lek_world_theory n_ n_ m h _ _
def e_world_Theory (n_ : Nat) (y0 : List Str) (y1 : Int) : Option (T_Formula × Int) :=
  ((e_world_Valid n_) y0).bind fun r1 =>
  if !r1 then
    some (fm (0, [], ([] : List T_Formula)), 1)
  else
    ((e_world_All n_) y0).bind fun r2 =>
    ((e_world_theory n_) y0 (band .u64 y1 r2)).bind fun r3 =>
    some (r3, 0)
theorem le_world_Theory (n_ : Nat) (y0 : List Str) (y1 : Int) : Le (e_world_Theory n_ y0 y1) (m_world_Theory y0 y1) := by
  unfold e_world_Theory m_world_Theory
  repeat with_reducible (first | intro _ | apply le_world_theory | apply le_world_All | apply le_world_Valid | exact Le.refl _ | apply Le.ite | apply Le.seqE | apply Le.bind | apply Le.lp | exact Le.none _)
def e_report_Order_L1 (n_ : Nat) (r1 : (List Int)) (y0 : T_Order) (s1 : (List Str) × Int) : Option (((List Str) × Int) ⊕ (List Str)) :=
  if decide (s1.2 < (len r1)) then
    (idx r1 s1.2).bind fun x1 =>
    ((e_world_Theory n_) y0.1 x1).bind fun r2 =>
    ((e_formula_Format n_) r2.1).bind fun r3 =>
    ((e_report_number n_) s1.2).bind fun r4 =>
    (cat r4 [58, 32]).bind fun x2 =>
    (cat x2 r3.1).bind fun x3 =>
    (app s1.1 ([x3] : List Str)).bind fun x4 =>
    some (.inl (x4, w64 (s1.2 + 1)))
  else
    some (.inr s1.1)
theorem le_report_Order_L1 (n_ : Nat) (r1 : (List Int)) (y0 : T_Order) (s1 : (List Str) × Int) : Le (e_report_Order_L1 n_ r1 y0 s1) (m_report_Order_L1 r1 y0 s1) := by
  unfold e_report_Order_L1 m_report_Order_L1
  repeat with_reducible (first | intro _ | apply le_report_number | apply le_formula_Format | apply le_world_Theory | exact Le.refl _ | apply Le.ite | apply Le.seqE | apply Le.bind | apply Le.lp | exact Le.none _)
def e_report_Order (n_ : Nat) (y0 : T_Order) : Option (List Str) :=
  ((e_order_Levels n_) y0).bind fun r1 =>
  (lp n_) ((e_report_Order_L1 n_) r1 y0) (([] : List Str), 0)
theorem le_report_Order (n_ : Nat) (y0 : T_Order) : Le (e_report_Order n_ y0) (m_report_Order y0) := by
  unfold e_report_Order m_report_Order
  repeat with_reducible (first | intro _ | apply le_report_Order_L1 | apply le_order_Levels | exact Le.refl _ | apply Le.ite | apply Le.seqE | apply Le.bind | apply Le.lp | exact Le.none _)
def e_law42_awake (n_ : Nat) : Option Bool :=
  ((e_keep_Voc n_) 2).bind fun r1 =>
  ((e_report_Order n_) (r1, ([2, 1, 2, 0] : List Int))).bind fun r2 =>
  ((e_keep_Voc n_) 2).bind fun r3 =>
  (idx r3 0).bind fun x1 =>
  ((e_keep_Voc n_) 2).bind fun r4 =>
  (idx r4 1).bind fun x2 =>
  (cat [48, 58, 32] x1).bind fun x3 =>
  (cat x3 [32, 38, 32]).bind fun x4 =>
  (cat x4 x2).bind fun x5 =>
  (cat [49, 58, 32] x1).bind fun x6 =>
  (cat x6 [32, 38, 32, 126]).bind fun x7 =>
  (cat x7 x2).bind fun x8 =>
  (cat [50, 58, 32, 126] x1).bind fun x9 =>
  ((e_ref42_Same n_) r2 ([x5, x8, x9] : List Str)).bind fun r5 =>
  some r5
theorem le_law42_awake (n_ : Nat) : Le (e_law42_awake n_ ) (m_law42_awake ) := by
  unfold e_law42_awake m_law42_awake
  repeat with_reducible (first | intro _ | apply le_ref42_Same | apply le_report_Order | apply le_keep_Voc | exact Le.refl _ | apply Le.ite | apply Le.seqE | apply Le.bind | apply Le.lp | exact Le.none _)
end
section
theorem cla_awake : m_law42_awake = some true := (le_law42_awake 60).el true (by kernel_rfl)
theorem p_law42_ReportClaims (y0 : List Int) {W0 : Prop} (_w0 : W0) : m_law42_ReportClaims y0 = some true := p_ReportClaims cla_awake y0
end

end Go.GD
