/- The plain law: what the models compute, in plain Lean. Conditions: none. -/
import Derived.Test.YtbonnndhoidbdaaGreatDoorPlM1
namespace Go.GD
set_option autoImplicit false
section
set_option linter.unusedVariables false
theorem zUm : ∀ (n m : Nat) (acc : List Int), m < 18446744073709551616 → (zOE m).length ≤ n → acc.length + n ≤ 64 → zAm zE5 ((m : Int), acc) = some (acc ++ zOE m) := by
  intro n
  induction n with
  | zero =>
    intro m acc hm hn ha
    have h0 : zOE m = [] := List.eq_nil_of_length_eq_zero (by omega)
    have hz : m = 0 := by
      apply Nat.eq_of_testBit_eq
      intro i
      rw [Nat.zero_testBit]
      cases ht : m.testBit i with
      | false => rfl
      | true =>
        have := (zVi hm).2 ht
        rw [h0] at this; cases this
    subst hz
    rw [zBL]
    simp [zE5, h0]
  | succ n ih =>
    intro m acc hm hn ha
    by_cases h0 : m = 0
    · subst h0
      have hb : zOE 0 = [] := by
        apply List.eq_nil_iff_forall_not_mem.2
        intro x hx
        obtain ⟨i, _, _, h⟩ := zKH.1 hx
        rw [Nat.zero_testBit] at h; cases h
      rw [zBL]
      simp [zE5, hb]
    · obtain ⟨k, q, ht, hk, hmq⟩ := tz_nat h0 hm
      have hcons : zOE m = (k : Int) :: zOE (2 ^ (k + 1) * q) := by
        have hq2 : ∀ j, (2 ^ (k + 1) * q).testBit j = (decide (k < j) && q.testBit (j - k - 1)) := by
          intro j
          have e2 : 2 ^ (k + 1) * q = 2 ^ (k + 1) * q + 0 := rfl
          rw [e2, Nat.testBit_two_pow_mul_add _ (Nat.pow_pos (by decide))]
          by_cases hj : j < k + 1
          · have h1 : decide (k < j) = false := by simp; omega
            rw [if_pos hj, Nat.zero_testBit, h1, Bool.false_and]
          · have h1 : decide (k < j) = true := by simp; omega
            rw [if_neg hj, h1, Bool.true_and]
            congr 1
        apply Asc.ext zDK (zQN m)
        · refine List.pairwise_cons.2 ⟨fun x hx => ?_, zQN _⟩
          obtain ⟨j, rfl, hj, hb⟩ := zKH.1 hx
          rw [hq2, Bool.and_eq_true, decide_eq_true_eq] at hb
          simp [ltI]; omega
        · intro x
          rw [List.mem_cons, zKH, zKH]
          constructor
          · rintro ⟨i, rfl, h1, h2⟩
            rw [hmq, zPG, Bool.or_eq_true, decide_eq_true_eq] at h2
            rcases h2 with rfl | h2
            · exact .inl rfl
            · exact .inr ⟨i, rfl, h1, by rw [hq2]; exact h2⟩
          · rintro (rfl | ⟨i, rfl, h1, h2⟩)
            · exact ⟨k, rfl, hk, by rw [hmq, zPG]; simp⟩
            · rw [hq2] at h2
              exact ⟨i, rfl, h1, by rw [hmq, zPG, h2, Bool.or_true]⟩
      have hw : IntKind.u64.wrap ((m : Int) - 1) = ((m - 1 : Nat) : Int) := by rw [wrapU (by omega) (by omega)]; omega
      have hand : m &&& (m - 1) = 2 ^ (k + 1) * q := by rw [hmq]; exact zVf q k
      have hlt : 2 ^ (k + 1) * q < 18446744073709551616 := by rw [← hand]; exact zYY hm
      have hne : ((m : Int) != 0) = true := by simp; omega
      have hstep : zE5 ((m : Int), acc) = some (.inl (((2 ^ (k + 1) * q : Nat) : Int), acc ++ [(k : Int)])) := by
        unfold zE5
        simp only [hne, if_true, ht, Option.bind_some]
        rw [zCL (by simp; omega)]
        simp only [Option.bind_some]
        rw [hw, zUg hm (by omega), hand]
      rw [zBL, hstep]
      have := ih (2 ^ (k + 1) * q) (acc ++ [(k : Int)]) hlt (by rw [hcons] at hn; simp at hn; omega) (by simp; omega)
      rw [hcons]
      simpa using this
theorem zZC {m : Nat} (hm : m < 18446744073709551616) : zGt (m : Int) = some (zOE m) := by
  have := zUm 64 m [] hm (zVr m) (by simp)
  simpa [zGt] using this
structure zEm (N : Nat) (L : List zAT) : Prop where
  hN : N ≤ 40
  inr : ∀ p ∈ L, zQs (N : Int) p = false
  asc : Asc lt2 L
theorem zK5 {N : Nat} {p : zAT} (h : zQs (N : Int) p = false) : ∃ i j : Nat, i < N ∧ j < N ∧ p = ((i : Int), (j : Int)) := by
  obtain ⟨a, b⟩ := p
  simp only [zQs, Bool.or_eq_false_iff, decide_eq_false_iff_not] at h
  exact ⟨a.toNat, b.toNat, by omega, by omega, by simp only [Prod.mk.injEq]; omega⟩
section
variable {N : Nat} {L : List zAT}
theorem zEm.nodup (h : zEm N L) : L.Nodup := h.asc.imp fun {x y} hh e => by subst e; rw [zZ8.irrefl] at hh; cases hh
theorem zEm.inN (h : zEm N L) : inN N L := fun a b he => by
  obtain ⟨i, j, h1, h2, h3⟩ := zK5 (h.inr _ (zU5.1 he))
  simp only [Prod.mk.injEq] at h3
  exact ⟨i, j, h1, h2, h3.1, h3.2⟩
theorem zPa {α : Type} [DecidableEq α] : ∀ {l m : List α}, l.Nodup → (∀ x ∈ l, x ∈ m) → l.length ≤ m.length
  | [], _, _, _ => Nat.zero_le _
  | x :: l, m, hn, hs => by
    obtain ⟨h1, h2⟩ := List.nodup_cons.1 hn
    have hx : x ∈ m := hs x List.mem_cons_self
    have h3 := zPa (m := m.erase x) h2 fun y hy => (List.mem_erase_of_ne (fun e => by subst e; exact h1 hy)).2 (hs y (List.mem_cons_of_mem _ hy))
    rw [List.length_erase_of_mem hx] at h3
    have : 0 < m.length := List.length_pos_of_mem hx
    simp only [List.length_cons]
    omega
theorem zEm.len (h : zEm N L) : L.length ≤ 1600 := by
  have h1 := zPa (m := (rng N).flatMap fun i => (rng N).map fun j => (i, j)) h.nodup fun p hp => by
    obtain ⟨i, j, hi, hj, rfl⟩ := zK5 (h.inr p hp)
    exact List.mem_flatMap.2 ⟨(i : Int), zDU.2 ⟨by omega, by omega⟩, List.mem_map.2 ⟨(j : Int), zDU.2 ⟨by omega, by omega⟩, rfl⟩⟩
  have h2 := zKb (fun i : Int => (rng N).map fun j : Int => (i, j)) N (rng N) fun x _ => by simp [zDg]
  rw [zDg] at h2
  have h3 : N * N ≤ 40 * 40 := Nat.mul_le_mul h.hN h.hN
  omega
theorem zEm.len' (h : zEm N L) : L.length < 4294967296 := by have := h.len; omega
theorem zQi {n : Int} {i : Nat} {p : zAT} (hp : L[i]? = some p) : zK9 n L i = none ↔ zQs n p = false ∧ (i = 0 ∨ ∃ q, L[i - 1]? = some q ∧ lt2 q p = true) := by
  unfold zK9
  rw [hp]
  cases hb : zQs n p with
  | true => simp [hb]
  | false =>
    by_cases h0 : i = 0
    · subst h0; simp [hb]
    · have hi := zCU hp
      obtain ⟨q, hq⟩ : ∃ q, L[i - 1]? = some q := ⟨L[i - 1], List.getElem?_eq_getElem (by omega)⟩
      simp only [hb, h0, if_false, hq, false_or, Bool.false_eq_true, Option.some.injEq, exists_eq_left', true_and]
      cases lt2 q p <;> simp
theorem vLoop (n : Int) (hL : L.length < 4294967296) : ∃ e, zAm (zBR (n, L)) 0 = some e ∧ (e = 0 ↔ ∀ i, i < L.length → zK9 n L i = none) := by
  have h := zBF (B := zBR (n, L)) (fun i (_ : Unit) => (i : Int)) L (fun i _ => ∀ j, j < i → zK9 n L j = none) (fun e => e = 0 ↔ ∀ i, i < L.length → zK9 n L i = none) ?_ ?_ () (fun j hj => absurd hj (Nat.not_lt_zero _))
  · obtain ⟨e, h1, h2⟩ := h
    exact ⟨e, h1, h2⟩
  · intro i x _ hx hI
    have hi := zCU hx
    rw [zJJ n L hL i (by omega)]
    cases hv : zK9 n L i with
    | some e =>
      refine .inr ⟨e, rfl, ?_⟩
      constructor
      · intro he
        subst he
        exfalso
        unfold zK9 at hv
        rw [hx] at hv
        simp only at hv
        split at hv
        · cases hv
        · split at hv
          · cases hv
          · split at hv
            · cases hv
            · split at hv <;> cases hv
      · intro h
        rw [h i hi] at hv; cases hv
    | none =>
      refine .inl ⟨(), rfl, fun j hj => ?_⟩
      by_cases he : j = i
      · subst he; exact hv
      · exact hI j (by omega)
  · intro _ hI
    rw [zJJ n L hL _ (Nat.le_refl _)]
    exact ⟨0, by simp [zK9], by simp; exact hI⟩
theorem zU3 {α : Type} {lt : α → α → Bool} (O : zQt lt) : ∀ {l : List α}, (∀ i x y, l[i]? = some x → l[i + 1]? = some y → lt x y = true) → Asc lt l
  | [], _ => List.Pairwise.nil
  | [x], _ => List.pairwise_singleton _ _
  | x :: y :: l, h => by
    have h1 := zU3 O (l := y :: l) fun i a b ha hb => h (i + 1) a b (by simpa using ha) (by simpa using hb)
    have h2 : lt x y = true := h 0 x y rfl rfl
    refine List.pairwise_cons.2 ⟨fun z hz => ?_, h1⟩
    rcases List.mem_cons.1 hz with rfl | hz
    · exact h2
    · exact O.trans _ _ _ h2 ((List.pairwise_cons.1 h1).1 z hz)
theorem zXy {α : Type} {lt : α → α → Bool} {l : List α} (h : Asc lt l) {i : Nat} {x y : α} (hx : l[i]? = some x) (hy : l[i + 1]? = some y) : lt x y = true := by
  obtain ⟨h1, rfl⟩ := List.getElem?_eq_some_iff.1 hx
  obtain ⟨h2, rfl⟩ := List.getElem?_eq_some_iff.1 hy
  exact List.pairwise_iff_getElem.1 h i (i + 1) h1 h2 (Nat.lt_succ_self i)
theorem zQm {n : Int} : (∀ i, i < L.length → zK9 n L i = none) ↔ (∀ p ∈ L, zQs n p = false) ∧ Asc lt2 L := by
  constructor
  · intro h
    have h1 : ∀ (i : Nat) p, L[i]? = some p → zQs n p = false ∧ (i = 0 ∨ ∃ q, L[i - 1]? = some q ∧ lt2 q p = true) := fun i p hp => (zQi hp).1 (h i (zCU hp))
    refine ⟨fun p hp => ?_, zU3 zZ8 fun i x y hx hy => ?_⟩
    · obtain ⟨i, hi⟩ := List.getElem?_of_mem hp
      exact (h1 i p hi).1
    · rcases (h1 (i + 1) y hy).2 with h2 | ⟨q, h2, h3⟩
      · omega
      · rw [Nat.add_sub_cancel, hx] at h2
        cases h2; exact h3
  · rintro ⟨h1, h2⟩ i hi
    have hp : L[i]? = some L[i] := List.getElem?_eq_getElem hi
    refine (zQi hp).2 ⟨h1 _ (List.getElem_mem hi), ?_⟩
    by_cases h0 : i = 0
    · exact .inl h0
    · have hq : L[i - 1]? = some L[i - 1] := List.getElem?_eq_getElem (by omega)
      exact .inr ⟨_, hq, zXy h2 hq (by rw [show i - 1 + 1 = i by omega]; exact hp)⟩
theorem zJf (n : Int) (hL : L.length < 4294967296) : ∃ e, zBZ (n, L) = some e ∧ zFQ (n, L) = some e ∧ (e = 0 ↔ ∃ N : Nat, n = (N : Int) ∧ zEm N L) := by
  obtain ⟨e, h1, h2, h3⟩ := zXR (n, L) hL
  refine ⟨e, h1, h2, ?_⟩
  constructor
  · intro he
    obtain ⟨k1, k2, k3⟩ := h3 he
    obtain ⟨N, rfl⟩ := Int.eq_ofNat_of_zero_le k1
    refine ⟨N, rfl, by have : (N : Int) ≤ 40 := k2; omega, k3, ?_⟩
    subst he
    unfold zBZ at h1
    have hc : (decide ((N : Int) < 0) || decide (40 < (N : Int))) = false := by
      have : (N : Int) ≤ 40 := k2
      simp; omega
    simp only [hc, Bool.false_eq_true, if_false] at h1
    obtain ⟨e', h4, h5⟩ := vLoop (L := L) (N : Int) hL
    rw [h4] at h1
    exact (zQm.1 (h5.1 (Option.some.inj h1))).2
  · rintro ⟨N, rfl, hG⟩
    unfold zBZ at h1
    have hc : (decide ((N : Int) < 0) || decide (40 < (N : Int))) = false := by
      have := hG.hN
      simp; omega
    simp only [hc, Bool.false_eq_true, if_false] at h1
    obtain ⟨e', h4, h5⟩ := vLoop (L := L) (N : Int) hL
    rw [h4] at h1
    rw [← Option.some.inj h1]
    exact h5.2 (zQm.2 ⟨hG.inr, hG.asc⟩)
theorem zEm.v1 (h : zEm N L) : zBZ ((N : Int), L) = some 0 := by
  obtain ⟨e, h1, _, h3⟩ := zJf (N : Int) h.len'
  rw [h1, h3.2 ⟨N, rfl, h⟩]
theorem zEm.v2 (h : zEm N L) : zFQ ((N : Int), L) = some 0 := by
  obtain ⟨e, _, h1, h3⟩ := zJf (N : Int) h.len'
  rw [h1, h3.2 ⟨N, rfl, h⟩]
theorem zEm.proper (h : zEm N L) : zF2 ((N : Int), L) = some ((N : Int), L) := by
  unfold zF2; rw [h.v1]; rfl
theorem zEm.valid (h : zEm N L) : zNS ((N : Int), L) = some ((N : Int), L) := by
  unfold zNS; rw [h.v2]; rfl
theorem zTQ {n : Int} {l : List zAM} {g : zA3} (h : zPs n l = (g, 0)) : ∃ N : Nat, n = (N : Int) ∧ g.1 = (N : Int) ∧ zEm N g.2 ∧ g.2 = nrm lt2 (zGW l) := by
  unfold zPs at h
  cases h0 : (decide (n < 0) || decide (40 < n)) with
  | true => simp [h0] at h
  | false =>
    cases h1 : l.any (zV5 n) with
    | true => simp [h0, h1] at h
    | false =>
      simp only [h0, h1, Bool.false_eq_true, if_false, Prod.mk.injEq, and_true] at h
      subst h
      simp only [Bool.or_eq_false_iff, decide_eq_false_iff_not] at h0
      refine ⟨n.toNat, by omega, by show n = _; omega, ⟨by omega, fun p hp => ?_, (zMK zZ8 _).1⟩, rfl⟩
      have hp : p ∈ zGW l := ((zMK zZ8 _).2 p).1 hp
      obtain ⟨a, ha, rfl⟩ := List.mem_map.1 hp
      have := List.any_eq_false.1 h1 a ha
      simp only [zV5, Bool.or_eq_true, decide_eq_true_eq, not_or] at this
      simp only [zQs, Bool.or_eq_false_iff, decide_eq_false_iff_not]
      omega
def zXZ (L : List zAT) (i : Nat) : Nat := zST ((L.filter fun p => p.1 == (i : Int)).map (·.2))
theorem zW0 (h : zEm N L) (i : Nat) : zXZ L i < 18446744073709551616 := zXk fun x hx => by
  obtain ⟨p, hp, rfl⟩ := List.mem_map.1 hx
  obtain ⟨a, b, h1, h2, rfl⟩ := zK5 (h.inr p (List.mem_filter.1 hp).1)
  have := h.hN
  show (b : Int) < 64
  omega
theorem zUR (h : zEm N L) (i j : Nat) : (zXZ L i).testBit j = ed L (i : Int) (j : Int) := by
  unfold zXZ
  rw [zWB (fun x hx => ?_), Bool.eq_iff_iff, decide_eq_true_eq, zU5]
  · constructor
    · intro hx
      obtain ⟨p, hp, h2⟩ := List.mem_map.1 hx
      obtain ⟨h3, h4⟩ := List.mem_filter.1 hp
      have h5 : p.1 = (i : Int) := by simpa using h4
      have : p = ((i : Int), (j : Int)) := by rw [← h5, ← h2]
      rw [← this]; exact h3
    · intro hx
      exact List.mem_map.2 ⟨_, List.mem_filter.2 ⟨hx, by simp⟩, rfl⟩
  · obtain ⟨p, hp, rfl⟩ := List.mem_map.1 hx
    obtain ⟨a, b, h1, h2, rfl⟩ := zK5 (h.inr p (List.mem_filter.1 hp).1)
    show (0 : Int) ≤ (b : Int)
    omega
theorem zUj (l : List Int) (x : Int) : zST (l ++ [x]) = zST l ||| 2 ^ x.toNat := by simp [zST]
theorem zZT {i : Nat} (h : i < 64) : zZ3 .u64 1 (i : Int) = some ((2 ^ i : Nat) : Int) := by
  have := zXv h
  rwa [zL8 (by omega)] at this
theorem zTl (h : zEm N L) : zGE ((N : Int), L) = some (zBr N fun i => ((zXZ L i : Nat) : Int)) := by
  unfold zGE
  have hN := h.hN
  rw [zWD (by omega)]
  simp only [Option.bind_some]
  have hlp := zBF (B := zG8 ((N : Int), L)) (fun i (s : List Int) => (s, (i : Int))) L (fun i s => s = zBr N fun a => ((zXZ (L.take i) a : Nat) : Int)) (fun r => r = zBr N fun i => ((zXZ L i : Nat) : Int)) ?_ ?_ (zBr N fun _ => 0) (by
      apply zBj; intro i _; simp [zXZ, zST])
  · obtain ⟨r, h1, rfl⟩ := hlp
    exact h1
  · rintro i p s hp rfl
    refine .inl ⟨_, ?_, rfl⟩
    obtain ⟨a, b, h1, h2, rfl⟩ := zK5 (h.inr p (zBg hp))
    have hg : ∀ q ∈ L.take i, q ∈ L := fun q hq => List.mem_of_mem_take hq
    have hgood : zEm N (L.take i) := ⟨hN, fun q hq => h.inr q (hg q hq), h.asc.sublist (List.take_sublist _ _)⟩
    unfold zG8
    simp only [zAs hp, if_true, zAp hp, Option.bind_some, zML _ h1, zZT (i := b) (by omega), zAt hp h.len', Int.toNat_natCast, zNP]
    rw [zYe (zW0 hgood a) (zU0 (by omega))]
    congr 3
    apply zBj
    intro q _
    rw [zB7 hp]
    by_cases hq : q = a
    · subst hq
      simp only [if_true]
      unfold zXZ
      rw [List.filter_append, List.map_append]
      simp [zUj]
    · have hf : (((a : Nat) : Int) == (q : Int)) = false := by simp; omega
      simp only [hq, if_false]
      unfold zXZ
      rw [List.filter_append]
      simp [hf]
  · rintro s rfl
    refine ⟨_, ?_, rfl⟩
    unfold zG8
    simp [len]
abbrev zKL (N : Nat) (L : List zAT) (i : Int) : List Int := (rng N).filter fun j => ed L i j
abbrev zWF (N : Nat) (L : List zAT) (i : Int) : List Int := (rng N).filter fun j => ed L j i
theorem zYM (h : zEm N L) (i : Nat) : zOE (zXZ L i) = zKL N L (i : Int) := by
  apply Asc.ext zDK (zQN _) ((zIy N).filter _)
  intro x
  rw [zKH, List.mem_filter, zDU]
  constructor
  · rintro ⟨j, rfl, h1, h2⟩
    rw [zUR h] at h2
    obtain ⟨a, b, h3, h4, h5, h6⟩ := h.inN _ _ h2
    exact ⟨by omega, h2⟩
  · rintro ⟨h1, h2⟩
    obtain ⟨j, rfl⟩ := Int.eq_ofNat_of_zero_le h1.1
    have := h.hN
    exact ⟨j, rfl, by omega, by rw [zUR h]; exact h2⟩
theorem zM6 (h : zEm N L) (i : Int) : zDA ((N : Int), L) i = some (zKL N L i) := by
  unfold zDA
  rw [h.proper]
  simp only [Option.bind_some]
  cases hc : (decide (i < 0) || decide ((N : Int) ≤ i)) with
  | true =>
    simp only [if_true, Option.some.injEq]
    symm
    apply List.filter_eq_nil_iff.2
    intro x _ he
    obtain ⟨a, b, h1, h2, h3, h4⟩ := h.inN _ _ he
    simp only [Bool.or_eq_true, decide_eq_true_eq] at hc
    omega
  | false =>
    simp only [Bool.or_eq_false_iff, decide_eq_false_iff_not] at hc
    obtain ⟨k, rfl⟩ := Int.eq_ofNat_of_zero_le (show 0 ≤ i by omega)
    simp only [Bool.false_eq_true, if_false, zTl h, Option.bind_some, zML _ (show k < N by omega), zZC (zW0 h k), zYM h]
end
end
section
set_option linter.unusedVariables false
theorem zIe {N i : Nat} (f : Nat → Int) : (zBr N f)[i]? = if i < N then some (f i) else none := by
  unfold zBr
  by_cases h : i < N
  · simp [h]
  · simp [h]
theorem zTA {N c : Nat} (f : Nat → Int) (h : c ≤ N) : (zBr N f).take c = zBr c f := by
  apply List.ext_getElem?
  intro i
  rw [List.getElem?_take, zIe, zIe]
  by_cases h1 : i < c
  · simp [h1, show i < N by omega]
  · simp [h1]
theorem zRl (k : Nat) (f : Nat → Int) {x : Nat} (hx : x < k) (v : Int) : zT6 k (zBr k f) (x : Int) v = zBr k fun j => if j = x then v else f j := by
  unfold zT6 zBr
  apply List.map_congr_left
  intro j hj
  have hj := List.mem_range.1 hj
  rw [Int.toNat_natCast]
  by_cases h : j = x
  · simp [h]
  · simp only [h, if_false]
    simp [List.getD, hj]
theorem zN7 (k : Nat) (f : Nat → Int) {x : Nat} (hx : x < k) : zT8 (zBr k f) (x : Int) = f x := by
  unfold zT8 zBr
  simp [List.getD, hx]
theorem zYQ (k : Nat) (v : Int) : List.replicate k v = zBr k fun _ => v := by
  apply List.ext_getElem?
  intro i
  rw [zIe, List.getElem?_replicate]
theorem zXS {x k : Nat} {K : Int} (hK : K = (k : Int)) (h : x < k) : chk (decide (0 ≤ (x : Int)) && decide ((x : Int) < K)) = some () := by
  subst hK
  simp [chk]; omega
theorem zWY : ∀ n, n < 41 → zJF (IntKind.u64.wrap 1) (IntKind.u64.wrap ((n : Nat) : Int)) = some (0, (n : Int)) := by decide +kernel
theorem zTh {n c : Nat} (x : Int) (hc : c ≤ n) : zGv (zBr n fun i => if i < c then x else 0) (c : Int) (zBr c fun i => if i < c then x else 0) = zBr n fun i => if i < min (c + c) n then x else 0 := by
  unfold zGv
  apply List.ext_getElem?
  intro i
  rw [Int.toNat_natCast, zFa, zFa, zTA _ hc]
  rw [List.getElem?_append, List.getElem?_append, List.length_append, zFa, List.length_take, zFa, List.getElem?_take, List.getElem?_drop]
  rw [zIe, zIe, zIe, zIe]
  by_cases h1 : i < c
  · have h2 : i < c + min (n - c) c := by omega
    have h3 : i < n := by omega
    have h4 : i < min (c + c) n := by omega
    simp only [h1, h2, h3, h4, if_true]
  · by_cases h2 : i < c + min (n - c) c
    · have h3 : i < n := by omega
      have h4 : i < min (c + c) n := by omega
      have h5 : i - c < n - c := by omega
      have h6 : i - c < c := by omega
      simp only [h1, h2, h3, h4, h5, h6, if_true, if_false]
    · by_cases h3 : i < n
      · have h4 : c + c + (i - (c + min (n - c) c)) = i := by omega
        have h5 : ¬ i < min (c + c) n := by omega
        rw [h4]
        simp only [h1, h2, h3, h5, if_true, if_false]
      · have h4 : ¬ c + c + (i - (c + min (n - c) c)) < n := by omega
        simp only [h1, h2, h3, h4, if_false]
theorem zVU (x : Int) {n : Nat} (hn : n ≤ 40) : zCa [x] (n : Int) = some (zBr n fun _ => x) := by
  unfold zCa
  have h0 : decide ((n : Int) < 0) = false := decide_eq_false (by omega)
  have h1 : IntKind.u64.wrap (len [x]) = IntKind.u64.wrap 1 := rfl
  have h2 : (decide ((0 : Int) < 0) || decide (9223372036854775807 < (n : Int))) = false := by simp; omega
  simp only [h0, Bool.false_eq_true, if_false, Option.bind_some, h1, zWY n (by omega), h2, zWX n (by omega)]
  rw [zWD (by omega)]
  simp only [Option.bind_some, zFa]
  have hs : zGv (zBr n fun _ => (0 : Int)) 0 [x] = zBr n fun i => if i < min 1 n then x else 0 := by
    cases n with
    | zero => rfl
    | succ n =>
      unfold zGv zBr
      rw [List.range_succ_eq_map]
      simp only [List.map_cons, List.map_map]
      have h4 : min 1 (n + 1) = 1 := by omega
      simp [Function.comp_def, h4]
  rw [hs]
  have hm : ((Nat.min (List.length [x]) n : Nat) : Int) = ((min 1 n : Nat) : Int) := rfl
  rw [hm]
  have hl := zUb (B := zF6 (zBr n fun _ => 0)) (fun s => n - s.2.toNat) (fun s => ∃ c : Nat, c ≤ n ∧ min 1 n ≤ c ∧ s = (zBr n (fun i => if i < c then x else 0), (c : Int))) (fun r => r = zBr n fun _ => x) ?_ (zBr n (fun i => if i < min 1 n then x else 0), ((min 1 n : Nat) : Int)) ⟨min 1 n, by omega, Nat.le_refl _, rfl⟩
  · obtain ⟨r, h3, rfl⟩ := hl
    exact h3
  · rintro _ ⟨c, hc, h1c, rfl⟩
    unfold zF6
    by_cases hlt : c < n
    · refine .inl ⟨(zBr n (fun i => if i < min (c + c) n then x else 0), ((min (c + c) n : Nat) : Int)), ?_, ⟨min (c + c) n, by omega, by omega, rfl⟩, ?_⟩
      · have hd : decide ((c : Int) < len (zBr n fun _ => (0 : Int))) = true := decide_eq_true (by simp only [len, zFa]; omega)
        have hck : (decide (0 ≤ (c : Int)) && decide ((c : Int) ≤ len (zBr n fun i => if i < c then x else 0))) = true := by
          rw [decide_eq_true (show 0 ≤ (c : Int) by omega), decide_eq_true (show (c : Int) ≤ len (zBr n fun i => if i < c then x else 0) by simp only [len, zFa]; omega)]
          rfl
        simp only [hd, if_true, hck, chk, Option.bind_some]
        rw [zL4 (by omega) (by rw [zFa]; omega)]
        simp only [Option.bind_some, Int.toNat_natCast, zTA _ hc, zTh x hc, zFa]
        have hnum : ((Nat.min c (Int.toNat (((n : Nat) : Int) - (c : Int))) : Nat) : Int) = ((min c (n - c) : Nat) : Int) := by
          have : Int.toNat (((n : Nat) : Int) - (c : Int)) = n - c := by omega
          rw [this]
        rw [hnum, zER (by omega) (by omega)]
        congr 3
        omega
      · simp only [Int.toNat_natCast]
        omega
    · have hcn : c = n := by omega
      subst hcn
      have hd : decide ((c : Int) < len (zBr c fun _ => (0 : Int))) = false := by simp [len, zFa]
      refine .inr ⟨zBr c fun i => if i < c then x else 0, by simp only [hd, Bool.false_eq_true, if_false], ?_⟩
      apply zBj
      intro i hi
      simp [hi]
section
variable (N : Nat) (L : List zAT)
noncomputable def rnk : Nat → Nat → Int
  | 0, _ => 0
  | k + 1, i => if lab N L (k + 1) i = lab N L k i then rnk k i else ((k + 1 : Nat) : Int)
theorem zXX (k i : Nat) : lab N L k i = 1 ∨ lab N L k i = 2 ∨ lab N L k i = 3 := by
  unfold lab
  by_cases h1 : grN N L k i
  · simp [h1]
  · by_cases h2 : att (edN L) (grN N L k) i <;> simp [h1, h2]
theorem now3 {k i : Nat} (h : zPL N L k i) : lab N L k i = 3 := (zZa N L).2 ⟨h.2, fun ⟨m, h3, h4⟩ => zOK N L h3 (h.1.2 m h4)⟩
theorem zWQ {k i : Nat} (h : lab N L k i = 2) : lab N L (k + 1) i = 2 := (zRn N L).2 (by obtain ⟨m, h1, h2⟩ := (zRn N L).1 h; exact ⟨m, zMg h1, h2⟩)
theorem zTW {k : Nat} (h : ∀ i, ¬ zPL N L k i) : ∀ m, k ≤ m → ∀ i, lab N L m i = lab N L k i := by
  intro m hm i
  have hs := zWz (D := (· < N)) (R := edN L) (k := k) fun i hi => Classical.byContradiction fun hn => h i ⟨hi, hn⟩
  have he : ∀ i, grN N L m i ↔ grN N L k i := fun i => ⟨hs m hm i, zYv hm⟩
  unfold lab
  have ha : att (edN L) (grN N L m) i ↔ att (edN L) (grN N L k) i := ⟨fun ⟨j, h1, h2⟩ => ⟨j, (he j).1 h1, h2⟩, fun ⟨j, h1, h2⟩ => ⟨j, (he j).2 h1, h2⟩⟩
  by_cases h1 : grN N L k i
  · rw [if_pos ((he i).2 h1), if_pos h1]
  · rw [if_neg (fun h => h1 ((he i).1 h)), if_neg h1]
    by_cases h2 : att (edN L) (grN N L k) i
    · rw [if_pos (ha.2 h2), if_pos h2]
    · rw [if_neg (fun h => h2 (ha.1 h)), if_neg h2]
theorem zZP {k : Nat} (h : ∀ i, ¬ zPL N L k i) : ∀ m, k ≤ m → ∀ i, rnk N L m i = rnk N L k i := by
  intro m hm i
  induction m with
  | zero => rw [show k = 0 by omega]
  | succ m ih =>
    by_cases he : k = m + 1
    · rw [he]
    · have h1 : lab N L (m + 1) i = lab N L m i := by rw [zTW N L h (m + 1) hm, zTW N L h m (by omega)]
      rw [rnk, if_pos h1, ih (by omega)]
theorem zU6 {i : Nat} : ¬ zPL N L N i := fun h => h.2 (zZE (D := (· < N)) (fun _ h => h) h.1)
end
section
variable {N : Nat} {L : List zAT}
noncomputable abbrev lb (N : Nat) (L : List zAT) (k : Nat) : List Int := zBr N (lab N L k)
noncomputable abbrev rn (N : Nat) (L : List zAT) (k : Nat) : List Int := zBr N (rnk N L k)
noncomputable def zKZ (N : Nat) (L : List zAT) : List Int := lb N L (N + 1)
noncomputable def zZ0 (N : Nat) (L : List zAT) : List Int := rn N L (N + 1)
theorem zTy : lb N L 0 = zBr N fun _ => 3 := zBj fun i _ => (zZa N L).2 ⟨fun h : grN N L 0 i => h.elim, fun ⟨m, (h : grN N L 0 m), _⟩ => h.elim⟩
theorem zYd {k : Nat} (hk : k ≤ N) (h : ∀ i, ¬ zPL N L k i) : lb N L k = zKZ N L ∧ rn N L k = zZ0 N L := by
  refine ⟨zBj fun i _ => (zTW N L h (N + 1) (by omega) i).symm, zBj fun i _ => (zZP N L h (N + 1) (by omega) i).symm⟩
theorem zEm.hR (h : zEm N L) : ∀ a b : Int, ed L a b = true → ∃ m, m < N ∧ a = (m : Int) := fun a b he => by
  obtain ⟨i, j, h1, _, h3, _⟩ := h.inN a b he
  exact ⟨i, h1, h3⟩
theorem zYm {i : Int} {q : Nat} {x : Int} (h : (zWF N L i)[q]? = some x) : ∃ a : Nat, x = (a : Int) ∧ a < N ∧ ed L (a : Int) i = true := by
  obtain ⟨h1, h2⟩ := List.mem_filter.1 (zBg h)
  obtain ⟨h3, h4⟩ := zDU.1 h1
  obtain ⟨a, rfl⟩ := Int.eq_ofNat_of_zero_le h3
  exact ⟨a, rfl, by omega, h2⟩
theorem zX5 (i : Int) : (zWF N L i).length ≤ N := Nat.le_trans (List.length_filter_le _ _) (by rw [zDg]; exact Nat.le_refl _)
theorem zUB (i : Int) : (zKL N L i).length ≤ N := Nat.le_trans (List.length_filter_le _ _) (by rw [zDg]; exact Nat.le_refl _)
open Classical in
noncomputable def zSX (N : Nat) (L : List zAT) (k i : Nat) : Int := if zPL N L k i then 1 else lab N L k i
open Classical in
noncomputable def zYZ (N : Nat) (L : List zAT) (k i : Nat) : Int := if zPL N L k i then ((k + 1 : Nat) : Int) else rnk N L k i
end
end
section
set_option linter.unusedVariables false
section
variable {N : Nat} {L : List zAT}
theorem zZI (h : zEm N L) (i : Int) : (L.filter fun p => p.2 == i).map (·.1) = zWF N L i := by
  apply Asc.ext zDK ?_ ((zIy N).filter _)
  · intro x
    rw [List.mem_map, List.mem_filter, zDU, zU5]
    constructor
    · rintro ⟨p, hp, rfl⟩
      obtain ⟨h1, h2⟩ := List.mem_filter.1 hp
      have h3 : p.2 = i := by simpa using h2
      obtain ⟨a, b, h4, h5, h6⟩ := zK5 (h.inr p h1)
      subst h6
      exact ⟨⟨by show (0 : Int) ≤ (a : Int); omega, by show (a : Int) < (N : Int); omega⟩, by rw [← h3]; exact h1⟩
    · rintro ⟨_, h1⟩
      exact ⟨_, List.mem_filter.2 ⟨h1, by simp⟩, rfl⟩
  · have h1 := h.asc.filter fun p : zAT => p.2 == i
    rw [Asc, List.pairwise_map]
    refine List.Pairwise.imp_of_mem ?_ h1
    intro p q hp hq hlt
    have h2 : p.2 = i := by simpa using (List.mem_filter.1 hp).2
    have h3 : q.2 = i := by simpa using (List.mem_filter.1 hq).2
    simp only [lt2, zRu, h2, h3, zDK.irrefl, Bool.and_false, Bool.or_false] at hlt
    exact hlt
def cnt (N : Nat) (L : List zAT) (f : Nat → Int) (j : Nat) : Nat := ((zWF N L (j : Int)).filter fun b => !(f b.toNat == 2)).length
theorem cnt_le (f : Nat → Int) (j : Nat) : cnt N L f j ≤ N := Nat.le_trans (List.length_filter_le _ _) (zX5 _)
theorem zUG {f : Nat → Int} {j : Nat} : cnt N L f j = 0 ↔ ∀ b, b < N → edN L b j → f b = 2 := by
  unfold cnt
  rw [List.length_eq_zero_iff, List.filter_eq_nil_iff]
  constructor
  · intro h b hb he
    have := h (b : Int) (List.mem_filter.2 ⟨zDU.2 ⟨by omega, by omega⟩, he⟩)
    simpa using this
  · intro h x hx
    obtain ⟨h1, h2⟩ := List.mem_filter.1 hx
    obtain ⟨h3, h4⟩ := zDU.1 h1
    obtain ⟨a, rfl⟩ := Int.eq_ofNat_of_zero_le h3
    simp [h a (by omega) h2]
theorem zQy {α : Type} [DecidableEq α] {p q : α → Bool} {x : α} : ∀ {l : List α}, l.Nodup → x ∈ l → p x = true → q x = false → (∀ y ∈ l, y ≠ x → p y = q y) → (l.filter p).length = (l.filter q).length + 1
  | [], _, hx, _, _, _ => by cases hx
  | y :: l, hn, hx, h1, h2, h3 => by
    obtain ⟨hy, hl⟩ := List.nodup_cons.1 hn
    by_cases he : y = x
    · subst he
      have : l.filter p = l.filter q := List.filter_congr fun z hz => h3 z (List.mem_cons_of_mem _ hz) fun e => by subst e; exact hy hz
      simp [h1, h2, this]
    · have hm : x ∈ l := by
        rcases List.mem_cons.1 hx with h | h
        · exact absurd h.symm he
        · exact h
      have ih := zQy hl hm h1 h2 fun z hz => h3 z (List.mem_cons_of_mem _ hz)
      have hpq := h3 y List.mem_cons_self he
      cases hq : q y with
      | true => simp [hpq, hq, ih]
      | false => simp [hpq, hq, ih]
theorem zYh {f : Nat → Int} {a : Nat} (ha : a < N) (h3 : f a = 3) (j : Nat) :
    cnt N L f j = cnt N L (fun b => if b = a then 2 else f b) j + (if ed L (a : Int) (j : Int) = true then 1 else 0) := by
  unfold cnt
  by_cases he : ed L (a : Int) (j : Int) = true
  · rw [if_pos he]
    refine zQy (x := (a : Int)) ?_ (List.mem_filter.2 ⟨zDU.2 ⟨by omega, by omega⟩, he⟩) (by simp [h3]) (by simp) ?_
    · exact ((zIy N).filter _).imp fun {x y} hh e => by subst e; simp at hh
    · intro y hy hne
      obtain ⟨h1, h2⟩ := List.mem_filter.1 hy
      obtain ⟨h4, h5⟩ := zDU.1 h1
      obtain ⟨b, rfl⟩ := Int.eq_ofNat_of_zero_le h4
      have h6 : b ≠ a := fun e => hne (by rw [e])
      simp [h6]
  · rw [if_neg he, Nat.add_zero]
    congr 1
    apply List.filter_congr
    intro x hx
    obtain ⟨h1, h2⟩ := List.mem_filter.1 hx
    obtain ⟨h4, h5⟩ := zDU.1 h1
    obtain ⟨b, rfl⟩ := Int.eq_ofNat_of_zero_le h4
    have hne : b ≠ a := fun e => by subst e; exact he h2
    simp [hne]
theorem zPH {k b : Nat} : zSX N L k b = 2 ↔ lab N L k b = 2 := by
  unfold zSX
  by_cases h : zPL N L k b
  · have := now3 N L h
    simp [h, this]
  · rw [if_neg h]
theorem zPU {f f' : Nat → Int} (h : ∀ b, b < N → (f b = 2 ↔ f' b = 2)) (j : Nat) : cnt N L f j = cnt N L f' j := by
  unfold cnt
  congr 1
  apply List.filter_congr
  intro x hx
  obtain ⟨h4, h5⟩ := zDU.1 (List.mem_filter.1 hx).1
  obtain ⟨b, rfl⟩ := Int.eq_ofNat_of_zero_le h4
  have h1 := h b (by omega)
  rw [Int.toNat_natCast, Bool.eq_iff_iff]
  simp [h1]
theorem zPl (h : zEm N L) {k j : Nat} (hj : j < N) : (lab N L k j = 3 ∧ cnt N L (lab N L k) j = 0) ↔ zPL N L k j := by
  rw [zUG, zYy N L hj h.hR]
structure Nxt (N : Nat) (L : List zAT) (f : Nat → Int) (nx : List Int) : Prop where
  nd : nx.Nodup
  rg : ∀ x ∈ nx, 0 ≤ x ∧ x < N
  mem : ∀ j : Nat, (j : Int) ∈ nx ↔ j < N ∧ f j = 3 ∧ cnt N L f j = 0
theorem zWd {nx : List Int} (h1 : nx.Nodup) (h2 : ∀ x ∈ nx, 0 ≤ x ∧ x < (N : Int)) : nx.length ≤ N := by
  have := zPa (m := rng N) h1 fun x hx => zDU.2 (h2 x hx)
  rwa [zDg] at this
theorem zW3 {i : Int} {q : Nat} {x : Int} (h : (zKL N L i)[q]? = some x) : ∃ a : Nat, x = (a : Int) ∧ a < N ∧ ed L i (a : Int) = true := by
  obtain ⟨h1, h2⟩ := List.mem_filter.1 (zBg h)
  obtain ⟨h3, h4⟩ := zDU.1 h1
  obtain ⟨a, rfl⟩ := Int.eq_ofNat_of_zero_le h3
  exact ⟨a, rfl, by omega, h2⟩
theorem zVg (i : Int) : (zKL N L i).Nodup := ((zIy N).filter _).imp fun {x y} hh e => by subst e; simp at hh
theorem zUK {i : Int} {j : Nat} (hj : j < N) : (j : Int) ∈ zKL N L i ↔ ed L i (j : Int) = true := by
  rw [List.mem_filter, zDU]
  exact ⟨fun h => h.2, fun h => ⟨⟨by omega, by omega⟩, h⟩⟩
theorem zYD {α : Type} {l : List α} (hn : l.Nodup) {i : Nat} {x : α} (hx : l[i]? = some x) : x ∉ l.take i := by
  intro hm
  obtain ⟨j, hj⟩ := List.getElem?_of_mem hm
  rw [List.getElem?_take] at hj
  split at hj
  · rename_i hji
    obtain ⟨h1, h2⟩ := List.getElem?_eq_some_iff.1 hj
    obtain ⟨h3, h4⟩ := List.getElem?_eq_some_iff.1 hx
    have := (List.getElem_inj hn).1 (h2.trans h4.symm)
    omega
  · cases hj
theorem grp_L7 (h : zEm N L) {f : Nat → Int} (l2 : List Int) {a : Nat} (ha : a < N) (h3 : f a = 3) (hca : cnt N L f a ≠ 0) (q : Int) (s6 : List Int × List Int × List Int × Int × List Int) {nx : List Int} (hnx : Nxt N L f nx) (hq : 0 ≤ q ∧ q < 1000) :
    ∃ nx', Nxt N L (fun b => if b = a then 2 else f b) nx' ∧
      zAm (zD1 (zKL N L (a : Int)) (zBr N f, l2, nx, q, zBr 40 fun j => (cnt N L f j : Int)) (a : Int) s6) (nx, 0, zBr 40 fun j => (cnt N L f j : Int)) =
        some (.inl (zBr N (fun b => if b = a then 2 else f b), List.set l2 a s6.2.2.2.1, nx', q + 1, zBr 40 fun j => (cnt N L (fun b => if b = a then 2 else f b) j : Int))) := by
  have hN := h.hN
  let f' : Nat → Int := fun b => if b = a then 2 else f b
  let o (t j : Nat) : Nat := cnt N L f' j + if ed L (a : Int) (j : Int) = true ∧ (j : Int) ∉ (zKL N L (a : Int)).take t then 1 else 0
  have ho0 : ∀ j, o 0 j = cnt N L f j := fun j => by
    show cnt N L f' j + _ = _
    rw [zYh ha h3 j]
    simp [f']
  have hsl := zUB (N := N) (L := L) (a : Int)
  have hl := zBF (B := zD1 (zKL N L (a : Int)) (zBr N f, l2, nx, q, zBr 40 fun j => (cnt N L f j : Int)) (a : Int) s6) (fun t (s : List Int × List Int) => (s.1, (t : Int), s.2)) (zKL N L (a : Int))
    (fun t s => s.2 = zBr 40 (fun j => (o t j : Int)) ∧ s.1.Nodup ∧ (∀ x ∈ s.1, 0 ≤ x ∧ x < (N : Int)) ∧ ∀ j : Nat, (j : Int) ∈ s.1 ↔ j < N ∧ f' j = 3 ∧ o t j = 0)
    (fun r => ∃ nx', Nxt N L f' nx' ∧ r = .inl (zBr N f', List.set l2 a s6.2.2.2.1, nx', q + 1, zBr 40 fun j => (cnt N L f' j : Int))) ?_ ?_ (nx, zBr 40 fun j => (cnt N L f j : Int)) ?_
  · obtain ⟨r, h1, nx', h2, rfl⟩ := hl
    exact ⟨nx', h2, h1⟩
  · rintro t x ⟨n1, op⟩ hx ⟨hop, hnd, hrg, hmem⟩
    simp only at hop hnd hrg hmem
    subst hop
    obtain ⟨j0, rfl, hj0, he⟩ := zW3 hx
    have hnot := zYD (zVg (N := N) (L := L) (a : Int)) hx
    have hn1 := zWd hnd hrg
    have ho1 : o t j0 = cnt N L f' j0 + 1 := by
      show cnt N L f' j0 + _ = _
      rw [if_pos ⟨he, hnot⟩]
    have ho2 : o (t + 1) j0 = cnt N L f' j0 := by
      show cnt N L f' j0 + _ = _
      rw [if_neg (fun hh => hh.2 (by rw [zB7 hx]; simp)), Nat.add_zero]
    have ho3 : ∀ j, j ≠ j0 → o (t + 1) j = o t j := fun j hj => by
      show cnt N L f' j + _ = cnt N L f' j + _
      congr 1
      have : (j : Int) ∉ (zKL N L (a : Int)).take (t + 1) ↔ (j : Int) ∉ (zKL N L (a : Int)).take t := by
        rw [zB7 hx, List.mem_append, List.mem_singleton]
        have : ¬ (j : Int) = (j0 : Int) := by omega
        simp [this]
      simp only [this]
    have hc0 := cnt_le (N := N) (L := L) f' j0
    have hnew : zT6 40 (zBr 40 fun j => (o t j : Int)) (j0 : Int) (w64 ((zT8 (zBr 40 fun j => (o t j : Int)) (j0 : Int)) - 1)) = zBr 40 fun j => (o (t + 1) j : Int) := by
      rw [zN7 _ _ (by omega), zRl _ _ (by omega), zER (by omega) (by omega)]
      apply zBj
      intro j _
      by_cases hj : j = j0
      · subst hj; rw [if_pos rfl, ho1, ho2]; omega
      · rw [if_neg hj, ho3 j hj]
    have hset : List.set (zBr N f) (Int.toNat (a : Int)) 2 = zBr N f' := by rw [Int.toNat_natCast, zNP]
    unfold zD1
    simp only [zAs hx, if_true, zAp hx, Option.bind_some, zXS (show (40 : Int) = ((40 : Nat) : Int) from rfl) (show j0 < 40 by omega), hnew, zN7 40 (fun j => (o (t + 1) j : Int)) (show j0 < 40 by omega), hset, zML f' hj0, zAt hx (show (zKL N L (a : Int)).length < 4294967296 by omega), ho2]
    cases hz : (((cnt N L f' j0 : Nat) : Int) == 0) && (f' j0 == 3) with
    | true =>
      rw [Bool.and_eq_true, beq_iff_eq, beq_iff_eq] at hz
      have hnin : (j0 : Int) ∉ n1 := fun hm => by have := ((hmem j0).1 hm).2.2; omega
      refine .inl ⟨(n1 ++ [(j0 : Int)], zBr 40 fun j => (o (t + 1) j : Int)), ?_, rfl, ?_, ?_, ?_⟩
      · simp only [hz.1, hz.2, beq_self_eq_true, if_true, Option.bind_some]
        rw [zCL (by simp; omega)]
        rfl
      · rw [List.nodup_append]
        exact ⟨hnd, by simp, fun x hx y hy e => by rw [List.mem_singleton] at hy; subst hy; subst e; exact hnin hx⟩
      · intro x hx
        rcases List.mem_append.1 hx with hx | hx
        · exact hrg x hx
        · rw [List.mem_singleton] at hx; subst hx; omega
      · intro j
        rw [List.mem_append, List.mem_singleton]
        by_cases hj : j = j0
        · subst hj
          exact ⟨fun _ => ⟨hj0, hz.2, by rw [ho2]; omega⟩, fun _ => .inr rfl⟩
        · rw [ho3 j hj, hmem j]
          exact ⟨fun hh => hh.elim id fun e => absurd (by omega) hj, .inl⟩
    | false =>
      refine .inl ⟨(n1, zBr 40 fun j => (o (t + 1) j : Int)), ?_, rfl, hnd, hrg, ?_⟩
      · cases h1 : (((cnt N L f' j0 : Nat) : Int) == 0) with
        | false => simp only [Bool.false_eq_true, if_false, Option.bind_some]
        | true =>
          rw [h1, Bool.true_and] at hz
          simp only [if_true, Option.bind_some, hz, Bool.false_eq_true, if_false]
      · intro j
        by_cases hj : j = j0
        · subst hj
          rw [hmem j, ho1, ho2]
          constructor
          · rintro ⟨_, _, h0⟩; omega
          · rintro ⟨_, h1, h0⟩
            rw [h0, h1] at hz
            simp at hz
        · rw [ho3 j hj, hmem j]
  · rintro ⟨n1, op⟩ ⟨hop, hnd, hrg, hmem⟩
    simp only at hop hnd hrg hmem
    subst hop
    have hoe : ∀ j, j < 40 → o (zKL N L (a : Int)).length j = cnt N L f' j := fun j _ => by
      show cnt N L f' j + _ = _
      rw [List.take_length, if_neg]
      · rfl
      · rintro ⟨h1, h2⟩
        obtain ⟨x, y, _, h4, _, h6⟩ := h.inN _ _ h1
        exact h2 ((zUK (by omega)).2 h1)
    refine ⟨_, ?_, n1, ⟨hnd, hrg, fun j => ?_⟩, rfl⟩
    · unfold zD1
      have hset : List.set (zBr N f) a 2 = zBr N f' := zNP f 2
      have hm : (zBr 40 fun j => (o (zKL N L (a : Int)).length j : Int)) = zBr 40 fun j => (cnt N L f' j : Int) := zBj fun j hj => by rw [hoe j hj]
      simp only [zBM, Bool.false_eq_true, if_false, Int.toNat_natCast, hset, hm]
      rw [zER (by omega) (by omega)]
    · rw [hmem j]
      constructor
      · rintro ⟨h1, h2, h4⟩; exact ⟨h1, h2, by rw [hoe j (by omega)] at h4; exact h4⟩
      · rintro ⟨h1, h2, h4⟩; exact ⟨h1, h2, by rw [hoe j (by omega)]; exact h4⟩
  · refine ⟨?_, hnx.nd, hnx.rg, fun j => ?_⟩
    · show (zBr 40 fun j => (cnt N L f j : Int)) = _
      exact zBj fun j _ => by rw [ho0]
    · show (j : Int) ∈ nx ↔ _
      rw [hnx.mem j, ho0]
      show _ ↔ j < N ∧ (if j = a then 2 else f j) = 3 ∧ cnt N L f j = 0
      by_cases hj : j = a
      · subst hj
        rw [if_pos rfl]
        exact ⟨fun hh => absurd hh.2.2 hca, fun hh => absurd hh.2.2 hca⟩
      · rw [if_neg hj]
structure Mid (N : Nat) (L : List zAT) (k : Nat) (f g : Nat → Int) (nx : List Int) : Prop where
  v : ∀ j, j < N → f j = 1 ∨ f j = 2 ∨ f j = 3
  one : ∀ j, j < N → (f j = 1 ↔ lab N L (k + 1) j = 1)
  two : ∀ j, j < N → f j = 2 → lab N L (k + 1) j = 2
  old : ∀ j, j < N → lab N L k j = 2 → f j = 2
  rk : ∀ j, j < N → g j = if f j = lab N L k j then rnk N L k j else ((k + 1 : Nat) : Int)
  nx : Nxt N L f nx
theorem grp_L6 (h : zEm N L) {k : Nat} (hk : k ≤ 100) {i : Nat} (hi : zPL N L k i) (s6 : List Int × List Int × List Int × Int × List Int) (hs6 : s6.2.2.2.1 = ((k + 1 : Nat) : Int)) (D : Nat → Prop)
    {f g : Nat → Int} {nx : List Int} (hM : Mid N L k f g nx) (hD : ∀ j, D j → f j ≠ 3) (q : Nat) (hq : q < 1000) (z1 z2 z3 z5 : List Int) :
    ∃ f' g' nx', Mid N L k f' g' nx' ∧ (∀ j, j < N → D j ∨ edN L i j → f' j ≠ 3) ∧
      zAm (zBc (zKL N L (i : Int)) ((N : Int), L) s6 (z1, z2, z3, (q : Int), z5)) (zBr N f, zBr N g, nx, 0, zBr 40 fun j => (cnt N L f j : Int)) =
        some (.inl (zBr N f', zBr N g', nx', ((q + 1 : Nat) : Int), zBr 40 fun j => (cnt N L f' j : Int))) := by
  have hN := h.hN
  have hsl := zUB (N := N) (L := L) (i : Int)
  have hl := zBF (B := zBc (zKL N L (i : Int)) ((N : Int), L) s6 (z1, z2, z3, (q : Int), z5)) (fun t (s : List Int × List Int × List Int × List Int) => (s.1, s.2.1, s.2.2.1, (t : Int), s.2.2.2)) (zKL N L (i : Int))
    (fun t s => ∃ f' g' nx', Mid N L k f' g' nx' ∧ (∀ j, j < N → D j ∨ (j : Int) ∈ (zKL N L (i : Int)).take t → f' j ≠ 3) ∧ s = (zBr N f', zBr N g', nx', zBr 40 fun j => (cnt N L f' j : Int)))
    (fun r => ∃ f' g' nx', Mid N L k f' g' nx' ∧ (∀ j, j < N → D j ∨ edN L i j → f' j ≠ 3) ∧ r = .inl (zBr N f', zBr N g', nx', ((q + 1 : Nat) : Int), zBr 40 fun j => (cnt N L f' j : Int))) ?_ ?_ (zBr N f, zBr N g, nx, zBr 40 fun j => (cnt N L f j : Int)) ⟨f, g, nx, hM, fun j _ hj => by simp at hj; exact hD j hj, rfl⟩
  · obtain ⟨r, h1, f', g', nx', h2, h3, rfl⟩ := hl
    exact ⟨f', g', nx', h2, h3, h1⟩
  · rintro t x _ hx ⟨f', g', nx', hM', hD', rfl⟩
    obtain ⟨a, rfl, ha, he⟩ := zW3 hx
    by_cases h3 : f' a = 3
    · have hb : (f' a != 3) = false := by simp [h3]
      have hfi : f' i = 1 := (hM'.one i (zSa (D := (· < N)) hi.1)).2 ((zZb N L).2 hi.1)
      have hca : cnt N L f' a ≠ 0 := fun h0 => by have := zUG.1 h0 i (zSa (D := (· < N)) hi.1) he; omega
      have ht : t < 1000 := by have := zCU hx; omega
      obtain ⟨n2, hn2, h7⟩ := grp_L7 h (zBr N g') ha h3 hca (t : Int) s6 hM'.nx ⟨by omega, by omega⟩
      have hla : lab N L k a ≠ 2 := fun e => by have := hM'.old a ha e; omega
      refine .inl ⟨(zBr N (fun b => if b = a then 2 else f' b), zBr N (fun b => if b = a then ((k + 1 : Nat) : Int) else g' b), n2, zBr 40 fun j => (cnt N L (fun b => if b = a then 2 else f' b) j : Int)), ?_, _, _, n2, ⟨?_, ?_, ?_, ?_, ?_, hn2⟩, ?_, rfl⟩
      · unfold zBc
        simp only [zAs hx, if_true, zAp hx, Option.bind_some, zML _ ha, hb, Bool.false_eq_true, if_false, zM6 h]
        rw [h7, hs6, zNP]
        rfl
      · intro j hj
        by_cases e : j = a
        · simp [e]
        · simpa [e] using hM'.v j hj
      · intro j hj
        by_cases e : j = a
        · subst e
          have h1 := hM'.one j hj
          rw [h3] at h1
          simp only [if_true]
          constructor
          · intro h2; cases h2
          · intro h2; have := h1.2 h2; omega
        · simpa [e] using hM'.one j hj
      · intro j hj
        by_cases e : j = a
        · subst e
          intro _
          exact (zRn N L).2 ⟨i, hi.1, he⟩
        · simpa [e] using hM'.two j hj
      · intro j hj hj2
        by_cases e : j = a
        · subst e; exact absurd hj2 hla
        · simpa [e] using hM'.old j hj hj2
      · intro j hj
        by_cases e : j = a
        · subst e
          rw [if_pos rfl, if_pos rfl, if_neg (fun e2 => hla e2.symm)]
        · simpa [e] using hM'.rk j hj
      · intro j hj hjd
        by_cases e : j = a
        · simp [e]
        · simp only [e, if_false]
          refine hD' j hj (hjd.imp id fun hm => ?_)
          rw [zB7 hx, List.mem_append, List.mem_singleton] at hm
          exact hm.resolve_right (by omega)
    · have hb : (f' a != 3) = true := by simp [h3]
      refine .inl ⟨(zBr N f', zBr N g', nx', zBr 40 fun j => (cnt N L f' j : Int)), ?_, f', g', nx', hM', ?_, rfl⟩
      · unfold zBc
        simp only [zAs hx, if_true, zAp hx, Option.bind_some, zML _ ha, hb, zAt hx (show (zKL N L (i : Int)).length < 4294967296 by omega)]
      · intro j hj hjd
        by_cases e : j = a
        · subst e; exact h3
        · refine hD' j hj (hjd.imp id fun hm => ?_)
          rw [zB7 hx, List.mem_append, List.mem_singleton] at hm
          exact hm.resolve_right (by omega)
  · rintro _ ⟨f', g', nx', hM', hD', rfl⟩
    refine ⟨_, ?_, f', g', nx', hM', fun j hj hjd => hD' j hj (hjd.imp id fun he => ?_), rfl⟩
    · unfold zBc
      simp only [zBM, Bool.false_eq_true, if_false, zAg q (by omega)]
    · rw [List.take_length]
      exact (zUK hj).2 he
structure zLi (N : Nat) (L : List zAT) (k : Nat) (Q : List Int) : Prop where
  nd : Q.Nodup
  rg : ∀ x ∈ Q, 0 ≤ x ∧ x < N
  mem : ∀ j : Nat, (j : Int) ∈ Q ↔ zPL N L k j
theorem zVu (h : zEm N L) (k : Nat) : Mid N L k (zSX N L k) (zYZ N L k) [] := by
  have h1 : ∀ j, zSX N L k j = 1 ↔ lab N L (k + 1) j = 1 := fun j => by
    rw [zZb N L]
    unfold zSX
    by_cases hn : zPL N L k j
    · simp [hn, hn.1]
    · rw [if_neg hn, zZb N L]
      exact ⟨fun hg => zMg hg, fun hg => Classical.byContradiction fun hc => hn ⟨hg, hc⟩⟩
  refine ⟨fun j _ => ?_, fun j _ => h1 j, fun j _ h2 => zWQ N L (zPH.1 h2), fun j _ h2 => zPH.2 h2, fun j _ => ?_, ⟨List.nodup_nil, (fun x hx => by cases hx), fun j => ?_⟩⟩
  · unfold zSX
    by_cases hn : zPL N L k j
    · simp [hn]
    · rw [if_neg hn]; exact zXX N L k j
  · unfold zSX zYZ
    by_cases hn : zPL N L k j
    · have := now3 N L hn
      simp [hn, this]
    · simp [hn]
  · constructor
    · intro hm; cases hm
    · rintro ⟨hj, h3, h0⟩
      exfalso
      have hc : cnt N L (zSX N L k) j = cnt N L (lab N L k) j := zPU (fun b _ => zPH) j
      rw [hc] at h0
      by_cases hn : zPL N L k j
      · unfold zSX at h3; rw [if_pos hn] at h3; cases h3
      · unfold zSX at h3; rw [if_neg hn] at h3
        exact hn ((zPl h hj).1 ⟨h3, h0⟩)
theorem grp_L5 (h : zEm N L) {k : Nat} (hk : k ≤ 100) {Q : List Int} (hQ : zLi N L k Q) (z1 z2 z5 : List Int) :
    ∃ Q', zLi N L (k + 1) Q' ∧ zAm (zCF (z1, z2, Q, ((k + 1 : Nat) : Int), z5) ((N : Int), L)) (zBr N (zSX N L k), zBr N (zYZ N L k), ([] : List Int), 0, zBr 40 fun j => (cnt N L (lab N L k) j : Int)) =
      some (.inl (lb N L (k + 1), rn N L (k + 1), Q', ((k + 2 : Nat) : Int), zBr 40 fun j => (cnt N L (lab N L (k + 1)) j : Int))) := by
  have hN := h.hN
  have hql := zWd hQ.nd hQ.rg
  have hl := zBF (B := zCF (z1, z2, Q, ((k + 1 : Nat) : Int), z5) ((N : Int), L)) (fun t (s : List Int × List Int × List Int × List Int) => (s.1, s.2.1, s.2.2.1, (t : Int), s.2.2.2)) Q
    (fun t s => ∃ f' g' nx', Mid N L k f' g' nx' ∧ (∀ j, j < N → (∃ i : Nat, (i : Int) ∈ Q.take t ∧ edN L i j) → f' j ≠ 3) ∧ s = (zBr N f', zBr N g', nx', zBr 40 fun j => (cnt N L f' j : Int)))
    (fun r => ∃ Q', zLi N L (k + 1) Q' ∧ r = .inl (lb N L (k + 1), rn N L (k + 1), Q', ((k + 2 : Nat) : Int), zBr 40 fun j => (cnt N L (lab N L (k + 1)) j : Int))) ?_ ?_ (zBr N (zSX N L k), zBr N (zYZ N L k), [], zBr 40 fun j => (cnt N L (lab N L k) j : Int)) ?_
  · obtain ⟨r, h1, Q', h2, rfl⟩ := hl
    exact ⟨Q', h2, h1⟩
  · rintro t x _ hx ⟨f', g', nx', hM, hD, rfl⟩
    have ht := zCU hx
    obtain ⟨h0, h1⟩ := hQ.rg x (zBg hx)
    obtain ⟨i, rfl⟩ := Int.eq_ofNat_of_zero_le h0
    have hi := (hQ.mem i).1 (zBg hx)
    obtain ⟨f2, g2, n2, hM2, hD2, h6⟩ := grp_L6 h hk hi (z1, z2, Q, ((k + 1 : Nat) : Int), z5) rfl (fun j => j < N ∧ ∃ i : Nat, (i : Int) ∈ Q.take t ∧ edN L i j) hM (fun j hj => hD j hj.1 hj.2) t (by omega) (zBr N f') (zBr N g') nx' (zBr 40 fun j => (cnt N L f' j : Int))
    refine .inl ⟨(zBr N f2, zBr N g2, n2, zBr 40 fun j => (cnt N L f2 j : Int)), ?_, f2, g2, n2, hM2, ?_, rfl⟩
    · unfold zCF
      simp only [zAs hx, if_true, zAp hx, Option.bind_some, zM6 h]
      rw [h6]
    · rintro j hj ⟨i', hi', he⟩
      rw [zB7 hx, List.mem_append, List.mem_singleton] at hi'
      rcases hi' with hi' | hi'
      · exact hD2 j hj (.inl ⟨hj, i', hi', he⟩)
      · have : i' = i := by omega
        subst this
        exact hD2 j hj (.inr he)
  · rintro _ ⟨f', g', nx', hM, hD, rfl⟩
    rw [List.take_length] at hD
    have hf : ∀ j, j < N → f' j = lab N L (k + 1) j := fun j hj => by
      rcases hM.v j hj with h1 | h1 | h1
      · rw [h1, (hM.one j hj).1 h1]
      · rw [h1, hM.two j hj h1]
      · rcases zXX N L (k + 1) j with h2 | h2 | h2
        · have := (hM.one j hj).2 h2; omega
        · exfalso
          rw [zXu] at h2
          by_cases hn : zPL N L k j
          · rw [if_pos hn] at h2; cases h2
          · rw [if_neg hn] at h2
            by_cases hc : lab N L k j = 3 ∧ att (edN L) (zPL N L k) j
            · obtain ⟨m, h4, h5⟩ := hc.2
              exact hD j hj ⟨m, (hQ.mem m).2 h4, h5⟩ h1
            · rw [if_neg hc] at h2
              have := hM.old j hj h2; omega
        · rw [h1, h2]
    have hg : ∀ j, j < N → g' j = rnk N L (k + 1) j := fun j hj => by
      rw [hM.rk j hj, hf j hj, rnk]
    have hc : ∀ j, cnt N L f' j = cnt N L (lab N L (k + 1)) j := zPU fun b hb => by rw [hf b hb]
    refine ⟨_, ?_, nx', ⟨hM.nx.nd, hM.nx.rg, fun j => ?_⟩, rfl⟩
    · unfold zCF
      have e1 : zBr N f' = lb N L (k + 1) := zBj hf
      have e2 : zBr N g' = rn N L (k + 1) := zBj hg
      have e3 : (zBr 40 fun j => (cnt N L f' j : Int)) = zBr 40 fun j => (cnt N L (lab N L (k + 1)) j : Int) := zBj fun j _ => by rw [hc]
      simp only [zBM, Bool.false_eq_true, if_false, e1, e2, e3, zAg (k + 1) (show k + 1 + 1 < 9223372036854775808 by omega)]
    · rw [hM.nx.mem j, hc j]
      constructor
      · rintro ⟨h1, h2, h3⟩; rw [hf j h1] at h2; exact (zPl h h1).1 ⟨h2, h3⟩
      · intro hn
        have h1 : j < N := zSa (D := (· < N)) hn.1
        obtain ⟨h2, h3⟩ := (zPl h h1).2 hn
        exact ⟨h1, by rw [hf j h1]; exact h2, h3⟩
  · refine ⟨zSX N L k, zYZ N L k, [], zVu h k, fun j _ hj => by obtain ⟨i, hi, _⟩ := hj; simp at hi, ?_⟩
    have : (zBr 40 fun j => (cnt N L (lab N L k) j : Int)) = zBr 40 fun j => (cnt N L (zSX N L k) j : Int) := zBj fun j _ => by rw [zPU fun b _ => zPH]
    rw [this]
open Classical in
theorem grp_L4 (h : zEm N L) {k : Nat} {Q : List Int} (hQ : zLi N L k Q) (z1 z2 z5 : List Int) :
    zAm (zD3 (z1, z2, Q, ((k + 1 : Nat) : Int), z5)) (lb N L k, rn N L k, 0) = some (zBr N (zSX N L k), zBr N (zYZ N L k)) := by
  have hN := h.hN
  have hql := zWd hQ.nd hQ.rg
  have hl := zBF (B := zD3 (z1, z2, Q, ((k + 1 : Nat) : Int), z5)) (fun t (s : List Int × List Int) => (s.1, s.2, (t : Int))) Q
    (fun t s => s = (zBr N (fun j => if (j : Int) ∈ Q.take t then 1 else lab N L k j), zBr N (fun j => if (j : Int) ∈ Q.take t then ((k + 1 : Nat) : Int) else rnk N L k j)))
    (fun r => r = (zBr N (zSX N L k), zBr N (zYZ N L k))) ?_ ?_ (lb N L k, rn N L k) (by simp)
  · obtain ⟨r, h1, rfl⟩ := hl
    exact h1
  · rintro t x _ hx rfl
    obtain ⟨h0, h1⟩ := hQ.rg x (zBg hx)
    obtain ⟨i, rfl⟩ := Int.eq_ofNat_of_zero_le h0
    refine .inl ⟨_, ?_, rfl⟩
    unfold zD3
    simp only [zAs hx, if_true, zAp hx, Option.bind_some, zML _ (show i < N by omega), Int.toNat_natCast, zNP, zAt hx (show Q.length < 4294967296 by omega)]
    congr 3
    · apply zBj
      intro j _
      rw [zB7 hx]
      by_cases e : j = i
      · subst e; simp
      · have : ¬ (j : Int) = (i : Int) := by omega
        simp [e, this]
    · congr 1
      apply zBj
      intro j _
      rw [zB7 hx]
      by_cases e : j = i
      · subst e; simp
      · have : ¬ (j : Int) = (i : Int) := by omega
        simp [e, this]
  · rintro _ rfl
    rw [List.take_length]
    refine ⟨_, ?_, rfl⟩
    unfold zD3
    simp only [zBM, Bool.false_eq_true, if_false]
    have e1 : (zBr N fun j => if (j : Int) ∈ Q then 1 else lab N L k j) = zBr N (zSX N L k) := zBj fun j _ => by simp only [hQ.mem j]; rfl
    have e2 : (zBr N fun j => if (j : Int) ∈ Q then ((k + 1 : Nat) : Int) else rnk N L k j) = zBr N (zYZ N L k) := zBj fun j _ => by simp only [hQ.mem j]; rfl
    rw [e1, e2]
theorem grp_L1 (h : zEm N L) : zAm (zDS ((N : Int), L)) (0, List.replicate 40 (0 : Int)) = some (zBr 40 fun j => (cnt N L (lab N L 0) j : Int)) := by
  have hN := h.hN
  have hL := h.len
  have hl := zBF (B := zDS ((N : Int), L)) (fun t (s : List Int) => ((t : Int), s)) L
    (fun t s => s = zBr 40 fun j => (((L.take t).filter fun p => p.2 == (j : Int)).length : Int)) (fun r => r = zBr 40 fun j => (cnt N L (lab N L 0) j : Int)) ?_ ?_ (List.replicate 40 (0 : Int)) (by rw [zYQ]; simp)
  · obtain ⟨r, h1, rfl⟩ := hl
    exact h1
  · rintro t p _ hp rfl
    obtain ⟨a, b, ha, hb, rfl⟩ := zK5 (h.inr p (zBg hp))
    have hle : ((L.take t).filter fun p => p.2 == (b : Int)).length ≤ 1600 := Nat.le_trans (List.length_filter_le _ _) (Nat.le_trans (List.length_take_le _ _) (by have := zCU hp; omega))
    refine .inl ⟨_, ?_, rfl⟩
    unfold zDS
    simp only [zAs hp, if_true, zAp hp, Option.bind_some, zXS (show (40 : Int) = ((40 : Nat) : Int) from rfl) (show b < 40 by omega), zAt hp h.len', zN7 40 _ (show b < 40 by omega), zRl 40 _ (show b < 40 by omega)]
    congr 3
    apply zBj
    intro j _
    rw [zB7 hp, List.filter_append, List.length_append]
    by_cases e : j = b
    · subst e
      rw [if_pos rfl, zER (by omega) (by omega)]
      simp
    · have : ¬ (b : Int) = (j : Int) := by omega
      simp [e, this]
  · rintro _ rfl
    rw [List.take_length]
    refine ⟨_, ?_, rfl⟩
    unfold zDS
    have e1 : (zBr 40 fun j => ((L.filter fun p => p.2 == (j : Int)).length : Int)) = zBr 40 fun j => (cnt N L (lab N L 0) j : Int) := zBj fun j _ => by
      have h1 : (L.filter fun p => p.2 == (j : Int)).length = (zWF N L (j : Int)).length := by rw [← zZI h, List.length_map]
      rw [h1]
      unfold cnt
      rw [List.filter_eq_self.2]
      intro x hx
      obtain ⟨q, hq⟩ := List.getElem?_of_mem hx
      obtain ⟨a, rfl, ha, _⟩ := zYm hq
      have : lab N L 0 a = 3 := by
        have := congrArg (fun l : List Int => l[a]?) (zTy (N := N) (L := L))
        simpa [zIe, ha] using this
      simp [this]
    simp only [zBM, Bool.false_eq_true, if_false, e1]
theorem grp_L2 (h : zEm N L) : ∃ Q, zLi N L 0 Q ∧ zAm (zDV ((N : Int), L) (zBr 40 fun j => (cnt N L (lab N L 0) j : Int))) (([] : List Int), 0) = some Q := by
  have hN := h.hN
  refine ⟨(rng N).filter fun j => cnt N L (lab N L 0) j.toNat == 0, ⟨((zIy N).filter _).imp fun {x y} hh e => by subst e; simp at hh, fun x hx => zDU.1 (List.mem_filter.1 hx).1, fun j => ?_⟩, ?_⟩
  · rw [List.mem_filter, zDU, Int.toNat_natCast, beq_iff_eq]
    have h0 : ∀ j, j < N → lab N L 0 j = 3 := fun j hj => by
      have := congrArg (fun l : List Int => l[j]?) (zTy (N := N) (L := L))
      simpa [zIe, hj] using this
    constructor
    · rintro ⟨h1, h2⟩
      exact (zPl h (show j < N by omega)).1 ⟨h0 j (by omega), h2⟩
    · intro hn
      have hj : j < N := zSa (D := (· < N)) hn.1
      exact ⟨⟨by omega, by omega⟩, ((zPl h hj).2 hn).2⟩
  · have hl := zFW (B := zDV ((N : Int), L) (zBr 40 fun j => (cnt N L (lab N L 0) j : Int))) (rng N) (fun s j => if (cnt N L (lab N L 0) j.toNat == 0) then s ++ [j] else s) id (fun i s => s.length ≤ i) ([] : List Int) (by simp) ?_ ?_
    · have h2 := zIV (fun j : Int => cnt N L (lab N L 0) j.toNat == 0) id (rng N) []
      simp only [id, List.map_id, List.nil_append] at h2
      rw [hl.1, h2]; rfl
    · intro i x s hx hI
      obtain ⟨rfl, hi⟩ := zNd hx
      unfold zDV
      have hd : decide ((i : Int) < (N : Int)) = true := decide_eq_true (by omega)
      simp only [hd, if_true, zXS (show (40 : Int) = ((40 : Nat) : Int) from rfl) (show i < 40 by omega), Option.bind_some, zN7 40 _ (show i < 40 by omega), zAg i (by omega), Int.toNat_natCast]
      have hz : (((cnt N L (lab N L 0) i : Nat) : Int) == 0) = (cnt N L (lab N L 0) i == 0) := by rw [Bool.eq_iff_iff, beq_iff_eq, beq_iff_eq]; omega
      rw [hz]
      by_cases hc : (cnt N L (lab N L 0) i == 0) = true
      · rw [if_pos hc, if_pos hc, zCL (by simp; omega)]
        exact ⟨rfl, by simp; omega⟩
      · rw [if_neg hc, if_neg hc]
        exact ⟨rfl, by omega⟩
    · intro s _
      rw [zDg]
      unfold zDV
      simp
theorem zQW (h : zEm N L) : zDm ((N : Int), L) = some (zKZ N L, zZ0 N L) := by
  have hN := h.hN
  unfold zDm
  simp only
  rw [zVU 3 hN, zWD (by omega)]
  simp only [Option.bind_some]
  rw [grp_L1 h]
  simp only [Option.bind_some]
  obtain ⟨Q0, hQ0, h2⟩ := grp_L2 h
  rw [h2, ← zTy (N := N) (L := L)]
  simp only [Option.bind_some]
  have hstep : ∀ k, k ≤ N → ∀ Q, zLi N L k Q → (Q = [] ∧ zBX ((N : Int), L) (lb N L k, rn N L k, Q, ((k + 1 : Nat) : Int), zBr 40 fun j => (cnt N L (lab N L k) j : Int)) = some (.inr (lb N L k, rn N L k))) ∨
      ∃ Q', zLi N L (k + 1) Q' ∧ zBX ((N : Int), L) (lb N L k, rn N L k, Q, ((k + 1 : Nat) : Int), zBr 40 fun j => (cnt N L (lab N L k) j : Int)) = some (.inl (lb N L (k + 1), rn N L (k + 1), Q', ((k + 2 : Nat) : Int), zBr 40 fun j => (cnt N L (lab N L (k + 1)) j : Int))) := by
    intro k hk Q hQ
    by_cases he : Q = []
    · subst he
      refine .inl ⟨rfl, ?_⟩
      unfold zBX
      simp [len]
    · obtain ⟨Q', hQ', h5⟩ := grp_L5 h (k := k) (by omega) hQ (lb N L k) (rn N L k) (zBr 40 fun j => (cnt N L (lab N L k) j : Int))
      refine .inr ⟨Q', hQ', ?_⟩
      have hd : decide (0 < len Q) = true := decide_eq_true (by have := List.length_pos_iff.2 he; simp only [len]; omega)
      unfold zBX
      simp only [hd, if_true]
      rw [grp_L4 h hQ]
      simp only [Option.bind_some]
      rw [h5]
  have hl := zVA (B := zBX ((N : Int), L)) (fun (Q : List Int) k => (lb N L k, rn N L k, Q, ((k + 1 : Nat) : Int), zBr 40 fun j => (cnt N L (lab N L k) j : Int))) N (fun k Q => zLi N L k Q) (fun r => r = (zKZ N L, zZ0 N L)) ?_ ?_ Q0 hQ0
  · obtain ⟨r, h1, rfl⟩ := hl
    exact h1
  · intro k Q hk hQ
    rcases hstep k (by omega) Q hQ with ⟨he, h1⟩ | ⟨Q', hQ', h1⟩
    · subst he
      have hno : ∀ i, ¬ zPL N L k i := fun i hi => by have := (hQ.mem i).2 hi; cases this
      obtain ⟨e1, e2⟩ := zYd (by omega) hno
      exact .inr ⟨_, h1, by rw [e1, e2]⟩
    · exact .inl ⟨Q', h1, hQ'⟩
  · intro Q hQ
    rcases hstep N (Nat.le_refl _) Q hQ with ⟨he, h1⟩ | ⟨Q', hQ', h1⟩
    · subst he
      have hno : ∀ i, ¬ zPL N L N i := fun i => zU6 N L
      obtain ⟨e1, e2⟩ := zYd (Nat.le_refl _) hno
      exact ⟨_, h1, by rw [e1, e2]⟩
    · exfalso
      have hne : Q ≠ [] := by
        intro e
        subst e
        unfold zBX at h1
        simp [len] at h1
      obtain ⟨x, hx⟩ := List.exists_mem_of_ne_nil Q hne
      obtain ⟨h3, _⟩ := hQ.rg x hx
      obtain ⟨i, rfl⟩ := Int.eq_ofNat_of_zero_le h3
      exact zU6 N L ((hQ.mem i).1 hx)
theorem zM0 (h : zEm N L) : zDD ((N : Int), L) = some (zKZ N L) := by
  unfold zDD
  rw [zQW h]
  rfl
end
end
section
variable {b : zAF} {l : List zAA} {D : List zAB} {c : Nat}
theorem zGQ.runsA (h : zGQ b l) (hs : zKg b D c) : zZO b l := Go.GD.zYg h.toFormB (runSz hs h)
noncomputable def zLe (b : zAF) (l : List zAA) (f : Int) (q : Int) (r : zAL) (ys : List zAB) (s : List Int) : List zAA :=
  ((chS l l.length ys s).filter fun s => s.any (fun k => decide (f ≤ k)) && zC0 b l q r s).map fun s => (-1, q, s, r.2.2.2.2)
theorem zV6 {f q : Int} {r : zAL} {s : List Int} : zLe b l f q r [] s = if s.any (fun k => decide (f ≤ k)) && zC0 b l q r s then [(-1, q, s, r.2.2.2.2)] else [] := by
  unfold zLe
  simp only [chS, List.filter_cons, List.filter_nil]
  split <;> rfl
theorem zTG {f q : Int} {r : zAL} {y : zAB} {ys : List zAB} {s : List Int} : zLe b l f q r (y :: ys) s = (rng l.length).flatMap fun i => match idx l i with | some a => if a.2.2.2 == y then zLe b l f q r ys (s ++ [i]) else [] | none => [] := by
  unfold zLe
  simp only [chS, List.filter_flatMap, List.map_flatMap]
  congr 1
  funext i
  cases idx l i with
  | none => rfl
  | some a =>
    dsimp only
    split <;> rfl
def Cut (l new h res : List zAA) : Prop := res = (new ++ h).take (41 - l.length)
theorem zRh {α : Type} (n : Nat) (x y : List α) : (x.take n ++ y).take n = (x ++ y).take n := by
  by_cases h : x.length ≤ n
  · rw [List.take_of_length_le h]
  · rw [List.take_append_of_le_length (by rw [List.length_take]; omega), List.take_append_of_le_length (by omega), List.take_take, Nat.min_self]
theorem Cut.nil {new : List zAA} (h : l.length + new.length ≤ 41) : Cut l new [] new := by
  unfold Cut
  rw [List.append_nil, List.take_of_length_le (by omega)]
theorem Cut.trans {new h1 r1 h2 r2 : List zAA} (a : Cut l new h1 r1) (b : Cut l r1 h2 r2) : Cut l new (h1 ++ h2) r2 := by
  unfold Cut at a b ⊢
  rw [b, a, zRh, List.append_assoc]
theorem Cut.le {new h res : List zAA} (hl : l.length ≤ 41) (a : Cut l new h res) : l.length + res.length ≤ 41 := by
  unfold Cut at a
  rw [a, List.length_take]
  omega
theorem Cut.stay {new h : List zAA} (hf : l.length + new.length = 41) : Cut l new h new := by
  unfold Cut
  rw [List.take_append_of_le_length (by omega), List.take_of_length_le (by omega)]
theorem Cut.all {new h : List zAA} (hf : l.length + new.length + h.length ≤ 41) : Cut l new h (new ++ h) := by
  unfold Cut
  rw [List.take_of_length_le (by rw [List.length_append]; omega)]
theorem zT1 (b : zAF) (l new : List zAA) (f : Int) (h1 : l.length ≤ 100) (h2 : new.length ≤ 100) : zBS (b, l, new, f) = some (decide (40 < l.length + new.length)) := by
  unfold zBS
  simp only [len]
  rw [zER (by omega) (by omega)]
  refine congrArg some (decide_eq_decide.2 ?_)
  omega
theorem zWg {s : List Int} (h : s.length < 4294967296) : zEA s = some s := by
  simp [zEA, zCL (l := ([] : List Int)) (m := s) (by simpa using h)]
theorem zSb (s : List Int) (b : zAF) (l new : List zAA) (f : Int) (h : s.length < 1000000) : zAN s (b, l, new, f) = some (s.any fun k => decide (f ≤ k)) := by
  unfold zAN zAS
  obtain ⟨r, h1, h2⟩ := zBF (B := zA0 s (b, l, new, f)) (fun i (_ : Unit) => (i : Int)) s (fun i _ => ∀ (j : Nat) k, j < i → s[j]? = some k → ¬ f ≤ k) (fun r => decide (0 ≤ r) = s.any fun k => decide (f ≤ k)) (fun i k _ hi hI => by
    unfold zA0 zDf
    simp only [zAs hi, if_true, zAp hi, Option.bind_some, zAt hi (show s.length < 4294967296 by omega)]
    by_cases hk : f ≤ k
    · simp only [hk, decide_true, if_true]
      refine .inr ⟨(i : Int), rfl, ?_⟩
      have : (s.any fun k => decide (f ≤ k)) = true := List.any_eq_true.2 ⟨k, zBg hi, by simpa using hk⟩
      rw [this]
      exact decide_eq_true (by omega)
    · simp only [hk, decide_false, Bool.false_eq_true, if_false]
      exact .inl ⟨(), by trivial, fun j x hj hx => by
        by_cases hji : j = i
        · subst hji; rw [hi] at hx; cases hx; exact hk
        · exact hI j x (by omega) hx⟩) (fun _ hI => ⟨-1, by
    unfold zA0
    simp only [zBM, Bool.false_eq_true, if_false], by
    have : (s.any fun k => decide (f ≤ k)) = false := by
      rw [List.any_eq_false]
      intro k hk
      obtain ⟨j, hj⟩ := List.mem_iff_getElem?.1 hk
      simpa using hI j k (zCU hj) hj
    rw [this]
    rfl⟩) () (fun j k hj => by omega)
  rw [show ((0 : Nat) : Int) = 0 from rfl] at h1
  rw [h1]
  simp only [Option.bind_some, h2]
theorem zTt (hs : zKg b D c) (h : zGQ b l) (hl : l.length ≤ 40) {f : Int} {q : Int} {r : zAL} (hr : idx b.2.1 q = some r) : ∀ (k : Nat) (ys : List zAB) (s : List Int) (new : List zAA), ys = r.2.2.2.1.drop s.length → s.length ≤ r.2.2.2.1.length → ys.length < k → (∀ k ∈ s, 0 ≤ k ∧ k < l.length) → l.length + new.length ≤ 41 →
    ∃ res, zAj k (b, l, new, f) q s = some res ∧ Cut l new (zLe b l f q r ys s) res := by
  have hb := hs.body hr
  intro k
  induction k with
  | zero => intro ys _ _ _ _ hk; omega
  | succ k ih =>
    intro ys s new hys hsl hk hsub hnew
    show ∃ res, zBP (zAj k) (b, l, new, f) q s = some res ∧ _
    unfold zBP
    simp only [hr, Option.bind_some, zT1 b l new f (by omega) (by omega)]
    by_cases hf : 40 < l.length + new.length
    · simp only [hf, decide_true, if_true]
      exact ⟨new, rfl, Cut.stay (by omega)⟩
    · simp only [hf, decide_false, Bool.false_eq_true, if_false]
      cases ys with
      | nil =>
        have hlen : s.length = r.2.2.2.1.length := by
          have := congrArg List.length hys
          simp at this
          omega
        have hd : decide (len s < len r.2.2.2.1) = false := by simp [len]; omega
        simp only [hd, Bool.false_eq_true, if_false, zBE, Option.bind_some]
        rw [zSb s b l new f (by omega), zV6]
        simp only [Option.bind_some]
        rw [zUn h.toFormC (h.runsA hs) hr hsub (by omega)]
        cases h1 : s.any fun k => decide (f ≤ k) with
        | false =>
          simp only [Bool.false_eq_true, if_false, Option.bind_some, Bool.false_and]
          exact ⟨new, rfl, Cut.nil hnew⟩
        | true =>
          simp only [if_true, Option.bind_some, Bool.true_and]
          cases h2 : zC0 b l q r s with
          | false =>
            simp only [Bool.false_eq_true, if_false]
            exact ⟨new, rfl, Cut.nil hnew⟩
          | true =>
            simp only [if_true]
            rw [zCL (by simp; omega)]
            exact ⟨_, rfl, Cut.all (by simp only [List.length_singleton]; omega)⟩
      | cons y ys =>
        have hlen : s.length < r.2.2.2.1.length := by
          have := congrArg List.length hys
          simp at this
          omega
        have hd : decide (len s < len r.2.2.2.1) = true := by simp [len]; omega
        have hy : r.2.2.2.1[s.length]? = some y := by
          have := congrArg (fun l => l[0]?) hys
          simpa using this.symm
        have hys2 : ys = r.2.2.2.1.drop (s.length + 1) := by
          have := congrArg List.tail hys
          simpa using this
        have hix : idx r.2.2.2.1 (len s) = some y := by rw [show len s = ((s.length : Nat) : Int) from rfl, zC8]; exact hy
        simp only [hd, if_true]
        have hloop := zBF (B := zAz (b, l, new, f) r s (zAj k) q) (fun i (t : List zAA) => ((i : Int), t)) (rng l.length)
          (fun i t => Cut l new (((rng l.length).take i).flatMap fun i => match idx l i with | some a => if a.2.2.2 == y then zLe b l f q r ys (s ++ [i]) else [] | none => []) t)
          (fun res => ∃ t, res = .inr t ∧ Cut l new (zLe b l f q r (y :: ys) s) t) (fun i x t hi hI => .inl ?_) (fun t hI => ?_) new (Cut.nil hnew)
        · obtain ⟨res, h1, t, h2, h3⟩ := hloop
          rw [show ((0 : Nat) : Int) = 0 from rfl] at h1
          subst h2
          exact ⟨t, by rw [h1]; rfl, h3⟩
        · obtain ⟨rfl, hin⟩ := zNd hi
          obtain ⟨a, ha⟩ := zHc (l := l) (j := (i : Int)) (by omega) (by omega)
          have hdl : decide ((i : Int) < len l) = true := by simp [len]; omega
          have ht := hI.le (by omega)
          unfold zAz
          simp only [hdl, if_true, ha, Option.bind_some, hix, zAg i (by omega)]
          rw [zB7 hi, List.flatMap_append, List.flatMap_singleton, ha]
          dsimp only
          cases hc : a.2.2.2 == y with
          | false =>
            simp only [Bool.false_eq_true, if_false, List.append_nil]
            exact ⟨t, rfl, hI⟩
          | true =>
            simp only [if_true]
            rw [zWg (by omega)]
            simp only [Option.bind_some]
            rw [zCL (by simp; omega)]
            simp only [Option.bind_some]
            obtain ⟨res, e1, e2⟩ := ih ys (s ++ [(i : Int)]) t (by simpa using hys2) (by simp; omega) (by simp at hk; omega) (fun k hk => by
              rcases List.mem_append.1 hk with hk | hk
              · exact hsub k hk
              · simp only [List.mem_singleton] at hk; subst hk; omega) ht
            rw [e1]
            exact ⟨res, rfl, hI.trans e2⟩
        · refine ⟨_, ?_, t, rfl, ?_⟩
          · unfold zAz
            have hdl : decide (((rng l.length).length : Int) < len l) = false := by rw [zDg]; simp [len]
            simp only [hdl, Bool.false_eq_true, if_false]
          · rw [zTG]
            rw [List.take_length] at hI
            exact hI
theorem zWK (hs : zKg b D c) (h : zGQ b l) (hl : l.length ≤ 40) {f : Int} {q : Int} {r : zAL} (hr : idx b.2.1 q = some r) (new : List zAA) (hnew : l.length + new.length ≤ 41) :
    zBQ (b, l, new, f) q [] = some ((new ++ zLe b l f q r r.2.2.2.1 []).take (41 - l.length)) :=
  zMb 5 fun k hk => by
    obtain ⟨res, h1, h2⟩ := zTt hs h hl hr k r.2.2.2.1 [] new (f := f) (by simp) (by simp) (by have := hs.body hr; omega) (by simp) hnew
    rw [h1, h2]
theorem zWC {f : Int} {first : Bool} {q : Int} {r : zAL} (hr : idx b.2.1 q = some r) : zG2 b l f first q = if r.2.2.2.1 = [] then (if first then [(-1, q, [], r.2.2.2.2)] else []) else zLe b l f q r r.2.2.2.1 [] := by
  unfold zG2 zLe
  rw [hr]
  dsimp only
  split
  · rename_i hb
    rw [hb]
    simp only [chS, List.filter_cons, List.filter_nil]
    cases first <;> simp [zNo, zC0]
  · rename_i hb
    congr 1
    refine List.filter_congr fun s hs => ?_
    obtain ⟨t, ht, htl, _⟩ := (zMo l l.length r.2.2.2.1 [] s).1 hs
    rw [List.nil_append] at ht
    subst ht
    unfold zNo
    have : s.isEmpty = false := by
      cases s with
      | nil => exact absurd (List.eq_nil_of_length_eq_zero htl.symm) hb
      | cons _ _ => rfl
    rw [this, Bool.and_false, Bool.or_false]
theorem zSC (h : zJM b) : zAm (zDR b) (0, ([] : List zAA)) = some (zMO b) := by
  have hn := h.np
  have hl := zKG b
  have := (zQq (B := zDR b) (zMO b) (fun s a => s ++ [a]) (fun s => s) (fun i s => s.length ≤ i) [] (by simp) (fun i a s hi hs => by
    obtain ⟨p, hp, rfl⟩ := zJn hi
    have hlt := zCU hp
    refine ⟨?_, by simp; omega⟩
    unfold zDR
    simp only [zAs hp, if_true, zAp hp, Option.bind_some]
    rw [zCL (by simp; omega)]
    simp only [Option.bind_some, zAt hp (by omega)]) (fun s _ => by
    unfold zDR
    rw [hl]
    simp only [zBM, Bool.false_eq_true, if_false])).1
  rw [this]
  have := zId (fun a : zAA => a) (zMO b) []
  simpa using this
theorem zSt (hs : zKg b D c) (h : zGQ b l) (hl : l.length ≤ 40) {f : Int} {r : Nat} (hr0 : 1 ≤ r) (hr : r < 1000) (z : List zAA) :
    ∃ res, zAm (zCH b ((r : Int), l, z, f)) (0, []) = some res ∧
      (if 40 < (l ++ zCm b l f (decide (r ≤ 1))).length then ∃ x, res = .inr (.inr (l, x, f)) ∧ l.length + x.length = 41 else res = .inl (zCm b l f (decide (r ≤ 1)))) := by
  have hnr := hs.valid.nr
  have hone : ((r : Int) == 1) = decide (r ≤ 1) := by
    rw [Bool.eq_iff_iff]
    simp only [beq_iff_eq, decide_eq_true_eq]
    omega
  refine zBF (B := zCH b ((r : Int), l, z, f)) (fun i (t : List zAA) => ((i : Int), t)) (rng b.2.1.length)
    (fun i t => t = ((rng b.2.1.length).take i).flatMap (zG2 b l f (decide (r ≤ 1))) ∧ l.length + t.length ≤ 40)
    (fun res => if 40 < (l ++ zCm b l f (decide (r ≤ 1))).length then ∃ x, res = .inr (.inr (l, x, f)) ∧ l.length + x.length = 41 else res = .inl (zCm b l f (decide (r ≤ 1)))) (fun i x t hi hI => ?_) (fun t hI => ?_) [] ⟨by simp, by simpa using hl⟩
  · obtain ⟨rfl, hin⟩ := zNd hi
    obtain ⟨ru, hru⟩ := zHc (l := b.2.1) (j := (i : Int)) (by omega) (by omega)
    have hd : decide ((i : Int) < len b.2.1) = true := by simp [len]; omega
    obtain ⟨hI1, hI2⟩ := hI
    have hnext : ((rng b.2.1.length).take (i + 1)).flatMap (zG2 b l f (decide (r ≤ 1))) = t ++ zG2 b l f (decide (r ≤ 1)) i := by
      rw [zB7 hi, List.flatMap_append, List.flatMap_singleton, ← hI1]
    have hpart : (t ++ zG2 b l f (decide (r ≤ 1)) i).length ≤ (zCm b l f (decide (r ≤ 1))).length := by
      rw [← hnext]
      unfold zCm
      conv => rhs; rw [← List.take_append_drop (i + 1) (rng b.2.1.length), List.flatMap_append]
      rw [List.length_append]
      omega
    have hs7 : (if decide (0 < len ru.2.2.2.1) = true then (zBQ (b, l, t, f) i []).bind fun r2 => some r2
        else if ((r : Int) == 1) = true then (app t [((-1 : Int), (i : Int), ([] : List Int), ru.2.2.2.2)]).bind fun x4 => some x4 else some t) = some ((t ++ zG2 b l f (decide (r ≤ 1)) i).take (41 - l.length)) := by
      rw [zWC hru, hone]
      by_cases hb : ru.2.2.2.1 = []
      · have hd0 : decide (0 < len ru.2.2.2.1) = false := by rw [hb]; rfl
        rw [if_pos hb]
        simp only [hd0, Bool.false_eq_true, if_false]
        cases hr1 : decide (r ≤ 1) with
        | true =>
          simp only [if_true]
          rw [zCL (by simp; omega)]
          simp only [Option.bind_some]
          rw [List.take_of_length_le (by simp; omega)]
        | false =>
          simp only [Bool.false_eq_true, if_false, List.append_nil]
          rw [List.take_of_length_le (by omega)]
      · have hd0 : decide (0 < len ru.2.2.2.1) = true := by
          have := List.length_pos_iff.2 hb
          simp [len]; omega
        rw [if_neg hb]
        simp only [hd0, if_true]
        rw [zWK hs h hl hru t (by omega)]
        rfl
    unfold zCH
    simp only [hd, if_true, hru, Option.bind_some]
    rw [hs7]
    simp only [Option.bind_some]
    rw [zT1 b l _ f (by omega) (by rw [List.length_take]; omega)]
    simp only [Option.bind_some, zAg i (by omega)]
    by_cases hlim : 40 < l.length + (t ++ zG2 b l f (decide (r ≤ 1)) i).length
    · have hx : l.length + ((t ++ zG2 b l f (decide (r ≤ 1)) i).take (41 - l.length)).length = 41 := by rw [List.length_take]; omega
      have hd4 : decide (40 < l.length + ((t ++ zG2 b l f (decide (r ≤ 1)) i).take (41 - l.length)).length) = true := by simp only [decide_eq_true_eq]; omega
      simp only [hd4, if_true]
      refine .inr ⟨_, rfl, ?_⟩
      rw [if_pos (by rw [List.length_append]; omega)]
      exact ⟨_, rfl, hx⟩
    · have hx : (t ++ zG2 b l f (decide (r ≤ 1)) i).take (41 - l.length) = t ++ zG2 b l f (decide (r ≤ 1)) i := List.take_of_length_le (by omega)
      rw [hx]
      have hd4 : decide (40 < l.length + (t ++ zG2 b l f (decide (r ≤ 1)) i).length) = false := by simp only [decide_eq_false_iff_not]; omega
      simp only [hd4, Bool.false_eq_true, if_false]
      exact .inl ⟨_, rfl, hnext.symm, by omega⟩
  · obtain ⟨hI1, hI2⟩ := hI
    rw [List.take_length] at hI1
    have : t = zCm b l f (decide (r ≤ 1)) := hI1
    unfold zCH
    have hd : decide (((rng b.2.1.length).length : Int) < len b.2.1) = false := by rw [zDg]; simp [len]
    simp only [hd, Bool.false_eq_true, if_false]
    refine ⟨_, rfl, ?_⟩
    rw [if_neg (by rw [List.length_append, ← this]; omega), this]
theorem zSp (hs : zKg b D c) : ∀ (k : Nat) (l z : List zAA) (f : Int) (r : Nat), zGQ b l → l.length ≤ 40 → 41 ≤ l.length + k → r + k ≤ 900 → 1 ≤ r →
    ∃ l' x' f', zAm (zBC b) ((r : Int), l, z, f) = some (l', x', f') ∧ l'.length ≤ 100 ∧ x'.length ≤ 100 ∧
      match zLJ b k l f (decide (r ≤ 1)) with | none => 40 < l'.length + x'.length | some y => l' = y ∧ x' = [] ∧ y.length ≤ 40 := by
  intro k
  induction k with
  | zero => intros; omega
  | succ k ih =>
    intro l z f r h hl hk hr h1
    obtain ⟨res, e1, e2⟩ := zSt hs h hl (f := f) h1 (by omega) z
    unfold zLJ
    by_cases hlim : 40 < (l ++ zCm b l f (decide (r ≤ 1))).length
    · rw [if_pos hlim] at e2
      obtain ⟨x, rfl, hx⟩ := e2
      refine ⟨l, x, f, ?_, by omega, by omega, ?_⟩
      · have hstep : zBC b ((r : Int), l, z, f) = some (.inr (l, x, f)) := by
          unfold zBC
          rw [e1]
          rfl
        rw [zBL, hstep]
      · rw [if_pos hlim]
        dsimp only
        omega
    · rw [if_neg hlim] at e2
      subst e2
      by_cases hn : zCm b l f (decide (r ≤ 1)) = []
      · refine ⟨l, [], f, ?_, by omega, by simp, ?_⟩
        · have hstep : zBC b ((r : Int), l, z, f) = some (.inr (l, [], f)) := by
            unfold zBC
            rw [e1, hn]
            rfl
          rw [zBL, hstep]
        · rw [if_neg hlim, if_pos hn]
          exact ⟨rfl, rfl, hl⟩
      · rw [if_neg hlim, if_neg hn]
        have hpos : 0 < (zCm b l f (decide (r ≤ 1))).length := List.length_pos_iff.2 hn
        rw [List.length_append] at hlim
        obtain ⟨l', x', f', g1, g2, g3, g4⟩ := ih (l ++ zCm b l f (decide (r ≤ 1))) (zCm b l f (decide (r ≤ 1))) l.length (r + 1) (h.round hs (by rw [List.length_append]; omega)) (by rw [List.length_append]; omega) (by rw [List.length_append]; omega) (by omega) (by omega)
        rw [show decide (r + 1 ≤ 1) = false from by simp; omega] at g4
        refine ⟨l', x', f', ?_, g2, g3, g4⟩
        have hstep : zBC b ((r : Int), l, z, f) = some (.inl (((r + 1 : Nat) : Int), l ++ zCm b l f (decide (r ≤ 1)), zCm b l f (decide (r ≤ 1)), (l.length : Int))) := by
          unfold zBC
          rw [e1]
          simp only [zBE, Option.bind_some]
          have hl0 : ((len (zCm b l f (decide (r ≤ 1)))) == 0) = false := by simp only [len, beq_eq_false_iff_ne]; omega
          simp only [hl0, Bool.false_eq_true, if_false]
          rw [zCL (by omega)]
          simp only [Option.bind_some, zAg r (by omega)]
        rw [zBL, hstep]
        exact g1
theorem zVm (hs : zKg b D c) : zCY b = some (zZ4 (zM5 b)) := by
  unfold zCY
  rw [zTo (zIP hs.valid), zMI.2 hs.valid]
  simp only [Option.bind_some, bne_self_eq_false, Bool.false_eq_true, if_false]
  rw [zSC hs.valid]
  have hn := hs.valid.np
  obtain ⟨l', x', f', g1, g2, g3, g4⟩ := zSp hs 50 (zMO b) [] 0 1 (zOP hs.valid) (by rw [zKG]; omega) (by omega) (by omega) (by omega)
  rw [show ((1 : Nat) : Int) = 1 from rfl] at g1
  simp only [Option.bind_some, g1]
  rw [zT1 b l' x' f' g2 g3]
  simp only [Option.bind_some]
  unfold zM5
  rw [show decide (1 ≤ 1) = true from rfl] at g4
  cases hb : zLJ b 50 (zMO b) 0 true with
  | none =>
    rw [hb] at g4
    dsimp only at g4
    simp only [g4, decide_true, if_true]
    rfl
  | some y =>
    rw [hb] at g4
    obtain ⟨rfl, rfl, g5⟩ := g4
    have hd : decide (40 < l'.length + ([] : List zAA).length) = false := by simp; omega
    simp only [hd, Bool.false_eq_true, if_false]
    rfl
theorem zQ5 (hc : Cnt3 b) (h : ¬ zJM b) : zCY b = some ([], zLE b) := by
  unfold zCY
  rw [zO1 hc]
  have : (zLE b != 0) = true := by
    rw [bne_iff_ne]
    exact fun h' => h (zMI.1 h')
  simp only [Option.bind_some, this, if_true]
end
section
variable {b : zAF} {l m : List zAA} {D : List zAB} {c : Nat}
theorem FormC.pre (h : FormC b (l ++ m)) : FormC b l := by
  have key : ∀ (i : Nat) a, l[i]? = some a → (l ++ m)[i]? = some a := fun i a ha => by rw [List.getElem?_append_left (zCU ha)]; exact ha
  have hl := h.len
  have hl41 := h.l41
  rw [List.length_append] at hl hl41
  refine ⟨⟨⟨by omega, fun a ha => h.nsub a (List.mem_append_left _ ha), fun i a ha => h.sub i a (key i a ha)⟩, h.np, h.nr, fun i a ha => h.kind i a (key i a ha)⟩, by omega, fun i a p ha => h.pr i a p (key i a ha), fun i a r ha h0 hr => ?_⟩
  obtain ⟨g1, g2, g3⟩ := h.ru i a r (key i a ha) h0 hr
  refine ⟨g1, g2, fun j k y hk hy => ?_⟩
  obtain ⟨a', e1, e2⟩ := g3 j k y hk hy
  have := h.sub i a (key i a ha) k (zBg hk)
  have hi := zCU ha
  rw [zIl (by omega)] at e1
  exact ⟨a', e1, e2⟩
theorem zGQ.pre (h : zGQ b (l ++ m)) : zGQ b l := by
  refine ⟨h.toFormC.pre, fun i a r ha h0 hr => ?_⟩
  have hi := zCU ha
  have hk : (l ++ m)[i]? = some a := by rw [List.getElem?_append_left hi]; exact ha
  rw [← zKB h.toFormC.pre h.toFormC fun k hk2 => by have := h.sub i a hk k hk2; omega]
  exact h.cut i a r hk h0 hr
theorem zGQ.take (h : zGQ b l) (n : Nat) : zGQ b (l.take n) := by
  rw [← List.take_append_drop n l] at h
  exact h.pre
end
section
variable {b : zAF} {l : List zAA}
theorem zXN (h : zJM b) (hr : b.2.1.length ≤ 12) : zKg b (b.2.1.map fun r => r.2.2.2.2) 4 := by
  refine ⟨h, fun r hr => ⟨List.mem_map.2 ⟨r, hr, rfl⟩, zNc (h.rule r hr)⟩, ?_⟩
  rw [List.length_map]
  calc (4 + 1) ^ b.2.1.length ≤ 5 ^ 12 := Nat.pow_le_pow_right (by omega) hr
    _ < 4294967296 := by decide
theorem zPO (h : zJM b) (hr : b.2.1.length ≤ 12) {x : List zAA} (hx : zM5 b = some x) : zGQ b x ∧ x.length ≤ 40 :=
  zPq (zXN h hr) 50 (zMO b) 0 true x (zOP h) (by rw [zKG]; have := h.np; omega) hx
theorem FormC.nil (hp : b.1.length ≤ 100) (hr : b.2.1.length ≤ 100) : FormC b [] :=
  ⟨⟨⟨by simp, by simp, by simp⟩, hp, hr, by simp⟩, by simp, by simp, by simp⟩
theorem zU1 (h : l.length ≤ 100) (o : zAP) : (zGL b l o).length ≤ 3000000 := Nat.le_trans (List.length_filter_le _ _) (zPn h)
def ords : List zAP := [(1, 1), (1, 2), (2, 1), (2, 2)]
theorem zQY : zIW = some ords := rfl
end
section
variable {b : zAF} {l : List zAA}
theorem zUe (h : zJM b) (hr : b.2.1.length ≤ 12) : zKg b (b.2.1.map fun r => r.2.2.2.2) 4 := by
  refine ⟨h, fun r hr => ⟨List.mem_map.2 ⟨r, hr, rfl⟩, zNc (h.rule r hr)⟩, ?_⟩
  rw [List.length_map]
  calc (4 + 1) ^ b.2.1.length ≤ 5 ^ 12 := Nat.pow_le_pow_right (by omega) hr
    _ < 4294967296 := by decide
end
section
variable {b : zAF} {l : List zAA}
theorem zVa {i : Int} (h : ¬ (0 ≤ i ∧ i < l.length)) : zAx l i = some false := by
  unfold zAx
  congr 1
  rw [Bool.and_eq_false_iff]
  by_cases h0 : 0 ≤ i
  · exact .inr (by simp [len]; omega)
  · exact .inl (by simpa using h0)
def zQg (l : List zAA) (i : Int) : List zAB := match idx l i with | some a => [a.2.2.2] | none => []
theorem zZX {α : Type} {l : List α} {i : Int} (h : ¬ (0 ≤ i ∧ i < l.length)) : idx l i = none := by
  unfold idx
  split
  · rename_i h0
    exact List.getElem?_eq_none (by omega)
  · rfl
theorem zPr (is : List Int) : (is.flatMap (zQg l)).length ≤ is.length * 1 := zKb (zQg l) 1 is fun i _ => by
  unfold zQg
  split <;> simp
theorem zLj (is : List Int) (h : is.length < 1000000) : zB4 l is = some (nrm zDC (is.flatMap (zQg l))) := by
  unfold zB4
  have hloop := zJC (B := zCd is l) is (zQg l) (fun s => s) 1 (fun i _ => by unfold zQg; split <;> simp) [] (fun i x s hi hs => by
    have hlt := zCU hi
    unfold zCd zQg
    simp only [zAs hi, if_true, zAp hi, Option.bind_some, zAt hi (show is.length < 4294967296 by omega)]
    by_cases hin : 0 ≤ x ∧ x < l.length
    · obtain ⟨a, ha⟩ := zHc (l := l) hin.1 hin.2
      have : zAx l x = some true := by
        unfold zAx
        congr 1
        rw [Bool.and_eq_true]
        exact ⟨by simpa using hin.1, by simpa [len] using hin.2⟩
      simp only [this, Option.bind_some, if_true, ha]
      rw [zCL (by simp at hs ⊢; omega)]
      rfl
    · simp only [zVa hin, Option.bind_some, Bool.false_eq_true, if_false, zZX hin, List.append_nil]) (fun s => by
    unfold zCd
    simp only [zBM, Bool.false_eq_true, if_false])
  rw [hloop]
  have hl := zPr (l := l) is
  simp only [Option.bind_some, List.nil_append]
  rw [zQx (by omega)]
  rfl
end
section
theorem zSz (l : List Int) (h : l.length < 4294967296) : zJd l l = some true := by
  unfold zJd
  simp only [bne_self_eq_false, Bool.false_eq_true, if_false]
  exact zUP (l := l) (fun i x hx => by
    have := (List.getElem?_eq_some_iff.1 hx).1
    unfold zIr
    simp only [zQH hx, if_true, zC8, hx, Option.bind_some, bne_self_eq_false, Bool.false_eq_true, if_false, zAg i (by omega)]) (by
    unfold zIr
    simp only [zOH, Bool.false_eq_true, if_false])
theorem zS7 (l : List zAA) (h : l.length < 4294967296) (hs : ∀ a ∈ l, a.2.2.1.length < 4294967296) : zIH l l = some true := by
  unfold zIH
  simp only [bne_self_eq_false, Bool.false_eq_true, if_false]
  exact zUP (l := l) (fun i x hx => by
    have := (List.getElem?_eq_some_iff.1 hx).1
    unfold zJU
    simp only [zQH hx, if_true, zC8, hx, Option.bind_some, bne_self_eq_false, Bool.false_eq_true, if_false, beq_self_eq_true, Bool.not_true, zSz _ (hs x (List.mem_of_getElem? hx)), zAg i (by omega)]) (by
    unfold zJU
    simp only [zOH, Bool.false_eq_true, if_false])
end
section
open Classical in
theorem zRS {α ρ : Type} {B : Int → Option (Int ⊕ ρ)} (l m : List α) (hlen : l.length = m.length) (yes no : ρ)
    (hB : ∀ (i : Nat) x y, l[i]? = some x → m[i]? = some y → B (i : Int) = some (if x = y then .inl ((i + 1 : Nat) : Int) else .inr no)) (he : B (l.length : Int) = some (.inr yes)) :
    zAm B 0 = some (if l = m then yes else no) := by
  have h := zUb (B := B) (fun i => l.length - i.toNat) (fun i => ∃ k : Nat, i = k ∧ k ≤ l.length ∧ l.take k = m.take k) (fun r => r = if l = m then yes else no) ?_ 0 ⟨0, rfl, by omega, by simp⟩
  · obtain ⟨r, h1, rfl⟩ := h
    exact h1
  · rintro i ⟨k, rfl, hk, ht⟩
    by_cases hkl : k = l.length
    · subst hkl
      refine .inr ⟨yes, he, ?_⟩
      rw [List.take_of_length_le (Nat.le_refl _), List.take_of_length_le (by omega)] at ht
      rw [if_pos ht]
    · have hx : l[k]? = some l[k] := List.getElem?_eq_getElem (by omega)
      have hy : m[k]? = some m[k] := List.getElem?_eq_getElem (by omega)
      have := hB k _ _ hx hy
      by_cases hxy : l[k] = m[k]
      · rw [if_pos hxy] at this
        refine .inl ⟨_, this, ⟨k + 1, rfl, by omega, ?_⟩, by simp; omega⟩
        rw [List.take_add_one, List.take_add_one, ht, hx, hy, hxy]
      · rw [if_neg hxy] at this
        refine .inr ⟨no, this, ?_⟩
        rw [if_neg fun e => hxy (by subst e; rfl)]
open Classical in
theorem zTD {a : zAF} (b : zAF) (h : Cnt a) : zIB a b = some (decide (a = b)) := by
  unfold zIB
  by_cases hl : a.1.length = b.1.length ∧ a.2.1.length = b.2.1.length ∧ a.2.2.length = b.2.2.length
  · obtain ⟨l1, l2, l3⟩ := hl
    have e0 : ((len a.1) != (len b.1) || ((len a.2.1) != (len b.2.1) || (len a.2.2) != (len b.2.2))) = false := by simp [len, l1, l2, l3]
    rw [e0]
    simp only [Bool.false_eq_true, if_false]
    have h1 := h.p
    have h2 := h.r
    have h3 := h.m
    rw [zRS a.1 b.1 l1 (.inl ()) (.inr false) (fun i x y hx hy => by
      have hi := (List.getElem?_eq_some_iff.1 hx).1
      unfold zJQ
      have : decide ((i : Int) < len a.1) = true := decide_eq_true (show (i : Int) < (a.1.length : Int) by omega)
      simp only [this, if_true, zC8, hx, hy, Option.bind_some, zAg i (by omega)]
      by_cases hxy : x = y <;> simp [hxy]) (by unfold zJQ; simp)]
    rw [zRS a.2.1 b.2.1 l2 (.inl ()) (.inr false) (fun i x y hx hy => by
      have hi := (List.getElem?_eq_some_iff.1 hx).1
      have hq := h.q x (List.mem_of_getElem? hx)
      unfold zJE
      have : decide ((i : Int) < len a.2.1) = true := decide_eq_true (show (i : Int) < (a.2.1.length : Int) by omega)
      simp only [this, if_true, zC8, hx, hy, Option.bind_some, zAg i (by omega)]
      obtain ⟨x1, x2, x3, x4, x5⟩ := x
      obtain ⟨y1, y2, y3, y4, y5⟩ := y
      simp only at hq
      rw [zYF x4 y4 (by omega)]
      by_cases c1 : x1 = y1 <;> by_cases c2 : x2 = y2 <;> by_cases c3 : x3 = y3 <;> by_cases c4 : x4 = y4 <;> by_cases c5 : x5 = y5 <;> simp [c1, c2, c3, c4, c5]) (by unfold zJE; simp)]
    rw [zRS a.2.2 b.2.2 l3 true false (fun i x y hx hy => by
      have hi := (List.getElem?_eq_some_iff.1 hx).1
      unfold zIs
      have : decide ((i : Int) < len a.2.2) = true := decide_eq_true (show (i : Int) < (a.2.2.length : Int) by omega)
      simp only [this, if_true, zC8, hx, hy, Option.bind_some, zAg i (by omega)]
      by_cases hxy : x = y <;> simp [hxy]) (by unfold zIs; simp)]
    obtain ⟨a1, a2, a3⟩ := a
    obtain ⟨b1, b2, b3⟩ := b
    by_cases c1 : a1 = b1 <;> by_cases c2 : a2 = b2 <;> by_cases c3 : a3 = b3 <;> simp [c1, c2, c3, zBE]
  · have e0 : ((len a.1) != (len b.1) || ((len a.2.1) != (len b.2.1) || (len a.2.2) != (len b.2.2))) = true := by
      by_cases l1 : a.1.length = b.1.length
      · by_cases l2 : a.2.1.length = b.2.1.length
        · have l3 : a.2.2.length ≠ b.2.2.length := fun l3 => hl ⟨l1, l2, l3⟩
          have : ((len a.2.2) != (len b.2.2)) = true := bne_iff_ne.2 (show (a.2.2.length : Int) ≠ b.2.2.length by omega)
          simp [this]
        · have : ((len a.2.1) != (len b.2.1)) = true := bne_iff_ne.2 (show (a.2.1.length : Int) ≠ b.2.1.length by omega)
          simp [this]
      · have : ((len a.1) != (len b.1)) = true := bne_iff_ne.2 (show (a.1.length : Int) ≠ b.1.length by omega)
        simp [this]
    rw [e0, if_pos rfl]
    have : a ≠ b := by rintro rfl; exact hl ⟨rfl, rfl, rfl⟩
    simp [this]
end
section
def zXP (y : List zAB) (r : zAL) (k : Int) (p : zAI) : Int := if (!r.2.1 && p.1 == r.1 && decide (p.2.2 ∈ y)) = true then p.2.1 else k
def rankS (ps : List zAI) (y : List zAB) (r : zAL) : Int := ps.foldl (zXP y r) r.2.2.1
def zVK (ps : List zAI) (y : List zAB) (r : zAL) : zAL := (r.1, r.2.1, rankS ps y r, r.2.2.2.1, r.2.2.2.2)
def zLQ (b : zAF) (y : List zAB) : zAF := (b.1, b.2.1.map (zVK b.2.2 y), b.2.2)
def upto (b : zAF) (y : List zAB) (i : Nat) : List zAL := (b.2.1.take i).map (zVK b.2.2 y) ++ b.2.1.drop i
theorem zUS (b : zAF) (y : List zAB) (i : Nat) : (upto b y i).length = b.2.1.length := by simp [upto]; omega
theorem zWh {b : zAF} {y : List zAB} {i : Nat} {r : zAL} (hr : b.2.1[i]? = some r) : (upto b y i)[i]? = some r := by
  have hi := (List.getElem?_eq_some_iff.1 hr).1
  unfold upto
  rw [List.getElem?_append_right (by simp; omega)]
  simp only [List.length_map, List.length_take, List.getElem?_drop]
  rw [show i + (i - min i b.2.1.length) = i by omega]
  exact hr
theorem zYE {b : zAF} {y : List zAB} {i : Nat} {r : zAL} (hr : b.2.1[i]? = some r) : (upto b y i).set i (zVK b.2.2 y r) = upto b y (i + 1) := by
  have hi := (List.getElem?_eq_some_iff.1 hr).1
  have h1 : ((b.2.1.take i).map (zVK b.2.2 y)).length = i := by simp; omega
  unfold upto
  rw [List.set_append_right _ _ (by omega), h1, Nat.sub_self, List.take_add_one, hr]
  have h2 : b.2.1.drop i = r :: b.2.1.drop (i + 1) := by
    rw [List.drop_eq_getElem_cons hi]
    congr 1
    rw [List.getElem?_eq_getElem hi] at hr
    exact Option.some.inj hr
  rw [h2]
  simp
theorem zU7 (b : zAF) (y : List zAB) : upto b y b.2.1.length = b.2.1.map (zVK b.2.2 y) := by simp [upto]
def mid (b : zAF) (y : List zAB) (i : Nat) (r : zAL) (k : Nat) : List zAL := (upto b y i).set i (r.1, r.2.1, (b.2.2.take k).foldl (zXP y r) r.2.2.1, r.2.2.2.1, r.2.2.2.2)
theorem zWe {b : zAF} {y : List zAB} {i : Nat} {r : zAL} (hr : b.2.1[i]? = some r) : mid b y i r b.2.2.length = upto b y (i + 1) := by
  unfold mid
  rw [List.take_of_length_le (Nat.le_refl _)]
  exact zYE hr
theorem zUT {b : zAF} {y : List zAB} {i : Nat} {r : zAL} : mid b y i r 0 = (upto b y i).set i r := by simp [mid]
theorem zYa {b : zAF} {y : List zAB} {i : Nat} {r : zAL} (hr : b.2.1[i]? = some r) (k : Nat) : (mid b y i r k)[i]? = some (r.1, r.2.1, (b.2.2.take k).foldl (zXP y r) r.2.2.1, r.2.2.2.1, r.2.2.2.2) := by
  have hi := (List.getElem?_eq_some_iff.1 hr).1
  unfold mid
  rw [List.getElem?_set_self (by rw [zUS]; exact hi)]
theorem zWr {b : zAF} {y : List zAB} {i : Nat} {r : zAL} {k : Nat} {p : zAI} (hp : b.2.2[k]? = some p) :
    (if (!r.2.1 && p.1 == r.1 && decide (p.2.2 ∈ y)) = true then (mid b y i r k).set i (r.1, r.2.1, p.2.1, r.2.2.2.1, r.2.2.2.2) else mid b y i r k) = mid b y i r (k + 1) := by
  unfold mid
  rw [List.take_add_one, hp]
  simp only [Option.toList, List.foldl_append, List.foldl_cons, List.foldl_nil]
  show _ = List.set _ i (r.1, r.2.1, zXP y r _ p, r.2.2.2.1, r.2.2.2.2)
  unfold zXP
  by_cases hc : (!r.2.1 && p.1 == r.1 && decide (p.2.2 ∈ y)) = true
  · rw [if_pos hc, if_pos hc, List.set_set]
  · rw [if_neg hc, if_neg hc]
theorem zVN {b : zAF} {y : List zAB} (h : Cnt b) (hy : y.length < 4294967296) : zCt b y = some (zLQ b y) := by
  unfold zCt
  have c1 : zD9 b.1 = some b.1 := by simp [zD9, zIn h.p]
  have c2 : zEy b.2.1 = some b.2.1 := by simp [zEy, zIn h.r]
  have c3 : zCo b.2.2 = some b.2.2 := by simp [zCo, zIn h.m]
  simp only [c1, c2, c3, Option.bind_some]
  suffices hh : Ok (zAm (zCO b y) (0, b.2.1)) fun r => r = upto b y b.2.1.length by
    obtain ⟨r, e, rfl⟩ := hh
    rw [e, zU7]
    rfl
  refine Ok.forI (fun i (s : List zAL) => ((i : Int), s)) b.2.1 (fun i s => s = upto b y i) _ (fun i r s hr hs => ?_) (fun s hs => ?_) b.2.1 (by simp [upto])
  · have hi := (List.getElem?_eq_some_iff.1 hr).1
    have hbr := h.r
    subst hs
    unfold zCO
    have hx := zWh (y := y) hr
    simp only [zQH hr, if_true, zC8, hr, hx, Option.bind_some, zSZ (h.q r (List.mem_of_getElem? hr)), Int.toNat_natCast]
    refine Ok.forI (fun k (s : List zAL) => ((k : Int), s)) b.2.2 (fun k s => s = mid b y i r k) _ (fun k p s hp hs => ?_) (fun s hs => ?_) _ zUT.symm
    · have hk := (List.getElem?_eq_some_iff.1 hp).1
      have hbm := h.m
      subst hs
      unfold zCh
      simp only [zQH hp, if_true, zC8, hp, Option.bind_some, zTd _ (show y.length < 9223372036854775807 by omega), Int.toNat_natCast, zYa hr k]
      have hif : (if (!r.2.1) = true then (if (p.1 == r.1) = true then some (decide (p.2.2 ∈ y)) else some false) else some false) = some (!r.2.1 && p.1 == r.1 && decide (p.2.2 ∈ y)) := by
        cases hg : (!r.2.1) <;> cases hh : (p.1 == r.1) <;> simp
      rw [hif, Option.bind_some]
      have hm := zWr (b := b) (y := y) (i := i) (r := r) hp
      refine .ite (fun hc => ?_) fun hc => ?_
      · rw [if_pos hc] at hm
        exact .ret ⟨_, by rw [zAg k (by omega)], hm⟩
      · rw [hc] at hm
        simp only [Bool.false_eq_true, if_false] at hm
        exact .ret ⟨_, by rw [zAg k (by omega)], hm⟩
    · subst hs
      unfold zCh
      simp only [zOH, Bool.false_eq_true, if_false]
      exact .ret ⟨_, by simp only [zAg i (by omega)], zWe hr⟩
  · subst hs
    unfold zCO
    simp only [zOH, Bool.false_eq_true, if_false]
    exact .ret rfl
theorem zUZ {b : zAF} (h : Cnt b) : zIJ b = some b := by
  unfold zIJ
  simp only [zIn h.p, zIn h.m, Option.bind_some]
  have hl := zQq (B := zHQ b) b.2.1 (fun s x => s ++ [x]) (fun s => s) (fun i s => s.length = i) [] rfl (fun i x s hx hI => ?_) (fun s _ => ?_)
  · rw [hl.1, zQk, List.nil_append]
    rfl
  · have hlt := (List.getElem?_eq_some_iff.1 hx).1
    have hbr := h.r
    refine ⟨?_, by simp [hI]⟩
    unfold zHQ
    simp only [zQH hx, if_true, zC8, hx, Option.bind_some]
    rw [zIn (h.q x (List.mem_of_getElem? hx))]
    simp only [Option.bind_some]
    rw [zCL (by simp; omega), zAg i (by omega)]
    rfl
  · unfold zHQ
    simp only [zOH, Bool.false_eq_true, if_false]
theorem zTa {b : zAF} {y : List zAB} (h : Cnt b) (hy : y.length < 4294967296) : zHW b y = some (zLQ b y) := by
  unfold zHW
  rw [zUZ h]
  simp only [Option.bind_some]
  suffices hh : Ok (zAm (zFb b y) (0, b.2.1)) fun r => r = upto b y b.2.1.length by
    obtain ⟨r, e, rfl⟩ := hh
    rw [e, zU7]
    rfl
  refine Ok.forI (fun i (s : List zAL) => ((i : Int), s)) b.2.1 (fun i s => s = upto b y i) _ (fun i r s hr hs => ?_) (fun s hs => ?_) b.2.1 (by simp [upto])
  · have hi := (List.getElem?_eq_some_iff.1 hr).1
    have hbr := h.r
    subst hs
    unfold zFb
    have hx := zWh (y := y) hr
    simp only [zQH hx, if_true]
    refine Ok.forI (fun k (s : List zAL) => ((k : Int), s)) b.2.2 (fun k s => s = mid b y i r k) _ (fun k p s hp hs => ?_) (fun s hs => ?_) _ (by rw [zUT, zX1 hx])
    · have hk := (List.getElem?_eq_some_iff.1 hp).1
      have hbm := h.m
      subst hs
      unfold zH0
      simp only [zQH hp, if_true, zC8, hp, Option.bind_some, zWW _ (show y.length < 9223372036854775807 by omega), Int.toNat_natCast, zYa hr k]
      have hif : (if (p.1 == r.1) = true then (if (!r.2.1) = true then some (decide (p.2.2 ∈ y)) else some false) else some false) = some (!r.2.1 && p.1 == r.1 && decide (p.2.2 ∈ y)) := by
        cases hg : (!r.2.1) <;> cases hh : (p.1 == r.1) <;> simp
      rw [hif, Option.bind_some]
      have hm := zWr (b := b) (y := y) (i := i) (r := r) hp
      refine .ite (fun hc => ?_) fun hc => ?_
      · rw [if_pos hc] at hm
        exact .ret ⟨_, by rw [zAg k (by omega)], hm⟩
      · rw [hc] at hm
        simp only [Bool.false_eq_true, if_false] at hm
        exact .ret ⟨_, by rw [zAg k (by omega)], hm⟩
    · subst hs
      unfold zH0
      simp only [zOH, Bool.false_eq_true, if_false]
      exact .ret ⟨_, by simp only [zAg i (by omega)], zWe hr⟩
  · subst hs
    have hl : decide ((b.2.1.length : Int) < len (upto b y b.2.1.length)) = false := decide_eq_false (show ¬ (b.2.1.length : Int) < ((upto b y b.2.1.length).length : Int) by rw [zUS]; omega)
    unfold zFb
    simp only [hl, Bool.false_eq_true, if_false]
    exact .ret rfl
theorem zWc {b : zAF} {y : List zAB} (h : Cnt b) : Cnt (zLQ b y) :=
  ⟨h.p, by simp [zLQ, h.r], h.m, fun r hr => by
    obtain ⟨r0, h0, rfl⟩ := List.mem_map.1 hr
    exact h.q r0 h0⟩
end
section
set_option linter.unusedVariables false
def zQ4 (l : List Int) (x : Int) : List Int := (rng l.length).filter fun i => decide (l[i.toNat]? = some x)
theorem zQI (l : List Int) (x : Int) : (zQ4 l x).length ≤ l.length := Nat.le_trans (List.length_filter_le _ _) (by rw [zDg]; exact Nat.le_refl _)
theorem zUL (l : List Int) (x : Int) (hl : l.length < 4294967000) : zCE l x = some (zQ4 l x) := by
  unfold zCE
  have h := zFW (B := zFC l x) (rng l.length) (fun s i => if decide (l[i.toNat]? = some x) then s ++ [i] else s) id (fun i s => s.length ≤ i) ([] : List Int) (by simp) ?_ ?_
  · have h2 := zIV (fun i : Int => decide (l[i.toNat]? = some x)) id (rng l.length) []
    simp only [id, List.map_id, List.nil_append] at h2
    rw [h.1, h2]; rfl
  · intro i y s hy hI
    obtain ⟨rfl, hi⟩ := zNd hy
    have hx : l[i]? = some l[i] := List.getElem?_eq_getElem hi
    unfold zFC
    simp only [zAs hx, if_true, zAp hx, Option.bind_some, zAt hx (by omega), Int.toNat_natCast, hx, Option.some.injEq]
    by_cases he : l[i] = x
    · simp only [he, beq_self_eq_true, if_true, decide_true]
      rw [zCL (by simp; omega)]
      exact ⟨rfl, by simp; omega⟩
    · have hb : (l[i] == x) = false := by simpa using he
      simp only [hb, he, decide_false, Bool.false_eq_true, if_false]
      exact ⟨trivial, by omega⟩
  · intro s _
    rw [zDg]
    unfold zFC
    simp [len]
abbrev zXf : zDQ := (([], [], []), [], [], (0, []))
def badO (o : zAP) : Bool := if o.1 != 1 then (o.1 != 2) || ((o.2 != 1) && (o.2 != 2)) else (o.2 != 1) && (o.2 != 2)
noncomputable def zUq (b : zAF) (l : List zAA) (o : zAP) : List zAT := nrm lt2 (zGW (zGL b l o))
noncomputable def zXF (b : zAF) (l : List zAA) (o : zAP) : List zAB := nrm zDC ((zQ4 (zKZ l.length (zUq b l o)) 1).flatMap (zQg l))
noncomputable def zRy (b : zAF) (l : List zAA) (o : zAP) : zDQ := (zLQ b (zXF b l o), l, zGL (zLQ b (zXF b l o)) l o, ((l.length : Int), zUq (zLQ b (zXF b l o)) l o))
open Classical in
noncomputable def zR6 (b : zAF) (o : zAP) : zDQ × Int := if zJM b then (match zM5 b with
    | none => (zXf, 2)
    | some l => if badO o then (zXf, 4) else (zRy b l o, 0))
  else (zXf, zLE b)
theorem zLm {b : zAF} {l : List zAA} (hl : l.length ≤ 40) (o : zAP) : zPs (len l) (zGL b l o) = (((l.length : Int), zUq b l o), 0) ∧ zEm l.length (zUq b l o) := by
  have h0 : (decide (len l < 0) || decide (40 < len l)) = false := by
    simp only [len, Bool.or_eq_false_iff, decide_eq_false_iff_not]; omega
  have h1 : (zGL b l o).any (zV5 (len l)) = false := by
    rw [List.any_eq_false]
    intro y hy
    have hy := zS1 (b := b) (l := l) y |>.1 (List.mem_filter.1 hy).1
    simp only [zV5, len, Bool.or_eq_true, decide_eq_true_eq, not_or]
    omega
  have h2 : zPs (len l) (zGL b l o) = (((l.length : Int), zUq b l o), 0) := by
    unfold zPs zUq
    simp only [h0, h1, Bool.false_eq_true, if_false]
  refine ⟨h2, ?_⟩
  obtain ⟨N, e1, e2, e3, _⟩ := zTQ h2
  have : N = l.length := by simp only [len] at e1; omega
  rw [← this]; exact e3
theorem zXM {b : zAF} {l : List zAA} {y : List zAB} (h : FormB b l) : FormB (zLQ b y) l :=
  ⟨h.toFormA, by simpa [zLQ] using h.np, by simpa [zLQ] using h.nr, fun i a ha => by simpa [zLQ] using h.kind i a ha⟩
theorem zUU (b : zAF) (l : List zAA) (o : zAP) : (zXF b l o).length ≤ l.length := by
  refine Nat.le_trans (zR4 _ _) (Nat.le_trans (zPr _) ?_)
  rw [Nat.mul_one]
  refine Nat.le_trans (zQI _ _) ?_
  rw [zKZ, zFa]; exact Nat.le_refl _
section
variable {b : zAF}
theorem zPY (hc : Cnt3 b) (hr : b.2.1.length ≤ 12) (o : zAP) : zCB b o = some (zR6 b o) := by
  unfold zCB zR6
  by_cases hv : zJM b
  · rw [zVm (zUe hv hr), if_pos hv]
    cases hb : zM5 b with
    | none => rfl
    | some l =>
      obtain ⟨hf, hl⟩ := zPO hv hr hb
      have hB := hf.toFormC.toFormB
      simp only [zZ4, Option.bind_some, bne_self_eq_false, Bool.false_eq_true, if_false]
      show (if badO o = true then _ else _) = _
      cases ho : badO o with
      | true => rfl
      | false =>
        have hd := zU1 (b := b) (l := l) (by omega) o
        obtain ⟨hg, hG⟩ := zLm (b := b) hl o
        have hac := zUU b l o
        have hd2 := zU1 (b := zLQ b (zXF b l o)) (l := l) (by omega) o
        obtain ⟨hg2, _⟩ := zLm (b := zLQ b (zXF b l o)) hl o
        have hgl : (zKZ l.length (zUq b l o)).length = l.length := zFa _ _
        have hw := zQI (zKZ l.length (zUq b l o)) 1
        simp only [Bool.false_eq_true, if_false, zQP hB o, Option.bind_some]
        rw [zOZ _ _ (by omega), hg]
        simp only [Option.bind_some, bne_self_eq_false, Bool.false_eq_true, if_false]
        rw [zM0 hG]
        simp only [Option.bind_some]
        rw [zUL _ _ (by omega)]
        simp only [Option.bind_some]
        rw [zLj _ (by omega)]
        simp only [Option.bind_some]
        rw [show nrm zDC ((zQ4 (zKZ l.length (zUq b l o)) 1).flatMap (zQg l)) = zXF b l o from rfl, zVN (zIP hv) (by omega)]
        simp only [Option.bind_some, zQP (zXM hB) o]
        rw [zOZ _ _ (by omega), hg2]
        rfl
  · rw [zQ5 hc hv, if_neg hv]
    have : (zLE b != 0) = true := by
      rw [bne_iff_ne]
      exact fun h' => hv (zMI.1 h')
    simp only [Option.bind_some, this, if_true]
theorem zM9 (hc : Cnt b) (hr : b.2.1.length ≤ 12) (o : zAP) : zCB b o = some (zR6 b o) := zPY hc.c3 hr o
end
end
section
set_option linter.unusedVariables false
theorem zVP : zI0 = some () := rfl
theorem zSI {N : Nat} {L : List zAT} (h : zEm N L) : zBW ((N : Int), L) 1 = some ([zQ4 (zKZ N L) 1], 0) := by
  have hgl : (zKZ N L).length = N := zFa _ _
  have hN := h.hN
  have h1 : zAb ((N : Int), L) = some ([zKZ N L], 0) := by
    unfold zAb zEC
    rw [zM0 h]
    rfl
  have h2 : zAl ((N : Int), L) = some ([zQ4 (zKZ N L) 1], 0) := by
    unfold zAl
    rw [h1]
    simp only [Option.bind_some, bne_self_eq_false, Bool.false_eq_true, if_false]
    have hl := zFW (B := zAa ([zKZ N L], 0)) [zKZ N L] (fun s x => s ++ [zQ4 x 1]) (fun s => (s, (0 : Int))) (fun i s => s.length ≤ i) ([] : List (List Int)) (by simp) ?_ ?_
    · rw [hl.1]; rfl
    · intro i x s hx hI
      have := zCU hx
      have hx2 : x.length = N := by
        have := zBg hx
        simp only [List.mem_singleton] at this
        rw [this, hgl]
      unfold zAa
      simp only [zAs hx, if_true, zAp hx, Option.bind_some, zAt hx (by simp), zUL x 1 (by omega)]
      rw [zCL (by simp at this ⊢; omega)]
      exact ⟨rfl, by simp; omega⟩
    · intro s _
      unfold zAa
      simp [len]
  unfold zBW
  rw [h.v1]
  simp only [Option.bind_some, bne_self_eq_false, Bool.false_eq_true, if_false, zVP]
  have hd : (decide ((1 : Int) < 1) || decide (((10 : Nat) : Int) ≤ 1)) = false := by decide
  rw [hd]
  simp only [Bool.false_eq_true, if_false, beq_self_eq_true, if_true]
  rw [h2]
  rfl
def zL5 (l : List zAA) (s : List Int) : List zAB := nrm zDC (s.flatMap (zQg l))
theorem zVC (l : List zAA) (s : List Int) : Asc zDC (zL5 l s) := (zMK zTO _).1
theorem zUz (l : List zAA) (s : List Int) : (zL5 l s).length ≤ s.length := Nat.le_trans (zR4 _ _) (by have := zPr (l := l) s; omega)
theorem zMz {c : zDQ} {q : Int} {es : List (List Int)} (h : zBW c.2.2.2 q = some (es, 0)) (hl : es.length ≤ 100000) (hs : ∀ s ∈ es, s.length < 1000000) :
    zCW c q = some (es.map (zL5 c.2.1), 0) := by
  unfold zCW
  rw [h]
  simp only [Option.bind_some, bne_self_eq_false, Bool.false_eq_true, if_false]
  have hlp := zFW (B := zBk (es, 0) c) es (fun r s => r ++ [zL5 c.2.1 s]) (fun r => (r, (0 : Int))) (fun i s => s.length ≤ i) ([] : List (List zAB)) (by simp) ?_ ?_
  · rw [hlp.1, zId]; rfl
  · intro i x s hx hI
    have := zCU hx
    unfold zBk
    simp only [zAs hx, if_true, zAp hx, Option.bind_some, zAt hx (by omega), zLj x (hs x (zBg hx))]
    rw [zCL (by simp; omega)]
    exact ⟨rfl, by simp; omega⟩
  · intro s _
    unfold zBk
    simp [len]
def zZN (cl : List (List zAB)) (all : Bool) : List zAB := (nrm zDC cl.flatten).filter fun x => !(all && cl.any fun y => !decide (x ∈ y))
theorem zTJ (cl : List (List zAB)) (hl : cl.length ≤ 100000) (hs : ∀ s ∈ cl, s.length ≤ 10000) : zBn cl = some cl.flatten := by
  have htot : ∀ k : Nat, (cl.take k).flatten.length ≤ 10000 * k := by
    intro k
    induction k with
    | zero => simp
    | succ k ih =>
      cases hx : cl[k]? with
      | none =>
        have : cl.take (k + 1) = cl.take k := by
          rw [List.getElem?_eq_none_iff] at hx
          rw [List.take_of_length_le (by omega), List.take_of_length_le (by omega)]
        rw [this]; omega
      | some x =>
        rw [zB7 hx, List.flatten_append, List.length_append]
        have := hs x (zBg hx)
        rw [show [x].flatten = x by simp]
        omega
  unfold zBn
  have h1 := zBF (B := zBo cl) (fun i (n : Nat) => ((n : Int), (i : Int))) cl (fun i n => n = (cl.take i).flatten.length) (fun r => r = ((cl.flatten.length : Nat) : Int)) ?_ ?_ 0 (by simp)
  · obtain ⟨r, h2, rfl⟩ := h1
    rw [show zAm (zBo cl) (0, 0) = _ from h2]
    simp only [Option.bind_some]
    have hfl := htot cl.length
    rw [List.take_length] at hfl
    have hg : zDL (cl.flatten.length : Int) = some [] := by
      unfold zDL
      have hn : decide ((cl.flatten.length : Int) < 0) = false := decide_eq_false (by omega)
      have hw : w64 ((cl.flatten.length : Int) - w64 (((0 : Nat) : Int) - len ([] : List zAB))) = (cl.flatten.length : Int) := by
        have : w64 (((0 : Nat) : Int) - len ([] : List zAB)) = 0 := rfl
        rw [this, Int.sub_zero, zWX _ (by omega)]
      simp only [hn, Bool.false_eq_true, if_false, Option.bind_some, hw]
      by_cases h0 : decide (0 < (cl.flatten.length : Int)) = true
      · rw [if_pos h0]
        unfold mkS
        rw [if_pos ⟨by omega, by omega, by omega⟩]
        simp only [Option.bind_some]
        have : sub (List.replicate (cl.flatten.length : Int).toNat ((false, []) : zAB)) 0 (len ([] : List zAB)) = some [] := by
          rw [zL4 (by simp [len]) (by simp [len])]
          simp [len]
        rw [this]
        rfl
      · rw [if_neg h0]
    rw [hg]
    simp only [Option.bind_some]
    have h3 := zFW (B := zC2 cl) cl (fun s x => s ++ x) id (fun i s => s.length ≤ 10000 * i) ([] : List zAB) (by simp) ?_ ?_
    · rw [h3.1]
      have : ∀ (m : List (List zAB)) (acc : List zAB), m.foldl (fun s x => s ++ x) acc = acc ++ m.flatten := by
        intro m
        induction m with
        | nil => intro acc; simp
        | cons x m ih => intro acc; rw [List.foldl_cons, ih]; simp
      rw [this]; simp
    · intro i x s hx hI
      have hi := zCU hx
      have := hs x (zBg hx)
      unfold zC2
      simp only [zAs hx, if_true, zAp hx, Option.bind_some, zAt hx (by omega)]
      rw [zCL (by omega)]
      exact ⟨rfl, by simp; omega⟩
    · intro s _
      unfold zC2
      simp [len]
  · rintro i x n hx rfl
    have hi := zCU hx
    have h4 := htot i
    have h5 := htot (i + 1)
    have hle := hs x (zBg hx)
    have hsum : w64 (((cl.take i).flatten.length : Int) + len x) = (((cl.take (i + 1)).flatten.length : Nat) : Int) := by
      have e : (cl.take (i + 1)).flatten.length = (cl.take i).flatten.length + x.length := by rw [zB7 hx, List.flatten_append, List.length_append, show [x].flatten = x by simp]
      rw [e]
      simp only [len]
      rw [zER (by omega) (by omega)]
      omega
    refine .inl ⟨_, ?_, rfl⟩
    unfold zBo
    simp only [zAs hx, if_true, zAp hx, Option.bind_some, hsum, zAt hx (show cl.length < 4294967296 by omega)]
    rw [decide_eq_false (by omega)]
    rfl
  · rintro n rfl
    rw [List.take_length]
    refine ⟨_, ?_, rfl⟩
    unfold zBo
    simp only [zBM, Bool.false_eq_true, if_false]
theorem zYn (cl : List (List zAB)) (hl : cl.length ≤ 100000) (hs : ∀ s ∈ cl, s.length ≤ 10000) (all : Bool) (l : List zAB) (hb : l.length < 4294967296) :
    zAV l all cl = some (l.filter fun x => !(all && cl.any fun y => !decide (x ∈ y))) := by
  have hp : ∀ x : zAB, zBi x all cl = some (all && cl.any fun y => !decide (x ∈ y)) := by
    intro x
    have h1 : zAQ cl x = some (cl.any fun y => !decide (x ∈ y)) := by
      have := zXH (fun y => zCK y x) (fun y => !decide (x ∈ y)) cl (by omega) (fun y hy => by
        unfold zCK
        rw [zTd x (by have := hs y hy; omega)]
        rfl)
      exact this
    unfold zBi
    cases all with
    | true => simp only [if_true, h1, Option.bind_some, Bool.true_and]
    | false => rfl
  exact zNK (fun x => zBi x all cl) (fun x => all && cl.any fun y => !decide (x ∈ y)) (false, []) l hb fun x _ => hp x
theorem zOm {c : zDQ} {q : Int} {es : List (List Int)} (h : zBW c.2.2.2 q = some (es, 0)) (hl : es.length ≤ 100000) (hs : ∀ s ∈ es, s.length ≤ 10000) (all : Bool) :
    zCM c q all = some (zZN (es.map (zL5 c.2.1)) all, 0) := by
  have hs2 : ∀ s ∈ es.map (zL5 c.2.1), s.length ≤ 10000 := by
    intro s hs'
    obtain ⟨e, he, rfl⟩ := List.mem_map.1 hs'
    exact Nat.le_trans (zUz _ _) (hs e he)
  unfold zCM
  rw [zMz h hl fun s hs' => by have := hs s hs'; omega]
  simp only [Option.bind_some, bne_self_eq_false, Bool.false_eq_true, if_false]
  rw [zTJ _ (by simpa using hl) hs2]
  simp only [Option.bind_some]
  have hfl : (es.map (zL5 c.2.1)).flatten.length ≤ 1000000000 := by
    have : ∀ m : List (List zAB), (∀ s ∈ m, s.length ≤ 10000) → m.flatten.length ≤ 10000 * m.length := by
      intro m
      induction m with
      | nil => intro _; simp
      | cons x m ih =>
        intro hm
        have h1 := hm x List.mem_cons_self
        have h2 := ih fun s hs => hm s (List.mem_cons_of_mem _ hs)
        simp only [List.flatten_cons, List.length_append, List.length_cons]
        omega
    have h1 := this _ hs2
    rw [List.length_map] at h1
    omega
  rw [zQx (by omega)]
  simp only [Option.bind_some]
  rw [zYn _ (by simpa using hl) hs2 all _ (by have := zR4 zDC (es.map (zL5 c.2.1)).flatten; omega)]
  rfl
theorem zWy {l : List zAB} (h : Asc zDC l) (all : Bool) : zZN [l] all = l := by
  unfold zZN
  have h1 : nrm zDC [l].flatten = l := zUc zTO h fun x => by simp
  rw [h1, List.filter_eq_self.2]
  intro x hx
  simp [hx]
theorem zSA {c : zDQ} {N : Nat} {L : List zAT} (hG : zEm N L) (hc : c.2.2.2 = ((N : Int), L)) : zCM c 1 true = some (zL5 c.2.1 (zQ4 (zKZ N L) 1), 0) := by
  have hN := hG.hN
  have hgl : (zKZ N L).length = N := zFa _ _
  have hw := zQI (zKZ N L) 1
  have h1 : zBW c.2.2.2 1 = some ([zQ4 (zKZ N L) 1], 0) := by rw [hc]; exact zSI hG
  rw [zOm h1 (by simp) (fun s hs => by simp only [List.mem_singleton] at hs; subst hs; omega) true]
  rw [List.map_singleton, zWy (zVC _ _)]
end
section
set_option linter.unusedVariables false
section
variable (p : List zAO) (r : List zAL) (m m' : List zAI) (l : List zAA)
theorem zYb {i : Int} {y : zAB} (h : zKK (p, r, m) l i y) : zKK (p, r, m') l i y := by
  induction h with
  | here h => exact .here h
  | step h1 h2 h3 h4 h5 _ ih => exact .step h1 h2 h3 h4 h5 ih
theorem zWv {i y : Int} (h : zLv (p, r, m) l i y) : zLv (p, r, m') l i y := by
  induction h with
  | here h1 h2 h3 h4 => exact .here h1 h2 h3 h4
  | step h1 h2 h3 h4 h5 _ ih => exact .step h1 h2 h3 h4 h5 ih
theorem zXa (f : Int) (first : Bool) : zCm (p, r, m) l f first = zCm (p, r, m') l f first := by
  have h1 : ∀ (q : Int) (ru : zAL) (k : Int), zVW (p, r, m) l q ru k = zVW (p, r, m') l q ru k := fun q ru k => by
    unfold zVW
    have hd : zGZ (p, r, m) l k = zGZ (p, r, m') l k := rfl
    rw [hd]
    congr 1
    rw [decide_eq_decide]
    exact ⟨zYb p r m m' l, zYb p r m' m l⟩
  have h2 : ∀ (q : Int) (ru : zAL) (s : List Int), zC0 (p, r, m) l q ru s = zC0 (p, r, m') l q ru s := fun q ru s => by
    unfold zC0
    congr 2
    funext k
    exact h1 q ru k
  unfold zCm zG2
  simp only [h2]
theorem zUV : ∀ (k : Nat) (l : List zAA) (f : Int) (first : Bool), zLJ (p, r, m) k l f first = zLJ (p, r, m') k l f first
  | 0, _, _, _ => rfl
  | k + 1, l, f, first => by
    unfold zLJ
    rw [zXa p r m m' l f first, zUV k]
theorem zWp : zM5 (p, r, m) = zM5 (p, r, m') := zUV p r m m' 50 (zMO (p, r, m)) 0 true
theorem zUp (o : zAP) : zGL (p, r, m) l o = zGL (p, r, m') l o := by
  have h1 : ∀ i, zGo (p, r, m) l i = zGo (p, r, m') l i := fun i => by
    unfold zGo
    apply List.filter_congr
    intro y _
    rw [decide_eq_decide]
    exact ⟨zWv p r m m' l, zWv p r m' m l⟩
  have h2 : ∀ i k, zQZ (p, r, m) l i k o = zQZ (p, r, m') l i k o := fun i k => by
    unfold zQZ
    simp only [h1]
    rfl
  unfold zGL
  have h3 : zN6 (p, r, m) l o = zN6 (p, r, m') l o := by
    funext y
    unfold zN6
    rw [h2]
  rw [h3]
  rfl
end
theorem zQw (b : zAF) (y : List zAB) : zLQ (b.1, b.2.1, []) y = (b.1, b.2.1, []) := by
  have h : zVK [] y = fun r : zAL => r := funext fun r => rfl
  unfold zLQ
  simp [h]
theorem zTL {b : zAF} (h : zJM b) : zJM (b.1, b.2.1, []) := ⟨h.np, h.nr, by simp, h.prem, h.rule, h.dp, h.dr, fun p hp => by cases hp⟩
theorem zYK {i : Int} {o : zAP} (h : idx ords i = some o) : badO o = false := by
  obtain ⟨n, rfl, hn⟩ := zLz h
  have hm := zBg hn
  have : ∀ o ∈ ords, badO o = false := by decide
  exact this o hm
theorem zOt (hw : zFI = some true) (y0 : List Int) : zD7 y0 = some true := by
  unfold zD7
  rw [zYS]
  simp only [Option.bind_some]
  obtain ⟨b, k, e1, hk, hd⟩ := zWt (zVv y0) (n := 3) (p := 5) (q := 6) (by omega) (by omega) (by omega) (by omega) (by omega) (by omega)
  rw [e1]
  simp only [Option.bind_some]
  rw [zQY]
  simp only [Option.bind_some]
  obtain ⟨r4, e4, h4a, h4b, h4⟩ := Ok.N hk (n := 4) (by omega) (by omega)
  have e4' : zAY ((y0.take 2000, (0 : Int)).1, k) 4 = some r4 := e4
  rw [e4']
  simp only [Option.bind_some]
  obtain ⟨o, ho⟩ := zHc (l := ords) (j := r4.1) h4a (by show r4.1 < 4; exact h4b (by omega))
  rw [ho]
  have hr : b.2.1.length ≤ 12 := by have := hd.nr; omega
  have hcb := zIP hd.valid
  have hbo := zYK ho
  simp only [Option.bind_some]
  rw [zM9 hcb hr]
  simp only [Option.bind_some]
  rw [zXJ (zUe hd.valid hr)]
  simp only [Option.bind_some]
  cases hb : zM5 b with
  | none =>
    have hcs : zR6 b o = (zXf, 2) := by unfold zR6; rw [if_pos hd.valid, hb]
    rw [hcs]
    simp [zZ4, hw]
  | some l =>
    obtain ⟨hf, hl⟩ := zPO hd.valid hr hb
    have hcs : zR6 b o = (zRy b l o, 0) := by unfold zR6; rw [if_pos hd.valid, hb]; simp [hbo]
    rw [hcs]
    simp only [zZ4, bne_self_eq_false, Bool.or_self, Bool.false_eq_true, if_false]
    rw [zUZ hcb]
    simp only [Option.bind_some]
    have hvp := zTL hd.valid
    have hcp := zIP hvp
    rw [zM9 hcp hr]
    have hbp : zM5 (b.1, b.2.1, []) = some l := by rw [← hb]; exact zWp b.1 b.2.1 [] b.2.2
    have hcsp : zR6 (b.1, b.2.1, []) o = (zRy (b.1, b.2.1, []) l o, 0) := by unfold zR6; rw [if_pos hvp, hbp]; simp [hbo]
    simp only [Option.bind_some]
    rw [hcsp]
    have hG := (zLm (b := zLQ (b.1, b.2.1, []) (zXF (b.1, b.2.1, []) l o)) hl o).2
    have hacc := zSA (c := zRy (b.1, b.2.1, []) l o) hG rfl
    rw [hacc]
    have hacc2 : zL5 (zRy (b.1, b.2.1, []) l o).2.1 (zQ4 (zKZ l.length (zUq (zLQ (b.1, b.2.1, []) (zXF (b.1, b.2.1, []) l o)) l o)) 1) = zXF b l o := by
      show zL5 l _ = _
      rw [zQw]
      have hg : zUq (b.1, b.2.1, []) l o = zUq b l o := by
        unfold zUq
        rw [show zGL (b.1, b.2.1, []) l o = zGL b l o from zUp b.1 b.2.1 [] b.2.2 l o]
      rw [hg]
      rfl
    simp only [Option.bind_some, hacc2, bne_self_eq_false, Bool.false_eq_true, if_false]
    have hs1 : zIH (zRy b l o).2.1 l = some true := zS7 l (by omega) fun a ha => by have := hf.toFormC.toFormB.toFormA.nsub a ha; omega
    rw [hs1]
    simp only [Option.bind_some, Bool.not_true, Bool.false_eq_true, if_false]
    have hs2 : (zRy (b.1, b.2.1, []) l o).1 = (b.1, b.2.1, []) := zQw b _
    rw [hs2, zTD _ hcp]
    simp only [decide_true, Option.bind_some, Bool.not_true, Bool.false_eq_true, if_false]
    have hal := zUU b l o
    rw [zTa hcb (by omega)]
    simp only [Option.bind_some]
    have hs3 : (zRy b l o).1 = zLQ b (zXF b l o) := rfl
    rw [hs3, zTD _ (zWc hcb)]
    simp [hw]
end
section
def zBY (_ : Nat) (l : List zAM) : Option (List zAM) := if l.length < 4294967296 then some (zP4 lt4 l) else none
def zBl (_ : Nat) (l : List zAT) : Option (List zAT) := if l.length < 4294967296 then some (zP4 lt2 l) else none
def zEc (_ : Nat) (l : List Int) : Option (List Int) := if l.length < 4294967296 then some (zP4 ltI l) else none
theorem zFH (n : Nat) (l : List zAM) : Le (zBY n l) (zA1 l) := ⟨fun r h => by
  unfold zBY at h
  split at h
  · rename_i hl; rw [zO2 hl, zKn zZ2]; exact h
  · cases h⟩
theorem zFn (n : Nat) (l : List zAT) : Le (zBl n l) (zAe l) := ⟨fun r h => by
  unfold zBl at h
  split at h
  · rename_i hl; rw [zQn hl, zKn zZ8]; exact h
  · cases h⟩
theorem zHI (n : Nat) (l : List Int) : Le (zEc n l) (zBI l) := ⟨fun r h => by
  unfold zEc at h
  split at h
  · rename_i hl; unfold zBI; rw [zPy hl]; exact h
  · cases h⟩
def zB0 (_ : Nat) (l : List zAB) : Option (List zAB) := if l.length < 4294967296 then some (zP4 zDC l) else none
theorem zFB (n : Nat) (l : List zAB) : Le (zB0 n l) (zAR l) := ⟨fun r h => by
  unfold zB0 at h
  split at h
  · rename_i hl; rw [zUC hl, zKn zTO]; exact h
  · cases h⟩
end
section
set_option linter.unusedVariables false
noncomputable section
def zIt (n_ : Nat) y0 s1 : Tw (zDW y0 s1) := by
 delta zDW
 repeat with_reducible (first | intro _ | apply Tw.ite | apply Tw.seqE | apply Tw.bind | apply Tw.lp n_ | exact Tw.id _)
def zKC (n_ : Nat) y0 : Tw (zB6 y0) := by
 delta zB6
 repeat with_reducible (first | intro _ | apply zIt n_ | apply Tw.ite | apply Tw.seqE | apply Tw.bind | apply Tw.lp n_ | exact Tw.id _)
def zF0 (n_ : Nat) (y0 : List zAB) : Tw (zAR y0) := ⟨zB0 n_ y0, zFB n_ y0⟩
def zLG (n_ : Nat) y0 : Tw (zDB y0) := by
 delta zDB
 repeat with_reducible (first | intro _ | apply zF0 n_ | apply zKC n_ | apply Tw.ite | apply Tw.seqE | apply Tw.bind | apply Tw.lp n_ | exact Tw.id _)
def zHa (n_ : Nat) y0 y1 : Tw (zB4 y0 y1) := by
 delta zB4
 repeat with_reducible (first | intro _ | apply zLG n_ | apply Tw.ite | apply Tw.seqE | apply Tw.bind | apply Tw.lp n_ | exact Tw.id _)
def zSV (n_ : Nat) y0 : Tw (zGt y0) := by
 delta zGt
 repeat with_reducible (first | intro _ | apply Tw.ite | apply Tw.seqE | apply Tw.bind | apply Tw.lp n_ | exact Tw.id _)
def zR0 (n_ : Nat) y0 : Tw (zGE y0) := by
 delta zGE
 repeat with_reducible (first | intro _ | apply Tw.ite | apply Tw.seqE | apply Tw.bind | apply Tw.lp n_ | exact Tw.id _)
def zSg (n_ : Nat) y0 : Tw (zFp y0) := by
 delta zFp
 repeat with_reducible (first | intro _ | apply Tw.ite | apply Tw.seqE | apply Tw.bind | apply Tw.lp n_ | exact Tw.id _)
def zP2 (n_ : Nat) y0 y1 : Tw (zEf y0 y1) := by
 delta zEf
 repeat with_reducible (first | intro _ | apply zSg n_ | apply Tw.ite | apply Tw.seqE | apply Tw.bind | apply Tw.lp n_ | exact Tw.id _)
def zMj (n_ : Nat) y0 s1 : Tw (zBR y0 s1) := by
 delta zBR
 repeat with_reducible (first | intro _ | apply zP2 n_ | apply Tw.ite | apply Tw.seqE | apply Tw.bind | apply Tw.lp n_ | exact Tw.id _)
def zKt (n_ : Nat) y0 : Tw (zBZ y0) := by
 delta zBZ
 repeat with_reducible (first | intro _ | apply zMj n_ | apply Tw.ite | apply Tw.seqE | apply Tw.bind | apply Tw.lp n_ | exact Tw.id _)
def zQ3 (n_ : Nat) y0 : Tw (zF2 y0) := by
 delta zF2
 repeat with_reducible (first | intro _ | apply zKt n_ | apply Tw.ite | apply Tw.seqE | apply Tw.bind | apply Tw.lp n_ | exact Tw.id _)
def zLD (n_ : Nat) y0 y1 : Tw (zDA y0 y1) := by
 delta zDA
 repeat with_reducible (first | intro _ | apply zQ3 n_ | apply zR0 n_ | apply zSV n_ | apply Tw.ite | apply Tw.seqE | apply Tw.bind | apply Tw.lp n_ | exact Tw.id _)
def zMe (n_ : Nat) y0 y1 : Tw (zCa y0 y1) := by
 delta zCa
 repeat with_reducible (first | intro _ | apply Tw.ite | apply Tw.seqE | apply Tw.bind | apply Tw.lp n_ | exact Tw.id _)
def zMl (n_ : Nat) r4 y0 s6 s9 s10 : Tw (zBc r4 y0 s6 s9 s10) := by
 delta zBc
 repeat with_reducible (first | intro _ | apply zLD n_ | apply Tw.ite | apply Tw.seqE | apply Tw.bind | apply Tw.lp n_ | exact Tw.id _)
def zMr (n_ : Nat) s6 y0 s9 : Tw (zCF s6 y0 s9) := by
 delta zCF
 repeat with_reducible (first | intro _ | apply zLD n_ | apply zMl n_ | apply Tw.ite | apply Tw.seqE | apply Tw.bind | apply Tw.lp n_ | exact Tw.id _)
def zMf (n_ : Nat) y0 s6 : Tw (zBX y0 s6) := by
 delta zBX
 repeat with_reducible (first | intro _ | apply zMr n_ | apply Tw.ite | apply Tw.seqE | apply Tw.bind | apply Tw.lp n_ | exact Tw.id _)
def zOw (n_ : Nat) y0 : Tw (zDm y0) := by
 delta zDm
 repeat with_reducible (first | intro _ | apply zMe n_ | apply zMf n_ | apply Tw.ite | apply Tw.seqE | apply Tw.bind | apply Tw.lp n_ | exact Tw.id _)
def zKs (n_ : Nat) y0 : Tw (zDD y0) := by
 delta zDD
 repeat with_reducible (first | intro _ | apply zOw n_ | apply Tw.ite | apply Tw.seqE | apply Tw.bind | apply Tw.lp n_ | exact Tw.id _)
def zNg (n_ : Nat) y0 : Tw (zEC y0) := by
 delta zEC
 repeat with_reducible (first | intro _ | apply zKs n_ | apply Tw.ite | apply Tw.seqE | apply Tw.bind | apply Tw.lp n_ | exact Tw.id _)
def zGi (n_ : Nat) y0 : Tw (zAb y0) := by
 delta zAb
 repeat with_reducible (first | intro _ | apply zNg n_ | apply Tw.ite | apply Tw.seqE | apply Tw.bind | apply Tw.lp n_ | exact Tw.id _)
def zGh (n_ : Nat) y0 y1 : Tw (zCE y0 y1) := by
 delta zCE
 repeat with_reducible (first | intro _ | apply Tw.ite | apply Tw.seqE | apply Tw.bind | apply Tw.lp n_ | exact Tw.id _)
def zGj (n_ : Nat) r1 s1 : Tw (zAa r1 s1) := by
 delta zAa
 repeat with_reducible (first | intro _ | apply zGh n_ | apply Tw.ite | apply Tw.seqE | apply Tw.bind | apply Tw.lp n_ | exact Tw.id _)
def zH9 (n_ : Nat) y0 : Tw (zAl y0) := by
 delta zAl
 repeat with_reducible (first | intro _ | apply zGi n_ | apply zGj n_ | apply Tw.ite | apply Tw.seqE | apply Tw.bind | apply Tw.lp n_ | exact Tw.id _)
def zGU (n_ : Nat) r1 s1 : Tw (zBt r1 s1) := by
 delta zBt
 repeat with_reducible (first | intro _ | apply zGh n_ | apply Tw.ite | apply Tw.seqE | apply Tw.bind | apply Tw.lp n_ | exact Tw.id _)
def zHC (n_ : Nat) y0 : Tw (zB1 y0) := by
 delta zB1
 repeat with_reducible (first | intro _ | apply zGU n_ | apply Tw.ite | apply Tw.seqE | apply Tw.bind | apply Tw.lp n_ | exact Tw.id _)
def zGS (n_ : Nat) r1 s1 : Tw (zBs r1 s1) := by
 delta zBs
 repeat with_reducible (first | intro _ | apply zGh n_ | apply Tw.ite | apply Tw.seqE | apply Tw.bind | apply Tw.lp n_ | exact Tw.id _)
def zHB (n_ : Nat) y0 : Tw (zB2 y0) := by
 delta zB2
 repeat with_reducible (first | intro _ | apply zGS n_ | apply Tw.ite | apply Tw.seqE | apply Tw.bind | apply Tw.lp n_ | exact Tw.id _)
def zMi (n_ : Nat) y0 y1 : Tw (zBW y0 y1) := by
 delta zBW
 repeat with_reducible (first | intro _ | apply zKt n_ | apply zH9 n_ | apply zHC n_ | apply zHB n_ | apply Tw.ite | apply Tw.seqE | apply Tw.bind | apply Tw.lp n_ | exact Tw.id _)
def zKd (n_ : Nat) r1 y0 s1 : Tw (zBk r1 y0 s1) := by
 delta zBk
 repeat with_reducible (first | intro _ | apply zHa n_ | apply Tw.ite | apply Tw.seqE | apply Tw.bind | apply Tw.lp n_ | exact Tw.id _)
def zMW (n_ : Nat) y0 y1 : Tw (zCW y0 y1) := by
 delta zCW
 repeat with_reducible (first | intro _ | apply zMi n_ | apply zKd n_ | apply Tw.ite | apply Tw.seqE | apply Tw.bind | apply Tw.lp n_ | exact Tw.id _)
def zKi (n_ : Nat) y0 : Tw (zBn y0) := by
 delta zBn
 repeat with_reducible (first | intro _ | apply Tw.ite | apply Tw.seqE | apply Tw.bind | apply Tw.lp n_ | exact Tw.id _)
def zLO (n_ : Nat) y0 y1 : Tw (zBw y0 y1) := by
 delta zBw
 repeat with_reducible (first | intro _ | apply Tw.ite | apply Tw.seqE | apply Tw.bind | apply Tw.lp n_ | exact Tw.id _)
def zJp (n_ : Nat) y0 y1 : Tw (zCA y0 y1) := by
 delta zCA
 repeat with_reducible (first | intro _ | apply zLO n_ | apply Tw.ite | apply Tw.seqE | apply Tw.bind | apply Tw.lp n_ | exact Tw.id _)
def zKo (n_ : Nat) y0 y1 : Tw (zEB y0 y1) := by
 delta zEB
 repeat with_reducible (first | intro _ | apply zJp n_ | apply Tw.ite | apply Tw.seqE | apply Tw.bind | apply Tw.lp n_ | exact Tw.id _)
def zLu (n_ : Nat) y0 y1 : Tw (zCK y0 y1) := by
 delta zCK
 repeat with_reducible (first | intro _ | apply zKo n_ | apply Tw.ite | apply Tw.seqE | apply Tw.bind | apply Tw.lp n_ | exact Tw.id _)
def zDc (n_ : Nat) y0 y1 s1 : Tw (zAr y0 y1 s1) := by
 delta zAr
 repeat with_reducible (first | intro _ | apply zLu n_ | apply Tw.ite | apply Tw.seqE | apply Tw.bind | apply Tw.lp n_ | exact Tw.id _)
def zEF (n_ : Nat) y0 y1 : Tw (zAd y0 y1) := by
 delta zAd
 repeat with_reducible (first | intro _ | apply zDc n_ | apply Tw.ite | apply Tw.seqE | apply Tw.bind | apply Tw.lp n_ | exact Tw.id _)
def zDb (n_ : Nat) y0 y1 : Tw (zAQ y0 y1) := by
 delta zAQ
 repeat with_reducible (first | intro _ | apply zEF n_ | apply Tw.ite | apply Tw.seqE | apply Tw.bind | apply Tw.lp n_ | exact Tw.id _)
def zJI (n_ : Nat) y0 y1 y2 : Tw (zBi y0 y1 y2) := by
 delta zBi
 repeat with_reducible (first | intro _ | apply zDb n_ | apply Tw.ite | apply Tw.seqE | apply Tw.bind | apply Tw.lp n_ | exact Tw.id _)
def zDu (n_ : Nat) y0 y1 y2 s1 : Tw (zBA y0 y1 y2 s1) := by
 delta zBA
 repeat with_reducible (first | intro _ | apply zJI n_ | apply Tw.ite | apply Tw.seqE | apply Tw.bind | apply Tw.lp n_ | exact Tw.id _)
def zEe (n_ : Nat) y0 y1 y2 : Tw (zAf y0 y1 y2) := by
 delta zAf
 repeat with_reducible (first | intro _ | apply zDu n_ | apply Tw.ite | apply Tw.seqE | apply Tw.bind | apply Tw.lp n_ | exact Tw.id _)
def zDh (n_ : Nat) y0 y1 y2 s2 : Tw (zAu y0 y1 y2 s2) := by
 delta zAu
 repeat with_reducible (first | intro _ | apply zJI n_ | apply Tw.ite | apply Tw.seqE | apply Tw.bind | apply Tw.lp n_ | exact Tw.id _)
def zEW (n_ : Nat) y0 y1 y2 : Tw (zAV y0 y1 y2) := by
 delta zAV
 repeat with_reducible (first | intro _ | apply zEe n_ | apply zDh n_ | apply Tw.ite | apply Tw.seqE | apply Tw.bind | apply Tw.lp n_ | exact Tw.id _)
def zOQ (n_ : Nat) y0 y1 y2 : Tw (zCM y0 y1 y2) := by
 delta zCM
 repeat with_reducible (first | intro _ | apply zMW n_ | apply zKi n_ | apply zLG n_ | apply zEW n_ | apply Tw.ite | apply Tw.seqE | apply Tw.bind | apply Tw.lp n_ | exact Tw.id _)
def zKf (n_ : Nat) y0 s1 : Tw (zEu y0 s1) := by
 delta zEu
 repeat with_reducible (first | intro _ | apply Tw.ite | apply Tw.seqE | apply Tw.bind | apply Tw.lp n_ | exact Tw.id _)
def zGV (n_ : Nat) y0 : Tw (zBH y0) := by
 delta zBH
 repeat with_reducible (first | intro _ | apply zKf n_ | apply Tw.ite | apply Tw.seqE | apply Tw.bind | apply Tw.lp n_ | exact Tw.id _)
def zG0 (n_ : Nat) (y0 : List Int) := (zGV n_ y0).1
theorem zHx (n_ : Nat) (y0 : List Int) : Le (zG0 n_ y0) (zBH y0) := (zGV n_ y0).2
def zKT (n_ : Nat) (y0 : List Int) : Tw (zBI y0) := ⟨zEc n_ y0, zHI n_ y0⟩
def zHK (n_ : Nat) (x1 : zAA) (rec_argument_Subs : (List zAA) → Int → Option (List Int)) (y0 : List zAA) (s2 : (List Int) × Int) : Option (((List Int) × Int) ⊕ (List Int)) :=
  if decide (s2.2 < (len x1.2.2.1)) then
    (idx x1.2.2.1 s2.2).bind fun x2 =>
    (rec_argument_Subs y0 x2).bind fun r2 =>
    (app s2.1 r2).bind fun x3 =>
    some (.inl (x3, w64 (s2.2 + 1)))
  else
    some (.inr s2.1)
theorem zMn (n_ : Nat) (x1 : zAA) {rec_argument_Subs rec_argument_Subs' : (List zAA) → Int → Option (List Int)} (h_rec_argument_Subs : ∀ u0 u1, Le (rec_argument_Subs u0 u1) (rec_argument_Subs' u0 u1)) (y0 : List zAA) (s2 : (List Int) × Int) : Le (zHK n_ x1 rec_argument_Subs y0 s2) (zCl x1 rec_argument_Subs' y0 s2) := by
  unfold zHK zCl
  repeat with_reducible (first | intro _ | apply h_rec_argument_Subs | exact Le.refl _ | apply Le.ite | apply Le.seqE | apply Le.bind | apply Le.lp | exact Le.none _)
def zI3 (n_ : Nat) (rec_argument_Subs : (List zAA) → Int → Option (List Int)) (y0 : List zAA) (y1 : Int) : Option (List Int) :=
  (zAx y0 y1).bind fun r1 =>
  if !r1 then
    some ([] : List Int)
  else
    (
      (idx y0 y1).bind fun x1 =>
      (lp n_) ((zHK n_) x1 rec_argument_Subs y0) (([y1] : List Int), 0) : Option (List Int)).bind fun s1 =>
    ((zEc n_) s1).bind fun r3 =>
    ((zG0 n_) r3).bind fun r4 =>
    some r4
theorem zOS (n_ : Nat) {rec_argument_Subs rec_argument_Subs' : (List zAA) → Int → Option (List Int)} (h_rec_argument_Subs : ∀ u0 u1, Le (rec_argument_Subs u0 u1) (rec_argument_Subs' u0 u1)) (y0 : List zAA) (y1 : Int) : Le (zI3 n_ rec_argument_Subs y0 y1) (zEd rec_argument_Subs' y0 y1) := by
  unfold zI3 zEd
  repeat with_reducible (first | intro _ | apply h_rec_argument_Subs | apply zHx | apply zHI | apply zMn | exact Le.refl _ | apply Le.ite | apply Le.seqE | apply Le.bind | apply Le.lp | exact Le.none _)
def zI8 (n_ : Nat) : Nat → (List zAA) → Int → Option (List Int)
  | 0 => fun _ _ => none
  | k + 1 => fun y0 y1 => (zI3 n_) ((zI8 n_) k) y0 y1
theorem zKD (n_ : Nat) : ∀ (k m : Nat), k ≤ m → ∀ u0 u1, Le (zI8 n_ k u0 u1) (zCi m u0 u1)
  | 0, _, _ => fun u0 u1 => Le.none _
  | k + 1, m, h => fun u0 u1 => by
    obtain ⟨m, rfl⟩ : ∃ q, m = q + 1 := ⟨m - 1, by omega⟩
    exact zOS n_ (zKD n_ k m (by omega)) _ _
def zL7 (n_ : Nat) (y0 : List zAA) (y1 : Int) : Option (List Int) :=
  zI8 n_ n_ y0 y1
theorem zOx (n_ : Nat) (y0 : List zAA) (y1 : Int) : Le (zL7 n_ y0 y1) (zD2 y0 y1) := Le.lim n_ fun m h => zKD n_ n_ m h _ _
def zIx (n_ : Nat) (y0 : List zAA) (y1 : Int) : Tw (zD2 y0 y1) := ⟨zL7 n_ y0 y1, zOx n_ y0 y1⟩
def zIE (n_ : Nat) y0 y1 y2 : Tw (zBb y0 y1 y2) := by
 delta zBb
 repeat with_reducible (first | intro _ | apply zIx n_ | apply zKT n_ | apply zGV n_ | apply Tw.ite | apply Tw.seqE | apply Tw.bind | apply Tw.lp n_ | exact Tw.id _)
def zHh (n_ : Nat) (x4 : zAA) (rec_argument_run : zAF → (List zAA) → Int → Option (List zAB)) (y0 : zAF) (y1 : List zAA) (s2 : (List zAB) × Int) : Option (((List zAB) × Int) ⊕ (List zAB)) :=
  if decide (s2.2 < (len x4.2.2.1)) then
    (idx x4.2.2.1 s2.2).bind fun x5 =>
    (rec_argument_run y0 y1 x5).bind fun r1 =>
    (app s2.1 r1).bind fun x6 =>
    some (.inl (x6, w64 (s2.2 + 1)))
  else
    some (.inr s2.1)
theorem zN8 (n_ : Nat) (x4 : zAA) {rec_argument_run rec_argument_run' : zAF → (List zAA) → Int → Option (List zAB)} (h_rec_argument_run : ∀ u0 u1 u2, Le (rec_argument_run u0 u1 u2) (rec_argument_run' u0 u1 u2)) (y0 : zAF) (y1 : List zAA) (s2 : (List zAB) × Int) : Le (zHh n_ x4 rec_argument_run y0 y1 s2) (zGK x4 rec_argument_run' y0 y1 s2) := by
  unfold zHh zGK
  repeat with_reducible (first | intro _ | apply h_rec_argument_run | exact Le.refl _ | apply Le.ite | apply Le.seqE | apply Le.bind | apply Le.lp | exact Le.none _)
def zJD (n_ : Nat) (rec_argument_run : zAF → (List zAA) → Int → Option (List zAB)) (y0 : zAF) (y1 : List zAA) (y2 : Int) : Option (List zAB) :=
  (idx y1 y2).bind fun x1 =>
  (idx y1 y2).bind fun x2 =>
  (
    if decide (0 ≤ x2.2.1) then
      (idx y0.2.1 x2.2.1).bind fun x3 =>
      some x3.2.1
    else
      some false : Option Bool).bind fun s1 =>
  if s1 then
    (idx y1 y2).bind fun x4 =>
    (lp n_) ((zHh n_) x4 rec_argument_run y0 y1) (([x1.2.2.2] : List zAB), 0)
  else
    some ([x1.2.2.2] : List zAB)
theorem zOu (n_ : Nat) {rec_argument_run rec_argument_run' : zAF → (List zAA) → Int → Option (List zAB)} (h_rec_argument_run : ∀ u0 u1 u2, Le (rec_argument_run u0 u1 u2) (rec_argument_run' u0 u1 u2)) (y0 : zAF) (y1 : List zAA) (y2 : Int) : Le (zJD n_ rec_argument_run y0 y1 y2) (zF4 rec_argument_run' y0 y1 y2) := by
  unfold zJD zF4
  repeat with_reducible (first | intro _ | apply h_rec_argument_run | apply zN8 | exact Le.refl _ | apply Le.ite | apply Le.seqE | apply Le.bind | apply Le.lp | exact Le.none _)
def zJP (n_ : Nat) : Nat → zAF → (List zAA) → Int → Option (List zAB)
  | 0 => fun _ _ _ => none
  | k + 1 => fun y0 y1 y2 => (zJD n_) ((zJP n_) k) y0 y1 y2
theorem zKx (n_ : Nat) : ∀ (k m : Nat), k ≤ m → ∀ u0 u1 u2, Le (zJP n_ k u0 u1 u2) (zCe m u0 u1 u2)
  | 0, _, _ => fun u0 u1 u2 => Le.none _
  | k + 1, m, h => fun u0 u1 u2 => by
    obtain ⟨m, rfl⟩ : ∃ q, m = q + 1 := ⟨m - 1, by omega⟩
    exact zOu n_ (zKx n_ k m (by omega)) _ _ _
def zM1 (n_ : Nat) (y0 : zAF) (y1 : List zAA) (y2 : Int) : Option (List zAB) :=
  zJP n_ n_ y0 y1 y2
theorem zPQ (n_ : Nat) (y0 : zAF) (y1 : List zAA) (y2 : Int) : Le (zM1 n_ y0 y1 y2) (zEG y0 y1 y2) := Le.lim n_ fun m h => zKx n_ n_ m h _ _ _
def zQ2 (n_ : Nat) (y0 : zAF) (y1 : List zAA) (y2 : Int) : Tw (zEG y0 y1 y2) := ⟨zM1 n_ y0 y1 y2, zPQ n_ y0 y1 y2⟩
def zND (n_ : Nat) y0 y1 : Tw (zDy y0 y1) := by
 delta zDy
 repeat with_reducible (first | intro _ | apply Tw.ite | apply Tw.seqE | apply Tw.bind | apply Tw.lp n_ | exact Tw.id _)
def zIC (n_ : Nat) y0 y1 : Tw (zBd y0 y1) := by
 delta zBd
 repeat with_reducible (first | intro _ | apply zND n_ | apply Tw.ite | apply Tw.seqE | apply Tw.bind | apply Tw.lp n_ | exact Tw.id _)
def zMX (n_ : Nat) y3 y0 y2 y1 s1 : Tw (zCX y3 y0 y2 y1 s1) := by
 delta zCX
 repeat with_reducible (first | intro _ | apply zQ2 n_ | apply zKo n_ | apply zIE n_ | apply zIC n_ | apply Tw.ite | apply Tw.seqE | apply Tw.bind | apply Tw.lp n_ | exact Tw.id _)
def zKM (n_ : Nat) y0 y1 y2 y3 : Tw (zC9 y0 y1 y2 y3) := by
 delta zC9
 repeat with_reducible (first | intro _ | apply zMX n_ | apply Tw.ite | apply Tw.seqE | apply Tw.bind | apply Tw.lp n_ | exact Tw.id _)
def zK1 (n_ : Nat) (y0 : zAF) (y1 : List zAA) (y2 : Int) (y3 : List Int) := (zKM n_ y0 y1 y2 y3).1
theorem zNl (n_ : Nat) (y0 : zAF) (y1 : List zAA) (y2 : Int) (y3 : List Int) : Le (zK1 n_ y0 y1 y2 y3) (zC9 y0 y1 y2 y3) := (zKM n_ y0 y1 y2 y3).2
def zDw (n_ : Nat) y0 y2 : Tw (zAS y0 y2) := by
 delta zAS
 repeat with_reducible (first | intro _ | apply Tw.ite | apply Tw.seqE | apply Tw.bind | apply Tw.lp n_ | exact Tw.id _)
def zBa (n_ : Nat) y0 y2 : Tw (zAN y0 y2) := by
 delta zAN
 repeat with_reducible (first | intro _ | apply zDw n_ | apply Tw.ite | apply Tw.seqE | apply Tw.bind | apply Tw.lp n_ | exact Tw.id _)
def zB8 (n_ : Nat) (y0 : List Int) (y2 : zAK) := (zBa n_ y0 y2).1
theorem zDP (n_ : Nat) (y0 : List Int) (y2 : zAK) : Le (zB8 n_ y0 y2) (zAN y0 y2) := (zBa n_ y0 y2).2
def zDF (n_ : Nat) (y0 : zAK) (x1 : zAL) (y2 : List Int) (rec_argument_builder_apply_2 : zAK → Int → (List Int) → Option (List zAA)) (y1 : Int) (s2 : Int × (List zAA)) : Option ((Int × (List zAA)) ⊕ (Unit ⊕ (List zAA))) :=
  if decide (s2.1 < (len y0.2.1)) then
    (idx y0.2.1 s2.1).bind fun x2 =>
    (idx x1.2.2.2.1 (len y2)).bind fun x3 =>
    if x2.2.2.2 == x3 then
      (
        (zEA y2).bind fun r2 =>
        (app r2 ([s2.1] : List Int)).bind fun x4 =>
        (rec_argument_builder_apply_2 (y0.1, y0.2.1, s2.2, y0.2.2.2) y1 x4).bind fun r3 =>
        some r3 : Option (List zAA)).bind fun s3 =>
      some (.inl (w64 (s2.1 + 1), s3))
    else
      some (.inl (w64 (s2.1 + 1), s2.2))
  else
    some (.inr (.inr s2.2))
theorem zIF (n_ : Nat) (y0 : zAK) (x1 : zAL) (y2 : List Int) {rec_argument_builder_apply_2 rec_argument_builder_apply_2' : zAK → Int → (List Int) → Option (List zAA)} (h_rec_argument_builder_apply_2 : ∀ u0 u1 u2, Le (rec_argument_builder_apply_2 u0 u1 u2) (rec_argument_builder_apply_2' u0 u1 u2)) (y1 : Int) (s2 : Int × (List zAA)) : Le (zDF n_ y0 x1 y2 rec_argument_builder_apply_2 y1 s2) (zAz y0 x1 y2 rec_argument_builder_apply_2' y1 s2) := by
  unfold zDF zAz
  repeat with_reducible (first | intro _ | apply h_rec_argument_builder_apply_2 | exact Le.refl _ | apply Le.ite | apply Le.seqE | apply Le.bind | apply Le.lp | exact Le.none _)
def zDY (n_ : Nat) (rec_argument_builder_apply_2 : zAK → Int → (List Int) → Option (List zAA)) (y0 : zAK) (y1 : Int) (y2 : List Int) : Option (List zAA) :=
  (idx y0.1.2.1 y1).bind fun x1 =>
  (zBS y0).bind fun r1 =>
  if r1 then
    some y0.2.2.1
  else
    zBE (
      if decide ((len y2) < (len x1.2.2.2.1)) then
        (lp n_) ((zDF n_) y0 x1 y2 rec_argument_builder_apply_2 y1) (0, y0.2.2.1)
      else
        some (.inl ()) : Option (Unit ⊕ (List zAA))) fun _ =>
    (
      ((zB8 n_) y2 y0).bind fun r6 =>
      if r6 then
        ((zK1 n_) y0.1 y0.2.1 y1 y2).bind fun r7 =>
        some r7
      else
        some false : Option Bool).bind fun s4 =>
    if s4 then
      (idx y0.1.2.1 y1).bind fun x6 =>
      (app y0.2.2.1 ([((-1), y1, y2, x6.2.2.2.2)] : List zAA)).bind fun x7 =>
      some x7
    else
      some y0.2.2.1
theorem zIh (n_ : Nat) {rec_argument_builder_apply_2 rec_argument_builder_apply_2' : zAK → Int → (List Int) → Option (List zAA)} (h_rec_argument_builder_apply_2 : ∀ u0 u1 u2, Le (rec_argument_builder_apply_2 u0 u1 u2) (rec_argument_builder_apply_2' u0 u1 u2)) (y0 : zAK) (y1 : Int) (y2 : List Int) : Le (zDY n_ rec_argument_builder_apply_2 y0 y1 y2) (zBP rec_argument_builder_apply_2' y0 y1 y2) := by
  unfold zDY zBP
  repeat with_reducible (first | intro _ | apply h_rec_argument_builder_apply_2 | apply zNl | apply zDP | apply zIF | exact Le.refl _ | apply Le.ite | apply Le.seqE | apply Le.bind | apply Le.lp | exact Le.none _)
def zD0 (n_ : Nat) : Nat → zAK → Int → (List Int) → Option (List zAA)
  | 0 => fun _ _ _ => none
  | k + 1 => fun y0 y1 y2 => (zDY n_) ((zD0 n_) k) y0 y1 y2
theorem zFh (n_ : Nat) : ∀ (k m : Nat), k ≤ m → ∀ u0 u1 u2, Le (zD0 n_ k u0 u1 u2) (zAj m u0 u1 u2)
  | 0, _, _ => fun u0 u1 u2 => Le.none _
  | k + 1, m, h => fun u0 u1 u2 => by
    obtain ⟨m, rfl⟩ : ∃ q, m = q + 1 := ⟨m - 1, by omega⟩
    exact zIh n_ (zFh n_ k m (by omega)) _ _ _
def zGN (n_ : Nat) (y0 : zAK) (y1 : Int) (y2 : List Int) : Option (List zAA) :=
  zD0 n_ n_ y0 y1 y2
theorem zJB (n_ : Nat) (y0 : zAK) (y1 : Int) (y2 : List Int) : Le (zGN n_ y0 y1 y2) (zBQ y0 y1 y2) := Le.lim n_ fun m h => zFh n_ n_ m h _ _ _
def zJ3 (n_ : Nat) (y0 : zAK) (y1 : Int) (y2 : List Int) : Tw (zBQ y0 y1 y2) := ⟨zGN n_ y0 y1 y2, zJB n_ y0 y1 y2⟩
def zFl (n_ : Nat) y0 y1 : Tw (zAc y0 y1) := by
 delta zAc
 repeat with_reducible (first | intro _ | apply Tw.ite | apply Tw.seqE | apply Tw.bind | apply Tw.lp n_ | exact Tw.id _)
def zLt (n_ : Nat) y0 y1 : Tw (zD4 y0 y1) := by
 delta zD4
 repeat with_reducible (first | intro _ | apply zFl n_ | apply Tw.ite | apply Tw.seqE | apply Tw.bind | apply Tw.lp n_ | exact Tw.id _)
def zEU (n_ : Nat) y0 y1 : Tw (zAW y0 y1) := by
 delta zAW
 repeat with_reducible (first | intro _ | apply Tw.ite | apply Tw.seqE | apply Tw.bind | apply Tw.lp n_ | exact Tw.id _)
def zNt (n_ : Nat) y0 y1 : Tw (zCv y0 y1) := by
 delta zCv
 repeat with_reducible (first | intro _ | apply zEU n_ | apply Tw.ite | apply Tw.seqE | apply Tw.bind | apply Tw.lp n_ | exact Tw.id _)
def zEz (n_ : Nat) y0 : Tw (zBU y0) := by
 delta zBU
 repeat with_reducible (first | intro _ | apply Tw.ite | apply Tw.seqE | apply Tw.bind | apply Tw.lp n_ | exact Tw.id _)
def zE4 (n_ : Nat) y0 : Tw (zBe y0) := by
 delta zBe
 repeat with_reducible (first | intro _ | apply zEz n_ | apply Tw.ite | apply Tw.seqE | apply Tw.bind | apply Tw.lp n_ | exact Tw.id _)
def zN0 (n_ : Nat) y0 : Tw (zDx y0) := by
 delta zDx
 repeat with_reducible (first | intro _ | apply zEz n_ | apply Tw.ite | apply Tw.seqE | apply Tw.bind | apply Tw.lp n_ | exact Tw.id _)
def zNE (n_ : Nat) y0 : Tw (zCp y0) := by
 delta zCp
 repeat with_reducible (first | intro _ | apply zE4 n_ | apply zN0 n_ | apply Tw.ite | apply Tw.seqE | apply Tw.bind | apply Tw.lp n_ | exact Tw.id _)
def zMY (n_ : Nat) y0 y1 : Tw (zCV y0 y1) := by
 delta zCV
 repeat with_reducible (first | intro _ | apply zE4 n_ | apply zLt n_ | apply Tw.ite | apply Tw.seqE | apply Tw.bind | apply Tw.lp n_ | exact Tw.id _)
def zN2 (n_ : Nat) y0 s3 : Tw (zCu y0 s3) := by
 delta zCu
 repeat with_reducible (first | intro _ | apply zE4 n_ | apply Tw.ite | apply Tw.seqE | apply Tw.bind | apply Tw.lp n_ | exact Tw.id _)
def zPw (n_ : Nat) y0 : Tw (zE7 y0) := by
 delta zE7
 repeat with_reducible (first | intro _ | apply zEz n_ | apply zE4 n_ | apply zN2 n_ | apply Tw.ite | apply Tw.seqE | apply Tw.bind | apply Tw.lp n_ | exact Tw.id _)
def zLT (n_ : Nat) y0 s2 : Tw (zBv y0 s2) := by
 delta zBv
 repeat with_reducible (first | intro _ | apply zNE n_ | apply zNt n_ | apply Tw.ite | apply Tw.seqE | apply Tw.bind | apply Tw.lp n_ | exact Tw.id _)
def zLL (n_ : Nat) y0 s4 : Tw (zBx y0 s4) := by
 delta zBx
 repeat with_reducible (first | intro _ | apply zPw n_ | apply zLt n_ | apply Tw.ite | apply Tw.seqE | apply Tw.bind | apply Tw.lp n_ | exact Tw.id _)
def zLK (n_ : Nat) y0 s5 : Tw (zBz y0 s5) := by
 delta zBz
 repeat with_reducible (first | intro _ | apply zMY n_ | apply Tw.ite | apply Tw.seqE | apply Tw.bind | apply Tw.lp n_ | exact Tw.id _)
def zJV (n_ : Nat) y0 : Tw (zBh y0) := by
 delta zBh
 repeat with_reducible (first | intro _ | apply zLT n_ | apply zLL n_ | apply zLK n_ | apply Tw.ite | apply Tw.seqE | apply Tw.bind | apply Tw.lp n_ | exact Tw.id _)
def zMh (n_ : Nat) y0 s4 s6 : Tw (zCH y0 s4 s6) := by
 delta zCH
 repeat with_reducible (first | intro _ | apply zJ3 n_ | apply Tw.ite | apply Tw.seqE | apply Tw.bind | apply Tw.lp n_ | exact Tw.id _)
def zMv (n_ : Nat) y0 s4 : Tw (zBC y0 s4) := by
 delta zBC
 repeat with_reducible (first | intro _ | apply zMh n_ | apply Tw.ite | apply Tw.seqE | apply Tw.bind | apply Tw.lp n_ | exact Tw.id _)
def zOe (n_ : Nat) y0 : Tw (zCY y0) := by
 delta zCY
 repeat with_reducible (first | intro _ | apply zJV n_ | apply zMv n_ | apply Tw.ite | apply Tw.seqE | apply Tw.bind | apply Tw.lp n_ | exact Tw.id _)
def zFZ (n_ : Nat) (y0 : List zAM) : Tw (zA1 y0) := ⟨zBY n_ y0, zFH n_ y0⟩
def zMd (n_ : Nat) y1 s2 r1 s3 s4 : Tw (zC7 y1 s2 r1 s3 s4) := by
 delta zC7
 repeat with_reducible (first | intro _ | apply zIx n_ | apply zIC n_ | apply Tw.ite | apply Tw.seqE | apply Tw.bind | apply Tw.lp n_ | exact Tw.id _)
def zMu (n_ : Nat) y1 y0 s2 s3 : Tw (zCb y1 y0 s2 s3) := by
 delta zCb
 repeat with_reducible (first | intro _ | apply zMd n_ | apply Tw.ite | apply Tw.seqE | apply Tw.bind | apply Tw.lp n_ | exact Tw.id _)
def zMa (n_ : Nat) y1 y0 s2 : Tw (zCI y1 y0 s2) := by
 delta zCI
 repeat with_reducible (first | intro _ | apply zMu n_ | apply Tw.ite | apply Tw.seqE | apply Tw.bind | apply Tw.lp n_ | exact Tw.id _)
def zPC (n_ : Nat) y0 y1 : Tw (zDi y0 y1) := by
 delta zDi
 repeat with_reducible (first | intro _ | apply zMa n_ | apply zFZ n_ | apply Tw.ite | apply Tw.seqE | apply Tw.bind | apply Tw.lp n_ | exact Tw.id _)
def zIp (n_ : Nat) y0 y1 : Tw (zCG y0 y1) := by
 delta zCG
 repeat with_reducible (first | intro _ | apply zIx n_ | apply zKT n_ | apply Tw.ite | apply Tw.seqE | apply Tw.bind | apply Tw.lp n_ | exact Tw.id _)
def zGG (n_ : Nat) y0 y1 : Tw (zAh y0 y1) := by
 delta zAh
 repeat with_reducible (first | intro _ | apply Tw.ite | apply Tw.seqE | apply Tw.bind | apply Tw.lp n_ | exact Tw.id _)
def zF7 (n_ : Nat) y0 y1 : Tw (zA7 y0 y1) := by
 delta zA7
 repeat with_reducible (first | intro _ | apply zGG n_ | apply Tw.ite | apply Tw.seqE | apply Tw.bind | apply Tw.lp n_ | exact Tw.id _)
def zQ8 (n_ : Nat) y0 y1 y2 : Tw (zF1 y0 y1 y2) := by
 delta zF1
 repeat with_reducible (first | intro _ | apply zIp n_ | apply zF7 n_ | apply Tw.ite | apply Tw.seqE | apply Tw.bind | apply Tw.lp n_ | exact Tw.id _)
def zHE (n_ : Nat) (x5 : zAA) (rec_argument_Last : zAF → (List zAA) → Int → Option (List Int)) (y0 : zAF) (y1 : List zAA) (s3 : (List Int) × Int) : Option (((List Int) × Int) ⊕ (List Int)) :=
  if decide (s3.2 < (len x5.2.2.1)) then
    (idx x5.2.2.1 s3.2).bind fun x6 =>
    (rec_argument_Last y0 y1 x6).bind fun r2 =>
    (app s3.1 r2).bind fun x7 =>
    some (.inl (x7, w64 (s3.2 + 1)))
  else
    some (.inr s3.1)
theorem zMm (n_ : Nat) (x5 : zAA) {rec_argument_Last rec_argument_Last' : zAF → (List zAA) → Int → Option (List Int)} (h_rec_argument_Last : ∀ u0 u1 u2, Le (rec_argument_Last u0 u1 u2) (rec_argument_Last' u0 u1 u2)) (y0 : zAF) (y1 : List zAA) (s3 : (List Int) × Int) : Le (zHE n_ x5 rec_argument_Last y0 y1 s3) (zCn x5 rec_argument_Last' y0 y1 s3) := by
  unfold zHE zCn
  repeat with_reducible (first | intro _ | apply h_rec_argument_Last | exact Le.refl _ | apply Le.ite | apply Le.seqE | apply Le.bind | apply Le.lp | exact Le.none _)
def zI6 (n_ : Nat) (rec_argument_Last : zAF → (List zAA) → Int → Option (List Int)) (y0 : zAF) (y1 : List zAA) (y2 : Int) : Option (List Int) :=
  (
    (zAx y1 y2).bind fun r1 =>
    if !r1 then
      some true
    else
      (idx y1 y2).bind fun x1 =>
      some (decide (x1.2.1 < 0)) : Option Bool).bind fun s1 =>
  if s1 then
    some ([] : List Int)
  else
    (idx y1 y2).bind fun x2 =>
    (idx y0.2.1 x2.2.1).bind fun x3 =>
    if !x3.2.1 then
      (idx y1 y2).bind fun x4 =>
      some ([x4.2.1] : List Int)
    else
      (
        (idx y1 y2).bind fun x5 =>
        (lp n_) ((zHE n_) x5 rec_argument_Last y0 y1) (([] : List Int), 0) : Option (List Int)).bind fun s2 =>
      ((zEc n_) s2).bind fun r3 =>
      ((zG0 n_) r3).bind fun r4 =>
      some r4
theorem zOA (n_ : Nat) {rec_argument_Last rec_argument_Last' : zAF → (List zAA) → Int → Option (List Int)} (h_rec_argument_Last : ∀ u0 u1 u2, Le (rec_argument_Last u0 u1 u2) (rec_argument_Last' u0 u1 u2)) (y0 : zAF) (y1 : List zAA) (y2 : Int) : Le (zI6 n_ rec_argument_Last y0 y1 y2) (zE9 rec_argument_Last' y0 y1 y2) := by
  unfold zI6 zE9
  repeat with_reducible (first | intro _ | apply h_rec_argument_Last | apply zHx | apply zHI | apply zMm | exact Le.refl _ | apply Le.ite | apply Le.seqE | apply Le.bind | apply Le.lp | exact Le.none _)
def zI2 (n_ : Nat) : Nat → zAF → (List zAA) → Int → Option (List Int)
  | 0 => fun _ _ _ => none
  | k + 1 => fun y0 y1 y2 => (zI6 n_) ((zI2 n_) k) y0 y1 y2
theorem zKO (n_ : Nat) : ∀ (k m : Nat), k ≤ m → ∀ u0 u1 u2, Le (zI2 n_ k u0 u1 u2) (zCg m u0 u1 u2)
  | 0, _, _ => fun u0 u1 u2 => Le.none _
  | k + 1, m, h => fun u0 u1 u2 => by
    obtain ⟨m, rfl⟩ : ∃ q, m = q + 1 := ⟨m - 1, by omega⟩
    exact zOA n_ (zKO n_ k m (by omega)) _ _ _
def zL0 (n_ : Nat) (y0 : zAF) (y1 : List zAA) (y2 : Int) : Option (List Int) :=
  zI2 n_ n_ y0 y1 y2
theorem zOh (n_ : Nat) (y0 : zAF) (y1 : List zAA) (y2 : Int) : Le (zL0 n_ y0 y1 y2) (zFt y0 y1 y2) := Le.lim n_ fun m h => zKO n_ n_ m h _ _ _
def zP0 (n_ : Nat) (y0 : zAF) (y1 : List zAA) (y2 : Int) : Tw (zFt y0 y1 y2) := ⟨zL0 n_ y0 y1 y2, zOh n_ y0 y1 y2⟩
def zOV (n_ : Nat) y0 y1 : Tw (zGw y0 y1) := by
 delta zGw
 repeat with_reducible (first | intro _ | apply Tw.ite | apply Tw.seqE | apply Tw.bind | apply Tw.lp n_ | exact Tw.id _)
def zKz (n_ : Nat) y0 y1 y2 : Tw (zCD y0 y1 y2) := by
 delta zCD
 repeat with_reducible (first | intro _ | apply zP0 n_ | apply zOV n_ | apply Tw.ite | apply Tw.seqE | apply Tw.bind | apply Tw.lp n_ | exact Tw.id _)
def zOr (n_ : Nat) y0 : Tw (zCz y0) := by
 delta zCz
 repeat with_reducible (first | intro _ | apply Tw.ite | apply Tw.seqE | apply Tw.bind | apply Tw.lp n_ | exact Tw.id _)
def zOv (n_ : Nat) y0 : Tw (zDG y0) := by
 delta zDG
 repeat with_reducible (first | intro _ | apply Tw.ite | apply Tw.seqE | apply Tw.bind | apply Tw.lp n_ | exact Tw.id _)
def zJr (n_ : Nat) y0 y1 y2 : Tw (zDM y0 y1 y2) := by
 delta zDM
 repeat with_reducible (first | intro _ | apply zOv n_ | apply zOr n_ | apply Tw.ite | apply Tw.seqE | apply Tw.bind | apply Tw.lp n_ | exact Tw.id _)
def zIU (n_ : Nat) y0 y1 y2 y3 y4 : Tw (zAy y0 y1 y2 y3 y4) := by
 delta zAy
 repeat with_reducible (first | intro _ | apply zKz n_ | apply zJr n_ | apply Tw.ite | apply Tw.seqE | apply Tw.bind | apply Tw.lp n_ | exact Tw.id _)
def zIw (n_ : Nat) y0 y1 y2 : Tw (zBV y0 y1 y2) := by
 delta zBV
 repeat with_reducible (first | intro _ | apply zIp n_ | apply Tw.ite | apply Tw.seqE | apply Tw.bind | apply Tw.lp n_ | exact Tw.id _)
def zEQ (n_ : Nat) y0 y1 y2 y3 y4 : Tw (zAU y0 y1 y2 y3 y4) := by
 delta zAU
 repeat with_reducible (first | intro _ | apply zIw n_ | apply zJr n_ | apply Tw.ite | apply Tw.seqE | apply Tw.bind | apply Tw.lp n_ | exact Tw.id _)
def zIZ (n_ : Nat) y0 y1 y2 y3 : Tw (zAv y0 y1 y2 y3) := by
 delta zAv
 repeat with_reducible (first | intro _ | apply zKz n_ | apply Tw.ite | apply Tw.seqE | apply Tw.bind | apply Tw.lp n_ | exact Tw.id _)
def zJ6 (n_ : Nat) y1 y2 y3 y4 y5 : Tw (zBp y1 y2 y3 y4 y5) := by
 delta zBp
 repeat with_reducible (first | intro _ | apply zIU n_ | apply zIZ n_ | apply zEQ n_ | apply Tw.ite | apply Tw.seqE | apply Tw.bind | apply Tw.lp n_ | exact Tw.id _)
def zLH (n_ : Nat) y0 y1 y2 : Tw (zCC y0 y1 y2) := by
 delta zCC
 repeat with_reducible (first | intro _ | apply zIE n_ | apply zOV n_ | apply Tw.ite | apply Tw.seqE | apply Tw.bind | apply Tw.lp n_ | exact Tw.id _)
def zI7 (n_ : Nat) y0 y1 y2 y3 y4 : Tw (zAi y0 y1 y2 y3 y4) := by
 delta zAi
 repeat with_reducible (first | intro _ | apply zLH n_ | apply zJr n_ | apply Tw.ite | apply Tw.seqE | apply Tw.bind | apply Tw.lp n_ | exact Tw.id _)
def zH2 (n_ : Nat) y0 y1 y2 y3 : Tw (zAk y0 y1 y2 y3) := by
 delta zAk
 repeat with_reducible (first | intro _ | apply zIw n_ | apply Tw.ite | apply Tw.seqE | apply Tw.bind | apply Tw.lp n_ | exact Tw.id _)
def zI4 (n_ : Nat) y0 y1 y2 y3 : Tw (zAw y0 y1 y2 y3) := by
 delta zAw
 repeat with_reducible (first | intro _ | apply zLH n_ | apply Tw.ite | apply Tw.seqE | apply Tw.bind | apply Tw.lp n_ | exact Tw.id _)
def zJ0 (n_ : Nat) y1 y2 y3 y4 y6 : Tw (zBq y1 y2 y3 y4 y6) := by
 delta zBq
 repeat with_reducible (first | intro _ | apply zI4 n_ | apply zEQ n_ | apply zH2 n_ | apply zI7 n_ | apply Tw.ite | apply Tw.seqE | apply Tw.bind | apply Tw.lp n_ | exact Tw.id _)
def zTc (n_ : Nat) y0 y1 y2 y3 y4 : Tw (zHj y0 y1 y2 y3 y4) := by
 delta zHj
 repeat with_reducible (first | intro _ | apply zQ8 n_ | apply zJ6 n_ | apply zJ0 n_ | apply Tw.ite | apply Tw.seqE | apply Tw.bind | apply Tw.lp n_ | exact Tw.id _)
def zJi (n_ : Nat) y0 y1 y2 y3 : Tw (zBu y0 y1 y2 y3) := by
 delta zBu
 repeat with_reducible (first | intro _ | apply zTc n_ | apply Tw.ite | apply Tw.seqE | apply Tw.bind | apply Tw.lp n_ | exact Tw.id _)
def zES (n_ : Nat) y0 y1 y2 y3 s1 : Tw (zBG y0 y1 y2 y3 s1) := by
 delta zBG
 repeat with_reducible (first | intro _ | apply zJi n_ | apply Tw.ite | apply Tw.seqE | apply Tw.bind | apply Tw.lp n_ | exact Tw.id _)
def zFL (n_ : Nat) y0 y1 y2 y3 : Tw (zAn y0 y1 y2 y3) := by
 delta zAn
 repeat with_reducible (first | intro _ | apply zES n_ | apply Tw.ite | apply Tw.seqE | apply Tw.bind | apply Tw.lp n_ | exact Tw.id _)
def zEK (n_ : Nat) y0 y1 y2 y3 s2 : Tw (zBD y0 y1 y2 y3 s2) := by
 delta zBD
 repeat with_reducible (first | intro _ | apply zJi n_ | apply Tw.ite | apply Tw.seqE | apply Tw.bind | apply Tw.lp n_ | exact Tw.id _)
def zEl (n_ : Nat) y0 y1 y2 y3 : Tw (zAZ y0 y1 y2 y3) := by
 delta zAZ
 repeat with_reducible (first | intro _ | apply zFL n_ | apply zEK n_ | apply Tw.ite | apply Tw.seqE | apply Tw.bind | apply Tw.lp n_ | exact Tw.id _)
def zPF (n_ : Nat) y0 y1 y2 : Tw (zDH y0 y1 y2) := by
 delta zDH
 repeat with_reducible (first | intro _ | apply zPC n_ | apply zEl n_ | apply Tw.ite | apply Tw.seqE | apply Tw.bind | apply Tw.lp n_ | exact Tw.id _)
def zKF (n_ : Nat) y0 s1 : Tw (zE1 y0 s1) := by
 delta zE1
 repeat with_reducible (first | intro _ | apply Tw.ite | apply Tw.seqE | apply Tw.bind | apply Tw.lp n_ | exact Tw.id _)
def zLr (n_ : Nat) y0 : Tw (zCj y0) := by
 delta zCj
 repeat with_reducible (first | intro _ | apply zKF n_ | apply Tw.ite | apply Tw.seqE | apply Tw.bind | apply Tw.lp n_ | exact Tw.id _)
def zGB (n_ : Nat) (y0 : List zAT) : Tw (zAe y0) := ⟨zBl n_ y0, zFn n_ y0⟩
def zQe (n_ : Nat) y0 y1 : Tw (zEI y0 y1) := by
 delta zEI
 repeat with_reducible (first | intro _ | apply zGB n_ | apply zLr n_ | apply Tw.ite | apply Tw.seqE | apply Tw.bind | apply Tw.lp n_ | exact Tw.id _)
def zLd (n_ : Nat) y0 x1 y1 s3 s4 : Tw (zCh y0 x1 y1 s3 s4) := by
 delta zCh
 repeat with_reducible (first | intro _ | apply zKo n_ | apply Tw.ite | apply Tw.seqE | apply Tw.bind | apply Tw.lp n_ | exact Tw.id _)
def zLW (n_ : Nat) y0 y1 s3 : Tw (zCO y0 y1 s3) := by
 delta zCO
 repeat with_reducible (first | intro _ | apply zLd n_ | apply Tw.ite | apply Tw.seqE | apply Tw.bind | apply Tw.lp n_ | exact Tw.id _)
def zNj (n_ : Nat) y0 y1 : Tw (zCt y0 y1) := by
 delta zCt
 repeat with_reducible (first | intro _ | apply zLW n_ | apply Tw.ite | apply Tw.seqE | apply Tw.bind | apply Tw.lp n_ | exact Tw.id _)
def zOp (n_ : Nat) y0 y1 : Tw (zCB y0 y1) := by
 delta zCB
 repeat with_reducible (first | intro _ | apply zOe n_ | apply zPF n_ | apply zQe n_ | apply zKs n_ | apply zGh n_ | apply zHa n_ | apply zNj n_ | apply Tw.ite | apply Tw.seqE | apply Tw.bind | apply Tw.lp n_ | exact Tw.id _)
def zOj (n_ : Nat) y0 y1 : Tw (zDl y0 y1) := by
 delta zDl
 repeat with_reducible (first | intro _ | apply zOp n_ | apply zOQ n_ | apply Tw.ite | apply Tw.seqE | apply Tw.bind | apply Tw.lp n_ | exact Tw.id _)
def zGg (n_ : Nat) y0 : Tw (zDE y0) := by
 delta zDE
 repeat with_reducible (first | intro _ | apply zE4 n_ | apply Tw.ite | apply Tw.seqE | apply Tw.bind | apply Tw.lp n_ | exact Tw.id _)
def zLS (n_ : Nat) y0 : Tw (zD6 y0) := by
 delta zD6
 repeat with_reducible (first | intro _ | apply zGg n_ | apply Tw.ite | apply Tw.seqE | apply Tw.bind | apply Tw.lp n_ | exact Tw.id _)
def zKX (n_ : Nat) y0 : Tw (zCw y0) := by
 delta zCw
 repeat with_reducible (first | intro _ | apply zGg n_ | apply Tw.ite | apply Tw.seqE | apply Tw.bind | apply Tw.lp n_ | exact Tw.id _)
def zLM (n_ : Nat) y0 s3 : Tw (zF5 y0 s3) := by
 delta zF5
 repeat with_reducible (first | intro _ | apply zGg n_ | apply Tw.ite | apply Tw.seqE | apply Tw.bind | apply Tw.lp n_ | exact Tw.id _)
def zMq (n_ : Nat) y0 : Tw (zEv y0) := by
 delta zEv
 repeat with_reducible (first | intro _ | apply zLM n_ | apply zGg n_ | apply Tw.ite | apply Tw.seqE | apply Tw.bind | apply Tw.lp n_ | exact Tw.id _)
def zPz (n_ : Nat) y0 : Tw (zHY y0) := by
 delta zHY
 repeat with_reducible (first | intro _ | apply zE4 n_ | apply Tw.ite | apply Tw.seqE | apply Tw.bind | apply Tw.lp n_ | exact Tw.id _)
def zCq (n_ : Nat) y0 y1 : Tw (zBK y0 y1) := by
 delta zBK
 repeat with_reducible (first | intro _ | apply zPz n_ | apply Tw.ite | apply Tw.seqE | apply Tw.bind | apply Tw.lp n_ | exact Tw.id _)
def zFx (n_ : Nat) y0 y1 : Tw (zBf y0 y1) := by
 delta zBf
 repeat with_reducible (first | intro _ | apply zEz n_ | apply Tw.ite | apply Tw.seqE | apply Tw.bind | apply Tw.lp n_ | exact Tw.id _)
def zKN (n_ : Nat) y0 y1 : Tw (zCr y0 y1) := by
 delta zCr
 repeat with_reducible (first | intro _ | apply zCq n_ | apply zFx n_ | apply Tw.ite | apply Tw.seqE | apply Tw.bind | apply Tw.lp n_ | exact Tw.id _)
def zJ7 (n_ : Nat) y0 : Tw (zC1 y0) := by
 delta zC1
 repeat with_reducible (first | intro _ | apply zFx n_ | apply zCq n_ | apply Tw.ite | apply Tw.seqE | apply Tw.bind | apply Tw.lp n_ | exact Tw.id _)
def zKA (n_ : Nat) s3 : Tw (zE8 s3) := by
 delta zE8
 repeat with_reducible (first | intro _ | apply zCq n_ | apply Tw.ite | apply Tw.seqE | apply Tw.bind | apply Tw.lp n_ | exact Tw.id _)
def zLa (n_ : Nat) y0 y1 : Tw (zDr y0 y1) := by
 delta zDr
 repeat with_reducible (first | intro _ | apply zFx n_ | apply zKA n_ | apply zCq n_ | apply Tw.ite | apply Tw.seqE | apply Tw.bind | apply Tw.lp n_ | exact Tw.id _)
def zMU (n_ : Nat) y0 y1 : Tw (zE0 y0 y1) := by
 delta zE0
 repeat with_reducible (first | intro _ | apply zKN n_ | apply zLS n_ | apply zLa n_ | apply zMq n_ | apply zJ7 n_ | apply zKX n_ | apply Tw.ite | apply Tw.seqE | apply Tw.bind | apply Tw.lp n_ | exact Tw.id _)
def zMw (n_ : Nat) s2 : Tw (zGk s2) := by
 delta zGk
 repeat with_reducible (first | intro _ | apply zMU n_ | apply Tw.ite | apply Tw.seqE | apply Tw.bind | apply Tw.lp n_ | exact Tw.id _)
def zOk (n_ : Nat) y0 : Tw (zGc y0) := by
 delta zGc
 repeat with_reducible (first | intro _ | apply zMw n_ | apply zJV n_ | apply Tw.ite | apply Tw.seqE | apply Tw.bind | apply Tw.lp n_ | exact Tw.id _)
def zRv (n_ : Nat) y0 : Tw (zGu y0) := by
 delta zGu
 repeat with_reducible (first | intro _ | apply zOk n_ | apply Tw.ite | apply Tw.seqE | apply Tw.bind | apply Tw.lp n_ | exact Tw.id _)
def zRI (n_ : Nat) : Tw (zFI ) := by
 delta zFI
 repeat with_reducible (first | intro _ | apply zRv n_ | apply zOj n_ | apply Tw.ite | apply Tw.seqE | apply Tw.bind | apply Tw.lp n_ | exact Tw.id _)
end
end
section
theorem zVs : zFI = some true := (zRI 100).el (by kernel_rfl)
theorem p_law20_ClaimsPromotes (y0 : List Int) {W0 : Prop} (_w0 : W0) : zD7 y0 = some true := zOt zVs y0
end
end Go.GD
