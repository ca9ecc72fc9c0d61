/- A part. Conditions: none. -/
import Derived.Test.YtjfjjkgaddknfaaGreatDoorPlN1
namespace Go.GD
set_option autoImplicit false
set_option linter.unusedVariables false
section
theorem zZt : ∀ (n m : Nat) (acc : List Int), m < 18446744073709551616 → (zO4 m).length ≤ n → acc.length + n ≤ 64 → zV zEd ((m : Int), acc) = some (acc ++ zO4 m) := by
 intro n
 induction n with
 | zero =>
  intro m acc hm hn ha
  have h0 : zO4 m = [] := List.eq_nil_of_length_eq_zero (by omega)
  have hz : m = 0 := by
   apply Nat.eq_of_testBit_eq
   intro i
   rw [Nat.zero_testBit]
   cases ht : m.testBit i with
   | false => rfl
   | true =>
    have := (zV9 hm).2 ht
    rw [h0] at this; cases this
  subst hz
  rw [yH]
  simp [zEd, h0]
 | succ n ih =>
  intro m acc hm hn ha
  by_cases h0 : m = 0
  ·subst h0
   have hb : zO4 0 = [] := by
    apply List.eq_nil_iff_forall_not_mem.2
    intro x hx
    obtain ⟨i, _, _, h⟩ := zLf.1 hx
    rw [Nat.zero_testBit] at h; cases h
   rw [yH]
   simp [zEd, hb]
  ·obtain ⟨k, q, ht, hk, hmq⟩ := tz_nat h0 hm
   have hcons : zO4 m = (k : Int) :: zO4 (2 ^ (k + 1) * q) := by
    have hq2 : ∀ j, (2 ^ (k + 1) * q).testBit j = (decide (k < j) && q.testBit (j - k - 1)) := by
     intro j
     have e2 : 2 ^ (k + 1) * q = 2 ^ (k + 1) * q + 0 := rfl
     rw [e2, Nat.testBit_two_pow_mul_add _ (Nat.pow_pos (by decide))]
     by_cases hj : j < k + 1
     ·have h1 : decide (k < j) = false := by simp; omega
      rw [if_pos hj, Nat.zero_testBit, h1, Bool.false_and]
     ·have h1 : decide (k < j) = true := by simp; omega
      rw [if_neg hj, h1, Bool.true_and]
      congr 1
    apply vY.ext xM (zTy m)
    ·refine List.pairwise_cons.2 ⟨fun x hx => ?_, zTy _⟩
     obtain ⟨j, rfl, hj, hb⟩ := zLf.1 hx
     rw [hq2, Bool.and_eq_true, decide_eq_true_eq] at hb
     simp [yV]; omega
    ·intro x
     rw [List.mem_cons, zLf, zLf]
     constructor
     ·rintro ⟨i, rfl, h1, h2⟩
      rw [hmq, zTV, Bool.or_eq_true, decide_eq_true_eq] at h2
      rcases h2 with rfl | h2
      ·exact .inl rfl
      ·exact .inr ⟨i, rfl, h1, by rw [hq2]; exact h2⟩
     ·rintro (rfl | ⟨i, rfl, h1, h2⟩)
      ·exact ⟨k, rfl, hk, by rw [hmq, zTV]; simp⟩
      ·rw [hq2] at h2
       exact ⟨i, rfl, h1, by rw [hmq, zTV, h2, Bool.or_true]⟩
   have hw : IntKind.u64.wrap ((m : Int) - 1) = ((m - 1 : Nat) : Int) := by rw [wrapU (by omega) (by omega)]; omega
   have hand : m &&& (m - 1) = 2 ^ (k + 1) * q := by rw [hmq]; exact z0K q k
   have hlt : 2 ^ (k + 1) * q < 18446744073709551616 := by rw [← hand]; exact zZm hm
   have hne : ((m : Int) != 0) = true := by simp; omega
   have hstep : zEd ((m : Int), acc) = some (.inl (((2 ^ (k + 1) * q : Nat) : Int), acc ++ [(k : Int)])) := by
    unfold zEd
    simp only [hne, if_true, ht, zob]
    rw [yP (by simp; omega)]
    simp only [zob]
    rw [hw, zRL hm (by omega), hand]
   rw [yH, hstep]
   have := ih (2 ^ (k + 1) * q) (acc ++ [(k : Int)]) hlt (by rw [hcons] at hn; simp at hn; omega) (by simp; omega)
   rw [hcons]
   simpa using this
theorem z2A {m : Nat} (hm : m < 18446744073709551616) : zH6 (m : Int) = some (zO4 m) := by
 have := zZt 64 m [] hm (zX7 m) (by simp)
 simpa [zH6] using this
structure vN (N : Nat) (L : List qW) : Prop where
 hN : N ≤ 40
 inr : ∀ p ∈ L, tL (N : Int) p = false
 asc : vY xO L
theorem zJE {N : Nat} {p : qW} (h : tL (N : Int) p = false) : ∃ i j : Nat, i < N ∧ j < N ∧ p = ((i : Int), (j : Int)) := by
 obtain ⟨a, b⟩ := p
 simp only [tL, Bool.or_eq_false_iff, decide_eq_false_iff_not] at h
 exact ⟨a.toNat, b.toNat, by omega, by omega, by simp only [Prod.mk.injEq]; omega⟩
theorem z4f {N i j : Nat} (hi : i < N) (hj : j < N) : tL (N : Int) ((i : Int), (j : Int)) = false := by
 simp only [tL, Bool.or_eq_false_iff, decide_eq_false_iff_not]
 omega
section
variable {N : Nat} {L : List qW}
theorem vN.nodup (h : vN N L) : L.Nodup := h.asc.imp fun {x y} hh e => by subst e; rw [z2g.irrefl] at hh; cases hh
theorem vN.inN (h : vN N L) : inN N L := fun a b he => by
 obtain ⟨i, j, h1, h2, h3⟩ := zJE (h.inr _ (zSg.1 he))
 simp only [Prod.mk.injEq] at h3
 exact ⟨i, j, h1, h2, h3.1, h3.2⟩
theorem zLr {α : Type} [DecidableEq α] : ∀ {l m : List α}, l.Nodup → (∀ x ∈ l, x ∈ m) → l.length ≤ m.length
 | [], _, _, _ => Nat.zero_le _
 | x :: l, m, hn, hs => by
  obtain ⟨h1, h2⟩ := List.nodup_cons.1 hn
  have hx : x ∈ m := hs x List.mem_cons_self
  have h3 := zLr (m := m.erase x) h2 fun y hy => (List.mem_erase_of_ne (fun e => by subst e; exact h1 hy)).2 (hs y (List.mem_cons_of_mem _ hy))
  rw [List.length_erase_of_mem hx] at h3
  have : 0 < m.length := List.length_pos_of_mem hx
  simp only [List.length_cons]
  omega
theorem vN.len (h : vN N L) : L.length ≤ 1600 := by
 have h1 := zLr (m := (vT N).flatMap fun i => (vT N).map fun j => (i, j)) h.nodup fun p hp => by
  obtain ⟨i, j, hi, hj, rfl⟩ := zJE (h.inr p hp)
  exact List.mem_flatMap.2 ⟨(i : Int), uL.2 ⟨by omega, by omega⟩, List.mem_map.2 ⟨(j : Int), uL.2 ⟨by omega, by omega⟩, rfl⟩⟩
 have h2 := zNu (fun i : Int => (vT N).map fun j : Int => (i, j)) N (vT N) fun x _ => by simp [xX]
 rw [xX] at h2
 have h3 : N * N ≤ 40 * 40 := Nat.mul_le_mul h.hN h.hN
 omega
theorem vN.len' (h : vN N L) : L.length < 4294967296 := by have := h.len; omega
theorem zVM {n : Int} {i : Nat} {p : qW} (hp : L[i]? = some p) : zN8 n L i = none ↔ tL n p = false ∧ (i = 0 ∨ ∃ q, L[i - 1]? = some q ∧ xO q p = true) := by
 unfold zN8
 rw [hp]
 cases hb : tL n p with
 | true => simp [hb]
 | false =>
  by_cases h0 : i = 0
  ·subst h0; simp [hb]
  ·have hi := vQ hp
   obtain ⟨q, hq⟩ : ∃ q, L[i - 1]? = some q := ⟨L[i - 1], List.getElem?_eq_getElem (by omega)⟩
   simp only [hb, h0, if_false, hq, false_or, zbf, Option.some.injEq, exists_eq_left', true_and]
   cases xO q p <;> simp
theorem vLoop (n : Int) (hL : L.length < 4294967296) : ∃ e, zV (zB6 (n, L)) 0 = some e ∧ (e = 0 ↔ ∀ i, i < L.length → zN8 n L i = none) := by
 have h := uR (B := zB6 (n, L)) (fun i (_ : Unit) => (i : Int)) L (fun i _ => ∀ j, j < i → zN8 n L j = none) (fun e => e = 0 ↔ ∀ i, i < L.length → zN8 n L i = none) ?_ ?_ () (fun j hj => absurd hj (Nat.not_lt_zero _))
 ·obtain ⟨e, h1, h2⟩ := h
  exact ⟨e, h1, h2⟩
 ·intro i x _ hx hI
  have hi := vQ hx
  rw [zLo n L hL i (by omega)]
  cases hv : zN8 n L i with
  | some e =>
   refine .inr ⟨e, rfl, ?_⟩
   constructor
   ·intro he
    subst he
    exfalso
    unfold zN8 at hv
    rw [hx] at hv
    simp only at hv
    split at hv
    ·cases hv
    ·split at hv
     ·cases hv
     ·split at hv
      ·cases hv
      ·split at hv <;> cases hv
   ·intro h
    rw [h i hi] at hv; cases hv
  | none =>
   refine .inl ⟨(), rfl, fun j hj => ?_⟩
   by_cases he : j = i
   ·subst he; exact hv
   ·exact hI j (by omega)
 ·intro _ hI
  rw [zLo n L hL _ (Nat.le_refl _)]
  exact ⟨0, by simp [zN8], by simp; exact hI⟩
theorem zZf {α : Type} {lt : α → α → Bool} (O : tV lt) : ∀ {l : List α}, (∀ i x y, l[i]? = some x → l[i + 1]? = some y → lt x y = true) → vY lt l
 | [], _ => List.Pairwise.nil
 | [x], _ => List.pairwise_singleton _ _
 | x :: y :: l, h => by
  have h1 := zZf O (l := y :: l) fun i a b ha hb => h (i + 1) a b (by simpa using ha) (by simpa using hb)
  have h2 : lt x y = true := h 0 x y rfl rfl
  refine List.pairwise_cons.2 ⟨fun z hz => ?_, h1⟩
  rcases List.mem_cons.1 hz with rfl | hz
  ·exact h2
  ·exact O.trans _ _ _ h2 ((List.pairwise_cons.1 h1).1 z hz)
theorem zZ3 {α : Type} {lt : α → α → Bool} {l : List α} (h : vY lt l) {i : Nat} {x y : α} (hx : l[i]? = some x) (hy : l[i + 1]? = some y) : lt x y = true := by
 obtain ⟨h1, rfl⟩ := List.getElem?_eq_some_iff.1 hx
 obtain ⟨h2, rfl⟩ := List.getElem?_eq_some_iff.1 hy
 exact List.pairwise_iff_getElem.1 h i (i + 1) h1 h2 (Nat.lt_succ_self i)
theorem zVY {n : Int} : (∀ i, i < L.length → zN8 n L i = none) ↔ (∀ p ∈ L, tL n p = false) ∧ vY xO L := by
 constructor
 ·intro h
  have h1 : ∀ (i : Nat) p, L[i]? = some p → tL n p = false ∧ (i = 0 ∨ ∃ q, L[i - 1]? = some q ∧ xO q p = true) := fun i p hp => (zVM hp).1 (h i (vQ hp))
  refine ⟨fun p hp => ?_, zZf z2g fun i x y hx hy => ?_⟩
  ·obtain ⟨i, hi⟩ := List.getElem?_of_mem hp
   exact (h1 i p hi).1
  ·rcases (h1 (i + 1) y hy).2 with h2 | ⟨q, h2, h3⟩
   ·omega
   ·rw [Nat.add_sub_cancel, hx] at h2
    cases h2; exact h3
 ·rintro ⟨h1, h2⟩ i hi
  have hp : L[i]? = some L[i] := List.getElem?_eq_getElem hi
  refine (zVM hp).2 ⟨h1 _ (List.getElem_mem hi), ?_⟩
  by_cases h0 : i = 0
  ·exact .inl h0
  ·have hq : L[i - 1]? = some L[i - 1] := List.getElem?_eq_getElem (by omega)
   exact .inr ⟨_, hq, zZ3 h2 hq (by rw [show i - 1 + 1 = i by omega]; exact hp)⟩
theorem zMU (n : Int) (hL : L.length < 4294967296) : ∃ e, zBW (n, L) = some e ∧ zDm (n, L) = some e ∧ (e = 0 ↔ ∃ N : Nat, n = (N : Int) ∧ vN N L) := by
 obtain ⟨e, h1, h2, h3⟩ := z0z (n, L) hL
 refine ⟨e, h1, h2, ?_⟩
 constructor
 ·intro he
  obtain ⟨k1, k2, k3⟩ := h3 he
  obtain ⟨N, rfl⟩ := Int.eq_ofNat_of_zero_le k1
  refine ⟨N, rfl, by have : (N : Int) ≤ 40 := k2; omega, k3, ?_⟩
  subst he
  unfold zBW at h1
  have hc : (decide ((N : Int) < 0) || decide (40 < (N : Int))) = false := by
   have : (N : Int) ≤ 40 := k2
   simp; omega
  simp only [hc, zbf, if_false] at h1
  obtain ⟨e', h4, h5⟩ := vLoop (L := L) (N : Int) hL
  rw [h4] at h1
  exact (zVY.1 (h5.1 (Option.some.inj h1))).2
 ·rintro ⟨N, rfl, hG⟩
  unfold zBW at h1
  have hc : (decide ((N : Int) < 0) || decide (40 < (N : Int))) = false := by
   have := hG.hN
   simp; omega
  simp only [hc, zbf, if_false] at h1
  obtain ⟨e', h4, h5⟩ := vLoop (L := L) (N : Int) hL
  rw [h4] at h1
  rw [← Option.some.inj h1]
  exact h5.2 (zVY.2 ⟨hG.inr, hG.asc⟩)
theorem vN.v1 (h : vN N L) : zBW ((N : Int), L) = some 0 := by
 obtain ⟨e, h1, _, h3⟩ := zMU (N : Int) h.len'
 rw [h1, h3.2 ⟨N, rfl, h⟩]
theorem vN.v2 (h : vN N L) : zDm ((N : Int), L) = some 0 := by
 obtain ⟨e, _, h1, h3⟩ := zMU (N : Int) h.len'
 rw [h1, h3.2 ⟨N, rfl, h⟩]
theorem vN.proper (h : vN N L) : zEN ((N : Int), L) = some ((N : Int), L) := by
 unfold zEN; rw [h.v1]; rfl
theorem vN.valid (h : vN N L) : zLF ((N : Int), L) = some ((N : Int), L) := by
 unfold zLF; rw [h.v2]; rfl
theorem zZA {n : Int} {l : List wA} {g : wH} (h : zT8 n l = (g, 0)) : ∃ N : Nat, n = (N : Int) ∧ g.1 = (N : Int) ∧ vN N g.2 ∧ g.2 = tD xO (zU0 l) := by
 unfold zT8 at h
 cases h0 : (decide (n < 0) || decide (40 < n)) with
 | true => simp [h0] at h
 | false =>
  cases h1 : l.any (zWv n) with
  | true => simp [h0, h1] at h
  | false =>
   simp only [h0, h1, zbf, if_false, Prod.mk.injEq, and_true] at h
   subst h
   simp only [Bool.or_eq_false_iff, decide_eq_false_iff_not] at h0
   refine ⟨n.toNat, by omega, by show n = _; omega, ⟨by omega, fun p hp => ?_, (zNd z2g _).1⟩, rfl⟩
   have hp : p ∈ zU0 l := ((zNd z2g _).2 p).1 hp
   obtain ⟨a, ha, rfl⟩ := List.mem_map.1 hp
   have := List.any_eq_false.1 h1 a ha
   simp only [zWv, Bool.or_eq_true, decide_eq_true_eq, not_or] at this
   simp only [tL, Bool.or_eq_false_iff, decide_eq_false_iff_not]
   omega
def z2h (L : List qW) (i : Nat) : Nat := zPU ((L.filter fun p => p.1 == (i : Int)).map (·.2))
theorem z1D (h : vN N L) (i : Nat) : z2h L i < 18446744073709551616 := zVb fun x hx => by
 obtain ⟨p, hp, rfl⟩ := List.mem_map.1 hx
 obtain ⟨a, b, h1, h2, rfl⟩ := zJE (h.inr p (List.mem_filter.1 hp).1)
 have := h.hN
 show (b : Int) < 64
 omega
theorem zZ0 (h : vN N L) (i j : Nat) : (z2h L i).testBit j = ed L (i : Int) (j : Int) := by
 unfold z2h
 rw [zXT (fun x hx => ?_), Bool.eq_iff_iff, decide_eq_true_eq, zSg]
 ·constructor
  ·intro hx
   obtain ⟨p, hp, h2⟩ := List.mem_map.1 hx
   obtain ⟨h3, h4⟩ := List.mem_filter.1 hp
   have h5 : p.1 = (i : Int) := by simpa using h4
   have : p = ((i : Int), (j : Int)) := by rw [← h5, ← h2]
   rw [← this]; exact h3
  ·intro hx
   exact List.mem_map.2 ⟨_, List.mem_filter.2 ⟨hx, by simp⟩, rfl⟩
 ·obtain ⟨p, hp, rfl⟩ := List.mem_map.1 hx
  obtain ⟨a, b, h1, h2, rfl⟩ := zJE (h.inr p (List.mem_filter.1 hp).1)
  show (0 : Int) ≤ (b : Int)
  omega
theorem z0e (l : List Int) (x : Int) : zPU (l ++ [x]) = zPU l ||| 2 ^ x.toNat := by simp [zPU]
theorem zWZ {i : Nat} (h : i < 64) : z1j .u64 1 (i : Int) = some ((2 ^ i : Nat) : Int) := by
 have := z3l h
 rwa [zJB (by omega)] at this
theorem zZF (h : vN N L) : zHm ((N : Int), L) = some (qJ N fun i => ((z2h L i : Nat) : Int)) := by
 unfold zHm
 have hN := h.hN
 rw [z17 (by omega)]
 simp only [zob]
 have hlp := uR (B := zIU ((N : Int), L)) (fun i (s : List Int) => (s, (i : Int))) L (fun i s => s = qJ N fun a => ((z2h (L.take i) a : Nat) : Int)) (fun r => r = qJ N fun i => ((z2h L i : Nat) : Int)) ?_ ?_ (qJ N fun _ => 0) (by
   apply uZ; intro i _; simp [z2h, zPU])
 ·obtain ⟨r, h1, rfl⟩ := hlp
  exact h1
 ·rintro i p s hp rfl
  refine .inl ⟨_, ?_, rfl⟩
  obtain ⟨a, b, h1, h2, rfl⟩ := zJE (h.inr p (vK hp))
  have hg : ∀ q ∈ L.take i, q ∈ L := fun q hq => List.mem_of_mem_take hq
  have hgood : vN N (L.take i) := ⟨hN, fun q hq => h.inr q (hg q hq), h.asc.sublist (List.take_sublist _ _)⟩
  unfold zIU
  simp only [wZ hp, if_true, wV hp, zob, zKK _ h1, zWZ (i := b) (by omega), wY hp h.len', Int.toNat_natCast, zN7]
  rw [zWI (z1D hgood a) (zNz (by omega))]
  congr 3
  apply uZ
  intro q _
  rw [xF hp]
  by_cases hq : q = a
  ·subst hq
   simp only [if_true]
   unfold z2h
   rw [List.filter_append, List.map_append]
   simp [z0e]
  ·have hf : (((a : Nat) : Int) == (q : Int)) = false := by simp; omega
   simp only [hq, if_false]
   unfold z2h
   rw [List.filter_append]
   simp [hf]
 ·rintro s rfl
  refine ⟨_, ?_, rfl⟩
  unfold zIU
  simp [len]
abbrev zNV (N : Nat) (L : List qW) (i : Int) : List Int := (vT N).filter fun j => ed L i j
abbrev yR (N : Nat) (L : List qW) (i : Int) : List Int := (vT N).filter fun j => ed L j i
theorem z2l (h : vN N L) (i : Nat) : zO4 (z2h L i) = zNV N L (i : Int) := by
 apply vY.ext xM (zTy _) ((zPY N).filter _)
 intro x
 rw [zLf, List.mem_filter, uL]
 constructor
 ·rintro ⟨j, rfl, h1, h2⟩
  rw [zZ0 h] at h2
  obtain ⟨a, b, h3, h4, h5, h6⟩ := h.inN _ _ h2
  exact ⟨by omega, h2⟩
 ·rintro ⟨h1, h2⟩
  obtain ⟨j, rfl⟩ := Int.eq_ofNat_of_zero_le h1.1
  have := h.hN
  exact ⟨j, rfl, by omega, by rw [zZ0 h]; exact h2⟩
theorem zM4 (h : vN N L) (i : Int) : zC5 ((N : Int), L) i = some (zNV N L i) := by
 unfold zC5
 rw [h.proper]
 simp only [zob]
 cases hc : (decide (i < 0) || decide ((N : Int) ≤ i)) with
 | true =>
  simp only [if_true, Option.some.injEq]
  symm
  apply List.filter_eq_nil_iff.2
  intro x _ he
  obtain ⟨a, b, h1, h2, h3, h4⟩ := h.inN _ _ he
  simp only [Bool.or_eq_true, decide_eq_true_eq] at hc
  omega
 | false =>
  simp only [Bool.or_eq_false_iff, decide_eq_false_iff_not] at hc
  obtain ⟨k, rfl⟩ := Int.eq_ofNat_of_zero_le (show 0 ≤ i by omega)
  simp only [zbf, if_false, zZF h, zob, zKK _ (show k < N by omega), z2A (z1D h k), z2l h]
def z2I (p : qW) : qW := (p.2, p.1)
def revL (L : List qW) : List qW := (L.map z2I).mergeSort fun x y => !xO y x
theorem ed_rev {a b : Int} : ed (revL L) a b = ed L b a := by
 rw [Bool.eq_iff_iff, zSg, zSg, revL, List.mem_mergeSort, List.mem_map]
 constructor
 ·rintro ⟨⟨c, d⟩, h1, h2⟩
  simp only [z2I, Prod.mk.injEq] at h2
  rw [← h2.1, ← h2.2]; exact h1
 ·intro h
  exact ⟨_, h, rfl⟩
theorem zXj {α : Type} {lt : α → α → Bool} (O : tV lt) {l : List α} (h : l.Pairwise fun x y => lt y x = false) (hn : l.Nodup) : vY lt l := by
 have := List.Pairwise.and h hn
 exact this.imp fun {x y} hh => by
  rcases O.tri x y with h1 | h1 | h1
  ·exact h1
  ·exact absurd h1 hh.2
  ·rw [hh.1] at h1; cases h1
theorem vN.rev (h : vN N L) : vN N (revL L) := by
 refine ⟨h.hN, fun p hp => ?_, zXj z2g (zO6 z2g _) ?_⟩
 ·obtain ⟨q, hq, rfl⟩ := List.mem_map.1 (List.mem_mergeSort.1 hp)
  obtain ⟨i, j, hi, hj, rfl⟩ := zJE (h.inr q hq)
  exact z4f hj hi
 ·have hp : (revL L).Perm (L.map z2I) := List.mergeSort_perm _ _
  rw [hp.nodup_iff]
  refine List.pairwise_map.2 (h.nodup.imp ?_)
  rintro ⟨a, b⟩ ⟨c, d⟩ hne he
  simp only [z2I, Prod.mk.injEq] at he
  exact hne (by rw [he.1, he.2])
theorem zSx (x y : qW) : uI zC0 x y = xO x y := by
 simp only [uI, zNn, Option.getD_some]
 exact zQB (by rw [zQB (r := []) (b := false) (by simp [orF])]; simp)
theorem zYH {l : List qW} (hl : l.length < 4294967296) : zAt l = some (l.mergeSort fun x y => !xO y x) :=
 zWP z2g (fun x y => ⟨_, zNn x y⟩) zSx hl
theorem zVg (h : vN N L) : zEq ((N : Int), L) = some ((N : Int), revL L) := by
 unfold zEq
 rw [h.proper]
 simp only [zob]
 have hl := zSZ (B := zGp ((N : Int), L)) L (fun s p => s ++ [z2I p]) id (fun i s => s.length ≤ i) ([] : List qW) (by simp) ?_ ?_
 ·rw [hl.1, zJL]
  simp only [id, List.nil_append, zob]
  rw [zYH (by rw [List.length_map]; exact h.len')]
  rfl
 ·intro i p s hp hI
  have := h.len
  have := vQ hp
  unfold zGp
  simp only [wZ hp, if_true, wV hp, zob, wY hp h.len']
  rw [yP (by simp; omega)]
  exact ⟨rfl, by simp; omega⟩
 ·intro s _
  unfold zGp
  simp [len]
theorem zT0 (h : vN N L) (i : Int) : zDU ((N : Int), L) i = some (yR N L i) := by
 unfold zDU
 rw [zVg h]
 simp only [zob]
 rw [zM4 h.rev]
 simp only [zob, Option.some.injEq]
 exact List.filter_congr fun x _ => ed_rev
theorem zO7 (h : vN N L) (i : Int) : zEx ((N : Int), L) i = some (yR N L i) := by
 unfold zEx
 rw [h.valid]
 simp only [zob]
 have hl := zCf (B := zEZ ((N : Int), L) i) L (fun s p => if p.2 == i then s ++ [p.1] else s) id (fun i s => s.length ≤ i) ([] : List Int) (by simp) ?_ ?_
 ·rw [hl.1, zDH (fun p : qW => p.2 == i) (·.1)]
  simp only [id, List.nil_append, Option.some.injEq]
  apply vY.ext xM ?_ ((zPY N).filter _)
  ·intro x
   rw [List.mem_map, List.mem_filter, uL, zSg]
   constructor
   ·rintro ⟨p, hp, rfl⟩
    obtain ⟨h1, h2⟩ := List.mem_filter.1 hp
    have h3 : p.2 = i := by simpa using h2
    obtain ⟨a, b, h4, h5, h6⟩ := zJE (h.inr p h1)
    subst h6
    exact ⟨⟨by show (0 : Int) ≤ (a : Int); omega, by show (a : Int) < (N : Int); omega⟩, by rw [← h3]; exact h1⟩
   ·rintro ⟨_, h1⟩
    exact ⟨_, List.mem_filter.2 ⟨h1, by simp⟩, rfl⟩
  ·have h1 := h.asc.filter fun p : qW => p.2 == i
   rw [vY, List.pairwise_map]
   refine List.Pairwise.imp_of_mem ?_ h1
   intro p q hp hq hlt
   have h2 : p.2 = i := by simpa using (List.mem_filter.1 hp).2
   have h3 : q.2 = i := by simpa using (List.mem_filter.1 hq).2
   simp only [xO, zWJ, h2, h3, xM.irrefl, Bool.and_false, Bool.or_false] at hlt
   exact hlt
 ·intro k p s hp hI
  have := h.len
  have := vQ hp
  unfold zEZ
  simp only [wZ hp, if_true, wV hp, zob, wY hp h.len']
  by_cases hc : (p.2 == i) = true
  ·simp only [hc, if_true]
   rw [yP (by simp; omega)]
   exact ⟨rfl, by simp; omega⟩
  ·simp only [hc, zbf, if_false]
   exact ⟨trivial, by omega⟩
 ·intro s _
  unfold zEZ
  simp [len]
end
end
section
theorem zIQ {N i : Nat} (f : Nat → Int) : (qJ N f)[i]? = if i < N then some (f i) else none := by
 unfold qJ
 by_cases h : i < N
 ·simp [h]
 ·simp [h]
theorem zXA (N : Nat) (f : Nat → Int) : qJ (N + 1) f = qJ N f ++ [f N] := by simp [qJ, List.range_succ]
theorem zX5 {N c : Nat} (f : Nat → Int) (h : c ≤ N) : (qJ N f).take c = qJ c f := by
 apply List.ext_getElem?
 intro i
 rw [List.getElem?_take, zIQ, zIQ]
 by_cases h1 : i < c
 ·simp [h1, show i < N by omega]
 ·simp [h1]
theorem zUD (k : Nat) (f : Nat → Int) {x : Nat} (hx : x < k) (v : Int) : xS k (qJ k f) (x : Int) v = qJ k fun j => if j = x then v else f j := by
 unfold xS qJ
 apply List.map_congr_left
 intro j hj
 have hj := List.mem_range.1 hj
 rw [Int.toNat_natCast]
 by_cases h : j = x
 ·simp [h]
 ·simp only [h, if_false]
  simp [List.getD, hj]
theorem zOu (k : Nat) (f : Nat → Int) {x : Nat} (hx : x < k) : yT (qJ k f) (x : Int) = f x := by
 unfold yT qJ
 simp [List.getD, hx]
theorem zZh (k : Nat) (v : Int) : List.replicate k v = qJ k fun _ => v := by
 apply List.ext_getElem?
 intro i
 rw [zIQ, List.getElem?_replicate]
theorem zMQ {x k : Nat} {K : Int} (hK : K = (k : Int)) (h : x < k) : yG (decide (0 ≤ (x : Int)) && decide ((x : Int) < K)) = some () := by
 subst hK
 simp [yG]; omega
theorem z1Z : ∀ n, n < 41 → zLU (IntKind.u64.wrap 1) (IntKind.u64.wrap ((n : Nat) : Int)) = some (0, (n : Int)) := by decide +kernel
theorem zZH {n c : Nat} (x : Int) (hc : c ≤ n) : zIk (qJ n fun i => if i < c then x else 0) (c : Int) (qJ c fun i => if i < c then x else 0) = qJ n fun i => if i < min (c + c) n then x else 0 := by
 unfold zIk
 apply List.ext_getElem?
 intro i
 rw [Int.toNat_natCast, zDN, zDN, zX5 _ hc]
 rw [List.getElem?_append, List.getElem?_append, List.length_append, zDN, List.length_take, zDN, List.getElem?_take, List.getElem?_drop]
 rw [zIQ, zIQ, zIQ, zIQ]
 by_cases h1 : i < c
 ·have h2 : i < c + min (n - c) c := by omega
  have h3 : i < n := by omega
  have h4 : i < min (c + c) n := by omega
  simp only [h1, h2, h3, h4, if_true]
 ·by_cases h2 : i < c + min (n - c) c
  ·have h3 : i < n := by omega
   have h4 : i < min (c + c) n := by omega
   have h5 : i - c < n - c := by omega
   have h6 : i - c < c := by omega
   simp only [h1, h2, h3, h4, h5, h6, if_true, if_false]
  ·by_cases h3 : i < n
   ·have h4 : c + c + (i - (c + min (n - c) c)) = i := by omega
    have h5 : ¬ i < min (c + c) n := by omega
    rw [h4]
    simp only [h1, h2, h3, h5, if_true, if_false]
   ·have h4 : ¬ c + c + (i - (c + min (n - c) c)) < n := by omega
    simp only [h1, h2, h3, h4, if_false]
theorem zVJ (x : Int) {n : Nat} (hn : n ≤ 40) : zCS [x] (n : Int) = some (qJ n fun _ => x) := by
 unfold zCS
 have h0 : decide ((n : Int) < 0) = false := decide_eq_false (by omega)
 have h1 : IntKind.u64.wrap (len [x]) = IntKind.u64.wrap 1 := rfl
 have h2 : (decide ((0 : Int) < 0) || decide (9223372036854775807 < (n : Int))) = false := by simp; omega
 simp only [h0, zbf, if_false, zob, h1, z1Z n (by omega), h2, zWS n (by omega)]
 rw [z17 (by omega)]
 simp only [zob, zDN]
 have hs : zIk (qJ n fun _ => (0 : Int)) 0 [x] = qJ n fun i => if i < min 1 n then x else 0 := by
  cases n with
  | zero => rfl
  | succ n =>
   unfold zIk qJ
   rw [List.range_succ_eq_map]
   simp only [List.map_cons, List.map_map]
   have h4 : min 1 (n + 1) = 1 := by omega
   simp [Function.comp_def, h4]
 rw [hs]
 have hm : ((Nat.min (List.length [x]) n : Nat) : Int) = ((min 1 n : Nat) : Int) := rfl
 rw [hm]
 have hl := zVt (B := zGZ (qJ n fun _ => 0)) (fun s => n - s.2.toNat) (fun s => ∃ c : Nat, c ≤ n ∧ min 1 n ≤ c ∧ s = (qJ n (fun i => if i < c then x else 0), (c : Int))) (fun r => r = qJ n fun _ => x) ?_ (qJ n (fun i => if i < min 1 n then x else 0), ((min 1 n : Nat) : Int)) ⟨min 1 n, by omega, Nat.le_refl _, rfl⟩
 ·obtain ⟨r, h3, rfl⟩ := hl
  exact h3
 ·rintro _ ⟨c, hc, h1c, rfl⟩
  unfold zGZ
  by_cases hlt : c < n
  ·refine .inl ⟨(qJ n (fun i => if i < min (c + c) n then x else 0), ((min (c + c) n : Nat) : Int)), ?_, ⟨min (c + c) n, by omega, by omega, rfl⟩, ?_⟩
   ·have hd : decide ((c : Int) < len (qJ n fun _ => (0 : Int))) = true := decide_eq_true (by simp only [len, zDN]; omega)
    have hck : (decide (0 ≤ (c : Int)) && decide ((c : Int) ≤ len (qJ n fun i => if i < c then x else 0))) = true := by
     rw [decide_eq_true (show 0 ≤ (c : Int) by omega), decide_eq_true (show (c : Int) ≤ len (qJ n fun i => if i < c then x else 0) by simp only [len, zDN]; omega)]
     rfl
    simp only [hd, if_true, hck, yG, zob]
    rw [zM7 (by omega) (by rw [zDN]; omega)]
    simp only [zob, Int.toNat_natCast, zX5 _ hc, zZH x hc, zDN]
    have hnum : ((Nat.min c (Int.toNat (((n : Nat) : Int) - (c : Int))) : Nat) : Int) = ((min c (n - c) : Nat) : Int) := by
     have : Int.toNat (((n : Nat) : Int) - (c : Int)) = n - c := by omega
     rw [this]
    rw [hnum, xQ (by omega) (by omega)]
    congr 3
    omega
   ·simp only [Int.toNat_natCast]
    omega
  ·have hcn : c = n := by omega
   subst hcn
   have hd : decide ((c : Int) < len (qJ c fun _ => (0 : Int))) = false := by simp [len, zDN]
   refine .inr ⟨qJ c fun i => if i < c then x else 0, by simp only [hd, zbf, if_false], ?_⟩
   apply uZ
   intro i hi
   simp [hi]
section
variable (N : Nat) (L : List qW)
noncomputable def tX : Nat → Nat → Int
 | 0, _ => 0
 | k + 1, i => if wU N L (k + 1) i = wU N L k i then tX k i else ((k + 1 : Nat) : Int)
theorem z4U : ∀ k i, tX N L k i ≤ (k : Int)
 | 0, _ => Int.le_refl _
 | k + 1, i => by
  unfold tX
  have := z4U k i
  split <;> omega
theorem zQh (k i : Nat) : wU N L k i = 1 ∨ wU N L k i = 2 ∨ wU N L k i = 3 := by
 unfold wU
 by_cases h1 : uK N L k i
 ·simp [h1]
 ·by_cases h2 : tF (vD L) (uK N L k) i <;> simp [h1, h2]
theorem now3 {k i : Nat} (h : yJ N L k i) : wU N L k i = 3 := (z4s N L).2 ⟨h.2, fun ⟨m, h3, h4⟩ => zSK N L h3 (h.1.2 m h4)⟩
theorem z1x {k i : Nat} (h : wU N L k i = 2) : wU N L (k + 1) i = 2 := (zUl N L).2 (by obtain ⟨m, h1, h2⟩ := (zUl N L).1 h; exact ⟨m, zNq h1, h2⟩)
theorem zWF {k : Nat} (h : ∀ i, ¬ yJ N L k i) : ∀ m, k ≤ m → ∀ i, wU N L m i = wU N L k i := by
 intro m hm i
 have hs := z1i (D := (· < N)) (R := vD L) (k := k) fun i hi => Classical.byContradiction fun hn => h i ⟨hi, hn⟩
 have he : ∀ i, uK N L m i ↔ uK N L k i := fun i => ⟨hs m hm i, z5M hm⟩
 unfold wU
 have ha : tF (vD L) (uK N L m) i ↔ tF (vD L) (uK N L k) i := ⟨fun ⟨j, h1, h2⟩ => ⟨j, (he j).1 h1, h2⟩, fun ⟨j, h1, h2⟩ => ⟨j, (he j).2 h1, h2⟩⟩
 by_cases h1 : uK N L k i
 ·rw [if_pos ((he i).2 h1), if_pos h1]
 ·rw [if_neg (fun h => h1 ((he i).1 h)), if_neg h1]
  by_cases h2 : tF (vD L) (uK N L k) i
  ·rw [if_pos (ha.2 h2), if_pos h2]
  ·rw [if_neg (fun h => h2 (ha.1 h)), if_neg h2]
theorem z1Y {k : Nat} (h : ∀ i, ¬ yJ N L k i) : ∀ m, k ≤ m → ∀ i, tX N L m i = tX N L k i := by
 intro m hm i
 induction m with
 | zero => rw [show k = 0 by omega]
 | succ m ih =>
  by_cases he : k = m + 1
  ·rw [he]
  ·have h1 : wU N L (m + 1) i = wU N L m i := by rw [zWF N L h (m + 1) hm, zWF N L h m (by omega)]
   rw [tX, if_pos h1, ih (by omega)]
theorem zTS {i : Nat} : ¬ yJ N L N i := fun h => h.2 (z4z (D := (· < N)) (fun _ h => h) h.1)
end
section
variable {N : Nat} {L : List qW}
noncomputable abbrev lb (N : Nat) (L : List qW) (k : Nat) : List Int := qJ N (wU N L k)
noncomputable abbrev rn (N : Nat) (L : List qW) (k : Nat) : List Int := qJ N (tX N L k)
noncomputable def xT (N : Nat) (L : List qW) : List Int := lb N L (N + 1)
noncomputable def z2L (N : Nat) (L : List qW) : List Int := rn N L (N + 1)
theorem zWG : lb N L 0 = qJ N fun _ => 3 := uZ fun i _ => (z4s N L).2 ⟨fun h : uK N L 0 i => h.elim, fun ⟨m, (h : uK N L 0 m), _⟩ => h.elim⟩
theorem z1g {k : Nat} (hk : k ≤ N) (h : ∀ i, ¬ yJ N L k i) : lb N L k = xT N L ∧ rn N L k = z2L N L := by
 refine ⟨uZ fun i _ => (zWF N L h (N + 1) (by omega) i).symm, uZ fun i _ => (z1Y N L h (N + 1) (by omega) i).symm⟩
theorem vN.hR (h : vN N L) : ∀ a b : Int, ed L a b = true → ∃ m, m < N ∧ a = (m : Int) := fun a b he => by
 obtain ⟨i, j, h1, _, h3, _⟩ := h.inN a b he
 exact ⟨i, h1, h3⟩
theorem zYA {i : Int} {q : Nat} {x : Int} (h : (yR N L i)[q]? = some x) : ∃ a : Nat, x = (a : Int) ∧ a < N ∧ ed L (a : Int) i = true := by
 obtain ⟨h1, h2⟩ := List.mem_filter.1 (vK h)
 obtain ⟨h3, h4⟩ := uL.1 h1
 obtain ⟨a, rfl⟩ := Int.eq_ofNat_of_zero_le h3
 exact ⟨a, rfl, by omega, h2⟩
theorem zRk (i : Int) : (yR N L i).length ≤ N := Nat.le_trans (List.length_filter_le _ _) (by rw [xX]; exact Nat.le_refl _)
theorem zZd (i : Int) : (zNV N L i).length ≤ N := Nat.le_trans (List.length_filter_le _ _) (by rw [xX]; exact Nat.le_refl _)
theorem z4j (hN : N ≤ 40) : zV (zGM ((N : Int), L)) (([] : List Int), ([] : List Int), 0) = some (lb N L 0, rn N L 0) := by
 have h := uR (B := zGM ((N : Int), L)) (fun i (s : List Int × List Int) => (s.1, s.2, (i : Int))) (vT N) (fun i s => s = (qJ i (fun _ => 3), qJ i fun _ => 0)) (fun r => r = (qJ N (fun _ => 3), qJ N fun _ => 0)) ?_ ?_ ([], []) rfl
 ·obtain ⟨r, h1, rfl⟩ := h
  rw [zWG]; exact h1
 ·rintro i x s hx rfl
  obtain ⟨rfl, hi⟩ := zQM hx
  refine .inl ⟨(qJ (i + 1) (fun _ => 3), qJ (i + 1) fun _ => 0), ?_, rfl⟩
  have hd : decide ((i : Int) < (N : Int)) = true := by simp; omega
  unfold zGM
  simp only [hd, if_true]
  rw [yP (by simp [zDN]; omega), yP (by simp [zDN]; omega)]
  simp only [zob, zXA, uF i (by omega)]
 ·rintro s rfl
  rw [xX]
  refine ⟨_, ?_, rfl⟩
  unfold zGM
  simp
theorem z58 (f : Nat → Int) {l : List Int} (hl : ∀ (q : Nat) x, l[q]? = some x → ∃ a : Nat, x = (a : Int) ∧ a < N) (hb : l.length < 4294967296) (ok : Bool) :
  zV (zGR l (qJ N f)) (ok, 0) = some (ok && l.all fun b => f b.toNat == 2) := by
 have h := zCf (B := zGR l (qJ N f)) l (fun ok b => ok && f b.toNat == 2) id (fun _ _ => True) ok trivial ?_ ?_
 ·rw [h.1]
  have : ∀ (l : List Int) (ok : Bool), l.foldl (fun ok b => ok && f b.toNat == 2) ok = (ok && l.all fun b => f b.toNat == 2) := by
   intro l
   induction l with
   | nil => intro b; simp
   | cons x l ih => intro b; rw [List.foldl_cons, ih, List.all_cons, Bool.and_assoc]
  rw [this]; rfl
 ·intro i x s hx _
  obtain ⟨a, rfl, ha⟩ := hl i x hx
  unfold zGR
  simp only [wZ hx, if_true, wV hx, zob, wY hx hb, zKK f ha, Int.toNat_natCast]
  cases s <;> simp
 ·intro s _
  unfold zGR
  simp [len]
theorem z26 (h : vN N L) {k i : Nat} (hi : i < N) : (wU N L k i == 3 && (yR N L (i : Int)).all fun b => wU N L k b.toNat == 2) = true ↔ yJ N L k i := by
 rw [← z1b N L hi h.hR, Bool.and_eq_true, beq_iff_eq, List.all_eq_true]
 refine and_congr_right fun _ => ⟨fun hh b hb he => ?_, fun hh x hx => ?_⟩
 ·have := hh (b : Int) (List.mem_filter.2 ⟨uL.2 ⟨by omega, by omega⟩, he⟩)
  simpa using this
 ·obtain ⟨h1, h2⟩ := List.mem_filter.1 hx
  obtain ⟨h3, h4⟩ := uL.1 h1
  obtain ⟨a, rfl⟩ := Int.eq_ofNat_of_zero_le h3
  simpa using hh a (by omega) h2
open Classical in
noncomputable def uP (N : Nat) (L : List qW) (k i : Nat) : Int := if yJ N L k i then 1 else wU N L k i
open Classical in
noncomputable def tG (N : Nat) (L : List qW) (k i : Nat) : Int := if yJ N L k i then ((k + 1 : Nat) : Int) else tX N L k i
open Classical in
theorem z4l (h : vN N L) {k : Nat} (hk : k ≤ 100) : ∃ c : Bool, (c = true ↔ ∃ i, yJ N L k i) ∧
  zV (zFw ((N : Int), L) (lb N L k) (lb N L k, rn N L k, ((k + 1 : Nat) : Int))) (lb N L k, rn N L k, false, 0) = some (qJ N (uP N L k), qJ N (tG N L k), c) := by
 have hN := h.hN
 have hl := uR (B := zFw ((N : Int), L) (lb N L k) (lb N L k, rn N L k, ((k + 1 : Nat) : Int))) (fun i (s : List Int × List Int × Bool) => (s.1, s.2.1, s.2.2, (i : Int))) (vT N)
  (fun i s => s.1 = qJ N (fun j => if j < i ∧ yJ N L k j then 1 else wU N L k j) ∧ s.2.1 = qJ N (fun j => if j < i ∧ yJ N L k j then ((k + 1 : Nat) : Int) else tX N L k j) ∧ (s.2.2 = true ↔ ∃ j, j < i ∧ yJ N L k j))
  (fun r => r.1 = qJ N (uP N L k) ∧ r.2.1 = qJ N (tG N L k) ∧ (r.2.2 = true ↔ ∃ j, yJ N L k j)) ?_ ?_ (lb N L k, rn N L k, false) ⟨by simp, by simp, by simp⟩
 ·obtain ⟨⟨r1, r2, r3⟩, h1, rfl, rfl, h2⟩ := hl
  exact ⟨r3, h2, h1⟩
 ·rintro i x ⟨s1, s2, s3⟩ hx ⟨rfl, rfl, h3⟩
  obtain ⟨rfl, hi⟩ := zQM hx
  have hd : decide ((i : Int) < (N : Int)) = true := by simp; omega
  have hpl := zRk (N := N) (L := L) (i : Int)
  unfold zFw
  simp only [hd, if_true, zKK _ hi, zob, zO7 h, uF i (by omega), Int.toNat_natCast]
  rw [z58 _ (fun q x hx => by obtain ⟨a, h1, h2, _⟩ := zYA hx; exact ⟨a, h1, h2⟩) (by omega)]
  simp only [zob]
  by_cases hn : yJ N L k i
  ·have hc := (z26 h hi).2 hn
   refine .inl ⟨(qJ N (fun j => if j < i + 1 ∧ yJ N L k j then 1 else wU N L k j), qJ N (fun j => if j < i + 1 ∧ yJ N L k j then ((k + 1 : Nat) : Int) else tX N L k j), true), ?_, rfl, rfl, by simp; exact ⟨i, by omega, hn⟩⟩
   simp only [hc, if_true, zN7]
   have e1 : (qJ N fun j => if j = i then 1 else if j < i ∧ yJ N L k j then 1 else wU N L k j) = qJ N (fun j => if j < i + 1 ∧ yJ N L k j then 1 else wU N L k j) := by
    apply uZ
    intro q _
    by_cases hq : q = i
    ·subst hq; simp [hn]
    ·have e : (q < i + 1) = (q < i) := by rw [eq_iff_iff]; omega
     simp [hq, e]
   have e2 : (qJ N fun j => if j = i then ((k + 1 : Nat) : Int) else if j < i ∧ yJ N L k j then ((k + 1 : Nat) : Int) else tX N L k j) = qJ N (fun j => if j < i + 1 ∧ yJ N L k j then ((k + 1 : Nat) : Int) else tX N L k j) := by
    apply uZ
    intro q _
    by_cases hq : q = i
    ·subst hq; simp [hn]
    ·have e : (q < i + 1) = (q < i) := by rw [eq_iff_iff]; omega
     simp [hq, e]
   rw [e1, e2]
  ·have hc : (wU N L k i == 3 && (yR N L (i : Int)).all fun b => wU N L k b.toNat == 2) = false := by
    cases hb : (wU N L k i == 3 && (yR N L (i : Int)).all fun b => wU N L k b.toNat == 2) with
    | false => rfl
    | true => exact absurd ((z26 h hi).1 hb) hn
   have e : ∀ q, (q < i + 1 ∧ yJ N L k q) ↔ (q < i ∧ yJ N L k q) := fun q => ⟨fun ⟨h1, h2⟩ => ⟨by
    by_cases hq : q = i
    ·subst hq; exact absurd h2 hn
    ·omega, h2⟩, fun ⟨h1, h2⟩ => ⟨by omega, h2⟩⟩
   refine .inl ⟨(qJ N (fun j => if j < i + 1 ∧ yJ N L k j then 1 else wU N L k j), qJ N (fun j => if j < i + 1 ∧ yJ N L k j then ((k + 1 : Nat) : Int) else tX N L k j), s3), ?_, rfl, rfl, ?_⟩
   ·simp only [hc, zbf, if_false, e]
   ·simp only [e]; exact h3
 ·rintro ⟨s1, s2, s3⟩ ⟨rfl, rfl, h3⟩
  rw [xX]
  refine ⟨(qJ N (uP N L k), qJ N (tG N L k), s3), ?_, rfl, rfl, ?_⟩
  ·unfold zFw
   simp only [Int.lt_irrefl, decide_false, zbf, if_false]
   have e1 : (qJ N fun j => if j < N ∧ yJ N L k j then 1 else wU N L k j) = qJ N (uP N L k) := uZ fun q hq => by simp [uP, hq]
   have e2 : (qJ N fun j => if j < N ∧ yJ N L k j then ((k + 1 : Nat) : Int) else tX N L k j) = qJ N (tG N L k) := uZ fun q hq => by simp [tG, hq]
   rw [e1, e2]
  ·rw [h3]
   exact ⟨fun ⟨j, _, h1⟩ => ⟨j, h1⟩, fun ⟨j, h1⟩ => ⟨j, by rw [xX]; exact zPN (D := (· < N)) h1.1, h1⟩⟩
theorem z5T {f g : Nat → Int} {i : Nat} (hi : i < N) (rd : Int) (l1 l2 s1 s2 : List Int) {l : List Int} (hl : ∀ (q : Nat) x, l[q]? = some x → ∃ a : Nat, x = (a : Int) ∧ a < N) (hb : l.length < 4294967296) (hii : i < 1000) :
  zV (zGD l (s1, s2, (i : Int)) (l1, l2, rd)) (qJ N f, qJ N g, 0) =
   some (.inl (qJ N (fun j => if j = i ∧ f i = 3 ∧ (l.any fun b => f b.toNat == 1 && g b.toNat == rd) = true then 2 else f j), qJ N (fun j => if j = i ∧ f i = 3 ∧ (l.any fun b => f b.toNat == 1 && g b.toNat == rd) = true then rd else g j), ((i + 1 : Nat) : Int))) := by
 have h := uR (B := zGD l (s1, s2, (i : Int)) (l1, l2, rd)) (fun q (s : List Int × List Int) => (s.1, s.2, (q : Int))) l
  (fun q s => s.1 = qJ N (fun j => if j = i ∧ f i = 3 ∧ ((l.take q).any fun b => f b.toNat == 1 && g b.toNat == rd) = true then 2 else f j) ∧ s.2 = qJ N (fun j => if j = i ∧ f i = 3 ∧ ((l.take q).any fun b => f b.toNat == 1 && g b.toNat == rd) = true then rd else g j))
  (fun r => r = .inl (qJ N (fun j => if j = i ∧ f i = 3 ∧ (l.any fun b => f b.toNat == 1 && g b.toNat == rd) = true then 2 else f j), qJ N (fun j => if j = i ∧ f i = 3 ∧ (l.any fun b => f b.toNat == 1 && g b.toNat == rd) = true then rd else g j), ((i + 1 : Nat) : Int))) ?_ ?_ (qJ N f, qJ N g) ⟨by simp, by simp⟩
 ·obtain ⟨r, h1, rfl⟩ := h
  exact h1
 ·rintro q x ⟨t1, t2⟩ hx ⟨rfl, rfl⟩
  obtain ⟨a, rfl, ha⟩ := hl q x hx
  have hta : ((l.take (q + 1)).any fun b => f b.toNat == 1 && g b.toNat == rd) = (((l.take q).any fun b => f b.toNat == 1 && g b.toNat == rd) || (f a == 1 && g a == rd)) := by
   rw [zNm _ hx]; simp
  unfold zGD
  simp only [wZ hx, if_true, wV hx, zob, wY hx hb, zKK _ hi, zKK _ ha, Int.toNat_natCast, hta]
  cases hA : ((l.take q).any fun b => f b.toNat == 1 && g b.toNat == rd) with
  | true =>
   refine .inl ⟨(qJ N (fun j => if j = i ∧ f i = 3 then 2 else f j), qJ N (fun j => if j = i ∧ f i = 3 then rd else g j)), ?_, by simp, by simp⟩
   by_cases h3 : f i = 3
   ·simp [h3]
   ·have : (f i == 3) = false := by simpa using h3
    simp [h3, this]
  | false =>
   by_cases h3 : f i = 3
   ·have hai : a = i → (f a == 1) = false := fun e => by subst e; rw [h3]; rfl
    cases h1 : (f a == 1 && g a == rd) with
    | true =>
     refine .inl ⟨(qJ N (fun j => if j = i then 2 else f j), qJ N (fun j => if j = i then rd else g j)), ?_, by simp [h3], by simp [h3]⟩
     rw [Bool.and_eq_true] at h1
     simp [h3, h1.1, h1.2, zN7]
    | false =>
     refine .inl ⟨(qJ N f, qJ N g), ?_, by simp, by simp⟩
     cases h4 : f a == 1 with
     | false => simp [h3, h4]
     | true =>
      rw [h4, Bool.true_and] at h1
      simp [h3, h4, h1]
   ·have h3' : (f i == 3) = false := by simpa using h3
    refine .inl ⟨(qJ N f, qJ N g), by simp [h3', h3], by simp [h3], by simp [h3]⟩
 ·rintro ⟨t1, t2⟩ ⟨rfl, rfl⟩
  rw [List.take_length]
  refine ⟨_, ?_, rfl⟩
  unfold zGD
  simp only [xD, zbf, if_false, uF i (by omega)]
theorem zZc (h : vN N L) {k b : Nat} (hb : uP N L k b = 1) : (tG N L k b == ((k + 1 : Nat) : Int)) = true ↔ yJ N L k b := by
 unfold tG
 by_cases hn : yJ N L k b
 ·simp [hn]
 ·have := z4U N L k b
  simp only [hn, if_false, iff_false, beq_iff_eq]
  omega
theorem z4g (h : vN N L) {k : Nat} {f g : Nat → Int} (hf : ∀ b, f b = 1 ↔ uP N L k b = 1) (hg : ∀ b, f b = 1 → g b = tG N L k b) (i : Nat) :
  ((yR N L (i : Int)).any fun b => f b.toNat == 1 && g b.toNat == ((k + 1 : Nat) : Int)) = true ↔ tF (vD L) (yJ N L k) i := by
 rw [List.any_eq_true]
 constructor
 ·rintro ⟨x, hx, h1⟩
  obtain ⟨h2, h3⟩ := List.mem_filter.1 hx
  obtain ⟨h4, h5⟩ := uL.1 h2
  obtain ⟨a, rfl⟩ := Int.eq_ofNat_of_zero_le h4
  rw [Bool.and_eq_true, Int.toNat_natCast, beq_iff_eq] at h1
  rw [hg a h1.1] at h1
  exact ⟨a, (zZc h ((hf a).1 h1.1)).1 h1.2, h3⟩
 ·rintro ⟨m, h1, h2⟩
  have hm : m < N := zPN (D := (· < N)) h1.1
  have h3 : uP N L k m = 1 := by simp [uP, h1]
  have h4 := (hf m).2 h3
  refine ⟨(m : Int), List.mem_filter.2 ⟨uL.2 ⟨by omega, by omega⟩, h2⟩, ?_⟩
  rw [Bool.and_eq_true, Int.toNat_natCast, beq_iff_eq]
  refine ⟨h4, ?_⟩
  rw [hg m h4]
  exact (zZc h h3).2 h1
theorem z2x (k i : Nat) : wU N L (k + 1) i = (open Classical in if uP N L k i = 3 ∧ tF (vD L) (yJ N L k) i then 2 else uP N L k i) := by
 rw [zVj]
 unfold uP
 by_cases hn : yJ N L k i
 ·simp [hn]
 ·rw [if_neg hn, if_neg hn]
theorem z2r (k i : Nat) : tX N L (k + 1) i = (open Classical in if uP N L k i = 3 ∧ tF (vD L) (yJ N L k) i then ((k + 1 : Nat) : Int) else tG N L k i) := by
 rw [tX, zVj]
 unfold uP tG
 by_cases hn : yJ N L k i
 ·have := now3 N L hn
  simp [hn, this]
 ·by_cases h1 : wU N L k i = 3 ∧ tF (vD L) (yJ N L k) i
  ·simp [hn, h1]
  ·simp [hn, h1]
open Classical in
theorem z5K (h : vN N L) {k : Nat} (hk : k ≤ 100) (l1 l2 : List Int) :
  zV (zFy ((N : Int), L) (l1, l2, ((k + 1 : Nat) : Int))) (qJ N (uP N L k), qJ N (tG N L k), 0) = some (lb N L (k + 1), rn N L (k + 1)) := by
 have hN := h.hN
 let c (j : Nat) : Prop := uP N L k j = 3 ∧ tF (vD L) (yJ N L k) j
 let F (i j : Nat) : Int := if j < i ∧ c j then 2 else uP N L k j
 let G (i j : Nat) : Int := if j < i ∧ c j then ((k + 1 : Nat) : Int) else tG N L k j
 have hF : ∀ i b, F i b = 1 ↔ uP N L k b = 1 := fun i b => by
  show (if b < i ∧ c b then 2 else uP N L k b) = 1 ↔ _
  by_cases hc : b < i ∧ c b
  ·rw [if_pos hc, hc.2.1]; simp
  ·rw [if_neg hc]
 have hG : ∀ i b, F i b = 1 → G i b = tG N L k b := fun i b hb => by
  have h1 := (hF i b).1 hb
  show (if b < i ∧ c b then ((k + 1 : Nat) : Int) else tG N L k b) = _
  rw [if_neg (fun hc => by have := hc.2.1; omega)]
 have hl := uR (B := zFy ((N : Int), L) (l1, l2, ((k + 1 : Nat) : Int))) (fun i (s : List Int × List Int) => (s.1, s.2, (i : Int))) (vT N)
  (fun i s => s = (qJ N (F i), qJ N (G i))) (fun r => r = (lb N L (k + 1), rn N L (k + 1))) ?_ ?_ (qJ N (uP N L k), qJ N (tG N L k)) (by simp [F, G])
 ·obtain ⟨r, h1, rfl⟩ := hl
  exact h1
 ·rintro i x s hx rfl
  obtain ⟨rfl, hi⟩ := zQM hx
  have hd : decide ((i : Int) < (N : Int)) = true := by simp; omega
  have hpl := zRk (N := N) (L := L) (i : Int)
  refine .inl ⟨_, ?_, rfl⟩
  unfold zFy
  simp only [hd, if_true, zO7 h, zob]
  rw [z5T hi _ _ _ _ _ (fun q x hx => by obtain ⟨a, h1, h2, _⟩ := zYA hx; exact ⟨a, h1, h2⟩) (by omega) (by omega)]
  have hfi : F i i = uP N L k i := by simp [F]
  have e0 : ∀ j, (j = i ∧ F i i = 3 ∧ ((yR N L (i : Int)).any fun b => F i b.toNat == 1 && G i b.toNat == ((k + 1 : Nat) : Int)) = true) ↔ j = i ∧ c i := fun j => by
   rw [z4g h (hF i) (hG i) i, hfi]
  congr 3
  ·apply uZ
   intro q _
   by_cases hq : q = i
   ·subst hq
    by_cases hc : c q
    ·rw [if_pos ((e0 q).2 ⟨rfl, hc⟩)]; simp [F, hc]
    ·rw [if_neg (fun hh => hc ((e0 q).1 hh).2)]; simp [F, hc]
   ·have e : (q < i + 1) = (q < i) := by rw [eq_iff_iff]; omega
    rw [if_neg (fun hh => hq hh.1)]
    simp [F, e]
  ·congr 1
   apply uZ
   intro q _
   by_cases hq : q = i
   ·subst hq
    by_cases hc : c q
    ·rw [if_pos ((e0 q).2 ⟨rfl, hc⟩)]; simp [G, hc]
    ·rw [if_neg (fun hh => hc ((e0 q).1 hh).2)]; simp [G, hc]
   ·have e : (q < i + 1) = (q < i) := by rw [eq_iff_iff]; omega
    rw [if_neg (fun hh => hq hh.1)]
    simp [G, e]
 ·rintro s rfl
  rw [xX]
  refine ⟨_, ?_, rfl⟩
  unfold zFy
  simp only [Int.lt_irrefl, decide_false, zbf, if_false]
  have e1 : qJ N (F N) = lb N L (k + 1) := uZ fun q hq => by rw [z2x]; simp [F, hq, c]
  have e2 : qJ N (G N) = rn N L (k + 1) := uZ fun q hq => by rw [z2r]; simp [G, hq, c]
  rw [e1, e2]
theorem zYw (h : vN N L) : zLI ((N : Int), L) = some (xT N L, z2L N L) := by
 have hN := h.hN
 unfold zLI
 rw [z4j hN]
 simp only [zob]
 have hstep : ∀ k, k ≤ N → ∃ c : Bool, (c = true ↔ ∃ i, yJ N L k i) ∧ zIZ ((N : Int), L) (lb N L k, rn N L k, ((k + 1 : Nat) : Int)) = if !c then some (.inr (lb N L (k + 1), rn N L (k + 1))) else some (.inl (lb N L (k + 1), rn N L (k + 1), ((k + 2 : Nat) : Int))) := by
  intro k hk
  obtain ⟨c, hc, h3⟩ := z4l h (k := k) (by omega)
  refine ⟨c, hc, ?_⟩
  unfold zIZ
  rw [yP (by rw [zDN]; simp; omega)]
  simp only [List.nil_append, zob, h3, z5K h (show k ≤ 100 by omega)]
  rw [uF (k + 1) (by omega)]
 have hl := zV5 (B := zIZ ((N : Int), L)) (fun (_ : Unit) k => (lb N L k, rn N L k, ((k + 1 : Nat) : Int))) N (fun _ _ => True) (fun r => r = (xT N L, z2L N L)) ?_ ?_ () trivial
 ·obtain ⟨r, h1, rfl⟩ := hl
  exact h1
 ·intro k _ hk _
  obtain ⟨c, hc, h1⟩ := hstep k (by omega)
  rw [h1]
  cases c with
  | true => exact .inl ⟨(), rfl, trivial⟩
  | false =>
   have hno : ∀ i, ¬ yJ N L k i := fun i hi => by have := hc.2 ⟨i, hi⟩; cases this
   obtain ⟨e1, e2⟩ := z1g (by omega) hno
   refine .inr ⟨_, rfl, ?_⟩
   rw [← e1, ← e2]
   exact Prod.ext (uZ fun i _ => zWF N L hno (k + 1) (by omega) i) (uZ fun i _ => z1Y N L hno (k + 1) (by omega) i)
 ·intro _ _
  obtain ⟨c, hc, h1⟩ := hstep N (Nat.le_refl _)
  rw [h1]
  cases c with
  | true => obtain ⟨i, hi⟩ := hc.1 rfl; exact absurd hi (zTS N L)
  | false => exact ⟨_, rfl, rfl⟩
theorem zY7 (h : vN N L) : zLK ((N : Int), L) = some (xT N L) := by
 unfold zLK
 rw [zYw h]
 rfl
end
end
section
section
variable {N : Nat} {L : List qW}
theorem z5Y (h : vN N L) (i : Int) : (L.filter fun p => p.2 == i).map (·.1) = yR N L i := by
 apply vY.ext xM ?_ ((zPY N).filter _)
 ·intro x
  rw [List.mem_map, List.mem_filter, uL, zSg]
  constructor
  ·rintro ⟨p, hp, rfl⟩
   obtain ⟨h1, h2⟩ := List.mem_filter.1 hp
   have h3 : p.2 = i := by simpa using h2
   obtain ⟨a, b, h4, h5, h6⟩ := zJE (h.inr p h1)
   subst h6
   exact ⟨⟨by show (0 : Int) ≤ (a : Int); omega, by show (a : Int) < (N : Int); omega⟩, by rw [← h3]; exact h1⟩
  ·rintro ⟨_, h1⟩
   exact ⟨_, List.mem_filter.2 ⟨h1, by simp⟩, rfl⟩
 ·have h1 := h.asc.filter fun p : qW => p.2 == i
  rw [vY, List.pairwise_map]
  refine List.Pairwise.imp_of_mem ?_ h1
  intro p q hp hq hlt
  have h2 : p.2 = i := by simpa using (List.mem_filter.1 hp).2
  have h3 : q.2 = i := by simpa using (List.mem_filter.1 hq).2
  simp only [xO, zWJ, h2, h3, xM.irrefl, Bool.and_false, Bool.or_false] at hlt
  exact hlt
def vF (N : Nat) (L : List qW) (f : Nat → Int) (j : Nat) : Nat := ((yR N L (j : Int)).filter fun b => !(f b.toNat == 2)).length
theorem cnt_le (f : Nat → Int) (j : Nat) : vF N L f j ≤ N := Nat.le_trans (List.length_filter_le _ _) (zRk _)
theorem zZ9 {f : Nat → Int} {j : Nat} : vF N L f j = 0 ↔ ∀ b, b < N → vD L b j → f b = 2 := by
 unfold vF
 rw [List.length_eq_zero_iff, List.filter_eq_nil_iff]
 constructor
 ·intro h b hb he
  have := h (b : Int) (List.mem_filter.2 ⟨uL.2 ⟨by omega, by omega⟩, he⟩)
  simpa using this
 ·intro h x hx
  obtain ⟨h1, h2⟩ := List.mem_filter.1 hx
  obtain ⟨h3, h4⟩ := uL.1 h1
  obtain ⟨a, rfl⟩ := Int.eq_ofNat_of_zero_le h3
  simp [h a (by omega) h2]
theorem zVS {α : Type} [DecidableEq α] {p q : α → Bool} {x : α} : ∀ {l : List α}, l.Nodup → x ∈ l → p x = true → q x = false → (∀ y ∈ l, y ≠ x → p y = q y) → (l.filter p).length = (l.filter q).length + 1
 | [], _, hx, _, _, _ => by cases hx
 | y :: l, hn, hx, h1, h2, h3 => by
  obtain ⟨hy, hl⟩ := List.nodup_cons.1 hn
  by_cases he : y = x
  ·subst he
   have : l.filter p = l.filter q := List.filter_congr fun z hz => h3 z (List.mem_cons_of_mem _ hz) fun e => by subst e; exact hy hz
   simp [h1, h2, this]
  ·have hm : x ∈ l := by
    rcases List.mem_cons.1 hx with h | h
    ·exact absurd h.symm he
    ·exact h
   have ih := zVS hl hm h1 h2 fun z hz => h3 z (List.mem_cons_of_mem _ hz)
   have hpq := h3 y List.mem_cons_self he
   cases hq : q y with
   | true => simp [hpq, hq, ih]
   | false => simp [hpq, hq, ih]
theorem z4Y {f : Nat → Int} {a : Nat} (ha : a < N) (h3 : f a = 3) (j : Nat) :
  vF N L f j = vF N L (fun b => if b = a then 2 else f b) j + (if ed L (a : Int) (j : Int) = true then 1 else 0) := by
 unfold vF
 by_cases he : ed L (a : Int) (j : Int) = true
 ·rw [if_pos he]
  refine zVS (x := (a : Int)) ?_ (List.mem_filter.2 ⟨uL.2 ⟨by omega, by omega⟩, he⟩) (by simp [h3]) (by simp) ?_
  ·exact ((zPY N).filter _).imp fun {x y} hh e => by subst e; simp at hh
  ·intro y hy hne
   obtain ⟨h1, h2⟩ := List.mem_filter.1 hy
   obtain ⟨h4, h5⟩ := uL.1 h1
   obtain ⟨b, rfl⟩ := Int.eq_ofNat_of_zero_le h4
   have h6 : b ≠ a := fun e => hne (by rw [e])
   simp [h6]
 ·rw [if_neg he, Nat.add_zero]
  congr 1
  apply List.filter_congr
  intro x hx
  obtain ⟨h1, h2⟩ := List.mem_filter.1 hx
  obtain ⟨h4, h5⟩ := uL.1 h1
  obtain ⟨b, rfl⟩ := Int.eq_ofNat_of_zero_le h4
  have hne : b ≠ a := fun e => by subst e; exact he h2
  simp [hne]
theorem zTQ {k b : Nat} : uP N L k b = 2 ↔ wU N L k b = 2 := by
 unfold uP
 by_cases h : yJ N L k b
 ·have := now3 N L h
  simp [h, this]
 ·rw [if_neg h]
theorem zUE {f f' : Nat → Int} (h : ∀ b, b < N → (f b = 2 ↔ f' b = 2)) (j : Nat) : vF N L f j = vF N L f' j := by
 unfold vF
 congr 1
 apply List.filter_congr
 intro x hx
 obtain ⟨h4, h5⟩ := uL.1 (List.mem_filter.1 hx).1
 obtain ⟨b, rfl⟩ := Int.eq_ofNat_of_zero_le h4
 have h1 := h b (by omega)
 rw [Int.toNat_natCast, Bool.eq_iff_iff]
 simp [h1]
theorem zU1 (h : vN N L) {k j : Nat} (hj : j < N) : (wU N L k j = 3 ∧ vF N L (wU N L k) j = 0) ↔ yJ N L k j := by
 rw [zZ9, z1b N L hj h.hR]
structure Nxt (N : Nat) (L : List qW) (f : Nat → Int) (nx : List Int) : Prop where
 nd : nx.Nodup
 rg : ∀ x ∈ nx, 0 ≤ x ∧ x < N
 mem : ∀ j : Nat, (j : Int) ∈ nx ↔ j < N ∧ f j = 3 ∧ vF N L f j = 0
theorem zZS {nx : List Int} (h1 : nx.Nodup) (h2 : ∀ x ∈ nx, 0 ≤ x ∧ x < (N : Int)) : nx.length ≤ N := by
 have := zLr (m := vT N) h1 fun x hx => uL.2 (h2 x hx)
 rwa [xX] at this
theorem z2T {i : Int} {q : Nat} {x : Int} (h : (zNV N L i)[q]? = some x) : ∃ a : Nat, x = (a : Int) ∧ a < N ∧ ed L i (a : Int) = true := by
 obtain ⟨h1, h2⟩ := List.mem_filter.1 (vK h)
 obtain ⟨h3, h4⟩ := uL.1 h1
 obtain ⟨a, rfl⟩ := Int.eq_ofNat_of_zero_le h3
 exact ⟨a, rfl, by omega, h2⟩
theorem zZz (i : Int) : (zNV N L i).Nodup := ((zPY N).filter _).imp fun {x y} hh e => by subst e; simp at hh
theorem zZi {i : Int} {j : Nat} (hj : j < N) : (j : Int) ∈ zNV N L i ↔ ed L i (j : Int) = true := by
 rw [List.mem_filter, uL]
 exact ⟨fun h => h.2, fun h => ⟨⟨by omega, by omega⟩, h⟩⟩
theorem z3O {α : Type} {l : List α} (hn : l.Nodup) {i : Nat} {x : α} (hx : l[i]? = some x) : x ∉ l.take i := by
 intro hm
 obtain ⟨j, hj⟩ := List.getElem?_of_mem hm
 rw [List.getElem?_take] at hj
 split at hj
 ·rename_i hji
  obtain ⟨h1, h2⟩ := List.getElem?_eq_some_iff.1 hj
  obtain ⟨h3, h4⟩ := List.getElem?_eq_some_iff.1 hx
  have := (List.getElem_inj hn).1 (h2.trans h4.symm)
  omega
 ·cases hj
theorem grp_L7 (h : vN N L) {f : Nat → Int} (l2 : List Int) {a : Nat} (ha : a < N) (h3 : f a = 3) (hca : vF N L f a ≠ 0) (q : Int) (s6 : List Int × List Int × List Int × Int × List Int) {nx : List Int} (hnx : Nxt N L f nx) (hq : 0 ≤ q ∧ q < 1000) :
  ∃ nx', Nxt N L (fun b => if b = a then 2 else f b) nx' ∧
   zV (zDY (zNV N L (a : Int)) (qJ N f, l2, nx, q, qJ 40 fun j => (vF N L f j : Int)) (a : Int) s6) (nx, 0, qJ 40 fun j => (vF N L f j : Int)) =
    some (.inl (qJ N (fun b => if b = a then 2 else f b), List.set l2 a s6.2.2.2.1, nx', q + 1, qJ 40 fun j => (vF N L (fun b => if b = a then 2 else f b) j : Int))) := by
 have hN := h.hN
 let f' : Nat → Int := fun b => if b = a then 2 else f b
 let o (t j : Nat) : Nat := vF N L f' j + if ed L (a : Int) (j : Int) = true ∧ (j : Int) ∉ (zNV N L (a : Int)).take t then 1 else 0
 have ho0 : ∀ j, o 0 j = vF N L f j := fun j => by
  show vF N L f' j + _ = _
  rw [z4Y ha h3 j]
  simp [f']
 have hsl := zZd (N := N) (L := L) (a : Int)
 have hl := uR (B := zDY (zNV N L (a : Int)) (qJ N f, l2, nx, q, qJ 40 fun j => (vF N L f j : Int)) (a : Int) s6) (fun t (s : List Int × List Int) => (s.1, (t : Int), s.2)) (zNV N L (a : Int))
  (fun t s => s.2 = qJ 40 (fun j => (o t j : Int)) ∧ s.1.Nodup ∧ (∀ x ∈ s.1, 0 ≤ x ∧ x < (N : Int)) ∧ ∀ j : Nat, (j : Int) ∈ s.1 ↔ j < N ∧ f' j = 3 ∧ o t j = 0)
  (fun r => ∃ nx', Nxt N L f' nx' ∧ r = .inl (qJ N f', List.set l2 a s6.2.2.2.1, nx', q + 1, qJ 40 fun j => (vF N L f' j : Int))) ?_ ?_ (nx, qJ 40 fun j => (vF N L f j : Int)) ?_
 ·obtain ⟨r, h1, nx', h2, rfl⟩ := hl
  exact ⟨nx', h2, h1⟩
 ·rintro t x ⟨n1, op⟩ hx ⟨hop, hnd, hrg, hmem⟩
  simp only at hop hnd hrg hmem
  subst hop
  obtain ⟨j0, rfl, hj0, he⟩ := z2T hx
  have hnot := z3O (zZz (N := N) (L := L) (a : Int)) hx
  have hn1 := zZS hnd hrg
  have ho1 : o t j0 = vF N L f' j0 + 1 := by
   show vF N L f' j0 + _ = _
   rw [if_pos ⟨he, hnot⟩]
  have ho2 : o (t + 1) j0 = vF N L f' j0 := by
   show vF N L f' j0 + _ = _
   rw [if_neg (fun hh => hh.2 (by rw [xF hx]; simp)), Nat.add_zero]
  have ho3 : ∀ j, j ≠ j0 → o (t + 1) j = o t j := fun j hj => by
   show vF N L f' j + _ = vF N L f' j + _
   congr 1
   have : (j : Int) ∉ (zNV N L (a : Int)).take (t + 1) ↔ (j : Int) ∉ (zNV N L (a : Int)).take t := by
    rw [xF hx, List.mem_append, List.mem_singleton]
    have : ¬ (j : Int) = (j0 : Int) := by omega
    simp [this]
   simp only [this]
  have hc0 := cnt_le (N := N) (L := L) f' j0
  have hnew : xS 40 (qJ 40 fun j => (o t j : Int)) (j0 : Int) (zR ((yT (qJ 40 fun j => (o t j : Int)) (j0 : Int)) - 1)) = qJ 40 fun j => (o (t + 1) j : Int) := by
   rw [zOu _ _ (by omega), zUD _ _ (by omega), xQ (by omega) (by omega)]
   apply uZ
   intro j _
   by_cases hj : j = j0
   ·subst hj; rw [if_pos rfl, ho1, ho2]; omega
   ·rw [if_neg hj, ho3 j hj]
  have hset : List.set (qJ N f) (Int.toNat (a : Int)) 2 = qJ N f' := by rw [Int.toNat_natCast, zN7]
  unfold zDY
  simp only [wZ hx, if_true, wV hx, zob, zMQ (show (40 : Int) = ((40 : Nat) : Int) from rfl) (show j0 < 40 by omega), hnew, zOu 40 (fun j => (o (t + 1) j : Int)) (show j0 < 40 by omega), hset, zKK f' hj0, wY hx (show (zNV N L (a : Int)).length < 4294967296 by omega), ho2]
  cases hz : (((vF N L f' j0 : Nat) : Int) == 0) && (f' j0 == 3) with
  | true =>
   rw [Bool.and_eq_true, beq_iff_eq, beq_iff_eq] at hz
   have hnin : (j0 : Int) ∉ n1 := fun hm => by have := ((hmem j0).1 hm).2.2; omega
   refine .inl ⟨(n1 ++ [(j0 : Int)], qJ 40 fun j => (o (t + 1) j : Int)), ?_, rfl, ?_, ?_, ?_⟩
   ·simp only [hz.1, hz.2, beq_self_eq_true, if_true, zob]
    rw [yP (by simp; omega)]
    rfl
   ·rw [List.nodup_append]
    exact ⟨hnd, by simp, fun x hx y hy e => by rw [List.mem_singleton] at hy; subst hy; subst e; exact hnin hx⟩
   ·intro x hx
    rcases List.mem_append.1 hx with hx | hx
    ·exact hrg x hx
    ·rw [List.mem_singleton] at hx; subst hx; omega
   ·intro j
    rw [List.mem_append, List.mem_singleton]
    by_cases hj : j = j0
    ·subst hj
     exact ⟨fun _ => ⟨hj0, hz.2, by rw [ho2]; omega⟩, fun _ => .inr rfl⟩
    ·rw [ho3 j hj, hmem j]
     exact ⟨fun hh => hh.elim id fun e => absurd (by omega) hj, .inl⟩
  | false =>
   refine .inl ⟨(n1, qJ 40 fun j => (o (t + 1) j : Int)), ?_, rfl, hnd, hrg, ?_⟩
   ·cases h1 : (((vF N L f' j0 : Nat) : Int) == 0) with
    | false => simp only [zbf, if_false, zob]
    | true =>
     rw [h1, Bool.true_and] at hz
     simp only [if_true, zob, hz, zbf, if_false]
   ·intro j
    by_cases hj : j = j0
    ·subst hj
     rw [hmem j, ho1, ho2]
     constructor
     ·rintro ⟨_, _, h0⟩; omega
     ·rintro ⟨_, h1, h0⟩
      rw [h0, h1] at hz
      simp at hz
    ·rw [ho3 j hj, hmem j]
 ·rintro ⟨n1, op⟩ ⟨hop, hnd, hrg, hmem⟩
  simp only at hop hnd hrg hmem
  subst hop
  have hoe : ∀ j, j < 40 → o (zNV N L (a : Int)).length j = vF N L f' j := fun j _ => by
   show vF N L f' j + _ = _
   rw [List.take_length, if_neg]
   ·rfl
   ·rintro ⟨h1, h2⟩
    obtain ⟨x, y, _, h4, _, h6⟩ := h.inN _ _ h1
    exact h2 ((zZi (by omega)).2 h1)
  refine ⟨_, ?_, n1, ⟨hnd, hrg, fun j => ?_⟩, rfl⟩
  ·unfold zDY
   have hset : List.set (qJ N f) a 2 = qJ N f' := zN7 f 2
   have hm : (qJ 40 fun j => (o (zNV N L (a : Int)).length j : Int)) = qJ 40 fun j => (vF N L f' j : Int) := uZ fun j hj => by rw [hoe j hj]
   simp only [xD, zbf, if_false, Int.toNat_natCast, hset, hm]
   rw [xQ (by omega) (by omega)]
  ·rw [hmem j]
   constructor
   ·rintro ⟨h1, h2, h4⟩; exact ⟨h1, h2, by rw [hoe j (by omega)] at h4; exact h4⟩
   ·rintro ⟨h1, h2, h4⟩; exact ⟨h1, h2, by rw [hoe j (by omega)]; exact h4⟩
 ·refine ⟨?_, hnx.nd, hnx.rg, fun j => ?_⟩
  ·show (qJ 40 fun j => (vF N L f j : Int)) = _
   exact uZ fun j _ => by rw [ho0]
  ·show (j : Int) ∈ nx ↔ _
   rw [hnx.mem j, ho0]
   show _ ↔ j < N ∧ (if j = a then 2 else f j) = 3 ∧ vF N L f j = 0
   by_cases hj : j = a
   ·subst hj
    rw [if_pos rfl]
    exact ⟨fun hh => absurd hh.2.2 hca, fun hh => absurd hh.2.2 hca⟩
   ·rw [if_neg hj]
structure Mid (N : Nat) (L : List qW) (k : Nat) (f g : Nat → Int) (nx : List Int) : Prop where
 v : ∀ j, j < N → f j = 1 ∨ f j = 2 ∨ f j = 3
 one : ∀ j, j < N → (f j = 1 ↔ wU N L (k + 1) j = 1)
 two : ∀ j, j < N → f j = 2 → wU N L (k + 1) j = 2
 old : ∀ j, j < N → wU N L k j = 2 → f j = 2
 rk : ∀ j, j < N → g j = if f j = wU N L k j then tX N L k j else ((k + 1 : Nat) : Int)
 nx : Nxt N L f nx
theorem grp_L6 (h : vN N L) {k : Nat} (hk : k ≤ 100) {i : Nat} (hi : yJ N L k i) (s6 : List Int × List Int × List Int × Int × List Int) (hs6 : s6.2.2.2.1 = ((k + 1 : Nat) : Int)) (D : Nat → Prop)
  {f g : Nat → Int} {nx : List Int} (hM : Mid N L k f g nx) (hD : ∀ j, D j → f j ≠ 3) (q : Nat) (hq : q < 1000) (z1 z2 z3 z5 : List Int) :
  ∃ f' g' nx', Mid N L k f' g' nx' ∧ (∀ j, j < N → D j ∨ vD L i j → f' j ≠ 3) ∧
   zV (zBt (zNV N L (i : Int)) ((N : Int), L) s6 (z1, z2, z3, (q : Int), z5)) (qJ N f, qJ N g, nx, 0, qJ 40 fun j => (vF N L f j : Int)) =
    some (.inl (qJ N f', qJ N g', nx', ((q + 1 : Nat) : Int), qJ 40 fun j => (vF N L f' j : Int))) := by
 have hN := h.hN
 have hsl := zZd (N := N) (L := L) (i : Int)
 have hl := uR (B := zBt (zNV N L (i : Int)) ((N : Int), L) s6 (z1, z2, z3, (q : Int), z5)) (fun t (s : List Int × List Int × List Int × List Int) => (s.1, s.2.1, s.2.2.1, (t : Int), s.2.2.2)) (zNV N L (i : Int))
  (fun t s => ∃ f' g' nx', Mid N L k f' g' nx' ∧ (∀ j, j < N → D j ∨ (j : Int) ∈ (zNV N L (i : Int)).take t → f' j ≠ 3) ∧ s = (qJ N f', qJ N g', nx', qJ 40 fun j => (vF N L f' j : Int)))
  (fun r => ∃ f' g' nx', Mid N L k f' g' nx' ∧ (∀ j, j < N → D j ∨ vD L i j → f' j ≠ 3) ∧ r = .inl (qJ N f', qJ N g', nx', ((q + 1 : Nat) : Int), qJ 40 fun j => (vF N L f' j : Int))) ?_ ?_ (qJ N f, qJ N g, nx, qJ 40 fun j => (vF N L f j : Int)) ⟨f, g, nx, hM, fun j _ hj => by simp at hj; exact hD j hj, rfl⟩
 ·obtain ⟨r, h1, f', g', nx', h2, h3, rfl⟩ := hl
  exact ⟨f', g', nx', h2, h3, h1⟩
 ·rintro t x _ hx ⟨f', g', nx', hM', hD', rfl⟩
  obtain ⟨a, rfl, ha, he⟩ := z2T hx
  by_cases h3 : f' a = 3
  ·have hb : (f' a != 3) = false := by simp [h3]
   have hfi : f' i = 1 := (hM'.one i (zPN (D := (· < N)) hi.1)).2 ((z3s N L).2 hi.1)
   have hca : vF N L f' a ≠ 0 := fun h0 => by have := zZ9.1 h0 i (zPN (D := (· < N)) hi.1) he; omega
   have ht : t < 1000 := by have := vQ hx; omega
   obtain ⟨n2, hn2, h7⟩ := grp_L7 h (qJ N g') ha h3 hca (t : Int) s6 hM'.nx ⟨by omega, by omega⟩
   have hla : wU N L k a ≠ 2 := fun e => by have := hM'.old a ha e; omega
   refine .inl ⟨(qJ N (fun b => if b = a then 2 else f' b), qJ N (fun b => if b = a then ((k + 1 : Nat) : Int) else g' b), n2, qJ 40 fun j => (vF N L (fun b => if b = a then 2 else f' b) j : Int)), ?_, _, _, n2, ⟨?_, ?_, ?_, ?_, ?_, hn2⟩, ?_, rfl⟩
   ·unfold zBt
    simp only [wZ hx, if_true, wV hx, zob, zKK _ ha, hb, zbf, if_false, zM4 h]
    rw [h7, hs6, zN7]
    rfl
   ·intro j hj
    by_cases e : j = a
    ·simp [e]
    ·simpa [e] using hM'.v j hj
   ·intro j hj
    by_cases e : j = a
    ·subst e
     have h1 := hM'.one j hj
     rw [h3] at h1
     simp only [if_true]
     constructor
     ·intro h2; cases h2
     ·intro h2; have := h1.2 h2; omega
    ·simpa [e] using hM'.one j hj
   ·intro j hj
    by_cases e : j = a
    ·subst e
     intro _
     exact (zUl N L).2 ⟨i, hi.1, he⟩
    ·simpa [e] using hM'.two j hj
   ·intro j hj hj2
    by_cases e : j = a
    ·subst e; exact absurd hj2 hla
    ·simpa [e] using hM'.old j hj hj2
   ·intro j hj
    by_cases e : j = a
    ·subst e
     rw [if_pos rfl, if_pos rfl, if_neg (fun e2 => hla e2.symm)]
    ·simpa [e] using hM'.rk j hj
   ·intro j hj hjd
    by_cases e : j = a
    ·simp [e]
    ·simp only [e, if_false]
     refine hD' j hj (hjd.imp id fun hm => ?_)
     rw [xF hx, List.mem_append, List.mem_singleton] at hm
     exact hm.resolve_right (by omega)
  ·have hb : (f' a != 3) = true := by simp [h3]
   refine .inl ⟨(qJ N f', qJ N g', nx', qJ 40 fun j => (vF N L f' j : Int)), ?_, f', g', nx', hM', ?_, rfl⟩
   ·unfold zBt
    simp only [wZ hx, if_true, wV hx, zob, zKK _ ha, hb, wY hx (show (zNV N L (i : Int)).length < 4294967296 by omega)]
   ·intro j hj hjd
    by_cases e : j = a
    ·subst e; exact h3
    ·refine hD' j hj (hjd.imp id fun hm => ?_)
     rw [xF hx, List.mem_append, List.mem_singleton] at hm
     exact hm.resolve_right (by omega)
 ·rintro _ ⟨f', g', nx', hM', hD', rfl⟩
  refine ⟨_, ?_, f', g', nx', hM', fun j hj hjd => hD' j hj (hjd.imp id fun he => ?_), rfl⟩
  ·unfold zBt
   simp only [xD, zbf, if_false, uF q (by omega)]
  ·rw [List.take_length]
   exact (zZi hj).2 he
structure zPT (N : Nat) (L : List qW) (k : Nat) (Q : List Int) : Prop where
 nd : Q.Nodup
 rg : ∀ x ∈ Q, 0 ≤ x ∧ x < N
 mem : ∀ j : Nat, (j : Int) ∈ Q ↔ yJ N L k j
theorem z0m (h : vN N L) (k : Nat) : Mid N L k (uP N L k) (tG N L k) [] := by
 have h1 : ∀ j, uP N L k j = 1 ↔ wU N L (k + 1) j = 1 := fun j => by
  rw [z3s N L]
  unfold uP
  by_cases hn : yJ N L k j
  ·simp [hn, hn.1]
  ·rw [if_neg hn, z3s N L]
   exact ⟨fun hg => zNq hg, fun hg => Classical.byContradiction fun hc => hn ⟨hg, hc⟩⟩
 refine ⟨fun j _ => ?_, fun j _ => h1 j, fun j _ h2 => z1x N L (zTQ.1 h2), fun j _ h2 => zTQ.2 h2, fun j _ => ?_, ⟨List.nodup_nil, (fun x hx => by cases hx), fun j => ?_⟩⟩
 ·unfold uP
  by_cases hn : yJ N L k j
  ·simp [hn]
  ·rw [if_neg hn]; exact zQh N L k j
 ·unfold uP tG
  by_cases hn : yJ N L k j
  ·have := now3 N L hn
   simp [hn, this]
  ·simp [hn]
 ·constructor
  ·intro hm; cases hm
  ·rintro ⟨hj, h3, h0⟩
   exfalso
   have hc : vF N L (uP N L k) j = vF N L (wU N L k) j := zUE (fun b _ => zTQ) j
   rw [hc] at h0
   by_cases hn : yJ N L k j
   ·unfold uP at h3; rw [if_pos hn] at h3; cases h3
   ·unfold uP at h3; rw [if_neg hn] at h3
    exact hn ((zU1 h hj).1 ⟨h3, h0⟩)
theorem grp_L5 (h : vN N L) {k : Nat} (hk : k ≤ 100) {Q : List Int} (hQ : zPT N L k Q) (z1 z2 z5 : List Int) :
  ∃ Q', zPT N L (k + 1) Q' ∧ zV (zCP (z1, z2, Q, ((k + 1 : Nat) : Int), z5) ((N : Int), L)) (qJ N (uP N L k), qJ N (tG N L k), ([] : List Int), 0, qJ 40 fun j => (vF N L (wU N L k) j : Int)) =
   some (.inl (lb N L (k + 1), rn N L (k + 1), Q', ((k + 2 : Nat) : Int), qJ 40 fun j => (vF N L (wU N L (k + 1)) j : Int))) := by
 have hN := h.hN
 have hql := zZS hQ.nd hQ.rg
 have hl := uR (B := zCP (z1, z2, Q, ((k + 1 : Nat) : Int), z5) ((N : Int), L)) (fun t (s : List Int × List Int × List Int × List Int) => (s.1, s.2.1, s.2.2.1, (t : Int), s.2.2.2)) Q
  (fun t s => ∃ f' g' nx', Mid N L k f' g' nx' ∧ (∀ j, j < N → (∃ i : Nat, (i : Int) ∈ Q.take t ∧ vD L i j) → f' j ≠ 3) ∧ s = (qJ N f', qJ N g', nx', qJ 40 fun j => (vF N L f' j : Int)))
  (fun r => ∃ Q', zPT N L (k + 1) Q' ∧ r = .inl (lb N L (k + 1), rn N L (k + 1), Q', ((k + 2 : Nat) : Int), qJ 40 fun j => (vF N L (wU N L (k + 1)) j : Int))) ?_ ?_ (qJ N (uP N L k), qJ N (tG N L k), [], qJ 40 fun j => (vF N L (wU N L k) j : Int)) ?_
 ·obtain ⟨r, h1, Q', h2, rfl⟩ := hl
  exact ⟨Q', h2, h1⟩
 ·rintro t x _ hx ⟨f', g', nx', hM, hD, rfl⟩
  have ht := vQ hx
  obtain ⟨h0, h1⟩ := hQ.rg x (vK hx)
  obtain ⟨i, rfl⟩ := Int.eq_ofNat_of_zero_le h0
  have hi := (hQ.mem i).1 (vK hx)
  obtain ⟨f2, g2, n2, hM2, hD2, h6⟩ := grp_L6 h hk hi (z1, z2, Q, ((k + 1 : Nat) : Int), z5) rfl (fun j => j < N ∧ ∃ i : Nat, (i : Int) ∈ Q.take t ∧ vD L i j) hM (fun j hj => hD j hj.1 hj.2) t (by omega) (qJ N f') (qJ N g') nx' (qJ 40 fun j => (vF N L f' j : Int))
  refine .inl ⟨(qJ N f2, qJ N g2, n2, qJ 40 fun j => (vF N L f2 j : Int)), ?_, f2, g2, n2, hM2, ?_, rfl⟩
  ·unfold zCP
   simp only [wZ hx, if_true, wV hx, zob, zM4 h]
   rw [h6]
  ·rintro j hj ⟨i', hi', he⟩
   rw [xF hx, List.mem_append, List.mem_singleton] at hi'
   rcases hi' with hi' | hi'
   ·exact hD2 j hj (.inl ⟨hj, i', hi', he⟩)
   ·have : i' = i := by omega
    subst this
    exact hD2 j hj (.inr he)
 ·rintro _ ⟨f', g', nx', hM, hD, rfl⟩
  rw [List.take_length] at hD
  have hf : ∀ j, j < N → f' j = wU N L (k + 1) j := fun j hj => by
   rcases hM.v j hj with h1 | h1 | h1
   ·rw [h1, (hM.one j hj).1 h1]
   ·rw [h1, hM.two j hj h1]
   ·rcases zQh N L (k + 1) j with h2 | h2 | h2
    ·have := (hM.one j hj).2 h2; omega
    ·exfalso
     rw [zVj] at h2
     by_cases hn : yJ N L k j
     ·rw [if_pos hn] at h2; cases h2
     ·rw [if_neg hn] at h2
      by_cases hc : wU N L k j = 3 ∧ tF (vD L) (yJ N L k) j
      ·obtain ⟨m, h4, h5⟩ := hc.2
       exact hD j hj ⟨m, (hQ.mem m).2 h4, h5⟩ h1
      ·rw [if_neg hc] at h2
       have := hM.old j hj h2; omega
    ·rw [h1, h2]
  have hg : ∀ j, j < N → g' j = tX N L (k + 1) j := fun j hj => by
   rw [hM.rk j hj, hf j hj, tX]
  have hc : ∀ j, vF N L f' j = vF N L (wU N L (k + 1)) j := zUE fun b hb => by rw [hf b hb]
  refine ⟨_, ?_, nx', ⟨hM.nx.nd, hM.nx.rg, fun j => ?_⟩, rfl⟩
  ·unfold zCP
   have e1 : qJ N f' = lb N L (k + 1) := uZ hf
   have e2 : qJ N g' = rn N L (k + 1) := uZ hg
   have e3 : (qJ 40 fun j => (vF N L f' j : Int)) = qJ 40 fun j => (vF N L (wU N L (k + 1)) j : Int) := uZ fun j _ => by rw [hc]
   simp only [xD, zbf, if_false, e1, e2, e3, uF (k + 1) (show k + 1 + 1 < 9223372036854775808 by omega)]
  ·rw [hM.nx.mem j, hc j]
   constructor
   ·rintro ⟨h1, h2, h3⟩; rw [hf j h1] at h2; exact (zU1 h h1).1 ⟨h2, h3⟩
   ·intro hn
    have h1 : j < N := zPN (D := (· < N)) hn.1
    obtain ⟨h2, h3⟩ := (zU1 h h1).2 hn
    exact ⟨h1, by rw [hf j h1]; exact h2, h3⟩
 ·refine ⟨uP N L k, tG N L k, [], z0m h k, fun j _ hj => by obtain ⟨i, hi, _⟩ := hj; simp at hi, ?_⟩
  have : (qJ 40 fun j => (vF N L (wU N L k) j : Int)) = qJ 40 fun j => (vF N L (uP N L k) j : Int) := uZ fun j _ => by rw [zUE fun b _ => zTQ]
  rw [this]
open Classical in
theorem grp_L4 (h : vN N L) {k : Nat} {Q : List Int} (hQ : zPT N L k Q) (z1 z2 z5 : List Int) :
  zV (zD5 (z1, z2, Q, ((k + 1 : Nat) : Int), z5)) (lb N L k, rn N L k, 0) = some (qJ N (uP N L k), qJ N (tG N L k)) := by
 have hN := h.hN
 have hql := zZS hQ.nd hQ.rg
 have hl := uR (B := zD5 (z1, z2, Q, ((k + 1 : Nat) : Int), z5)) (fun t (s : List Int × List Int) => (s.1, s.2, (t : Int))) Q
  (fun t s => s = (qJ N (fun j => if (j : Int) ∈ Q.take t then 1 else wU N L k j), qJ N (fun j => if (j : Int) ∈ Q.take t then ((k + 1 : Nat) : Int) else tX N L k j)))
  (fun r => r = (qJ N (uP N L k), qJ N (tG N L k))) ?_ ?_ (lb N L k, rn N L k) (by simp)
 ·obtain ⟨r, h1, rfl⟩ := hl
  exact h1
 ·rintro t x _ hx rfl
  obtain ⟨h0, h1⟩ := hQ.rg x (vK hx)
  obtain ⟨i, rfl⟩ := Int.eq_ofNat_of_zero_le h0
  refine .inl ⟨_, ?_, rfl⟩
  unfold zD5
  simp only [wZ hx, if_true, wV hx, zob, zKK _ (show i < N by omega), Int.toNat_natCast, zN7, wY hx (show Q.length < 4294967296 by omega)]
  congr 3
  ·apply uZ
   intro j _
   rw [xF hx]
   by_cases e : j = i
   ·subst e; simp
   ·have : ¬ (j : Int) = (i : Int) := by omega
    simp [e, this]
  ·congr 1
   apply uZ
   intro j _
   rw [xF hx]
   by_cases e : j = i
   ·subst e; simp
   ·have : ¬ (j : Int) = (i : Int) := by omega
    simp [e, this]
 ·rintro _ rfl
  rw [List.take_length]
  refine ⟨_, ?_, rfl⟩
  unfold zD5
  simp only [xD, zbf, if_false]
  have e1 : (qJ N fun j => if (j : Int) ∈ Q then 1 else wU N L k j) = qJ N (uP N L k) := uZ fun j _ => by simp only [hQ.mem j]; rfl
  have e2 : (qJ N fun j => if (j : Int) ∈ Q then ((k + 1 : Nat) : Int) else tX N L k j) = qJ N (tG N L k) := uZ fun j _ => by simp only [hQ.mem j]; rfl
  rw [e1, e2]
theorem grp_L1 (h : vN N L) : zV (zD0 ((N : Int), L)) (0, List.replicate 40 (0 : Int)) = some (qJ 40 fun j => (vF N L (wU N L 0) j : Int)) := by
 have hN := h.hN
 have hL := h.len
 have hl := uR (B := zD0 ((N : Int), L)) (fun t (s : List Int) => ((t : Int), s)) L
  (fun t s => s = qJ 40 fun j => (((L.take t).filter fun p => p.2 == (j : Int)).length : Int)) (fun r => r = qJ 40 fun j => (vF N L (wU N L 0) j : Int)) ?_ ?_ (List.replicate 40 (0 : Int)) (by rw [zZh]; simp)
 ·obtain ⟨r, h1, rfl⟩ := hl
  exact h1
 ·rintro t p _ hp rfl
  obtain ⟨a, b, ha, hb, rfl⟩ := zJE (h.inr p (vK hp))
  have hle : ((L.take t).filter fun p => p.2 == (b : Int)).length ≤ 1600 := Nat.le_trans (List.length_filter_le _ _) (Nat.le_trans (List.length_take_le _ _) (by have := vQ hp; omega))
  refine .inl ⟨_, ?_, rfl⟩
  unfold zD0
  simp only [wZ hp, if_true, wV hp, zob, zMQ (show (40 : Int) = ((40 : Nat) : Int) from rfl) (show b < 40 by omega), wY hp h.len', zOu 40 _ (show b < 40 by omega), zUD 40 _ (show b < 40 by omega)]
  congr 3
  apply uZ
  intro j _
  rw [xF hp, List.filter_append, List.length_append]
  by_cases e : j = b
  ·subst e
   rw [if_pos rfl, xQ (by omega) (by omega)]
   simp
  ·have : ¬ (b : Int) = (j : Int) := by omega
   simp [e, this]
 ·rintro _ rfl
  rw [List.take_length]
  refine ⟨_, ?_, rfl⟩
  unfold zD0
  have e1 : (qJ 40 fun j => ((L.filter fun p => p.2 == (j : Int)).length : Int)) = qJ 40 fun j => (vF N L (wU N L 0) j : Int) := uZ fun j _ => by
   have h1 : (L.filter fun p => p.2 == (j : Int)).length = (yR N L (j : Int)).length := by rw [← z5Y h, List.length_map]
   rw [h1]
   unfold vF
   rw [List.filter_eq_self.2]
   intro x hx
   obtain ⟨q, hq⟩ := List.getElem?_of_mem hx
   obtain ⟨a, rfl, ha, _⟩ := zYA hq
   have : wU N L 0 a = 3 := by
    have := congrArg (fun l : List Int => l[a]?) (zWG (N := N) (L := L))
    simpa [zIQ, ha] using this
   simp [this]
  simp only [xD, zbf, if_false, e1]
theorem grp_L2 (h : vN N L) : ∃ Q, zPT N L 0 Q ∧ zV (zD4 ((N : Int), L) (qJ 40 fun j => (vF N L (wU N L 0) j : Int))) (([] : List Int), 0) = some Q := by
 have hN := h.hN
 refine ⟨(vT N).filter fun j => vF N L (wU N L 0) j.toNat == 0, ⟨((zPY N).filter _).imp fun {x y} hh e => by subst e; simp at hh, fun x hx => uL.1 (List.mem_filter.1 hx).1, fun j => ?_⟩, ?_⟩
 ·rw [List.mem_filter, uL, Int.toNat_natCast, beq_iff_eq]
  have h0 : ∀ j, j < N → wU N L 0 j = 3 := fun j hj => by
   have := congrArg (fun l : List Int => l[j]?) (zWG (N := N) (L := L))
   simpa [zIQ, hj] using this
  constructor
  ·rintro ⟨h1, h2⟩
   exact (zU1 h (show j < N by omega)).1 ⟨h0 j (by omega), h2⟩
  ·intro hn
   have hj : j < N := zPN (D := (· < N)) hn.1
   exact ⟨⟨by omega, by omega⟩, ((zU1 h hj).2 hn).2⟩
 ·have hl := zCf (B := zD4 ((N : Int), L) (qJ 40 fun j => (vF N L (wU N L 0) j : Int))) (vT N) (fun s j => if (vF N L (wU N L 0) j.toNat == 0) then s ++ [j] else s) id (fun i s => s.length ≤ i) ([] : List Int) (by simp) ?_ ?_
  ·have h2 := zDH (fun j : Int => vF N L (wU N L 0) j.toNat == 0) id (vT N) []
   simp only [id, List.map_id, List.nil_append] at h2
   rw [hl.1, h2]; rfl
  ·intro i x s hx hI
   obtain ⟨rfl, hi⟩ := zQM hx
   unfold zD4
   have hd : decide ((i : Int) < (N : Int)) = true := decide_eq_true (by omega)
   simp only [hd, if_true, zMQ (show (40 : Int) = ((40 : Nat) : Int) from rfl) (show i < 40 by omega), zob, zOu 40 _ (show i < 40 by omega), uF i (by omega), Int.toNat_natCast]
   have hz : (((vF N L (wU N L 0) i : Nat) : Int) == 0) = (vF N L (wU N L 0) i == 0) := by rw [Bool.eq_iff_iff, beq_iff_eq, beq_iff_eq]; omega
   rw [hz]
   by_cases hc : (vF N L (wU N L 0) i == 0) = true
   ·rw [if_pos hc, if_pos hc, yP (by simp; omega)]
    exact ⟨rfl, by simp; omega⟩
   ·rw [if_neg hc, if_neg hc]
    exact ⟨rfl, by omega⟩
  ·intro s _
   rw [xX]
   unfold zD4
   simp
theorem zVB (h : vN N L) : zDn ((N : Int), L) = some (xT N L, z2L N L) := by
 have hN := h.hN
 unfold zDn
 simp only
 rw [zVJ 3 hN, z17 (by omega)]
 simp only [zob]
 rw [grp_L1 h]
 simp only [zob]
 obtain ⟨Q0, hQ0, h2⟩ := grp_L2 h
 rw [h2, ← zWG (N := N) (L := L)]
 simp only [zob]
 have hstep : ∀ k, k ≤ N → ∀ Q, zPT N L k Q → (Q = [] ∧ zB8 ((N : Int), L) (lb N L k, rn N L k, Q, ((k + 1 : Nat) : Int), qJ 40 fun j => (vF N L (wU N L k) j : Int)) = some (.inr (lb N L k, rn N L k))) ∨
   ∃ Q', zPT N L (k + 1) Q' ∧ zB8 ((N : Int), L) (lb N L k, rn N L k, Q, ((k + 1 : Nat) : Int), qJ 40 fun j => (vF N L (wU N L k) j : Int)) = some (.inl (lb N L (k + 1), rn N L (k + 1), Q', ((k + 2 : Nat) : Int), qJ 40 fun j => (vF N L (wU N L (k + 1)) j : Int))) := by
  intro k hk Q hQ
  by_cases he : Q = []
  ·subst he
   refine .inl ⟨rfl, ?_⟩
   unfold zB8
   simp [len]
  ·obtain ⟨Q', hQ', h5⟩ := grp_L5 h (k := k) (by omega) hQ (lb N L k) (rn N L k) (qJ 40 fun j => (vF N L (wU N L k) j : Int))
   refine .inr ⟨Q', hQ', ?_⟩
   have hd : decide (0 < len Q) = true := decide_eq_true (by have := List.length_pos_iff.2 he; simp only [len]; omega)
   unfold zB8
   simp only [hd, if_true]
   rw [grp_L4 h hQ]
   simp only [zob]
   rw [h5]
 have hl := zV5 (B := zB8 ((N : Int), L)) (fun (Q : List Int) k => (lb N L k, rn N L k, Q, ((k + 1 : Nat) : Int), qJ 40 fun j => (vF N L (wU N L k) j : Int))) N (fun k Q => zPT N L k Q) (fun r => r = (xT N L, z2L N L)) ?_ ?_ Q0 hQ0
 ·obtain ⟨r, h1, rfl⟩ := hl
  exact h1
 ·intro k Q hk hQ
  rcases hstep k (by omega) Q hQ with ⟨he, h1⟩ | ⟨Q', hQ', h1⟩
  ·subst he
   have hno : ∀ i, ¬ yJ N L k i := fun i hi => by have := (hQ.mem i).2 hi; cases this
   obtain ⟨e1, e2⟩ := z1g (by omega) hno
   exact .inr ⟨_, h1, by rw [e1, e2]⟩
  ·exact .inl ⟨Q', h1, hQ'⟩
 ·intro Q hQ
  rcases hstep N (Nat.le_refl _) Q hQ with ⟨he, h1⟩ | ⟨Q', hQ', h1⟩
  ·subst he
   have hno : ∀ i, ¬ yJ N L N i := fun i => zTS N L
   obtain ⟨e1, e2⟩ := z1g (Nat.le_refl _) hno
   exact ⟨_, h1, by rw [e1, e2]⟩
  ·exfalso
   have hne : Q ≠ [] := by
    intro e
    subst e
    unfold zB8 at h1
    simp [len] at h1
   obtain ⟨x, hx⟩ := List.exists_mem_of_ne_nil Q hne
   obtain ⟨h3, _⟩ := hQ.rg x hx
   obtain ⟨i, rfl⟩ := Int.eq_ofNat_of_zero_le h3
   exact zTS N L ((hQ.mem i).1 hx)
theorem zUz (h : vN N L) : zDB ((N : Int), L) = some (xT N L) := by
 unfold zDB
 rw [zVB h]
 rfl
end
end
section
variable {b : zT} {l m : List zK} {D : List zO} {c : Nat}
theorem FormC.pre (h : FormC b (l ++ m)) : FormC b l := by
 have key : ∀ (i : Nat) a, l[i]? = some a → (l ++ m)[i]? = some a := fun i a ha => by rw [List.getElem?_append_left (vQ ha)]; exact ha
 have hl := h.len
 have hl41 := h.l41
 rw [List.length_append] at hl hl41
 refine ⟨⟨⟨by omega, fun a ha => h.nsub a (List.mem_append_left _ ha), fun i a ha => h.sub i a (key i a ha)⟩, h.np, h.nr, fun i a ha => h.kind i a (key i a ha)⟩, by omega, fun i a p ha => h.pr i a p (key i a ha), fun i a r ha h0 hr => ?_⟩
 obtain ⟨g1, g2, g3⟩ := h.ru i a r (key i a ha) h0 hr
 refine ⟨g1, g2, fun j k y hk hy => ?_⟩
 obtain ⟨a', e1, e2⟩ := g3 j k y hk hy
 have := h.sub i a (key i a ha) k (vK hk)
 have hi := vQ ha
 rw [zLR (by omega)] at e1
 exact ⟨a', e1, e2⟩
theorem xI.pre (h : xI b (l ++ m)) : xI b l := by
 refine ⟨h.toFormC.pre, fun i a r ha h0 hr => ?_⟩
 have hi := vQ ha
 have hk : (l ++ m)[i]? = some a := by rw [List.getElem?_append_left hi]; exact ha
 rw [← zMs h.toFormC.pre h.toFormC fun k hk2 => by have := h.sub i a hk k hk2; omega]
 exact h.cut i a r hk h0 hr
theorem xI.take (h : xI b l) (n : Nat) : xI b (l.take n) := by
 rw [← List.take_append_drop n l] at h
 exact h.pre
end
section
variable {b : zT} {l : List zK}
theorem z1X (h : zMS b) (hr : b.2.1.length ≤ 12) : zSC b (b.2.1.map fun r => r.2.2.2.2) 4 := by
 refine ⟨h, fun r hr => ⟨List.mem_map.2 ⟨r, hr, rfl⟩, zR5 (h.rule r hr)⟩, ?_⟩
 rw [List.length_map]
 calc (4 + 1) ^ b.2.1.length ≤ 5 ^ 12 := Nat.pow_le_pow_right (by omega) hr
  _ < 4294967296 := by decide
theorem zTt (h : zMS b) (hr : b.2.1.length ≤ 12) {x : List zK} (hx : zVG b = some x) : xI b x ∧ x.length ≤ 40 :=
 zTb (z1X h hr) 50 (zUn b) 0 true x (zVT h) (by rw [zQz]; have := h.np; omega) hx
theorem FormC.nil (hp : b.1.length ≤ 100) (hr : b.2.1.length ≤ 100) : FormC b [] :=
 ⟨⟨⟨by simp, by simp, by simp⟩, hp, hr, by simp⟩, by simp, by simp, by simp⟩
theorem z4x {x : List zK} (h : FormC b x) (hr : b.2.1 = []) : x.length ≤ b.1.length := by
 by_cases hx : x.length = 0
 ·omega
 ·have hg : x[x.length - 1]? = some x[x.length - 1] := List.getElem?_eq_getElem (by omega)
  rcases h.kind _ _ hg with ⟨_, h2, _⟩ | ⟨_, h2, h3⟩
  ·omega
  ·rw [hr] at h3
   simp at h3
   omega
theorem zZJ (h : l.length ≤ 100) (o : yB) : (zMI b l o).length ≤ 3000000 := Nat.le_trans (List.length_filter_le _ _) (zXq h)
def ords : List yB := [(1, 1), (1, 2), (2, 1), (2, 2)]
theorem zUr : zKn = some ords := rfl
end
section
variable {b : zT} {l : List zK}
theorem z3U (h : zMS b) (hr : b.2.1.length ≤ 12) : zSC b (b.2.1.map fun r => r.2.2.2.2) 4 := by
 refine ⟨h, fun r hr => ⟨List.mem_map.2 ⟨r, hr, rfl⟩, zR5 (h.rule r hr)⟩, ?_⟩
 rw [List.length_map]
 calc (4 + 1) ^ b.2.1.length ≤ 5 ^ 12 := Nat.pow_le_pow_right (by omega) hr
  _ < 4294967296 := by decide
end
section
variable {b : zT} {l : List zK}
theorem z0Q {i : Int} (h : ¬ (0 ≤ i ∧ i < l.length)) : zB0 l i = some false := by
 unfold zB0
 congr 1
 rw [Bool.and_eq_false_iff]
 by_cases h0 : 0 ≤ i
 ·exact .inr (by simp [len]; omega)
 ·exact .inl (by simpa using h0)
def zNU (l : List zK) (i : Int) : List zO := match zI l i with | some a => [a.2.2.2] | none => []
theorem z2D {α : Type} {l : List α} {i : Int} (h : ¬ (0 ≤ i ∧ i < l.length)) : zI l i = none := by
 unfold zI
 split
 ·rename_i h0
  exact List.getElem?_eq_none (by omega)
 ·rfl
theorem zU7 (is : List Int) : (is.flatMap (zNU l)).length ≤ is.length * 1 := zNu (zNU l) 1 is fun i _ => by
 unfold zNU
 split <;> simp
theorem zTm (is : List Int) (h : is.length < 1000000) : zBe l is = some (tD vV (is.flatMap (zNU l))) := by
 unfold zBe
 have hloop := zMn (B := zCj is l) is (zNU l) (fun s => s) 1 (fun i _ => by unfold zNU; split <;> simp) [] (fun i x s hi hs => by
  have hlt := vQ hi
  unfold zCj zNU
  simp only [wZ hi, if_true, wV hi, zob, wY hi (show is.length < 4294967296 by omega)]
  by_cases hin : 0 ≤ x ∧ x < l.length
  ·obtain ⟨a, ha⟩ := zJH (l := l) hin.1 hin.2
   have : zB0 l x = some true := by
    unfold zB0
    congr 1
    rw [Bool.and_eq_true]
    exact ⟨by simpa using hin.1, by simpa [len] using hin.2⟩
   simp only [this, zob, if_true, ha]
   rw [yP (by simp at hs ⊢; omega)]
   rfl
  ·simp only [z0Q hin, zob, zbf, if_false, z2D hin, List.append_nil]) (fun s => by
  unfold zCj
  simp only [xD, zbf, if_false])
 rw [hloop]
 have hl := zU7 (l := l) is
 simp only [zob, List.nil_append]
 rw [zVP (by omega)]
 rfl
theorem zUY (is : List Int) (h : is.length < 1000000) : zF4 l is = some (tD vV (is.flatMap (zNU l))) := by
 unfold zF4
 obtain ⟨r, h1, h2⟩ := uR (B := zDc is l) (fun i s => (s, (i : Int))) is (fun i s => vY vV s ∧ s.length ≤ i ∧ ∀ y, y ∈ s ↔ y ∈ (is.take i).flatMap (zNU l)) (fun r => r = tD vV (is.flatMap (zNU l))) (fun i x s hi hI => .inl (by
  obtain ⟨hI1, hI2, hI3⟩ := hI
  have hlt := vQ hi
  unfold zDc
  simp only [wZ hi, if_true, wV hi, zob, wY hi (show is.length < 4294967296 by omega)]
  have hnext : ∀ y, y ∈ (is.take (i + 1)).flatMap (zNU l) ↔ y ∈ (is.take i).flatMap (zNU l) ∨ y ∈ zNU l x := fun y => by
   rw [xF hi, List.flatMap_append, List.flatMap_singleton, List.mem_append]
  by_cases hin : 0 ≤ x ∧ x < l.length
  ·obtain ⟨a, ha⟩ := zJH (l := l) hin.1 hin.2
   have d1 : decide (0 ≤ x) = true := by simpa using hin.1
   have d2 : decide (x < len l) = true := by simpa [len] using hin.2
   obtain ⟨r, e1, e2, e3, e4⟩ := z0b (l := s) a.2.2.2 (by omega) hI1
   simp only [d1, d2, if_true, zob, ha, e1]
   refine ⟨r, rfl, e2, by omega, fun y => ?_⟩
   rw [e3, hnext, hI3]
   unfold zNU
   rw [ha]
   simp [or_comm]
  ·have hc : (if decide (0 ≤ x) = true then some (decide (x < len l)) else some false) = some false := by
    by_cases h0 : 0 ≤ x
    ·have d2 : decide (x < len l) = false := by simp [len]; omega
     simp only [h0, decide_true, if_true, d2]
    ·simp only [h0, decide_false, zbf, if_false]
   rw [hc]
   simp only [zob, zbf, if_false]
   refine ⟨s, rfl, hI1, by omega, fun y => ?_⟩
   rw [hnext, hI3]
   unfold zNU
   rw [z2D hin]
   simp)) (fun s hI => ⟨s, by
  unfold zDc
  simp only [xD, zbf, if_false], by
  obtain ⟨hI1, hI2, hI3⟩ := hI
  rw [List.take_length] at hI3
  exact (zWu zTg hI1 hI3).symm⟩) [] ⟨List.Pairwise.nil, by simp, by simp⟩
 rw [← h2]
 exact h1
end
section
theorem zTn {σ ρ : Type} {B : σ → Option (σ ⊕ ρ)} {s s' : σ} (h : B s = some (.inl s')) : zV B s = zV B s' := by rw [yH, h]
theorem z1N {σ ρ : Type} {B : σ → Option (σ ⊕ ρ)} {s : σ} {r : ρ} (h : B s = some (.inr r)) : zV B s = some r := by rw [yH, h]
end
section
def z12 (y : List zO) (r : wC) (k : Int) (p : vG) : Int := if (!r.2.1 && p.1 == r.1 && decide (p.2.2 ∈ y)) = true then p.2.1 else k
def rankS (ps : List vG) (y : List zO) (r : wC) : Int := ps.foldl (z12 y r) r.2.2.1
def z2V (ps : List vG) (y : List zO) (r : wC) : wC := (r.1, r.2.1, rankS ps y r, r.2.2.2.1, r.2.2.2.2)
def zSB (b : zT) (y : List zO) : zT := (b.1, b.2.1.map (z2V b.2.2 y), b.2.2)
def upto (b : zT) (y : List zO) (i : Nat) : List wC := (b.2.1.take i).map (z2V b.2.2 y) ++ b.2.1.drop i
theorem zZM (b : zT) (y : List zO) (i : Nat) : (upto b y i).length = b.2.1.length := by simp [upto]; omega
theorem z4d {b : zT} {y : List zO} {i : Nat} {r : wC} (hr : b.2.1[i]? = some r) : (upto b y i)[i]? = some r := by
 have hi := (List.getElem?_eq_some_iff.1 hr).1
 unfold upto
 rw [List.getElem?_append_right (by simp; omega)]
 simp only [List.length_map, List.length_take, List.getElem?_drop]
 rw [show i + (i - min i b.2.1.length) = i by omega]
 exact hr
theorem z2s {b : zT} {y : List zO} {i : Nat} {r : wC} (hr : b.2.1[i]? = some r) : (upto b y i).set i (z2V b.2.2 y r) = upto b y (i + 1) := by
 have hi := (List.getElem?_eq_some_iff.1 hr).1
 have h1 : ((b.2.1.take i).map (z2V b.2.2 y)).length = i := by simp; omega
 unfold upto
 rw [List.set_append_right _ _ (by omega), h1, Nat.sub_self, List.take_add_one, hr]
 have h2 : b.2.1.drop i = r :: b.2.1.drop (i + 1) := by
  rw [List.drop_eq_getElem_cons hi]
  congr 1
  rw [List.getElem?_eq_getElem hi] at hr
  exact Option.some.inj hr
 rw [h2]
 simp
theorem z3J (b : zT) (y : List zO) : upto b y b.2.1.length = b.2.1.map (z2V b.2.2 y) := by simp [upto]
def mid (b : zT) (y : List zO) (i : Nat) (r : wC) (k : Nat) : List wC := (upto b y i).set i (r.1, r.2.1, (b.2.2.take k).foldl (z12 y r) r.2.2.1, r.2.2.2.1, r.2.2.2.2)
theorem z4t {b : zT} {y : List zO} {i : Nat} {r : wC} (hr : b.2.1[i]? = some r) : mid b y i r b.2.2.length = upto b y (i + 1) := by
 unfold mid
 rw [List.take_of_length_le (Nat.le_refl _)]
 exact z2s hr
theorem z2y {b : zT} {y : List zO} {i : Nat} {r : wC} : mid b y i r 0 = (upto b y i).set i r := by simp [mid]
theorem mid_at {b : zT} {y : List zO} {i : Nat} {r : wC} (hr : b.2.1[i]? = some r) (k : Nat) : (mid b y i r k)[i]? = some (r.1, r.2.1, (b.2.2.take k).foldl (z12 y r) r.2.2.1, r.2.2.2.1, r.2.2.2.2) := by
 have hi := (List.getElem?_eq_some_iff.1 hr).1
 unfold mid
 rw [List.getElem?_set_self (by rw [zZM]; exact hi)]
theorem z5W {b : zT} {y : List zO} {i : Nat} {r : wC} {k : Nat} {p : vG} (hp : b.2.2[k]? = some p) :
  (if (!r.2.1 && p.1 == r.1 && decide (p.2.2 ∈ y)) = true then (mid b y i r k).set i (r.1, r.2.1, p.2.1, r.2.2.2.1, r.2.2.2.2) else mid b y i r k) = mid b y i r (k + 1) := by
 unfold mid
 rw [List.take_add_one, hp]
 simp only [Option.toList, List.foldl_append, List.foldl_cons, List.foldl_nil]
 show _ = List.set _ i (r.1, r.2.1, z12 y r _ p, r.2.2.2.1, r.2.2.2.2)
 unfold z12
 by_cases hc : (!r.2.1 && p.1 == r.1 && decide (p.2.2 ∈ y)) = true
 ·rw [if_pos hc, if_pos hc, List.set_set]
 ·rw [if_neg hc, if_neg hc]
theorem z3e {b : zT} (h : Cnt b) : zMR b = some b := by
 unfold zMR
 simp only [zRy h.p, zRy h.m, zob]
 have hl := zSZ (B := zJW b) b.2.1 (fun s x => s ++ [x]) (fun s => s) (fun i s => s.length = i) [] rfl (fun i x s hx hI => ?_) (fun s _ => ?_)
 ·rw [hl.1, zVQ, List.nil_append]
  rfl
 ·have hlt := (List.getElem?_eq_some_iff.1 hx).1
  have hbr := h.r
  refine ⟨?_, by simp [hI]⟩
  unfold zJW
  simp only [z1J hx, if_true, xZ, hx, zob]
  rw [zRy (h.q x (List.mem_of_getElem? hx))]
  simp only [zob]
  rw [yP (by simp; omega), uF i (by omega)]
  rfl
 ·unfold zJW
  simp only [z1U, zbf, if_false]
theorem zYy {b : zT} {y : List zO} (h : Cnt b) (hy : y.length < 4294967296) : zJ1 b y = some (zSB b y) := by
 unfold zJ1
 rw [z3e h]
 simp only [zob]
 suffices hh : Ok (zV (zGq b y) (0, b.2.1)) fun r => r = upto b y b.2.1.length by
  obtain ⟨r, e, rfl⟩ := hh
  rw [e, z3J]
  rfl
 refine Ok.forI (fun i (s : List wC) => ((i : Int), s)) b.2.1 (fun i s => s = upto b y i) _ (fun i r s hr hs => ?_) (fun s hs => ?_) b.2.1 (by simp [upto])
 ·have hi := (List.getElem?_eq_some_iff.1 hr).1
  have hbr := h.r
  subst hs
  unfold zGq
  have hx := z4d (y := y) hr
  simp only [z1J hx, if_true]
  refine Ok.forI (fun k (s : List wC) => ((k : Int), s)) b.2.2 (fun k s => s = mid b y i r k) _ (fun k p s hp hs => ?_) (fun s hs => ?_) _ (by rw [z2y, z3m hx])
  ·have hk := (List.getElem?_eq_some_iff.1 hp).1
   have hbm := h.m
   subst hs
   unfold zJ6
   simp only [z1J hp, if_true, xZ, hp, zob, zY0 _ (show y.length < 9223372036854775807 by omega), Int.toNat_natCast, mid_at hr k]
   have hif : (if (p.1 == r.1) = true then (if (!r.2.1) = true then some (decide (p.2.2 ∈ y)) else some false) else some false) = some (!r.2.1 && p.1 == r.1 && decide (p.2.2 ∈ y)) := by
    cases hg : (!r.2.1) <;> cases hh : (p.1 == r.1) <;> simp
   rw [hif, zob]
   have hm := z5W (b := b) (y := y) (i := i) (r := r) hp
   refine .ite (fun hc => ?_) fun hc => ?_
   ·rw [if_pos hc] at hm
    exact .ret ⟨_, by rw [uF k (by omega)], hm⟩
   ·rw [hc] at hm
    simp only [zbf, if_false] at hm
    exact .ret ⟨_, by rw [uF k (by omega)], hm⟩
  ·subst hs
   unfold zJ6
   simp only [z1U, zbf, if_false]
   exact .ret ⟨_, by simp only [uF i (by omega)], z4t hr⟩
 ·subst hs
  have hl : decide ((b.2.1.length : Int) < len (upto b y b.2.1.length)) = false := decide_eq_false (show ¬ (b.2.1.length : Int) < ((upto b y b.2.1.length).length : Int) by rw [zZM]; omega)
  unfold zGq
  simp only [hl, zbf, if_false]
  exact .ret rfl
end
section
def yI (l : List Int) (x : Int) : List Int := (vT l.length).filter fun i => decide (l[i.toNat]? = some x)
theorem zEm (l : List Int) (x : Int) : (yI l x).length ≤ l.length := Nat.le_trans (List.length_filter_le _ _) (by rw [xX]; exact Nat.le_refl _)
theorem zU5 {l : List Int} {x : Int} {j : Nat} : (j : Int) ∈ yI l x ↔ l[j]? = some x := by
 rw [yI, List.mem_filter, uL, Int.toNat_natCast, decide_eq_true_eq]
 exact ⟨fun h => h.2, fun h => ⟨⟨by omega, by have := vQ h; omega⟩, h⟩⟩
theorem zLM (l : List Int) (x : Int) (hl : l.length < 4294967000) : zBC l x = some (yI l x) := by
 unfold zBC
 have h := zCf (B := zF7 l x) (vT l.length) (fun s i => if decide (l[i.toNat]? = some x) then s ++ [i] else s) id (fun i s => s.length ≤ i) ([] : List Int) (by simp) ?_ ?_
 ·have h2 := zDH (fun i : Int => decide (l[i.toNat]? = some x)) id (vT l.length) []
  simp only [id, List.map_id, List.nil_append] at h2
  rw [h.1, h2]; rfl
 ·intro i y s hy hI
  obtain ⟨rfl, hi⟩ := zQM hy
  have hx : l[i]? = some l[i] := List.getElem?_eq_getElem hi
  unfold zF7
  simp only [wZ hx, if_true, wV hx, zob, wY hx (by omega), Int.toNat_natCast, hx, Option.some.injEq]
  by_cases he : l[i] = x
  ·simp only [he, beq_self_eq_true, if_true, decide_true]
   rw [yP (by simp; omega)]
   exact ⟨rfl, by simp; omega⟩
  ·have hb : (l[i] == x) = false := by simpa using he
   simp only [hb, he, decide_false, zbf, if_false]
   exact ⟨trivial, by omega⟩
 ·intro s _
  rw [xX]
  unfold zF7
  simp [len]
theorem z0J (l : List Int) (x : Int) (hl : l.length < 4294967000) : zOg l x = some (yI l x) := zLM l x hl
abbrev z5G : tZ := (([], [], []), [], [], (0, []))
def badO (o : yB) : Bool := if o.1 != 1 then (o.1 != 2) || ((o.2 != 1) && (o.2 != 2)) else (o.2 != 1) && (o.2 != 2)
noncomputable def z1S (b : zT) (l : List zK) (o : yB) : List qW := tD xO (zU0 (zMI b l o))
noncomputable def z2f (b : zT) (l : List zK) (o : yB) : List zO := tD vV ((yI (xT l.length (z1S b l o)) 1).flatMap (zNU l))
noncomputable def zRg (b : zT) (l : List zK) (o : yB) : tZ := (zSB b (z2f b l o), l, zMI (zSB b (z2f b l o)) l o, ((l.length : Int), z1S (zSB b (z2f b l o)) l o))
open Classical in
noncomputable def z0A (b : zT) (o : yB) : tZ × Int := if zMS b then (match zVG b with
  | none => (z5G, 2)
  | some l => if badO o then (z5G, 4) else (zRg b l o, 0))
 else (z5G, zRJ b)
theorem zPS {b : zT} {l : List zK} (hl : l.length ≤ 40) (o : yB) : zT8 (len l) (zMI b l o) = (((l.length : Int), z1S b l o), 0) ∧ vN l.length (z1S b l o) := by
 have h0 : (decide (len l < 0) || decide (40 < len l)) = false := by
  simp only [len, Bool.or_eq_false_iff, decide_eq_false_iff_not]; omega
 have h1 : (zMI b l o).any (zWv (len l)) = false := by
  rw [List.any_eq_false]
  intro y hy
  have hy := z0n (b := b) (l := l) y |>.1 (List.mem_filter.1 hy).1
  simp only [zWv, len, Bool.or_eq_true, decide_eq_true_eq, not_or]
  omega
 have h2 : zT8 (len l) (zMI b l o) = (((l.length : Int), z1S b l o), 0) := by
  unfold zT8 z1S
  simp only [h0, h1, zbf, if_false]
 refine ⟨h2, ?_⟩
 obtain ⟨N, e1, e2, e3, _⟩ := zZA h2
 have : N = l.length := by simp only [len] at e1; omega
 rw [← this]; exact e3
theorem z18 {b : zT} {l : List zK} {y : List zO} (h : FormB b l) : FormB (zSB b y) l :=
 ⟨h.toFormA, by simpa [zSB] using h.np, by simpa [zSB] using h.nr, fun i a ha => by simpa [zSB] using h.kind i a ha⟩
theorem z3H (b : zT) (l : List zK) (o : yB) : (z2f b l o).length ≤ l.length := by
 refine Nat.le_trans (zW1 _ _) (Nat.le_trans (zU7 _) ?_)
 rw [Nat.mul_one]
 refine Nat.le_trans (zEm _ _) ?_
 rw [xT, zDN]; exact Nat.le_refl _
section
variable {b : zT}
theorem zUe (hc : Cnt3 b) (hr : b.2.1.length ≤ 12) (o : yB) : zD6 b o = some (z0A b o) := by
 unfold zD6 z0A
 by_cases hv : zMS b
 ·rw [z1V (z3U hv hr), if_pos hv]
  cases hb : zVG b with
  | none => rfl
  | some l =>
   obtain ⟨hf, hl⟩ := zTt hv hr hb
   have hB := hf.toFormC.toFormB
   simp only [ansB, zob, bne_self_eq_false, zbf, if_false]
   show (if badO o = true then _ else _) = _
   cases ho : badO o with
   | true => rfl
   | false =>
    have hd := zZJ (b := b) (l := l) (by omega) o
    obtain ⟨hg, hG⟩ := zPS (b := b) hl o
    have hac := z3H b l o
    have hd2 := zZJ (b := zSB b (z2f b l o)) (l := l) (by omega) o
    obtain ⟨hg2, _⟩ := zPS (b := zSB b (z2f b l o)) hl o
    have hgl : (xT l.length (z1S b l o)).length = l.length := zDN _ _
    have hw := zEm (xT l.length (z1S b l o)) 1
    simp only [zbf, if_false, zT2 hB o, zob]
    rw [zXI _ _ (by omega), hg]
    simp only [zob]
    rw [zY7 hG]
    simp only [zob]
    rw [z0J _ _ (by omega)]
    simp only [zob]
    rw [zUY _ (by omega)]
    simp only [zob]
    rw [show tD vV ((yI (xT l.length (z1S b l o)) 1).flatMap (zNU l)) = z2f b l o from rfl, zYy (zPD hv) (by omega)]
    simp only [zob, zT2 (z18 hB) o]
    rw [zXI _ _ (by omega), hg2]
    rfl
 ·rw [zUk hc hv, if_neg hv]
  have : (zRJ b != 0) = true := by
   rw [bne_iff_ne]
   exact fun h' => hv (zP5.1 h')
  simp only [zob, this, if_true]
theorem zRI (hc : Cnt b) (hr : b.2.1.length ≤ 12) (o : yB) : zD6 b o = some (z0A b o) := zUe hc.c3 hr o
theorem z52 (hr : b.2.1.length ≤ 12) {o : yB} {c : tZ} (h : z0A b o = (c, 0)) : ∃ l, zMS b ∧ xI b l ∧ l.length ≤ 40 ∧ zVG b = some l ∧ badO o = false ∧ c = zRg b l o := by
 unfold z0A at h
 by_cases hv : zMS b
 ·rw [if_pos hv] at h
  cases hb : zVG b with
  | none => rw [hb] at h; cases h
  | some l =>
   rw [hb] at h
   obtain ⟨hf, hl⟩ := zTt hv hr hb
   cases ho : badO o with
   | true => simp only [ho, if_true] at h; cases h
   | false =>
    simp only [ho, zbf, if_false, Prod.mk.injEq, and_true] at h
    exact ⟨l, hv, hf, hl, rfl, rfl, h.symm⟩
 ·rw [if_neg hv] at h
  simp only [Prod.mk.injEq] at h
  exact absurd (zP5.1 h.2) hv
end
end
section
theorem zVX : zKa = some () := rfl
theorem zX1 {N : Nat} {L : List qW} (h : vN N L) : zA0 ((N : Int), L) 1 = some ([yI (xT N L) 1], 0) := by
 have hgl : (xT N L).length = N := zDN _ _
 have hN := h.hN
 have h1 : zAf ((N : Int), L) = some ([xT N L], 0) := by
  unfold zAf zDq
  rw [zUz h]
  rfl
 have h2 : zAw ((N : Int), L) = some ([yI (xT N L) 1], 0) := by
  unfold zAw
  rw [h1]
  simp only [zob, bne_self_eq_false, zbf, if_false]
  have hl := zCf (B := zAc ([xT N L], 0)) [xT N L] (fun s x => s ++ [yI x 1]) (fun s => (s, (0 : Int))) (fun i s => s.length ≤ i) ([] : List (List Int)) (by simp) ?_ ?_
  ·rw [hl.1]; rfl
  ·intro i x s hx hI
   have := vQ hx
   have hx2 : x.length = N := by
    have := vK hx
    simp only [List.mem_singleton] at this
    rw [this, hgl]
   unfold zAc
   simp only [wZ hx, if_true, wV hx, zob, wY hx (by simp), zLM x 1 (by omega)]
   rw [yP (by simp at this ⊢; omega)]
   exact ⟨rfl, by simp; omega⟩
  ·intro s _
   unfold zAc
   simp [len]
 unfold zA0
 rw [h.v1]
 simp only [zob, bne_self_eq_false, zbf, if_false, zVX]
 have hd : (decide ((1 : Int) < 1) || decide (((10 : Nat) : Int) ≤ 1)) = false := by decide
 rw [hd]
 simp only [zbf, if_false, beq_self_eq_true, if_true]
 rw [h2]
 rfl
def zJb (l : List zK) (s : List Int) : List zO := tD vV (s.flatMap (zNU l))
theorem zRw (l : List zK) (s : List Int) : vY vV (zJb l s) := (zNd zTg _).1
theorem zVI (l : List zK) (s : List Int) : (zJb l s).length ≤ s.length := Nat.le_trans (zW1 _ _) (by have := zU7 (l := l) s; omega)
theorem zLq {c : tZ} {q : Int} {es : List (List Int)} (h : zA0 c.2.2.2 q = some (es, 0)) (hl : es.length ≤ 100000) (hs : ∀ s ∈ es, s.length < 1000000) :
  zBT c q = some (es.map (zJb c.2.1), 0) := by
 unfold zBT
 rw [h]
 simp only [zob, bne_self_eq_false, zbf, if_false]
 have hlp := zCf (B := zBv (es, 0) c) es (fun r s => r ++ [zJb c.2.1 s]) (fun r => (r, (0 : Int))) (fun i s => s.length ≤ i) ([] : List (List zO)) (by simp) ?_ ?_
 ·rw [hlp.1, zJL]; rfl
 ·intro i x s hx hI
  have := vQ hx
  unfold zBv
  simp only [wZ hx, if_true, wV hx, zob, wY hx (by omega), zTm x (hs x (vK hx))]
  rw [yP (by simp; omega)]
  exact ⟨rfl, by simp; omega⟩
 ·intro s _
  unfold zBv
  simp [len]
def z5N (cl : List (List zO)) (all : Bool) : List zO := (tD vV cl.flatten).filter fun x => !(all && cl.any fun y => !decide (x ∈ y))
theorem zXy (cl : List (List zO)) (hl : cl.length ≤ 100000) (hs : ∀ s ∈ cl, s.length ≤ 10000) : zBu cl = some cl.flatten := by
 have htot : ∀ k : Nat, (cl.take k).flatten.length ≤ 10000 * k := by
  intro k
  induction k with
  | zero => simp
  | succ k ih =>
   cases hx : cl[k]? with
   | none =>
    have : cl.take (k + 1) = cl.take k := by
     rw [List.getElem?_eq_none_iff] at hx
     rw [List.take_of_length_le (by omega), List.take_of_length_le (by omega)]
    rw [this]; omega
   | some x =>
    rw [xF hx, List.flatten_append, List.length_append]
    have := hs x (vK hx)
    rw [show [x].flatten = x by simp]
    omega
 unfold zBu
 have h1 := uR (B := zCC cl) (fun i (n : Nat) => ((n : Int), (i : Int))) cl (fun i n => n = (cl.take i).flatten.length) (fun r => r = ((cl.flatten.length : Nat) : Int)) ?_ ?_ 0 (by simp)
 ·obtain ⟨r, h2, rfl⟩ := h1
  rw [show zV (zCC cl) (0, 0) = _ from h2]
  simp only [zob]
  have hfl := htot cl.length
  rw [List.take_length] at hfl
  have hg : zDO (cl.flatten.length : Int) = some [] := by
   unfold zDO
   have hn : decide ((cl.flatten.length : Int) < 0) = false := decide_eq_false (by omega)
   have hw : zR ((cl.flatten.length : Int) - zR (((0 : Nat) : Int) - len ([] : List zO))) = (cl.flatten.length : Int) := by
    have : zR (((0 : Nat) : Int) - len ([] : List zO)) = 0 := rfl
    rw [this, Int.sub_zero, zWS _ (by omega)]
   simp only [hn, zbf, if_false, zob, hw]
   by_cases h0 : decide (0 < (cl.flatten.length : Int)) = true
   ·rw [if_pos h0]
    unfold mkS
    rw [if_pos ⟨by omega, by omega, by omega⟩]
    simp only [zob]
    have : sub (List.replicate (cl.flatten.length : Int).toNat ((false, []) : zO)) 0 (len ([] : List zO)) = some [] := by
     rw [zM7 (by simp [len]) (by simp [len])]
     simp [len]
    rw [this]
    rfl
   ·rw [if_neg h0]
  rw [hg]
  simp only [zob]
  have h3 := zCf (B := zCb cl) cl (fun s x => s ++ x) id (fun i s => s.length ≤ 10000 * i) ([] : List zO) (by simp) ?_ ?_
  ·rw [h3.1]
   have : ∀ (m : List (List zO)) (acc : List zO), m.foldl (fun s x => s ++ x) acc = acc ++ m.flatten := by
    intro m
    induction m with
    | nil => intro acc; simp
    | cons x m ih => intro acc; rw [List.foldl_cons, ih]; simp
   rw [this]; simp
  ·intro i x s hx hI
   have hi := vQ hx
   have := hs x (vK hx)
   unfold zCb
   simp only [wZ hx, if_true, wV hx, zob, wY hx (by omega)]
   rw [yP (by omega)]
   exact ⟨rfl, by simp; omega⟩
  ·intro s _
   unfold zCb
   simp [len]
 ·rintro i x n hx rfl
  have hi := vQ hx
  have h4 := htot i
  have h5 := htot (i + 1)
  have hle := hs x (vK hx)
  have hsum : zR (((cl.take i).flatten.length : Int) + len x) = (((cl.take (i + 1)).flatten.length : Nat) : Int) := by
   have e : (cl.take (i + 1)).flatten.length = (cl.take i).flatten.length + x.length := by rw [xF hx, List.flatten_append, List.length_append, show [x].flatten = x by simp]
   rw [e]
   simp only [len]
   rw [xQ (by omega) (by omega)]
   omega
  refine .inl ⟨_, ?_, rfl⟩
  unfold zCC
  simp only [wZ hx, if_true, wV hx, zob, hsum, wY hx (show cl.length < 4294967296 by omega)]
  rw [decide_eq_false (by omega)]
  rfl
 ·rintro n rfl
  rw [List.take_length]
  refine ⟨_, ?_, rfl⟩
  unfold zCC
  simp only [xD, zbf, if_false]
theorem z43 (cl : List (List zO)) (hl : cl.length ≤ 100000) (hs : ∀ s ∈ cl, s.length ≤ 10000) (all : Bool) (l : List zO) (hb : l.length < 4294967296) :
  zAR l all cl = some (l.filter fun x => !(all && cl.any fun y => !decide (x ∈ y))) := by
 have hp : ∀ x : zO, zBo x all cl = some (all && cl.any fun y => !decide (x ∈ y)) := by
  intro x
  have h1 : zAH cl x = some (cl.any fun y => !decide (x ∈ y)) := by
   have := z1l (fun y => zCU y x) (fun y => !decide (x ∈ y)) cl (by omega) (fun y hy => by
    unfold zCU
    rw [z5B x (by have := hs y hy; omega)]
    rfl)
   exact this
  unfold zBo
  cases all with
  | true => simp only [if_true, h1, zob, Bool.true_and]
  | false => rfl
 exact zWQ (fun x => zBo x all cl) (fun x => all && cl.any fun y => !decide (x ∈ y)) (false, []) l hb fun x _ => hp x
theorem zKm {c : tZ} {q : Int} {es : List (List Int)} (h : zA0 c.2.2.2 q = some (es, 0)) (hl : es.length ≤ 100000) (hs : ∀ s ∈ es, s.length ≤ 10000) (all : Bool) :
  zBB c q all = some (z5N (es.map (zJb c.2.1)) all, 0) := by
 have hs2 : ∀ s ∈ es.map (zJb c.2.1), s.length ≤ 10000 := by
  intro s hs'
  obtain ⟨e, he, rfl⟩ := List.mem_map.1 hs'
  exact Nat.le_trans (zVI _ _) (hs e he)
 unfold zBB
 rw [zLq h hl fun s hs' => by have := hs s hs'; omega]
 simp only [zob, bne_self_eq_false, zbf, if_false]
 rw [zXy _ (by simpa using hl) hs2]
 simp only [zob]
 have hfl : (es.map (zJb c.2.1)).flatten.length ≤ 1000000000 := by
  have : ∀ m : List (List zO), (∀ s ∈ m, s.length ≤ 10000) → m.flatten.length ≤ 10000 * m.length := by
   intro m
   induction m with
   | nil => intro _; simp
   | cons x m ih =>
    intro hm
    have h1 := hm x List.mem_cons_self
    have h2 := ih fun s hs => hm s (List.mem_cons_of_mem _ hs)
    simp only [List.flatten_cons, List.length_append, List.length_cons]
    omega
  have h1 := this _ hs2
  rw [List.length_map] at h1
  omega
 rw [zVP (by omega)]
 simp only [zob]
 rw [z43 _ (by simpa using hl) hs2 all _ (by have := zW1 vV (es.map (zJb c.2.1)).flatten; omega)]
 rfl
theorem zTx {l : List zO} (h : vY vV l) (all : Bool) : z5N [l] all = l := by
 unfold z5N
 have h1 : tD vV [l].flatten = l := zWu zTg h fun x => by simp
 rw [h1, List.filter_eq_self.2]
 intro x hx
 simp [hx]
theorem zWf {c : tZ} {N : Nat} {L : List qW} (hG : vN N L) (hc : c.2.2.2 = ((N : Int), L)) : zBB c 1 true = some (zJb c.2.1 (yI (xT N L) 1), 0) := by
 have hN := hG.hN
 have hgl : (xT N L).length = N := zDN _ _
 have hw := zEm (xT N L) 1
 have h1 : zA0 c.2.2.2 1 = some ([yI (xT N L) 1], 0) := by rw [hc]; exact zX1 hG
 rw [zKm h1 (by simp) (fun s hs => by simp only [List.mem_singleton] at hs; subst hs; omega) true]
 rw [List.map_singleton, zTx (zRw _ _)]
end
section
abbrev Dm := Bool × Bool × Bool
def eD (x : Dm) : Int := (if x.1 then 2 else 0) + (if x.2.1 then 4 else 0) + (if x.2.2 then 8 else 0)
def iD (x y : Dm) : Dm := (x.1 && y.1, x.2.1 && y.2.1, x.2.2 && y.2.2)
def mD (x y : Dm) : Bool := (x.1 && y.1) || (x.2.1 && y.2.1) || (x.2.2 && y.2.2)
theorem zWB : ∀ x y : Dm, yE .i64 (eD x) (eD y) = eD (iD x y) := by
 rintro ⟨a, b, c⟩ ⟨d, e, f⟩
 revert a b c d e f
 decide +kernel
theorem z4h : ∀ x : Dm, (eD x == 0) = (!(x.1 || x.2.1 || x.2.2)) := by
 rintro ⟨a, b, c⟩; revert a b c; decide
theorem zYg (x y : Dm) : (yE .i64 (eD x) (eD y) != 0) = mD x y := by
 rw [zWB]
 show (!(eD (iD x y) == 0)) = _
 rw [z4h]
 simp [iD, mD]
theorem zZK : ∀ x y : Dm, eD x = eD y → x = y := by
 rintro ⟨a, b, c⟩ ⟨d, e, f⟩
 revert a b c d e f
 decide +kernel
def tA (x y : Dm) : Prop := (x.1 = true → y.1 = true) ∧ (x.2.1 = true → y.2.1 = true) ∧ (x.2.2 = true → y.2.2 = true)
theorem tA.refl (x : Dm) : tA x x := ⟨id, id, id⟩
theorem tA.trans {x y z : Dm} (h : tA x y) (k : tA y z) : tA x z := ⟨fun a => k.1 (h.1 a), fun a => k.2.1 (h.2.1 a), fun a => k.2.2 (h.2.2 a)⟩
theorem tA.anti {x y : Dm} (h : tA x y) (k : tA y x) : x = y := by
 obtain ⟨a, b, c⟩ := x
 obtain ⟨d, e, f⟩ := y
 simp only [tA] at h k
 have h1 : a = d := by cases a <;> cases d <;> simp_all
 have h2 : b = e := by cases b <;> cases e <;> simp_all
 have h3 : c = f := by cases c <;> cases f <;> simp_all
 rw [h1, h2, h3]
theorem z5J (x y : Dm) : tA (iD x y) x := by
 refine ⟨fun h => ?_, fun h => ?_, fun h => ?_⟩ <;> (simp [iD] at h; exact h.1)
theorem iD_le2 (x y : Dm) : tA (iD x y) y := by
 refine ⟨fun h => ?_, fun h => ?_, fun h => ?_⟩ <;> (simp [iD] at h; exact h.2)
def zZl (x : Dm) : Nat := (if x.1 then 1 else 0) + (if x.2.1 then 1 else 0) + (if x.2.2 then 1 else 0)
theorem zYO : ∀ {x y : Dm}, tA x y → zZl x ≤ zZl y ∧ (zZl x = zZl y → x = y) := by
 rintro ⟨a, b, c⟩ ⟨d, e, f⟩ h
 simp only [tA] at h
 cases a <;> cases b <;> cases c <;> cases d <;> cases e <;> cases f <;> simp_all [zZl]
abbrev DD := Nat → Dm
def dA (D : DD) : List Int := qJ 40 fun j => eD (D j)
def tT (D E : DD) : Prop := ∀ j, tA (D j) (E j)
theorem tT.refl (D : DD) : tT D D := fun _ => tA.refl _
theorem tT.trans {D E G : DD} (h : tT D E) (k : tT E G) : tT D G := fun j => (h j).trans (k j)
theorem tT.anti {D E : DD} (h : tT D E) (k : tT E D) : D = E := funext fun j => (h j).anti (k j)
def tC (D : DD) (i : Nat) (x : Dm) : DD := fun j => if j = i then x else D j
theorem zWz (D : DD) {i : Nat} (hi : i < 40) (x : Dm) : xS 40 (dA D) (i : Int) (eD x) = dA (tC D i x) := by
 unfold dA
 rw [zUD 40 _ hi]
 apply uZ
 intro j _
 simp only [tC]
 split <;> rfl
theorem zKT (D : DD) {i : Nat} (hi : i < 40) : yT (dA D) (i : Int) = eD (D i) := zOu 40 _ hi
theorem zSF {D : DD} {i : Nat} {x : Dm} (h : tA x (D i)) : tT (tC D i x) D := fun j => by
 unfold tC
 split
 ·rename_i e; subst e; exact h
 ·exact tA.refl _
def zXg (D : DD) : Nat → Nat
 | 0 => 0
 | n + 1 => zXg D n + zZl (D n)
theorem zUC {D E : DD} (h : tT D E) : ∀ n, zXg D n ≤ zXg E n
 | 0 => Nat.le_refl _
 | n + 1 => Nat.add_le_add (zUC h n) (zYO (h n)).1
theorem z15 {D E : DD} (h : tT D E) : ∀ n, zXg D n = zXg E n → ∀ j, j < n → D j = E j
 | 0, _, j, hj => absurd hj (Nat.not_lt_zero _)
 | n + 1, he, j, hj => by
  have h1 := zUC h n
  have h2 := (zYO (h n)).1
  simp only [zXg] at he
  rcases Nat.lt_succ_iff_lt_or_eq.1 hj with hj | rfl
  ·exact z15 h n (by omega) j hj
  ·exact (zYO (h j)).2 (by omega)
def Emp (N : Nat) (D : DD) : Prop := ∀ j, N ≤ j → D j = (false, false, false)
theorem Emp.le {N : Nat} {D E : DD} (h : Emp N E) (k : tT D E) : Emp N D := fun j hj => by
 have h1 := k j
 rw [h j hj] at h1
 exact tA.anti h1 ⟨fun h => Bool.noConfusion h, fun h => Bool.noConfusion h, fun h => Bool.noConfusion h⟩
section
variable {N : Nat} {L : List qW}
def tB (N : Nat) (L : List qW) : List (List Int) := (vT N).map (yR N L)
theorem z1c {i : Nat} (hi : i < N) : zI (tB N L) (i : Int) = some (yR N L (i : Int)) := by
 rw [xZ, tB, List.getElem?_map, vT, List.getElem?_map, List.getElem?_range hi]
 rfl
theorem zRY (hN : N ≤ 40) (D : DD) (at0 vH : List (List Int)) (n : Int) (full : Bool) (a : List Int) (ha : ∀ x ∈ a, ∃ k : Nat, x = (k : Int) ∧ k < N) (hl : a.length ≤ 40) (t : Dm) :
  zBO (n, at0, dA D, vH, full) a (eD t) = some (a.filter fun x => mD (D x.toNat) t) := by
 unfold zBO
 have h := zCf (B := zD8 a (n, at0, dA D, vH, full) (eD t)) a (fun s x => if mD (D x.toNat) t then s ++ [x] else s) id (fun i s => s.length ≤ i) ([] : List Int) (by simp) ?_ ?_
 ·have h2 := zDH (fun x : Int => mD (D x.toNat) t) id a []
  simp only [id, List.map_id, List.nil_append] at h2
  rw [h.1, h2]; rfl
 ·intro i y s hy hI
  have hlt := vQ hy
  obtain ⟨k, rfl, hk⟩ := ha y (vK hy)
  unfold zD8
  simp only [wZ hy, if_true, wV hy, zob, wY hy (by omega)]
  rw [zMQ (K := 40) rfl (show k < 40 by omega), zob, zKT D (by omega), zYg, Int.toNat_natCast]
  cases mD (D k) t with
  | true =>
   simp only [if_true]
   rw [yP (by simp; omega)]
   exact ⟨rfl, by simp; omega⟩
  | false =>
   simp only [zbf, if_false]
   exact ⟨trivial, by omega⟩
 ·intro s _
  unfold zD8
  simp [len]
theorem z4v : zCl = zBO := rfl
theorem zJv {i : Nat} : ∀ x ∈ yR N L (i : Int), ∃ k : Nat, x = (k : Int) ∧ k < N := fun x hx => by
 have h := (List.mem_filter.1 hx).1
 rw [uL] at h
 exact ⟨x.toNat, by omega, by omega⟩
theorem zLE {i j : Nat} (hj : j < N) : (j : Int) ∈ yR N L (i : Int) ↔ vD L j i := by
 rw [List.mem_filter, uL]
 exact ⟨fun h => h.2, fun h => ⟨⟨by omega, by omega⟩, h⟩⟩
def zW8 (N : Nat) (L : List qW) (D : DD) (i : Nat) : Dm :=
 ((yR N L (i : Int)).all fun x => (D x.toNat).2.1, (yR N L (i : Int)).any fun x => (D x.toNat).1,
  ((yR N L (i : Int)).all fun x => (D x.toNat).2.1 || (D x.toNat).2.2) && (yR N L (i : Int)).any fun x => (D x.toNat).2.2)
theorem z1h {α : Type} (p : α → Bool) (l : List α) : decide (len (l.filter p) < len l) = !(l.all p) := by
 induction l with
 | nil => rfl
 | cons x l ih =>
  rw [List.filter_cons]
  have hle := List.length_filter_le p l
  cases hp : p x with
  | true =>
   simp only [if_true, List.all_cons, hp, Bool.true_and]
   rw [← ih]
   simp only [len, List.length_cons]
   congr 1
   exact propext (by omega)
  | false =>
   simp only [zbf, if_false, List.all_cons, hp, Bool.false_and, Bool.not_false, decide_eq_true_eq, len, List.length_cons]
   omega
theorem zVW {α : Type} (p : α → Bool) (l : List α) : (len (l.filter p) == 0) = !(l.any p) := by
 induction l with
 | nil => rfl
 | cons x l ih =>
  rw [List.filter_cons]
  cases hp : p x with
  | true =>
   simp only [if_true, List.any_cons, hp, Bool.true_or, Bool.not_true, len, List.length_cons]
   exact beq_eq_false_iff_ne.2 (by omega)
  | false => simp only [zbf, if_false, List.any_cons, hp, Bool.false_or]; exact ih
theorem zWA (hN : N ≤ 40) (D : DD) (vH : List (List Int)) (full : Bool) {i : Nat} (hi : i < N) :
  zBh ((N : Int), tB N L, dA D, vH, full) (i : Int) = some (eD (zW8 N L D i)) := by
 have hl : (yR N L (i : Int)).length ≤ 40 := Nat.le_trans (zRk _) hN
 have c4 := zRY hN D (tB N L) vH (N : Int) full (yR N L (i : Int)) zJv hl (false, true, false)
 have c2 := zRY hN D (tB N L) vH (N : Int) full (yR N L (i : Int)) zJv hl (true, false, false)
 have c12 := zRY hN D (tB N L) vH (N : Int) full (yR N L (i : Int)) zJv hl (false, true, true)
 have c8 := zRY hN D (tB N L) vH (N : Int) full (yR N L (i : Int)) zJv hl (false, false, true)
 simp only [mD, Bool.and_false, Bool.and_true, Bool.false_or, Bool.or_false] at c4 c2 c12 c8
 rw [show eD (false, true, false) = 4 from rfl] at c4
 rw [show eD (true, false, false) = 2 from rfl] at c2
 rw [show eD (false, true, true) = 12 from rfl] at c12
 rw [show eD (false, false, true) = 8 from rfl] at c8
 unfold zBh
 simp only [z1c hi, zob, c4, c2, c12, c8, z1h, zVW]
 unfold zW8
 generalize ((yR N L (i : Int)).all fun x => (D x.toNat).2.1) = q1
 generalize ((yR N L (i : Int)).any fun x => (D x.toNat).1) = q2
 generalize ((yR N L (i : Int)).all fun x => (D x.toNat).2.1 || (D x.toNat).2.2) = q3
 generalize ((yR N L (i : Int)).any fun x => (D x.toNat).2.2) = q4
 revert q1 q2 q3 q4
 decide +kernel
structure CL (N : Nat) (L : List qW) (f : Nat → Nat) : Prop where
 r : ∀ i, i < N → f i = 1 ∨ f i = 2 ∨ f i = 3
 i1 : ∀ i, i < N → f i = 1 → ∀ j, j < N → vD L j i → f j = 2
 i2 : ∀ i, i < N → f i = 2 → ∃ j, j < N ∧ vD L j i ∧ f j = 1
 i3 : ∀ i, i < N → f i = 3 → (∃ j, j < N ∧ vD L j i ∧ f j = 3) ∧ ∀ j, j < N → vD L j i → f j ≠ 1
def zWU (x : Dm) (k : Nat) : Bool := match k with
 | 1 => x.1
 | 2 => x.2.1
 | 3 => x.2.2
 | _ => false
def zZC (N : Nat) (D : DD) (f : Nat → Nat) : Prop := ∀ i, i < N → zWU (D i) (f i) = true
theorem z0p (x y : Dm) (k : Nat) : zWU (iD x y) k = (zWU x k && zWU y k) := by
 match k with
 | 0 | 1 | 2 | 3 => rfl
 | _ + 4 => rfl
theorem zYD {x y : Dm} (h : tA x y) {k : Nat} (hk : zWU x k = true) : zWU y k = true := by
 match k, hk with
 | 1, hk => exact h.1 hk
 | 2, hk => exact h.2.1 hk
 | 3, hk => exact h.2.2 hk
theorem z5S {D : DD} {f : Nat → Nat} (hf : CL N L f) (hc : zZC N D f) {i : Nat} (hi : i < N) : zWU (zW8 N L D i) (f i) = true := by
 have hpr : ∀ x ∈ yR N L (i : Int), ∃ k : Nat, x = (k : Int) ∧ k < N ∧ vD L k i := fun x hx => by
  obtain ⟨k, rfl, hk⟩ := zJv x hx
  exact ⟨k, rfl, hk, (zLE hk).1 hx⟩
 rcases hf.r i hi with h | h | h <;> rw [h]
 ·show ((yR N L (i : Int)).all fun x => (D x.toNat).2.1) = true
  rw [List.all_eq_true]
  intro x hx
  obtain ⟨k, rfl, hk, he⟩ := hpr x hx
  have := hc k hk
  rw [hf.i1 i hi h k hk he] at this
  exact this
 ·show ((yR N L (i : Int)).any fun x => (D x.toNat).1) = true
  obtain ⟨k, hk, he, h1⟩ := hf.i2 i hi h
  rw [List.any_eq_true]
  have := hc k hk
  rw [h1] at this
  exact ⟨(k : Int), (zLE hk).2 he, this⟩
 ·show (_ && _) = true
  obtain ⟨⟨k, hk, he, h3⟩, h4⟩ := hf.i3 i hi h
  rw [Bool.and_eq_true, List.all_eq_true, List.any_eq_true]
  refine ⟨fun x hx => ?_, (k : Int), (zLE hk).2 he, ?_⟩
  ·obtain ⟨k, rfl, hk, he⟩ := hpr x hx
   have := hc k hk
   rcases hf.r k hk with q | q | q
   ·exact absurd q (h4 k hk he)
   ·rw [q] at this; simp [show (D k).2.1 = true from this]
   ·rw [q] at this; simp [show (D k).2.2 = true from this]
  ·have := hc k hk
   rw [h3] at this
   exact this
end
end
section
section
variable {N : Nat} {L : List qW}
def xJ (N : Nat) (L : List qW) (D E : DD) : Prop := tT E D ∧ ∀ f, CL N L f → zZC N D f → zZC N E f
theorem xJ.refl (D : DD) : xJ N L D D := ⟨tT.refl D, fun _ _ h => h⟩
theorem xJ.trans {D E G : DD} (h : xJ N L D E) (k : xJ N L E G) : xJ N L D G := ⟨k.1.trans h.1, fun f hf hc => k.2 f hf (h.2 f hf hc)⟩
theorem zXM {D E : DD} (h : xJ N L D E) {k : Nat} (t : Dm) (ht : ∀ f, CL N L f → zZC N D f → zWU t (f k) = true) : xJ N L D (tC E k (iD (E k) t)) := by
 refine ⟨(zSF (z5J _ _)).trans h.1, fun f hf hc j hj => ?_⟩
 unfold tC
 split
 ·rename_i e; subst e
  rw [z0p, h.2 f hf hc j hj, ht f hf hc]; rfl
 ·exact h.2 f hf hc j hj
theorem zV7 {ρ : Type} {B : Int × List Int → Option ((Int × List Int) ⊕ ρ)} (hN : N ≤ 40) (D : DD) (a : List Int) (ha : ∀ x ∈ a, ∃ k : Nat, x = (k : Int) ∧ k < N) (t : Dm) (ht : ∀ f, CL N L f → zZC N D f → ∀ k : Nat, (k : Int) ∈ a → zWU t (f k) = true) (fin : List Int → ρ)
  (hB : ∀ (i : Nat) (k : Nat) s, a[i]? = some (k : Int) → k < 40 → B ((i : Int), s) = some (.inl (((i + 1 : Nat) : Int), xS 40 s (k : Int) (yE .i64 (yT s (k : Int)) (eD t)))))
  (he : ∀ s, B ((a.length : Int), s) = some (.inr (fin s))) : ∃ E, zV B (0, dA D) = some (fin (dA E)) ∧ xJ N L D E := by
 have h := zSZ (B := B) a (fun s x => xS 40 s x (yE .i64 (yT s x) (eD t))) fin (fun _ s => ∃ E, s = dA E ∧ xJ N L D E) (dA D) ⟨D, rfl, xJ.refl D⟩ ?_ fun s _ => he s
 ·obtain ⟨h1, E, h2, h3⟩ := h
  exact ⟨E, by rw [h1, h2], h3⟩
 ·rintro i x s hx ⟨E, rfl, hE⟩
  obtain ⟨k, rfl, hk⟩ := ha x (vK hx)
  refine ⟨hB i k _ hx (by omega), tC E k (iD (E k) t), ?_, zXM hE t fun f hf hc => ht f hf hc k (vK hx)⟩
  rw [zKT E (by omega), zWB, zWz E (by omega)]
theorem zY4 (x y : Dm) : (eD x == eD y) = decide (x = y) := by
 by_cases h : x = y
 ·subst h; simp
 ·simp only [h, decide_false, beq_eq_false_iff_ne]
  exact fun e => h (zZK _ _ e)
theorem z0T (hN : N ≤ 40) (D : DD) (vH : List (List Int)) (full : Bool) {i : Nat} (hi : i < N) :
  ∃ E, zBx ((N : Int), tB N L, dA D, vH, full) (i : Int) = some (dA E, vH) ∧ xJ N L D E := by
 have hl : (yR N L (i : Int)).length ≤ 40 := Nat.le_trans (zRk _) hN
 have hne : ∀ f, CL N L f → zZC N D f → zWU (D i) (f i) = true := fun f _ hc => hc i hi
 have hon : ∀ (f : Nat → Nat) (k : Nat), CL N L f → zZC N D f → (∀ q, q = 1 ∨ q = 2 ∨ q = 3 → zWU (D i) q = true → q = k) → f i = k := fun f k hf hc hq => hq _ (hf.r i hi) (hc i hi)
 have first : ∃ (t : Dm) (E : DD), ((yG (decide (0 ≤ (i : Int)) && decide ((i : Int) < 40))).bind fun _ =>
   if (yT (dA D) (i : Int)) == 2 then
    zV (zCB (yR N L (i : Int))) (0, dA D)
   else
    if (yT (dA D) (i : Int)) == 4 then
     some (2, dA D)
    else
     if (yT (dA D) (i : Int)) == 8 then
      (zV (zCA (yR N L (i : Int))) (0, dA D) : Option (List Int)).bind fun s3 =>
      some (8, s3)
     else
      some (0, dA D) : Option (Int × (List Int))) = some (eD t, dA E) ∧ xJ N L D E ∧ (t = (false, false, false) ∨ ∃ c : Nat, (t = (true, false, false) ∧ c = 1 ∨ t = (false, false, true) ∧ c = 3) ∧
    ∀ f, CL N L f → zZC N D f → ∃ j, j < N ∧ vD L j i ∧ f j = c) := by
  rw [zMQ (K := 40) rfl (show i < 40 by omega), zob, zKT D (by omega)]
  rw [show (2 : Int) = eD (true, false, false) from rfl, show (4 : Int) = eD (false, true, false) from rfl, show (8 : Int) = eD (false, false, true) from rfl, zY4, zY4, zY4]
  by_cases h1 : D i = (true, false, false)
  ·have hf1 : ∀ f, CL N L f → zZC N D f → f i = 1 := fun f hf hc => hon f 1 hf hc fun q hq hh => by
    rw [h1] at hh
    rcases hq with rfl | rfl | rfl
    ·rfl
    ·exact Bool.noConfusion hh
    ·exact Bool.noConfusion hh
   obtain ⟨E, h2, h3⟩ := zV7 (B := zCB (yR N L (i : Int))) hN D (yR N L (i : Int)) zJv (false, true, false) (fun f hf hc k hk => by
    have hkN : k < N := by obtain ⟨k', e, h⟩ := zJv _ hk; omega
    rw [hf.i1 i hi (hf1 f hf hc) k hkN ((zLE hkN).1 hk)]; rfl) (fun s => (0, s)) (fun q k s hq hk => by
     unfold zCB
     simp only [wZ hq, if_true, wV hq, zob, wY hq (by omega)]
     rw [zMQ (K := 40) rfl hk]
     rfl) (fun s => by unfold zCB; simp [len])
   refine ⟨(false, false, false), E, ?_, h3, .inl rfl⟩
   simp only [h1, decide_true, if_true]
   exact h2
  ·simp only [h1, decide_false, zbf, if_false]
   by_cases h2 : D i = (false, true, false)
   ·refine ⟨(true, false, false), D, by simp only [h2, decide_true, if_true], xJ.refl D, .inr ⟨1, .inl ⟨rfl, rfl⟩, fun f hf hc => ?_⟩⟩
    refine hf.i2 i hi (hon f 2 hf hc fun q hq hh => ?_)
    rw [h2] at hh
    rcases hq with rfl | rfl | rfl
    ·exact Bool.noConfusion hh
    ·rfl
    ·exact Bool.noConfusion hh
   ·simp only [h2, decide_false, zbf, if_false]
    by_cases h3 : D i = (false, false, true)
    ·have hf3 : ∀ f, CL N L f → zZC N D f → f i = 3 := fun f hf hc => hon f 3 hf hc fun q hq hh => by
      rw [h3] at hh
      rcases hq with rfl | rfl | rfl
      ·exact Bool.noConfusion hh
      ·exact Bool.noConfusion hh
      ·rfl
     obtain ⟨E, h4, h5⟩ := zV7 (B := zCA (yR N L (i : Int))) hN D (yR N L (i : Int)) zJv (false, true, true) (fun f hf hc k hk => by
      have hkN : k < N := by obtain ⟨k', e, h⟩ := zJv _ hk; omega
      have h6 := (hf.i3 i hi (hf3 f hf hc)).2 k hkN ((zLE hkN).1 hk)
      rcases hf.r k hkN with h | h | h
      ·exact absurd h h6
      ·rw [h]; rfl
      ·rw [h]; rfl) (fun s => s) (fun q k s hq hk => by
       unfold zCA
       simp only [wZ hq, if_true, wV hq, zob, wY hq (by omega)]
       rw [zMQ (K := 40) rfl hk]
       rfl) (fun s => by unfold zCA; simp [len])
     refine ⟨(false, false, true), E, ?_, h5, .inr ⟨3, .inr ⟨rfl, rfl⟩, fun f hf hc => (hf.i3 i hi (hf3 f hf hc)).1⟩⟩
     simp only [h3, decide_true, if_true]
     rw [h4]; rfl
    ·refine ⟨(false, false, false), D, by simp only [h3, decide_false, zbf, if_false]; rfl, xJ.refl D, .inl rfl⟩
 obtain ⟨t, E, h1, h2, h3⟩ := first
 unfold zBx
 simp only [z1c hi, zob]
 rw [h1, zob, z4v, zRY hN E _ vH (N : Int) full _ zJv hl t, zob]
 by_cases hlen : len ((yR N L (i : Int)).filter fun x => mD (E x.toNat) t) = 1
 ·have hb : (len ((yR N L (i : Int)).filter fun x => mD (E x.toNat) t) == 1) = true := by rw [hlen]; rfl
  rw [hb]
  simp only [if_true]
  obtain ⟨x, hx⟩ : ∃ x, (yR N L (i : Int)).filter (fun x => mD (E x.toNat) t) = [x] := by
   have : ((yR N L (i : Int)).filter fun x => mD (E x.toNat) t).length = 1 := by simp only [len] at hlen; omega
   exact List.length_eq_one_iff.1 this
  rw [hx]
  have hxm : x ∈ (yR N L (i : Int)).filter fun x => mD (E x.toNat) t := by rw [hx]; exact List.mem_cons_self
  obtain ⟨k, rfl, hk⟩ := zJv x (List.mem_filter.1 hxm).1
  refine ⟨tC E k (iD (E k) t), ?_, zXM h2 t fun f hf hc => ?_⟩
  ·rw [show zI [(k : Int)] 0 = some (k : Int) from rfl, zob, zMQ (K := 40) rfl (show k < 40 by omega), zob, zob, zKT E (by omega), zWB, zWz E (by omega)]
  ·rcases h3 with rfl | ⟨c, hc1, hc2⟩
   ·have := (List.mem_filter.1 hxm).2
    simp [mD] at this
   ·obtain ⟨j, hj, he, hfj⟩ := hc2 f hf hc
    have hEj := h2.2 f hf hc j hj
    rw [hfj] at hEj
    have hjm : (j : Int) ∈ (yR N L (i : Int)).filter fun x => mD (E x.toNat) t := by
     rw [List.mem_filter]
     refine ⟨(zLE hj).2 he, ?_⟩
     rw [Int.toNat_natCast]
     rcases hc1 with ⟨rfl, rfl⟩ | ⟨rfl, rfl⟩
     ·have : (E j).1 = true := hEj
      simp [mD, this]
     ·have : (E j).2.2 = true := hEj
      simp [mD, this]
    rw [hx, List.mem_singleton] at hjm
    have : j = k := by omega
    subst this
    rw [hfj]
    rcases hc1 with ⟨rfl, rfl⟩ | ⟨rfl, rfl⟩ <;> rfl
 ·have hb : (len ((yR N L (i : Int)).filter fun x => mD (E x.toNat) t) == 1) = false := beq_eq_false_iff_ne.2 hlen
  rw [hb]
  exact ⟨E, rfl, h2⟩
def Dead (N : Nat) (L : List qW) (D : DD) : Prop := ∀ f, CL N L f → ¬ zZC N D f
def Fix (N : Nat) (L : List qW) (D : DD) : Prop := ∀ i, i < N → tA (D i) (zW8 N L D i)
theorem z14 {D E : DD} (h : xJ N L D E) {i : Nat} (hi : i < N) (h0 : E i = (false, false, false)) : Dead N L D := fun f hf hc => by
 have := h.2 f hf hc i hi
 rw [h0] at this
 rcases hf.r i hi with h | h | h <;> rw [h] at this <;> exact Bool.noConfusion this
theorem zYV (hN : N ≤ 40) (D : DD) (vH : List (List Int)) (n2 : List Int) (f2 : List (List Int)) (full : Bool) :
  (∃ E, zV (zAN ((N : Int), tB N L, n2, f2, full)) (0, dA D, vH) = some (.inl (dA E, vH)) ∧ xJ N L D E ∧ (E = D → Fix N L D)) ∨
  ∃ E, zV (zAN ((N : Int), tB N L, n2, f2, full)) (0, dA D, vH) = some (.inr (.inr (false, dA E, vH))) ∧ tT E D ∧ Dead N L D := by
 have key : ∀ (m i : Nat) (E : DD), i + m = N → xJ N L D E → (E = D → ∀ j, j < i → tA (D j) (zW8 N L D j)) →
   (∃ G, zV (zAN ((N : Int), tB N L, n2, f2, full)) ((i : Int), dA E, vH) = some (.inl (dA G, vH)) ∧ xJ N L D G ∧ (G = D → Fix N L D)) ∨
   ∃ G, zV (zAN ((N : Int), tB N L, n2, f2, full)) ((i : Int), dA E, vH) = some (.inr (.inr (false, dA G, vH))) ∧ tT G D ∧ Dead N L D := by
  intro m
  induction m with
  | zero =>
   intro i E h hE hI
   rw [Nat.add_zero] at h
   subst h
   refine .inl ⟨E, ?_, hE, fun e j hj => hI e j hj⟩
   rw [yH]
   unfold zAN
   simp
  | succ m ih =>
   intro i E h hE hI
   have hi : i < N := by omega
   have hd : decide ((i : Int) < (N : Int)) = true := by simp; omega
   have hp := zWA (L := L) hN E vH full hi
   have hK1 : xJ N L D (tC E i (iD (E i) (zW8 N L E i))) := by
    refine hE.trans ⟨zSF (z5J _ _), fun f hf hc j hj => ?_⟩
    unfold tC
    split
    ·rename_i e; subst e
     rw [z0p, hc j hj, z5S hf hc hj]; rfl
    ·exact hc j hj
   obtain ⟨G, hG1, hG2⟩ := z0T (L := L) hN (tC E i (iD (E i) (zW8 N L E i))) vH full hi
   have hstep : zAN ((N : Int), tB N L, n2, f2, full) ((i : Int), dA E, vH) =
     if (tC E i (iD (E i) (zW8 N L E i)) i) = (false, false, false) then some (.inr (.inr (.inr (false, dA (tC E i (iD (E i) (zW8 N L E i))), vH)))) else some (.inl (((i + 1 : Nat) : Int), dA G, vH)) := by
    unfold zAN
    simp only [hd, if_true]
    rw [zMQ (K := 40) rfl (show i < 40 by omega), zob, hp, zob, zob, zob, zKT E (by omega), zWB, zWz E (by omega), zKT _ (by omega)]
    rw [show (0 : Int) = eD (false, false, false) from rfl, zY4]
    by_cases h0 : tC E i (iD (E i) (zW8 N L E i)) i = (false, false, false)
    ·simp only [h0, decide_true, if_true]
    ·simp only [h0, decide_false, zbf, if_false]
     rw [hG1, zob, uF i (by omega)]
   rw [yH, hstep]
   by_cases h0 : tC E i (iD (E i) (zW8 N L E i)) i = (false, false, false)
   ·rw [if_pos h0]
    exact .inr ⟨_, rfl, hK1.1, z14 hK1 hi h0⟩
   ·rw [if_neg h0]
    refine ih (i + 1) G (by omega) (hK1.trans hG2) fun e j hj => ?_
    have e1 : tC E i (iD (E i) (zW8 N L E i)) = D := hK1.1.anti (by rw [← e]; exact hG2.1)
    have e2 : E = D := hE.1.anti (by rw [← e1]; exact zSF (z5J _ _))
    rcases Nat.lt_succ_iff_lt_or_eq.1 hj with hj | rfl
    ·exact hI e2 j hj
    ·have h3 : iD (E j) (zW8 N L E j) = E j := by
      have := congrFun (e1.trans e2.symm) j
      simpa [tC] using this
     rw [e2] at h3
     have := iD_le2 (D j) (zW8 N L D j)
     rwa [h3] at this
 exact key N 0 D (by omega) (xJ.refl D) fun _ j hj => absurd hj (Nat.not_lt_zero _)
theorem z4M (D E : DD) : aeq 40 (dA D) (dA E) = true ↔ ∀ j, j < 40 → D j = E j := by
 unfold aeq
 rw [List.all_eq_true]
 refine ⟨fun h j hj => ?_, fun h j hj => ?_⟩
 ·have := h j (List.mem_range.2 hj)
  rw [beq_iff_eq] at this
  have h1 := zKT D hj
  have h2 := zKT E hj
  simp only [yT, Int.toNat_natCast] at h1 h2
  rw [h1, h2] at this
  exact zZK _ _ this
 ·have hj := List.mem_range.1 hj
  have h1 := zKT D hj
  have h2 := zKT E hj
  simp only [yT, Int.toNat_natCast] at h1 h2
  rw [h1, h2, h j hj]; simp
theorem z5P (hN : N ≤ 40) (D : DD) : z3Y 40 (dA D) (N : Int) = some (qJ N fun j => eD (D j)) := by
 unfold z3Y
 rw [if_pos ⟨by omega, by omega⟩, Int.toNat_natCast]
 congr 1
 apply List.map_congr_left
 intro j hj
 have hj := List.mem_range.1 hj
 have h1 := zKT D (show j < 40 by omega)
 simpa only [yT, Int.toNat_natCast] using h1
theorem z1G (D : DD) : ((0 : Int) ∈ qJ N fun j => eD (D j)) ↔ ∃ j, j < N ∧ D j = (false, false, false) := by
 constructor
 ·intro h
  obtain ⟨j, hj, he⟩ := List.mem_map.1 h
  refine ⟨j, List.mem_range.1 hj, zZK _ _ ?_⟩
  rw [he]; rfl
 ·rintro ⟨j, hj, he⟩
  refine List.mem_map.2 ⟨j, List.mem_range.2 hj, ?_⟩
  rw [he]; rfl
theorem zYb (hN : N ≤ 40) (D : DD) (hD : Emp N D) (vH : List (List Int)) (full : Bool) :
  (∃ E, zBZ ((N : Int), tB N L, dA D, vH, full) = some (true, dA E, vH) ∧ xJ N L D E ∧ Fix N L E ∧ ∀ i, i < N → E i ≠ (false, false, false)) ∨
  ∃ E, zBZ ((N : Int), tB N L, dA D, vH, full) = some (false, dA E, vH) ∧ tT E D ∧ Dead N L D := by
 have h := zMm (B := zBp ((N : Int), tB N L, dA D, vH, full)) (fun s => ∃ E, s = (dA E, vH) ∧ xJ N L D E)
  (fun s => open Classical in if h : ∃ E, s = (dA E, vH) ∧ xJ N L D E then zXg (Classical.choose h) 40 else 0)
  (fun r => (∃ E, r = (true, dA E, vH) ∧ xJ N L D E ∧ Fix N L E ∧ ∀ i, i < N → E i ≠ (false, false, false)) ∨ ∃ E, r = (false, dA E, vH) ∧ tT E D ∧ Dead N L D) ?_ (dA D, vH) ⟨D, rfl, xJ.refl D⟩
 ·obtain ⟨r, h1, ⟨E, rfl, h2⟩ | ⟨E, rfl, h2⟩⟩ := h
  ·exact .inl ⟨E, h1, h2⟩
  ·exact .inr ⟨E, h1, h2⟩
 ·rintro s ⟨E, rfl, hE⟩
  have dinj : ∀ {G H : DD}, tT G D → tT H D → dA G = dA H → G = H := by
   intro G H hG hH he
   funext j
   by_cases hj : j < 40
   ·have h1 := zKT G hj
    rw [he, zKT H hj] at h1
    exact (zZK _ _ h1).symm
   ·rw [hD.le hG j (by omega), hD.le hH j (by omega)]
  have hmu : ∀ G, xJ N L D G → (open Classical in if h : ∃ E, ((dA G, vH) : List Int × List (List Int)) = (dA E, vH) ∧ xJ N L D E then zXg (Classical.choose h) 40 else 0) = zXg G 40 := by
   intro G hG
   have hex : ∃ E, ((dA G, vH) : List Int × List (List Int)) = (dA E, vH) ∧ xJ N L D E := ⟨G, rfl, hG⟩
   rw [dif_pos hex]
   have h1 := Classical.choose_spec hex
   exact congrArg (fun z => zXg z 40) (dinj h1.2.1 hG.1 (congrArg Prod.fst h1.1).symm)
  unfold zBp
  rcases zYV (L := L) hN E vH (dA D) vH full with ⟨G, h1, h2, h3⟩ | ⟨G, h1, h2, h3⟩
  ·rw [h1]
   simp only [yZ, zob]
   rw [z5P hN, zob, zPQ _ _ (by simp only [qJ, List.length_map, List.length_range]; omega), zob]
   by_cases h0 : (0 : Int) ∈ qJ N fun j => eD (G j)
   ·simp only [h0, decide_true, if_true]
    obtain ⟨j, hj, hz⟩ := (z1G G).1 h0
    exact .inr ⟨_, rfl, .inr ⟨G, rfl, h2.1.trans hE.1, z14 (hE.trans h2) hj hz⟩⟩
   ·simp only [h0, decide_false, zbf, if_false]
    by_cases he : ∀ j, j < 40 → G j = E j
    ·rw [(z4M G E).2 he]
     simp only [if_true]
     have hGE : G = E := funext fun j => by
      by_cases hj : j < 40
      ·exact he j hj
      ·rw [hD.le (h2.1.trans hE.1) j (by omega), hD.le hE.1 j (by omega)]
     subst hGE
     refine .inr ⟨_, rfl, .inl ⟨G, rfl, hE, h3 rfl, fun i hi hz => h0 ((z1G G).2 ⟨i, hi, hz⟩)⟩⟩
    ·have hb : aeq 40 (dA G) (dA E) = false := by
      cases hq : aeq 40 (dA G) (dA E) with
      | false => rfl
      | true => exact absurd ((z4M G E).1 hq) he
     rw [hb]
     simp only [zbf, if_false]
     refine .inl ⟨_, rfl, ⟨G, rfl, hE.trans h2⟩, ?_⟩
     rw [hmu G (hE.trans h2), hmu E hE]
     have h4 := zUC h2.1 40
     rcases Nat.lt_or_eq_of_le h4 with h5 | h5
     ·exact h5
     ·exact absurd (z15 h2.1 40 h5) he
  ·rw [h1]
   simp only [yZ, zob]
   exact .inr ⟨_, rfl, .inr ⟨G, rfl, h2.trans hE.1, fun f hf hc => h3 f hf (hE.2 f hf hc)⟩⟩
end
end
section
def yL (N : Nat) (f : Nat → Nat) : List Int := qJ N fun j => ((f j : Nat) : Int)
theorem zE3 {N i : Nat} (hi : i < N) (f : Nat → Nat) : (yL N f)[i]? = some ((f i : Nat) : Int) := by rw [yL, zIQ, if_pos hi]
theorem zLN (N : Nat) (f : Nat → Nat) : (yL N f).length = N := by simp [yL, qJ]
theorem z0x {N : Nat} {f g : Nat → Nat} (h : ∀ j, j < N → f j = g j) : yL N f = yL N g := uZ fun j hj => by rw [h j hj]
theorem zZ2 {N : Nat} {f g : Nat → Nat} (h : yL N f = yL N g) : ∀ j, j < N → f j = g j := fun j hj => by
 have h1 := zE3 hj f
 rw [h, zE3 hj g] at h1
 simp only [Option.some.injEq] at h1
 omega
def yW (c : Nat) : Dm := (decide (c = 1), decide (c = 2), decide (c = 3))
theorem zZX {c k : Nat} (hc : c = 1 ∨ c = 2 ∨ c = 3) (h : zWU (yW c) k = true) : k = c := by
 match k, h with
 | 1, h => simpa [zWU, yW, eq_comm] using h
 | 2, h => simpa [zWU, yW, eq_comm] using h
 | 3, h => simpa [zWU, yW, eq_comm] using h
theorem z1A {c : Nat} (hc : c = 1 ∨ c = 2 ∨ c = 3) : zWU (yW c) c = true := by
 rcases hc with rfl | rfl | rfl <;> rfl
theorem sgl_le {c : Nat} {x : Dm} (hc : c = 1 ∨ c = 2 ∨ c = 3) (h : zWU x c = true) : tA (yW c) x := by
 rcases hc with rfl | rfl | rfl
 ·exact ⟨fun _ => h, fun k => by simp [yW] at k, fun k => by simp [yW] at k⟩
 ·exact ⟨fun k => by simp [yW] at k, fun _ => h, fun k => by simp [yW] at k⟩
 ·exact ⟨fun k => by simp [yW] at k, fun k => by simp [yW] at k, fun _ => h⟩
theorem z13 : ∀ x : Dm, x ≠ (false, false, false) → (∃ c, (c = 1 ∨ c = 2 ∨ c = 3) ∧ x = yW c) ∨ 2 ≤ zZl x := by
 rintro ⟨a, b, c⟩ h
 cases a <;> cases b <;> cases c
 ·exact absurd rfl h
 ·exact .inl ⟨3, by decide, rfl⟩
 ·exact .inl ⟨2, by decide, rfl⟩
 ·exact .inr (by decide)
 ·exact .inl ⟨1, by decide, rfl⟩
 ·exact .inr (by decide)
 ·exact .inr (by decide)
 ·exact .inr (by decide)
theorem z2U {c : Nat} (hc : c = 1 ∨ c = 2 ∨ c = 3) : zZl (yW c) = 1 := by rcases hc with rfl | rfl | rfl <;> rfl
theorem zZe {D : DD} {i : Nat} {x : Dm} (h : tA x (D i)) (hp : zZl x < zZl (D i)) : ∀ n, i < n → zXg (tC D i x) n < zXg D n
 | 0, hn => absurd hn (Nat.not_lt_zero _)
 | n + 1, hn => by
  simp only [zXg]
  rcases Nat.lt_succ_iff_lt_or_eq.1 hn with h1 | rfl
  ·have h2 := zZe h hp n h1
   have h3 : tC D i x n = D n := if_neg (by omega)
   rw [h3]; omega
  ·have h2 := zUC (zSF h) i
   have h3 : tC D i x i = x := if_pos rfl
   rw [h3]; omega
section
variable {N : Nat} {L : List qW}
theorem zYS (hN : N ≤ 40) (D : DD) (h0 : ∀ i, i < N → D i ≠ (false, false, false)) (at0 vH : List (List Int)) (full : Bool) :
  (∃ f : Nat → Nat, zB1 ((N : Int), at0, dA D, vH, full) = some (yL N f, -1) ∧ ∀ j, j < N → (f j = 1 ∨ f j = 2 ∨ f j = 3) ∧ D j = yW (f j)) ∨
  ∃ i, i < N ∧ zB1 ((N : Int), at0, dA D, vH, full) = some ([], (i : Int)) ∧ 2 ≤ zZl (D i) := by
 have key : ∀ (m i : Nat) (f : Nat → Nat), i + m = N → (∀ j, j < i → (f j = 1 ∨ f j = 2 ∨ f j = 3) ∧ D j = yW (f j)) →
   (∃ g : Nat → Nat, zV (zAk ((N : Int), at0, dA D, vH, full)) (yL i f, (i : Int)) = some (yL N g, -1) ∧ ∀ j, j < N → (g j = 1 ∨ g j = 2 ∨ g j = 3) ∧ D j = yW (g j)) ∨
   ∃ q, q < N ∧ zV (zAk ((N : Int), at0, dA D, vH, full)) (yL i f, (i : Int)) = some ([], (q : Int)) ∧ 2 ≤ zZl (D q) := by
  intro m
  induction m with
  | zero =>
   intro i f h hf
   rw [Nat.add_zero] at h
   subst h
   refine .inl ⟨f, ?_, hf⟩
   rw [yH]
   unfold zAk
   simp
  | succ m ih =>
   intro i f h hf
   have hi : i < N := by omega
   have hd : decide ((i : Int) < (N : Int)) = true := by simp; omega
   have hstep : ∀ c : Nat, c = 1 ∨ c = 2 ∨ c = 3 → D i = yW c → zAk ((N : Int), at0, dA D, vH, full) (yL i f, (i : Int)) = some (.inl (yL i f ++ [(c : Int)], ((i + 1 : Nat) : Int))) := by
    intro c hc hDi
    unfold zAk
    simp only [hd, if_true]
    rw [zMQ (K := 40) rfl (show i < 40 by omega), zob, zKT D (by omega), hDi]
    have hl := zLN i f
    rcases hc with rfl | rfl | rfl
    ·rw [show (eD (yW 1) == 2) = true from rfl]
     simp only [if_true]
     rw [yP (by simp only [List.length_cons, List.length_nil]; omega), zob, uF i (by omega)]; rfl
    ·rw [show (eD (yW 2) == 2) = false from rfl, show (eD (yW 2) == 4) = true from rfl]
     simp only [if_true, zbf, if_false]
     rw [yP (by simp only [List.length_cons, List.length_nil]; omega), zob, uF i (by omega)]; rfl
    ·rw [show (eD (yW 3) == 2) = false from rfl, show (eD (yW 3) == 4) = false from rfl, show (eD (yW 3) == 8) = true from rfl]
     simp only [if_true, zbf, if_false]
     rw [yP (by simp only [List.length_cons, List.length_nil]; omega), zob, uF i (by omega)]; rfl
   rcases z13 (D i) (h0 i hi) with ⟨c, hc, hDi⟩ | hp
   ·rw [yH, hstep c hc hDi]
    have e1 : yL i f ++ [(c : Int)] = yL (i + 1) fun j => if j = i then c else f j := by
     unfold yL
     rw [zXA]
     congr 1
     ·exact uZ fun j hj => by
       have : ¬ j = i := by omega
       simp only [this, if_false]
     ·simp
    rw [e1]
    refine ih (i + 1) _ (by omega) fun j hj => ?_
    rcases Nat.lt_succ_iff_lt_or_eq.1 hj with hj | rfl
    ·have : ¬ j = i := by omega
     simp only [this, if_false]
     exact hf j hj
    ·simp only [if_true]
     exact ⟨hc, hDi⟩
   ·refine .inr ⟨i, hi, ?_, hp⟩
    rw [yH]
    have : zAk ((N : Int), at0, dA D, vH, full) (yL i f, (i : Int)) = some (.inr ([], (i : Int))) := by
     unfold zAk
     simp only [hd, if_true]
     rw [zMQ (K := 40) rfl (show i < 40 by omega), zob, zKT D (by omega)]
     rw [show (2 : Int) = eD (yW 1) from rfl, show (4 : Int) = eD (yW 2) from rfl, show (8 : Int) = eD (yW 3) from rfl, zY4, zY4, zY4]
     have hn : ∀ c, c = 1 ∨ c = 2 ∨ c = 3 → ¬ D i = yW c := fun c hc he => by rw [he, z2U hc] at hp; omega
     simp only [hn 1 (by decide), hn 2 (by decide), hn 3 (by decide), decide_false, zbf, if_false]
    rw [this]
 exact key N 0 (fun _ => 0) (by omega) fun j hj => absurd hj (Nat.not_lt_zero _)
structure Sp (N : Nat) (L : List qW) (P : (Nat → Nat) → Prop) (n0 : Nat) (full : Bool) (new : List (List Int)) (full' : Bool) : Prop where
 snd : ∀ x ∈ new, ∃ f, CL N L f ∧ P f ∧ x = yL N f
 nd : new.Nodup
 ful : full = true → new = [] ∧ full' = true
 hi : full = false → full' = true → n0 + new.length = 201
 lo : full = false → full' = false → n0 + new.length ≤ 200 ∧ ∀ f, CL N L f → P f → yL N f ∈ new
theorem Sp.none {P : (Nat → Nat) → Prop} {n0 : Nat} {full : Bool} (h : full = false → n0 ≤ 200) (hP : ∀ f, CL N L f → ¬ P f) : Sp N L P n0 full [] full :=
 ⟨fun x hx => (by cases hx), List.nodup_nil, fun h => ⟨rfl, h⟩, fun h1 h2 => (by rw [h1] at h2; cases h2), fun h1 _ => ⟨h h1, fun f hf hp => absurd hp (hP f hf)⟩⟩
theorem Sp.or {P Q : (Nat → Nat) → Prop} {n0 : Nat} {full f1 f2 : Bool} {new1 new2 : List (List Int)} (h1 : Sp N L P n0 full new1 f1) (h2 : Sp N L Q (n0 + new1.length) f1 new2 f2) (hd : ∀ f g, P f → Q g → yL N f ≠ yL N g) :
  Sp N L (fun f => P f ∨ Q f) n0 full (new1 ++ new2) f2 := by
 refine ⟨fun x hx => ?_, ?_, fun hf => ?_, fun h3 h4 => ?_, fun h3 h4 => ?_⟩
 ·rcases List.mem_append.1 hx with h | h
  ·obtain ⟨f, a, b, c⟩ := h1.snd x h; exact ⟨f, a, .inl b, c⟩
  ·obtain ⟨f, a, b, c⟩ := h2.snd x h; exact ⟨f, a, .inr b, c⟩
 ·refine List.nodup_append.2 ⟨h1.nd, h2.nd, fun x hx y hy e => ?_⟩
  obtain ⟨f, _, a, b⟩ := h1.snd x hx
  obtain ⟨g, _, c, d⟩ := h2.snd y hy
  exact hd f g a c (by rw [← b, ← d]; exact e)
 ·obtain ⟨rfl, k1⟩ := h1.ful hf
  obtain ⟨rfl, k2⟩ := h2.ful k1
  exact ⟨rfl, k2⟩
 ·rw [List.length_append]
  cases hq : f1 with
  | true =>
   obtain ⟨rfl, _⟩ := h2.ful hq
   have := h1.hi h3 hq
   simpa using this
  | false =>
   have := h2.hi hq h4
   omega
 ·have hq : f1 = false := by
   cases hq : f1 with
   | false => rfl
   | true => rw [(h2.ful hq).2] at h4; cases h4
  have k1 := h1.lo h3 hq
  have k2 := h2.lo hq h4
  rw [List.length_append]
  refine ⟨by omega, fun f hf hp => List.mem_append.2 ?_⟩
  rcases hp with h | h
  ·exact .inl (k1.2 f hf h)
  ·exact .inr (k2.2 f hf h)
theorem Sp.of {P Q : (Nat → Nat) → Prop} {n0 : Nat} {full f1 : Bool} {new : List (List Int)} (h : Sp N L P n0 full new f1) (h1 : ∀ f, CL N L f → P f → Q f) (h2 : ∀ f, CL N L f → Q f → P f) : Sp N L Q n0 full new f1 :=
 ⟨fun x hx => by obtain ⟨f, a, b, c⟩ := h.snd x hx; exact ⟨f, a, h1 f a b, c⟩, h.nd, h.ful, h.hi, fun a b => ⟨(h.lo a b).1, fun f hf hq => (h.lo a b).2 f hf (h2 f hf hq)⟩⟩
theorem Sp.pre {P : (Nat → Nat) → Prop} {n0 : Nat} {full f1 : Bool} {new : List (List Int)} (h : Sp N L P n0 full new f1) : f1 = false → n0 + new.length ≤ 200 := fun hf => by
 cases hq : full with
 | true => rw [(h.ful hq).2] at hf; cases hf
 | false => exact (h.lo hq hf).1
theorem Sp.len {P : (Nat → Nat) → Prop} {n0 : Nat} {full f1 : Bool} {new : List (List Int)} (h : Sp N L P n0 full new f1) (h0 : n0 ≤ 201) : n0 + new.length ≤ 201 := by
 cases hq : full with
 | true => rw [(h.ful hq).1]; simpa using h0
 | false =>
  cases hf : f1 with
  | true => rw [h.hi hq hf]; exact Nat.le_refl _
  | false => have := (h.lo hq hf).1; omega
theorem fix_CL {E : DD} (hF : Fix N L E) {f : Nat → Nat} (h : ∀ j, j < N → (f j = 1 ∨ f j = 2 ∨ f j = 3) ∧ E j = yW (f j)) : CL N L f := by
 have hpr : ∀ {i j : Nat}, j < N → vD L j i → (j : Int) ∈ yR N L (i : Int) := fun hj he => (zLE hj).2 he
 refine ⟨fun i hi => (h i hi).1, fun i hi h1 j hj he => ?_, fun i hi h1 => ?_, fun i hi h1 => ?_⟩
 ·have h2 := hF i hi
  rw [(h i hi).2, h1] at h2
  have h3 : (zW8 N L E i).1 = true := h2.1 rfl
  have h4 := List.all_eq_true.1 h3 (j : Int) (hpr hj he)
  rw [Int.toNat_natCast, (h j hj).2] at h4
  simpa [yW] using h4
 ·have h2 := hF i hi
  rw [(h i hi).2, h1] at h2
  have h3 : (zW8 N L E i).2.1 = true := h2.2.1 rfl
  obtain ⟨x, hx, h4⟩ := List.any_eq_true.1 h3
  obtain ⟨j, rfl, hj⟩ := zJv x hx
  rw [Int.toNat_natCast, (h j hj).2] at h4
  exact ⟨j, hj, (zLE hj).1 hx, by simpa [yW] using h4⟩
 ·have h2 := hF i hi
  rw [(h i hi).2, h1] at h2
  have h3 : (zW8 N L E i).2.2 = true := h2.2.2 rfl
  unfold zW8 at h3
  simp only [Bool.and_eq_true] at h3
  obtain ⟨h4, h5⟩ := h3
  obtain ⟨x, hx, h6⟩ := List.any_eq_true.1 h5
  obtain ⟨j, rfl, hj⟩ := zJv x hx
  rw [Int.toNat_natCast, (h j hj).2] at h6
  refine ⟨⟨j, hj, (zLE hj).1 hx, by simpa [yW] using h6⟩, fun j hj he h7 => ?_⟩
  have h8 := List.all_eq_true.1 h4 (j : Int) (hpr hj he)
  rw [Int.toNat_natCast, (h j hj).2, h7] at h8
  exact Bool.noConfusion h8
theorem zXp (hN : N ≤ 40) : ∀ (k : Nat) (D : DD) (vH : List (List Int)) (full : Bool), Emp N D → zXg D 40 < k → vH.length ≤ 201 → (full = false → vH.length ≤ 200) →
  ∃ d' new full', (∀ m, k ≤ m → zBV m ((N : Int), tB N L, dA D, vH, full) = some (d', vH ++ new, full')) ∧ Sp N L (zZC N D) vH.length full new full'
 | 0, _, _, _, _, h, _, _ => absurd h (Nat.not_lt_zero _)
 | k + 1, D, vH, full, hE, hk, hl, hf => by
  cases full with
  | true =>
   refine ⟨dA D, [], true, fun m hm => ?_, ⟨fun x hx => (by cases hx), List.nodup_nil, fun _ => ⟨rfl, rfl⟩, fun h => (by cases h), fun h => (by cases h)⟩⟩
   obtain ⟨m, rfl⟩ : ∃ q, m = q + 1 := ⟨m - 1, by omega⟩
   simp [zBV, zAu]
  | false =>
   have hf := hf rfl
   rcases zYb (L := L) hN D hE vH false with ⟨E, hs, hK, hF, hne⟩ | ⟨E, hs, hle, hdead⟩
   ·rcases zYS hN E hne (tB N L) vH false with ⟨f, hlab, hsg⟩ | ⟨i, hi, hlab, hp⟩
    ·
     have hcl := fix_CL hF hsg
     have hcE : zZC N E f := fun j hj => by rw [(hsg j hj).2]; exact z1A (hsg j hj).1
     refine ⟨dA E, [yL N f], decide (vH.length = 200), fun m hm => ?_, ?_⟩
     ·obtain ⟨m, rfl⟩ : ∃ q, m = q + 1 := ⟨m - 1, by omega⟩
      show zAu _ _ = _
      unfold zAu
      simp only [zbf, if_false, hs, zob, Bool.not_true, hlab]
      rw [show decide ((-1 : Int) < 0) = true from rfl]
      simp only [if_true]
      rw [yP (by simp only [List.length_cons, List.length_nil]; omega), zob]
      congr 3
      rw [Bool.eq_iff_iff]
      simp only [len, beq_iff_eq, decide_eq_true_eq]
      omega
     ·refine ⟨fun x hx => ?_, List.nodup_cons.2 ⟨by simp, List.nodup_nil⟩, fun h => (by cases h), fun _ h => ?_, fun _ h => ?_⟩
      ·simp only [List.mem_singleton] at hx
       exact ⟨f, hcl, fun j hj => zYD (hK.1 j) (hcE j hj), hx⟩
      ·simp only [decide_eq_true_eq] at h
       simp only [List.length_cons, List.length_nil]; omega
      ·simp only [decide_eq_false_iff_not] at h
       simp only [List.length_cons, List.length_nil]
       refine ⟨by omega, fun g hg hc => List.mem_singleton.2 (z0x fun j hj => ?_)⟩
       have := hK.2 g hg hc j hj
       rw [(hsg j hj).2] at this
       exact zZX (hsg j hj).1 this
    ·
     have hlt : zXg E 40 ≤ zXg D 40 := zUC hK.1 40
     have hEmpE := hE.le hK.1
     have one : ∀ c : Nat, c = 1 ∨ c = 2 ∨ c = 3 → ∀ (fn : List (List Int)) (fu : Bool), fn.length ≤ 201 → (fu = false → fn.length ≤ 200) →
       ∃ new fu', (∀ m, k ≤ m → ∀ (q : Int) (z : List Int), zI ([2, 4, 8] : List Int) q = some (eD (yW c)) → decide (q < (len ([2, 4, 8] : List Int))) = true →
        zBL ([], (i : Int)) (false, dA E, vH) (zBV m) ((N : Int), tB N L, dA D, vH, false) (q, fn, fu) = some (.inl (zR (q + 1), fn ++ new, fu'))) ∧ Sp N L (fun f => zZC N E f ∧ f i = c) fn.length fu new fu' := by
      intro c hc fn fu hfn hfu
      by_cases hh : zWU (E i) c = true
      ·have hle := sgl_le hc hh
       have hpp : zZl (yW c) < zZl (E i) := by rw [z2U hc]; omega
       have hsum := zZe hle hpp 40 (by omega)
       obtain ⟨d', new, fu', h1, h2⟩ := zXp hN k (tC E i (yW c)) fn fu (hEmpE.le (zSF hle)) (by omega) hfn hfu
       refine ⟨new, fu', fun m hm q z hq hd => ?_, h2.of (fun f hf hcn => ⟨fun j hj => zYD (zSF hle j) (hcn j hj), zZX hc (by have := hcn i hi; rwa [show tC E i (yW c) i = yW c from if_pos rfl] at this)⟩)
        (fun f hf hcn j hj => by
         unfold tC
         split
         ·rename_i e; subst e; rw [hcn.2]; exact z1A hc
         ·exact hcn.1 j hj)⟩
       unfold zBL
       simp only [hd, if_true, hq, zob]
       rw [zMQ (K := 40) rfl (show i < 40 by omega), zob, zKT E (by omega), zYg]
       have hm1 : mD (E i) (yW c) = true := by
        rcases hc with rfl | rfl | rfl
        ·simp [mD, yW, show (E i).1 = true from hh]
        ·simp [mD, yW, show (E i).2.1 = true from hh]
        ·simp [mD, yW, show (E i).2.2 = true from hh]
       rw [hm1]
       simp only [if_true, zob]
       rw [zWz E (by omega), h1 m hm, zob]
      ·refine ⟨[], fu, fun m hm q z hq hd => ?_, Sp.none hfu fun f hf hcn => hh (by have := hcn.1 i hi; rwa [hcn.2] at this)⟩
       unfold zBL
       simp only [hd, if_true, hq, zob]
       rw [zMQ (K := 40) rfl (show i < 40 by omega), zob, zKT E (by omega), zYg]
       have hm1 : mD (E i) (yW c) = false := by
        have hh' : zWU (E i) c = false := by simpa using hh
        rcases hc with rfl | rfl | rfl
        ·simp [mD, yW, show (E i).1 = false from hh']
        ·simp [mD, yW, show (E i).2.1 = false from hh']
        ·simp [mD, yW, show (E i).2.2 = false from hh']
       rw [hm1]
       simp only [zbf, if_false, List.append_nil]
     obtain ⟨n1, f1, a1, b1⟩ := one 1 (by decide) vH false hl fun _ => hf
     obtain ⟨n2, f2, a2, b2⟩ := one 2 (by decide) (vH ++ n1) f1 (by rw [List.length_append]; exact b1.len hl) (by rw [List.length_append]; exact b1.pre)
     rw [List.length_append] at b2
     have c2 := b1.or b2 fun f g hf hg he => by have := zZ2 he i hi; omega
     obtain ⟨n3, f3, a3, b3⟩ := one 3 (by decide) (vH ++ n1 ++ n2) f2 (by rw [List.append_assoc, List.length_append]; exact c2.len hl) (by rw [List.append_assoc, List.length_append]; exact c2.pre)
     rw [List.append_assoc, List.length_append] at b3
     have c3 := c2.or b3 fun f g hf hg he => by have := zZ2 he i hi; rcases hf with hf | hf <;> omega
     refine ⟨dA E, n1 ++ n2 ++ n3, f3, fun m hm => ?_, c3.of (fun f hf hp => ?_) fun f hf hc => ?_⟩
     ·obtain ⟨m, rfl⟩ : ∃ q, m = q + 1 := ⟨m - 1, by omega⟩
      show zAu _ _ = _
      unfold zAu
      simp only [zbf, if_false, hs, zob, Bool.not_true, hlab]
      have hneg : decide ((i : Int) < 0) = false := by simp
      rw [hneg]
      simp only [zbf, if_false]
      rw [yH, a1 m (by omega) 0 [] rfl rfl]
      show zV _ (zR (0 + 1), _) = _
      rw [show zR (0 + 1) = 1 from rfl, yH, a2 m (by omega) 1 [] rfl rfl]
      show zV _ (zR (1 + 1), _) = _
      rw [show zR (1 + 1) = 2 from rfl, yH, a3 m (by omega) 2 [] rfl rfl]
      show zV _ (zR (2 + 1), _) = _
      rw [show zR (2 + 1) = 3 from rfl, yH]
      have hend : zBL ([], (i : Int)) (false, dA E, vH) (zBV m) ((N : Int), tB N L, dA D, vH, false) (3, vH ++ n1 ++ n2 ++ n3, f3) = some (.inr (dA E, vH ++ n1 ++ n2 ++ n3, f3)) := by
       unfold zBL
       rw [show decide ((3 : Int) < (len ([2, 4, 8] : List Int))) = false from rfl]
       rfl
      rw [hend]
      simp only [List.append_assoc]
     ·rcases hp with (hp | hp) | hp <;> exact fun j hj => zYD (hK.1 j) (hp.1 j hj)
     ·have hcE := hK.2 f hf hc
      rcases hf.r i hi with h | h | h
      ·exact .inl (.inl ⟨hcE, h⟩)
      ·exact .inl (.inr ⟨hcE, h⟩)
      ·exact .inr ⟨hcE, h⟩
   ·refine ⟨dA E, [], false, fun m hm => ?_, Sp.none (fun _ => hf) fun f hcl hc => hdead f hcl hc⟩
    obtain ⟨m, rfl⟩ : ∃ q, m = q + 1 := ⟨m - 1, by omega⟩
    show zAu _ _ = _
    unfold zAu
    simp only [zbf, if_false, hs, zob, Bool.not_false, if_true, List.append_nil]
theorem zYx (h : vN N L) : zV (zBd ((N : Int), L)) (0, ([] : List (List Int)), (List.replicate 40 (0 : Int))) = some (tB N L, dA fun j => if j < N then (true, true, true) else (false, false, false)) := by
 have hN := h.hN
 have key : ∀ (m i : Nat), i + m = N → zV (zBd ((N : Int), L)) ((i : Int), (vT i).map (yR N L), dA fun j => if j < i then (true, true, true) else (false, false, false)) = some (tB N L, dA fun j => if j < N then (true, true, true) else (false, false, false)) := by
  intro m
  induction m with
  | zero =>
   intro i hi
   rw [Nat.add_zero] at hi
   subst hi
   rw [yH]
   unfold zBd
   simp [tB]
  | succ m ih =>
   intro i hi
   have hd : decide ((i : Int) < (N : Int)) = true := by simp; omega
   rw [yH]
   have hstep : zBd ((N : Int), L) ((i : Int), (vT i).map (yR N L), dA fun j => if j < i then (true, true, true) else (false, false, false)) =
     some (.inl (((i + 1 : Nat) : Int), (vT (i + 1)).map (yR N L), dA fun j => if j < i + 1 then (true, true, true) else (false, false, false))) := by
    unfold zBd
    simp only [hd, if_true]
    rw [zT0 h, zob, yP (by simp [xX]; omega), zob, zMQ (K := 40) rfl (show i < 40 by omega), zob, show (14 : Int) = eD (true, true, true) from rfl, zWz _ (by omega), uF i (by omega)]
    congr 4
    ·simp [vT, List.range_succ]
    ·refine congrArg dA (funext fun j => ?_)
     unfold tC
     by_cases hj : j = i
     ·simp [hj]
     ·simp only [hj, if_false]
      have : j < i ↔ j < i + 1 := by omega
      simp only [this]
   rw [hstep]
   exact ih (i + 1) (by omega)
 have := key N 0 (by omega)
 rw [zZh]
 refine Eq.trans ?_ this
 congr 1
theorem zUL (h : vN N L) : ∃ l : List (List Int), (∀ x ∈ l, ∃ f, CL N L f ∧ x = yL N f) ∧ l.Nodup ∧
  ((zAd ((N : Int), L) = some (l, 0) ∧ l.length ≤ 200 ∧ ∀ f, CL N L f → yL N f ∈ l) ∨ (zAd ((N : Int), L) = some ([], 2) ∧ l.length = 201)) := by
 have hN := h.hN
 obtain ⟨d', new, fu, h1, h2⟩ := zXp (L := L) hN (zXg (fun j => if j < N then (true, true, true) else (false, false, false)) 40 + 1) (fun j => if j < N then (true, true, true) else (false, false, false)) [] false
  (fun j hj => if_neg (by omega)) (Nat.lt_succ_self _) (by simp) (fun _ => by simp)
 have hfind : zDK ((N : Int), tB N L, dA (fun j => if j < N then (true, true, true) else (false, false, false)), [], false) = some (d', new, fu) := zQd _ h1
 refine ⟨new, fun x hx => by obtain ⟨f, a, _, b⟩ := h2.snd x hx; exact ⟨f, a, b⟩, h2.nd, ?_⟩
 have hall : ∀ f, CL N L f → zZC N (fun j => if j < N then (true, true, true) else (false, false, false)) f := fun f hf j hj => by
  simp only [hj, if_true]
  rcases hf.r j hj with q | q | q <;> rw [q] <;> rfl
 unfold zAd
 rw [h.v1]
 simp only [zob, bne_self_eq_false, zbf, if_false]
 rw [zYx h, zob, hfind]
 simp only [zob]
 cases hfu : fu with
 | true =>
  have := h2.hi rfl hfu
  exact .inr ⟨by simp, by simpa using this⟩
 | false =>
  have := h2.lo rfl hfu
  exact .inl ⟨by simp, by simpa using this.1, fun f hf => this.2 f hf (hall f hf)⟩
end
end
section
section
variable {N : Nat} {L : List qW}
theorem z42 {i : Nat} : (wU N L N i).toNat = 1 ↔ uK N L N i := by
 rw [← z3s N L]
 rcases zQh N L N i with h | h | h <;> rw [h] <;> decide
theorem grf_2 {i : Nat} : (wU N L N i).toNat = 2 ↔ tF (vD L) (uK N L N) i := by
 rw [← zUl N L]
 rcases zQh N L N i with h | h | h <;> rw [h] <;> decide
theorem zZD (h : vN N L) : CL N L fun i => (wU N L N i).toNat := by
 refine ⟨fun i _ => by rcases zQh N L N i with h | h | h <;> rw [h] <;> decide, fun i _ hi j _ he => ?_, fun i _ hi => ?_, fun i hiN hi => ?_⟩
 ·have := zNq (z42.1 hi)
  exact grf_2.2 (this.2 j he)
 ·obtain ⟨m, h1, h2⟩ := grf_2.1 hi
  exact ⟨m, zPN (D := (· < N)) h1, h2, z42.2 h1⟩
 ·have h3 : wU N L N i = 3 := by rcases zQh N L N i with h | h | h <;> rw [h] at hi ⊢ <;> first | rfl | (exact absurd hi (by decide))
  obtain ⟨g1, g2⟩ := (z4s N L).1 h3
  refine ⟨?_, fun j _ he h1 => g2 ⟨j, z42.1 h1, he⟩⟩
  apply Classical.byContradiction
  intro hno
  refine zTS N L (i := i) ⟨⟨hiN, fun j he => ?_⟩, g1⟩
  have hj : j < N := by
   obtain ⟨m, hm, e⟩ := h.hR _ _ he
   omega
  rcases zQh N L N j with q | q | q
  ·exact absurd ⟨j, (z3s N L).1 q, he⟩ g2
  ·exact (zUl N L).1 q
  ·exact absurd ⟨j, hj, he, by rw [q]; rfl⟩ hno
theorem zXX {α : Type} {B : Int → Option (Int ⊕ Int)} (l : List α) (q : α → Bool) (hB : ∀ (i : Nat) x, l[i]? = some x → B (i : Int) = some (if q x then .inr (i : Int) else .inl ((i + 1 : Nat) : Int))) (he : B (l.length : Int) = some (.inr (-1))) :
  ((zV B 0 : Option Int).bind fun r => some (decide (0 ≤ r))) = some (l.any q) := by
 rw [zTq q l (-1) id hB he]
 show ((some (if l.any q then zXk q l else -1) : Option Int).bind _) = _
 rw [zYv, zob]
 congr 1
 cases ha : l.any q with
 | true => exact decide_eq_true (by have := mt zZZ.1 (show ¬ _ = false by rw [ha]; simp); omega)
 | false => exact decide_eq_false (by have := zZZ.2 ha; omega)
theorem zSO {α β : Type} {B : List β × Int → Option ((List β × Int) ⊕ (List β × Int))} (l : List α) (g : α → β) (hl : l.length ≤ 100000) (hB : ∀ (i : Nat) x s, l[i]? = some x → B (s, (i : Int)) = (wE s [g x]).bind fun z => some (.inl (z, ((i + 1 : Nat) : Int)))) (he : ∀ s, B (s, (l.length : Int)) = some (.inr (s, 0))) :
  zV B ([], 0) = some (l.map g, 0) := by
 have h := zCf (B := B) l (fun s x => s ++ [g x]) (fun s => (s, (0 : Int))) (fun i s => s.length ≤ i) ([] : List β) (by simp) (fun i x s hx hI => by
  have := vQ hx
  rw [hB i x s hx, yP (by simp; omega)]
  exact ⟨rfl, by simp; omega⟩) (fun s _ => he s)
 rw [h.1, zJL]; rfl
theorem zP9 {α β : Type} {B : List α × Int → Option ((List α × Int) ⊕ β)} (l : List α) (q : α → Bool) (fin : List α → β) (hl : l.length ≤ 100000) (hB : ∀ (i : Nat) x s, l[i]? = some x → B (s, (i : Int)) = if q x = true then (wE s [x]).bind fun z => some (.inl (z, ((i + 1 : Nat) : Int))) else some (.inl (s, ((i + 1 : Nat) : Int)))) (he : ∀ s, B (s, (l.length : Int)) = some (.inr (fin s))) :
  zV B ([], 0) = some (fin (l.filter q)) := by
 have h := zCf (B := B) l (fun s x => if q x = true then s ++ [x] else s) fin (fun i s => s.length ≤ i) ([] : List α) (by simp) (fun i x s hx hI => by
  have := vQ hx
  rw [hB i x s hx]
  cases q x with
  | true => simp only [if_true]; rw [yP (by simp; omega)]; exact ⟨rfl, by simp; omega⟩
  | false => exact ⟨rfl, by simp; omega⟩) (fun s _ => he s)
 rw [h.1, zDH q (fun x => x) l []]
 simp
def zXB (x y : List Int) : Bool := decide (x.length < y.length) && x.all fun i => decide (i ∈ y)
theorem zVN (x y : List Int) (hx : x.length < 4294967296) (hy : y.length < 4294967296) : zCX x y = some (zXB x y) := by
 have h1 : zAC x y = some (x.any fun i => !decide (i ∈ y)) := by
  unfold zAC zA5
  refine zXX x (fun i => !decide (i ∈ y)) (fun i u hu => ?_) (by unfold zAU; simp [len])
  unfold zAU zDL
  simp only [wZ hu, if_true, wV hu, zob, wY hu hx, zPQ y u (by omega)]
  cases decide (u ∈ y) <;> rfl
 unfold zCX
 rw [h1]
 unfold zXB
 have hd : decide ((len x) < (len y)) = decide (x.length < y.length) := by rw [decide_eq_decide]; simp only [len]; omega
 rw [hd, show (x.all fun i => decide (i ∈ y)) = !(x.any fun i => !decide (i ∈ y)) from List.all_eq_not_any_not]
 cases decide (x.length < y.length) <;> simp
theorem zMo (x : List Int) (hx : x.length < 1000000) (k : Int) : zB3 x [k] = some (yI x k) := by
 have h := zEm x k
 unfold zB3
 rw [zTn (s' := (yI x k, 1)) (by unfold zCq; simp only [zLM x _ (show x.length < 4294967000 by omega), zI, len]; simp [yP (show ([] : List Int).length + (yI x k).length < 4294967296 by simp; omega)]; rfl)]
 rw [z1N (r := yI x k) (by unfold zCq; rfl)]
def zSm (x y : List Int) : Bool := zXB (yI y 1) (yI x 1)
theorem z2p (x y : List Int) (hx : x.length < 1000000) (hy : y.length < 1000000) : zBy x y = some (zSm x y) := by
 have h1 := zEm x 1
 have h2 := zEm y 1
 unfold zBy
 rw [zMo y hy, zob, zMo x hx, zob, zVN _ _ (by omega) (by omega)]
 rfl
theorem z3q {l : List (List Int)} (hl : l.length < 4294967296) (hs : ∀ x ∈ l, x.length < 1000000) {y : List Int} (hy : y.length < 1000000) : zAI l y = some (l.any fun x => zSm x y) := by
 unfold zAI zAg
 refine zXX l (fun x => zSm x y) (fun i u hu => ?_) (by unfold zAZ; simp [len])
 unfold zAZ zAa
 simp only [wZ hu, if_true, wV hu, zob, wY hu hl, z2p u y (hs u (vK hu)) hy]
 cases zSm u y <;> rfl
end
end
section
def z5b : Nat → List (List Bool)
 | 0 => [[]]
 | n + 1 => (z5b n).map (true :: ·) ++ (z5b n).map (false :: ·)
theorem zZV : ∀ n, (z5b n).length = 2 ^ n
 | 0 => rfl
 | n + 1 => by rw [z5b, List.length_append, List.length_map, List.length_map, zZV n, Nat.pow_succ]; omega
theorem zWE : ∀ (l : List Bool), l ∈ z5b l.length
 | [] => List.mem_cons_self
 | true :: l => List.mem_append_left _ (List.mem_map.2 ⟨l, zWE l, rfl⟩)
 | false :: l => List.mem_append_right _ (List.mem_map.2 ⟨l, zWE l, rfl⟩)
theorem zYK {α : Type} {l : List α} (hn : l.Nodup) (φ : α → List Bool) (n : Nat) (hl : ∀ x ∈ l, (φ x).length = n) (hi : ∀ x ∈ l, ∀ y ∈ l, φ x = φ y → x = y) : l.length ≤ 2 ^ n := by
 have hnd : (l.map φ).Nodup := by
  rw [List.nodup_iff_pairwise_ne, List.pairwise_map]
  exact List.Pairwise.imp_of_mem (R := fun a b => a ≠ b) (fun {a c} ha hc hne h => hne (hi a ha c hc h)) hn
 have := zLr hnd (m := z5b n) fun y hy => by
  obtain ⟨x, hx, rfl⟩ := List.mem_map.1 hy
  have := zWE (φ x)
  rwa [hl x hx] at this
 rwa [List.length_map, zZV] at this
theorem zSX {α : Type} (p : α → Bool) (l : List α) : (l.filter p).length + (l.filter fun x => !p x).length = l.length := by
 induction l with
 | nil => rfl
 | cons x l ih =>
  rw [List.filter_cons, List.filter_cons]
  cases p x <;> simp <;> omega
def gB : Nat → Nat → Nat
 | 0, _ => 1
 | 1, v => min 2 (2 ^ v)
 | u + 2, v => max (min (2 ^ (u + 2)) (2 ^ v)) (gB u v + gB (u + 1) (v + 1))
theorem gB_min (u v : Nat) : min (2 ^ u) (2 ^ v) ≤ gB u v := by
 match u with
 | 0 => simp [gB]; omega
 | 1 => simp [gB]
 | u + 2 => exact Nat.le_max_left _ _
theorem z4T (u v : Nat) : gB u v + gB (u + 1) (v + 1) ≤ gB (u + 2) v := by
 rw [gB]; exact Nat.le_max_right _ _
theorem gB_v (u v : Nat) : gB u v ≤ gB u (v + 1) := by
 match u with
 | 0 => exact Nat.le_refl _
 | 1 =>
  have : 2 ^ v ≤ 2 ^ (v + 1) := Nat.pow_le_pow_right (by omega) (by omega)
  simp only [gB]; omega
 | u + 2 =>
  have h1 := gB_v u v
  have h2 := gB_v (u + 1) (v + 1)
  have : 2 ^ v ≤ 2 ^ (v + 1) := Nat.pow_le_pow_right (by omega) (by omega)
  simp only [gB]; omega
theorem gB_u (u v : Nat) : gB u v ≤ gB (u + 1) v := by
 match u with
 | 0 =>
  have : 0 < 2 ^ v := Nat.pow_pos (by omega)
  simp only [gB]; omega
 | u + 1 =>
  have h1 := gB_v (u + 1) v
  have h2 := z4T u v
  show gB (u + 1) v ≤ gB (u + 2) v
  omega
theorem zYd {u u' v v' : Nat} (hu : u' ≤ u) (hv : v' ≤ v) : gB u' v' ≤ gB u v := by
 have h1 : ∀ k, gB u' v' ≤ gB u' (v' + k) := fun k => by
  induction k with
  | zero => exact Nat.le_refl _
  | succ k ih => exact Nat.le_trans ih (gB_v _ _)
 have h2 : ∀ k w, gB u' w ≤ gB (u' + k) w := fun k w => by
  induction k with
  | zero => exact Nat.le_refl _
  | succ k ih => exact Nat.le_trans ih (gB_u _ _)
 have := Nat.le_trans (h1 (v - v')) (h2 (u - u') _)
 rwa [show u' + (u - u') = u by omega, show v' + (v - v') = v by omega] at this
theorem z5Q : gB 9 0 = 121 := by decide +kernel
section
variable {N : Nat} {L : List qW}
theorem CL.two {f : Nat → Nat} (h : CL N L f) {i : Nat} (hi : i < N) {j : Nat} (hj : j < N) (he : vD L j i) (h1 : f j = 1) : f i = 2 := by
 rcases h.r i hi with q | q | q
 ·have := h.i1 i hi q j hj he
  omega
 ·exact q
 ·exact absurd h1 ((h.i3 i hi q).2 j hj he)
theorem CL.one {f : Nat → Nat} (h : CL N L f) {i : Nat} (hi : i < N) (ha : ∀ j, j < N → vD L j i → f j = 2) : f i = 1 := by
 rcases h.r i hi with q | q | q
 ·exact q
 ·obtain ⟨j, hj, he, h1⟩ := h.i2 i hi q
  have := ha j hj he
  omega
 ·obtain ⟨⟨j, hj, he, h1⟩, _⟩ := h.i3 i hi q
  have := ha j hj he
  omega
theorem CL.ext {f g : Nat → Nat} (hf : CL N L f) (hg : CL N L g) (h : ∀ i, i < N → (f i = 1 ↔ g i = 1)) : ∀ i, i < N → f i = g i := by
 intro i hi
 have h2 : f i = 2 ↔ g i = 2 := by
  constructor
  ·intro q
   obtain ⟨j, hj, he, h1⟩ := hf.i2 i hi q
   exact hg.two hi hj he ((h j hj).1 h1)
  ·intro q
   obtain ⟨j, hj, he, h1⟩ := hg.i2 i hi q
   exact hf.two hi hj he ((h j hj).2 h1)
 have h1 := h i hi
 rcases hf.r i hi with q | q | q <;> rcases hg.r i hi with p | p | p <;> omega
structure StL (N : Nat) (L : List qW) (U V : List Nat) (d : Nat → Bool) (Ls : List (List Int)) : Prop where
 cl : ∀ x ∈ Ls, ∃ f, CL N L f ∧ x = yL N f
 nd : Ls.Nodup
 uN : ∀ a ∈ U, a < N
 blk : ∀ f, CL N L f → yL N f ∈ Ls → ∀ i, i < N → i ∈ V → f i ≠ 1
 dec1 : ∀ f, CL N L f → yL N f ∈ Ls → ∀ i, i < N → i ∉ U → i ∉ V → d i = true → f i = 1
 dec0 : ∀ f, CL N L f → yL N f ∈ Ls → ∀ i, i < N → i ∉ U → i ∉ V → d i = false → f i = 2
 far : ∀ a ∈ U, ∀ i, i < N → i ∉ U → i ∉ V → d i = true → ¬ vD L i a
theorem StL.same {U V : List Nat} {d : Nat → Bool} {Ls : List (List Int)} (h : StL N L U V d Ls) {f g : Nat → Nat} (hf : CL N L f) (hg : CL N L g) (hx : yL N f ∈ Ls) (hy : yL N g ∈ Ls) (he : ∀ i, i < N → i ∈ U → (f i = 1 ↔ g i = 1)) : yL N f = yL N g := by
 refine z0x (hf.ext hg fun i hi => ?_)
 by_cases hU : i ∈ U
 ·exact he i hi hU
 ·by_cases hV : i ∈ V
  ·exact ⟨fun q => absurd q (h.blk f hf hx i hi hV), fun q => absurd q (h.blk g hg hy i hi hV)⟩
  ·cases hd : d i with
   | true => exact ⟨fun _ => h.dec1 g hg hy i hi hU hV hd, fun _ => h.dec1 f hf hx i hi hU hV hd⟩
   | false =>
    have h1 := h.dec0 f hf hx i hi hU hV hd
    have h2 := h.dec0 g hg hy i hi hU hV hd
    omega
open Classical in
theorem z3f : ∀ (n : Nat) (U V : List Nat) (d : Nat → Bool) (Ls : List (List Int)), U.length ≤ n → StL N L U V d Ls → Ls.length ≤ gB U.length V.length := by
 intro n
 induction n with
 | zero =>
  intro U V d Ls hU h
  have hU' : U = [] := List.eq_nil_of_length_eq_zero (by omega)
  subst hU'
  have := zYK h.nd (fun _ => []) 0 (fun _ _ => rfl) fun x hx y hy _ => by
   obtain ⟨f, hf, rfl⟩ := h.cl x hx
   obtain ⟨g, hg, rfl⟩ := h.cl y hy
   exact h.same hf hg hx hy fun i _ hi => by simp at hi
  simpa [gB] using this
 | succ n ih =>
  intro U V d Ls hU h
  by_cases hex : ∃ a ∈ U, ∃ b ∈ U, a ≠ b ∧ (vD L a b ∨ vD L b a)
  ·obtain ⟨a, ha, b, hb, hab, hnb⟩ := hex
   have haN := h.uN a ha
   have hA : (Ls.filter fun x => decide (x[a]? = some 1)).length ≤ gB (U.length - 2) V.length := by
    have h2 : (U.filter fun i => !(decide (i = a ∨ vD L a i ∨ vD L i a))).length + 2 ≤ U.length := by
     have e := zSX (fun i => decide (i = a ∨ vD L a i ∨ vD L i a)) U
     have : 2 ≤ (U.filter fun i => decide (i = a ∨ vD L a i ∨ vD L i a)).length :=
      zLr (l := [a, b]) (by simp [hab]) fun x hx => by
       rcases List.mem_cons.1 hx with rfl | hx
       ·exact List.mem_filter.2 ⟨ha, by simp⟩
       ·rw [List.mem_singleton] at hx
        subst hx
        exact List.mem_filter.2 ⟨hb, by simp only [decide_eq_true_eq]; exact .inr hnb⟩
     omega
    refine Nat.le_trans (ih (U.filter fun i => !(decide (i = a ∨ vD L a i ∨ vD L i a))) (V.filter fun i => !(decide (i = a ∨ vD L a i ∨ vD L i a))) (fun i => if i = a then true else if vD L a i ∨ vD L i a then false else d i) _ (by omega) ?_) (zYd (by omega) (List.length_filter_le _ _))
    have hin : ∀ f, yL N f ∈ (Ls.filter fun x => decide (x[a]? = some 1)) → yL N f ∈ Ls ∧ f a = 1 := fun f hf => by
     obtain ⟨g1, g2⟩ := List.mem_filter.1 hf
     refine ⟨g1, ?_⟩
     rw [zE3 haN] at g2
     have : ((f a : Nat) : Int) = 1 := by simpa using g2
     omega
    have hout : ∀ f, CL N L f → f a = 1 → ∀ i, i < N → (vD L a i ∨ vD L i a) → f i = 2 := fun f hf h1 i hi hn => by
     rcases hn with hn | hn
     ·exact hf.two hi haN hn h1
     ·exact hf.i1 a haN h1 i hi hn
    have hmem : ∀ W : List Nat, ∀ i, i ∉ (W.filter fun i => !(decide (i = a ∨ vD L a i ∨ vD L i a))) → i ≠ a → ¬ (vD L a i ∨ vD L i a) → i ∉ W := fun W i hi h1 h2 hW => hi (List.mem_filter.2 ⟨hW, by
     rw [Bool.not_eq_true', decide_eq_false_iff_not]
     rintro (q | q)
     ·exact h1 q
     ·exact h2 q⟩)
    refine ⟨fun x hx => h.cl x (List.mem_filter.1 hx).1, h.nd.sublist List.filter_sublist, fun i hi => h.uN i (List.mem_filter.1 hi).1, fun f hf hm i hi hV => h.blk f hf (hin f hm).1 i hi (List.mem_filter.1 hV).1, ?_, ?_, ?_⟩
    ·intro f hf hm i hi hiU hiV hd
     by_cases h1 : i = a
     ·rw [h1]; exact (hin f hm).2
     ·rw [if_neg h1] at hd
      by_cases h2 : vD L a i ∨ vD L i a
      ·rw [if_pos h2] at hd; cases hd
      ·rw [if_neg h2] at hd
       exact h.dec1 f hf (hin f hm).1 i hi (hmem U i hiU h1 h2) (hmem V i hiV h1 h2) hd
    ·intro f hf hm i hi hiU hiV hd
     by_cases h1 : i = a
     ·rw [if_pos h1] at hd; cases hd
     ·rw [if_neg h1] at hd
      by_cases h2 : vD L a i ∨ vD L i a
      ·exact hout f hf (hin f hm).2 i hi h2
      ·rw [if_neg h2] at hd
       exact h.dec0 f hf (hin f hm).1 i hi (hmem U i hiU h1 h2) (hmem V i hiV h1 h2) hd
    ·intro c hc i hi hiU hiV hd he
     obtain ⟨hcU, hcn⟩ := List.mem_filter.1 hc
     rw [Bool.not_eq_true', decide_eq_false_iff_not] at hcn
     by_cases h1 : i = a
     ·subst h1; exact hcn (.inr (.inl he))
     ·rw [if_neg h1] at hd
      by_cases h2 : vD L a i ∨ vD L i a
      ·rw [if_pos h2] at hd; cases hd
      ·rw [if_neg h2] at hd
       exact h.far c hcU i hi (hmem U i hiU h1 h2) (hmem V i hiV h1 h2) hd he
   have hB : (Ls.filter fun x => !decide (x[a]? = some 1)).length ≤ gB (U.length - 1) (V.length + 1) := by
    have h2 : (U.filter fun i => !(decide (i = a))).length + 1 ≤ U.length := by
     have e := zSX (fun i => decide (i = a)) U
     have : 1 ≤ (U.filter fun i => decide (i = a)).length := zLr (l := [a]) (by simp) fun x hx => by
      rw [List.mem_singleton] at hx
      subst hx
      exact List.mem_filter.2 ⟨ha, by simp⟩
     omega
    refine Nat.le_trans (ih (U.filter fun i => !(decide (i = a))) (a :: V) d _ (by omega) ?_) (zYd (by omega) (by simp))
    have hin : ∀ f, yL N f ∈ (Ls.filter fun x => !decide (x[a]? = some 1)) → yL N f ∈ Ls ∧ f a ≠ 1 := fun f hf => by
     obtain ⟨g1, g2⟩ := List.mem_filter.1 hf
     refine ⟨g1, fun h1 => ?_⟩
     rw [zE3 haN, h1] at g2
     simp at g2
    have hmem : ∀ i, i ∉ (U.filter fun i => !(decide (i = a))) → i ≠ a → i ∉ U := fun i hi h1 hW => hi (List.mem_filter.2 ⟨hW, by simp [h1]⟩)
    refine ⟨fun x hx => h.cl x (List.mem_filter.1 hx).1, h.nd.sublist List.filter_sublist, fun i hi => h.uN i (List.mem_filter.1 hi).1, fun f hf hm i hi hV => ?_, ?_, ?_, ?_⟩
    ·rcases List.mem_cons.1 hV with rfl | hV
     ·exact (hin f hm).2
     ·exact h.blk f hf (hin f hm).1 i hi hV
    ·intro f hf hm i hi hiU hiV hd
     exact h.dec1 f hf (hin f hm).1 i hi (hmem i hiU fun e => hiV (e ▸ List.mem_cons_self)) (fun hV => hiV (List.mem_cons_of_mem _ hV)) hd
    ·intro f hf hm i hi hiU hiV hd
     exact h.dec0 f hf (hin f hm).1 i hi (hmem i hiU fun e => hiV (e ▸ List.mem_cons_self)) (fun hV => hiV (List.mem_cons_of_mem _ hV)) hd
    ·intro c hc i hi hiU hiV hd
     exact h.far c (List.mem_filter.1 hc).1 i hi (hmem i hiU fun e => hiV (e ▸ List.mem_cons_self)) (fun hV => hiV (List.mem_cons_of_mem _ hV)) hd
   have hsum := zSX (fun x : List Int => decide (x[a]? = some 1)) Ls
   have h2 : 2 ≤ U.length := zLr (l := [a, b]) (by simp [hab]) fun x hx => by
    rcases List.mem_cons.1 hx with rfl | hx
    ·exact ha
    ·rw [List.mem_singleton] at hx; subst hx; exact hb
   have hg := z4T (U.length - 2) V.length
   rw [show U.length - 2 + 1 = U.length - 1 by omega, show U.length - 2 + 2 = U.length by omega] at hg
   omega
  ·
   have hno : ∀ a ∈ U, ∀ b ∈ U, vD L a b → a = b := fun a ha b hb he => Classical.byContradiction fun hne => hex ⟨a, ha, b, hb, hne, .inl he⟩
   refine Nat.le_trans ?_ (gB_min _ _)
   refine Nat.le_min.2 ⟨?_, ?_⟩
   ·refine zYK h.nd (fun x => U.map fun i => decide (x[i]? = some 1)) U.length (fun _ _ => List.length_map _) fun x hx y hy he => ?_
    obtain ⟨f, hf, rfl⟩ := h.cl x hx
    obtain ⟨g, hg, rfl⟩ := h.cl y hy
    refine h.same hf hg hx hy fun i hi hiU => ?_
    have := List.map_inj_left.1 he i hiU
    rw [zE3 hi, zE3 hi, decide_eq_decide] at this
    simp only [Option.some.injEq] at this
    omega
   ·refine zYK h.nd (fun x => V.map fun i => decide (x[i]? = some 2)) V.length (fun _ _ => List.length_map _) fun x hx y hy he => ?_
    obtain ⟨f, hf, rfl⟩ := h.cl x hx
    obtain ⟨g, hg, rfl⟩ := h.cl y hy
    have hVV : ∀ j, j < N → j ∈ V → (f j = 2 ↔ g j = 2) := fun j hj hV => by
     have := List.map_inj_left.1 he j hV
     rw [zE3 hj, zE3 hj, decide_eq_decide] at this
     simp only [Option.some.injEq] at this
     omega
    have key : ∀ f g, CL N L f → CL N L g → yL N f ∈ Ls → yL N g ∈ Ls → (∀ j, j < N → j ∈ V → (f j = 2 → g j = 2)) → ∀ i, i < N → i ∈ U → f i = 1 → g i = 1 := by
     intro f g hf hg hx hy hV2 i hi hiU h1
     refine hg.one hi fun j hj hji => ?_
     have hfj := hf.i1 i hi h1 j hj hji
     by_cases hjU : j ∈ U
     ·have := hno j hjU i hiU hji
      subst this
      omega
     ·by_cases hjV : j ∈ V
      ·exact hV2 j hj hjV hfj
      ·cases hd : d j with
       | true => exact absurd hji (h.far i hiU j hj hjU hjV hd)
       | false => exact h.dec0 g hg hy j hj hjU hjV hd
    exact h.same hf hg hx hy fun i hi hiU => ⟨key f g hf hg hx hy (fun j hj hV => (hVV j hj hV).1) i hi hiU, key g f hg hf hy hx (fun j hj hV => (hVV j hj hV).2) i hi hiU⟩
theorem nine {Ls : List (List Int)} (hN : N ≤ 9) (h1 : ∀ x ∈ Ls, ∃ f, CL N L f ∧ x = yL N f) (h2 : Ls.Nodup) : Ls.length ≤ 121 := by
 have h := z3f N (List.range N) [] (fun _ => true) Ls (by simp) ⟨h1, h2, fun a ha => List.mem_range.1 ha, fun f _ _ i _ h => by simp at h, fun f _ _ i hi hU => absurd (List.mem_range.2 hi) hU, fun f _ _ i hi hU => absurd (List.mem_range.2 hi) hU, fun a _ i hi hU => absurd (List.mem_range.2 hi) hU⟩
 refine Nat.le_trans h (Nat.le_trans (zYd (u := 9) (v := 0) (by simpa using hN) (by simp)) (Nat.le_of_eq z5Q))
theorem zYq (h : vN N L) (hN : N ≤ 9) : ∃ l : List (List Int), zAd ((N : Int), L) = some (l, 0) ∧ l.length ≤ 121 ∧ l.Nodup ∧ (∀ x ∈ l, ∃ f, CL N L f ∧ x = yL N f) ∧ ∀ f, CL N L f → yL N f ∈ l := by
 obtain ⟨l, h1, h2, h3⟩ := zUL h
 have h4 := nine hN h1 h2
 rcases h3 with ⟨e1, _, e3⟩ | ⟨_, e2⟩
 ·exact ⟨l, e1, h4, h2, h1, e3⟩
 ·omega
end
end
section
section
variable {N : Nat} {L : List qW}
theorem z2i {m : Nat} (hm : m < 18446744073709551616) : zDQ (m : Int) = some (zO4 m) :=
 (show zDQ (m : Int) = zH6 (m : Int) from rfl).trans (z2A hm)
theorem z4A {l : List Int} (hb : l.length < 4294967296) (hl : ∀ x ∈ l, 0 ≤ x ∧ x < 64) : zEf l = some ((zPU l : Nat) : Int) := by
 have h := zCf (B := zE1 l) l (fun (m : Int) x => ((m.toNat ||| 2 ^ x.toNat : Nat) : Int)) id (fun i m => m = ((zPU (l.take i) : Nat) : Int)) (0 : Int) (by simp [zPU]) ?_ ?_
 ·have h2 := h.2
  rw [List.take_length] at h2
  have h1 := h.1
  rw [h2] at h1
  exact h1
 ·rintro i x s hx rfl
  obtain ⟨x0, x1⟩ := hl x (vK hx)
  obtain ⟨j, rfl⟩ := Int.eq_ofNat_of_zero_le x0
  have hlt : zPU (l.take i) < 18446744073709551616 := zVb fun y hy => (hl y (List.mem_of_mem_take hy)).2
  unfold zE1
  simp only [wZ hx, if_true, wV hx, zob]
  rw [zWZ (by omega)]
  simp only [zob, wY hx hb]
  rw [zWI hlt (zNz (by omega))]
  refine ⟨by simp, ?_⟩
  rw [xF hx]
  simp [zPU, List.foldl_append]
 ·intro s hI
  unfold zE1
  simp [len]
theorem z1p {i : Nat} (h : i < 64) : z1j .u64 0 (i : Int) = some 0 := by
 unfold z1j shl
 rw [if_neg (by omega)]
 simp [IntKind.wrap, IntKind.signed, IntKind.bits]
theorem zOi (h : vN N L) {m : Nat} (hm : m < 18446744073709551616) : ∃ r : Nat, zBm ((N : Int), L) (m : Int) = some (r : Int) ∧ r < 18446744073709551616 ∧ ∀ j : Nat, r.testBit j = true ↔ ∃ i : Nat, vD L i j ∧ m.testBit i = true := by
 have hN := h.hN
 obtain ⟨v, h1, r, rfl, h2, h3⟩ := uR (B := zCu ((N : Int), L) (m : Int)) (fun k (s : Nat) => ((s : Int), (k : Int))) L (fun k s => s < 18446744073709551616 ∧ ∀ j : Nat, s.testBit j = true ↔ ∃ i : Nat, ((i : Int), (j : Int)) ∈ L.take k ∧ m.testBit i = true)
  (fun v => ∃ r : Nat, v = (r : Int) ∧ r < 18446744073709551616 ∧ ∀ j : Nat, r.testBit j = true ↔ ∃ i : Nat, vD L i j ∧ m.testBit i = true)
  (fun k p s hp hI => by
   obtain ⟨g1, g2⟩ := hI
   left
   obtain ⟨a, b, ha, hb, rfl⟩ := zJE (h.inr p (vK hp))
   refine ⟨if m.testBit a then s ||| 2 ^ b else s, ?_, ?_, fun j => ?_⟩
   ·have hs := shrK_u (m := m) (i := a) (by omega)
    rw [zJB (by omega)] at hs
    have hbit : yE .u64 ((m / 2 ^ a : Nat) : Int) 1 = if m.testBit a then 1 else 0 := by
     have := zRL (a := m / 2 ^ a) (b := 1) (z5F hm) (by decide)
     rw [show ((1 : Nat) : Int) = 1 from rfl] at this
     rw [this]
     have h2 := bit_eq m a
     cases hbt : m.testBit a with
     | true => rw [hbt, beq_iff_eq] at h2; simp only [if_true]; exact congrArg (fun n : Nat => (n : Int)) h2
     | false =>
      rw [hbt, beq_eq_false_iff_ne] at h2
      have : (m / 2 ^ a) &&& 1 ≤ 1 := Nat.and_le_right
      simp only [zbf, if_false]
      exact congrArg (fun n : Nat => (n : Int)) (show (m / 2 ^ a) &&& 1 = 0 by omega)
    unfold zCu
    dsimp only
    simp only [wZ hp, if_true, wV hp, zob, hs, hbit, wY hp h.len']
    cases hbt : m.testBit a with
    | true =>
     simp only [if_true]
     rw [zWZ (by omega), zob, zWI g1 (zNz (by omega))]
    | false =>
     simp only [zbf, if_false]
     rw [z1p (by omega), zob, show (0 : Int) = ((0 : Nat) : Int) from rfl, zWI g1 (by decide), Nat.or_zero]
   ·cases m.testBit a with
    | true => exact z4k g1 (zNz (by omega))
    | false => exact g1
   ·rw [xF hp]
    simp only [List.mem_append, List.mem_singleton, Prod.mk.injEq]
    cases hbt : m.testBit a with
    | true =>
     simp only [if_true]
     rw [Nat.testBit_or, Bool.or_eq_true, g2, Nat.testBit_two_pow, decide_eq_true_eq]
     constructor
     ·rintro (⟨i, q1, q2⟩ | rfl)
      ·exact ⟨i, .inl q1, q2⟩
      ·exact ⟨a, .inr ⟨rfl, rfl⟩, hbt⟩
     ·rintro ⟨i, q1 | ⟨q1, q3⟩, q2⟩
      ·exact .inl ⟨i, q1, q2⟩
      ·exact .inr (by omega)
    | false =>
     simp only [zbf, if_false]
     rw [g2]
     constructor
     ·rintro ⟨i, q1, q2⟩
      exact ⟨i, .inl q1, q2⟩
     ·rintro ⟨i, q1 | ⟨q1, q3⟩, q2⟩
      ·exact ⟨i, q1, q2⟩
      ·rw [show i = a by omega, hbt] at q2; cases q2)
  (fun s hI => ⟨(s : Int), by unfold zCu; simp [len], s, rfl, hI.1, fun j => by
   rw [hI.2, List.take_length]
   simp only [vD, zSg]⟩) 0 ⟨by decide, by simp⟩
 exact ⟨r, h1, h2, h3⟩
def dfd (N : Nat) (L : List qW) (X : Nat → Prop) (i : Nat) : Prop := i < N ∧ ∀ j, j < N → vD L j i → ∃ k, vD L k j ∧ X k
theorem z2P (hN : N ≤ 40) : zDr ((N : Int), L) = some ((2 ^ N - 1 : Nat) : Int) := by
 have h1 := zNz (i := N) (by omega)
 have h0 : 0 < 2 ^ N := Nat.pow_pos (by decide)
 unfold zDr
 rw [zWZ (by omega), zob]
 rw [show ((2 ^ N : Nat) : Int) - 1 = ((2 ^ N - 1 : Nat) : Int) by omega, zJB (by omega)]
theorem z38 (h : vN N L) {m : Nat} (hm : m < 18446744073709551616) : ∃ r : Nat, zDS ((N : Int), L) (m : Int) = some (r : Int) ∧ r < 18446744073709551616 ∧ ∀ i : Nat, r.testBit i = true ↔ dfd N L (fun k => m.testBit k = true) i := by
 have hN := h.hN
 have hw := zNz (i := N) (by omega)
 obtain ⟨r1, e1, l1, b1⟩ := zOi h hm
 obtain ⟨r2, e2, l2, b2⟩ := zOi h (m := z4a (2 ^ N - 1) r1) (zYr (by omega))
 refine ⟨z4a (2 ^ N - 1) r2, ?_, zYr (by omega), fun i => ?_⟩
 ·unfold zDS
  rw [z2P hN, zob, zob, e1, zob, zUS (by omega) l1, e2, zob, zUS (by omega) l2]
 ·rw [zMZ, Nat.testBit_two_pow_sub_one, Bool.and_eq_true, decide_eq_true_eq, Bool.not_eq_true', ← Bool.not_eq_true, b2]
  refine and_congr_right fun hi => ?_
  constructor
  ·intro hno j hj he
   apply Classical.byContradiction
   intro hk
   refine hno ⟨j, he, ?_⟩
   rw [zMZ, Nat.testBit_two_pow_sub_one, Bool.and_eq_true, decide_eq_true_eq, Bool.not_eq_true', ← Bool.not_eq_true, b1]
   exact ⟨hj, hk⟩
  ·rintro hall ⟨j, he, hb⟩
   rw [zMZ, Nat.testBit_two_pow_sub_one, Bool.and_eq_true, decide_eq_true_eq, Bool.not_eq_true', ← Bool.not_eq_true, b1] at hb
   exact hb.2 (hall j hb.1 he)
structure zVv (N : Nat) (L : List qW) (P Z : Nat → Prop) : Prop where
 sub : ∀ i, Z i → P i
 own : ∀ i, Z i → dfd N L Z i
 all : ∀ X : Nat → Prop, (∀ i, X i → P i) → (∀ i, X i → dfd N L X i) → ∀ i, X i → Z i
theorem zVx {X Y : Nat → Prop} (h : ∀ i, X i → Y i) {i : Nat} (hi : dfd N L X i) : dfd N L Y i :=
 ⟨hi.1, fun j hj he => by obtain ⟨k, h1, h2⟩ := hi.2 j hj he; exact ⟨k, h1, h _ h2⟩⟩
theorem zVv.mono {P P' Z Z' : Nat → Prop} (h : zVv N L P Z) (h' : zVv N L P' Z') (hP : ∀ i, P i → P' i) : ∀ i, Z i → Z' i :=
 h'.all Z (fun i hi => hP i (h.sub i hi)) h.own
theorem z19 (h : vN N L) {m : Nat} (hm : m < 18446744073709551616) : ∃ r : Nat, zAl (m : Int) ((N : Int), L) = some (r : Int) ∧ r < 18446744073709551616 ∧ zVv N L (fun i => m.testBit i = true) (fun i => r.testBit i = true) := by
 have hN := h.hN
 have hlp := zVt (B := zAK ((N : Int), L)) (fun s => s.toNat)
  (fun s => ∃ k : Nat, s = (k : Int) ∧ k < 18446744073709551616 ∧ (∀ i, k.testBit i = true → m.testBit i = true) ∧ ∀ X : Nat → Prop, (∀ i, X i → m.testBit i = true) → (∀ i, X i → dfd N L X i) → ∀ i, X i → k.testBit i = true)
  (fun v => ∃ r : Nat, v = (r : Int) ∧ r < 18446744073709551616 ∧ zVv N L (fun i => m.testBit i = true) (fun i => r.testBit i = true)) ?_ (m : Int) ⟨m, rfl, hm, fun _ h => h, fun X h1 _ i hi => h1 i hi⟩
 ·obtain ⟨v, e, r, rfl, hr, hg⟩ := hlp
  exact ⟨r, e, hr, hg⟩
 ·rintro s ⟨k, rfl, hk, h1, h2⟩
  obtain ⟨q, e, hq, hb⟩ := z38 h hk
  have hand : yE .u64 (k : Int) (q : Int) = ((k &&& q : Nat) : Int) := zRL hk hq
  by_cases hs : k &&& q = k
  ·right
   refine ⟨(k : Int), ?_, k, rfl, hk, h1, fun i hi => ?_, h2⟩
   ·unfold zAK zCT
    rw [e]
    simp only [zob, hand, hs, beq_self_eq_true, if_true]
   ·rw [← hs, Nat.testBit_and, Bool.and_eq_true] at hi
    exact (hb i).1 hi.2
  ·left
   refine ⟨((k &&& q : Nat) : Int), ?_, ⟨k &&& q, rfl, zZm hk, fun i hi => ?_, fun X hX hd i hi => ?_⟩, ?_⟩
   ·unfold zAK zCT
    rw [e]
    have hne : ((((k &&& q : Nat) : Int)) == (k : Int)) = false := by rw [beq_eq_false_iff_ne]; omega
    simp only [zob, hand, hne, zbf, if_false]
   ·rw [Nat.testBit_and, Bool.and_eq_true] at hi
    exact h1 i hi.1
   ·rw [Nat.testBit_and, Bool.and_eq_true]
    exact ⟨h2 X hX hd i hi, (hb i).2 (zVx (fun k hk => h2 X hX hd k hk) (hd i hi))⟩
   ·have : k &&& q ≤ k := Nat.and_le_left
    simp only [Int.toNat_natCast]
    omega
theorem zZp (h : vN N L) {l : List Int} (ha : vY yV l) (hl : ∀ x ∈ l, 0 ≤ x ∧ x < (N : Int)) (hfree : ∀ i j : Nat, (i : Int) ∈ l → (j : Int) ∈ l → ¬ vD L i j) :
  ∃ r : List Int, zBj ((N : Int), L) l = some (r, 0) ∧ r.length ≤ 64 ∧ (∀ x ∈ r, 0 ≤ x ∧ x < (N : Int)) ∧ zVv N L (fun i => (i : Int) ∈ l) (fun i => (i : Int) ∈ r) := by
 have hN := h.hN
 have hlN : l.length ≤ N := zZS (ha.imp fun {x y} hh e => by subst e; rw [xM.irrefl] at hh; cases hh) hl
 have hl64 : ∀ x ∈ l, 0 ≤ x ∧ x < 64 := fun x hx => by have := hl x hx; omega
 have hmk : zPU l < 18446744073709551616 := zVb fun x hx => (hl64 x hx).2
 have hv : zEJ ((N : Int), L) l = some true := by
  refine zQp (l := l) (fun i x hx => ?_) (by unfold zHY; simp [len])
  obtain ⟨x0, x1⟩ := hl x (vK hx)
  unfold zHY
  simp only [wZ hx, if_true, wV hx, zob]
  rw [if_neg (by simp; omega), if_neg (by simp; omega)]
  by_cases hi : 0 < i
  ·obtain ⟨k, rfl⟩ : ∃ k, i = k + 1 := ⟨i - 1, by omega⟩
   have hk : k < l.length := by have := vQ hx; omega
   have hy : l[k]? = some l[k] := List.getElem?_eq_getElem hk
   have hlt := zZ3 ha hy hx
   have hw : zR (((k + 1 : Nat) : Int) - 1) = (k : Int) := by
    rw [show ((k + 1 : Nat) : Int) - 1 = (k : Int) by omega]
    exact zWS _ (by omega)
   have hle : decide (x ≤ l[k]) = false := by simpa using hlt
   rw [if_pos (decide_eq_true (show (0 : Int) < ((k + 1 : Nat) : Int) by omega)), hw, wV hy, zob, hle, zob]
   simp only [zbf, if_false, wY hx (show l.length < 4294967296 by omega)]
  ·rw [if_neg (by simpa using hi), zob]
   simp only [zbf, if_false, wY hx (show l.length < 4294967296 by omega)]
 obtain ⟨a, e1, l1, b1⟩ := zOi h hmk
 have hbit : ∀ i : Nat, (zPU l).testBit i = true ↔ (i : Int) ∈ l := fun i => by rw [zXT (fun x hx => (hl64 x hx).1), decide_eq_true_eq]
 have hz : a &&& zPU l = 0 := by
  apply Nat.eq_of_testBit_eq
  intro j
  rw [Nat.testBit_and, Nat.zero_testBit]
  cases h1 : a.testBit j with
  | false => rfl
  | true =>
   cases h2 : (zPU l).testBit j with
   | false => rfl
   | true =>
    obtain ⟨i, q1, q2⟩ := (b1 j).1 h1
    exact absurd q1 (hfree i j ((hbit i).1 q2) ((hbit j).1 h2))
 obtain ⟨r, e2, l2, g⟩ := z19 h hmk
 have hr : ∀ i : Nat, (i : Int) ∈ zO4 r ↔ r.testBit i = true := fun i => zV9 l2
 refine ⟨zO4 r, ?_, zX7 r, fun x hx => ?_, ⟨fun i hi => (hbit i).1 (g.sub i ((hr i).1 hi)), fun i hi => ?_, fun X h1 h2 i hi => (hr i).2 (g.all X (fun k hk => (hbit k).2 (h1 k hk)) h2 i hi)⟩⟩
 ·unfold zBj zFA
  rw [hv, zob]
  simp only [Bool.not_true, zbf, if_false]
  rw [z4A (by omega) hl64, zob, e1, zob, zRL l1 hmk, hz]
  simp only [zob]
  rw [if_neg (by decide), e2, zob, z2i l2]
  rfl
 ·obtain ⟨i, rfl, _, h2⟩ := zLf.1 hx
  exact hl _ ((hbit i).1 (g.sub i h2))
 ·exact zVx (fun k hk => (hr k).2 hk) (g.own i ((hr i).1 hi))
theorem zYh (h : vN N L) {r : List Int} (hb : r.length ≤ 64) (hr : ∀ x ∈ r, 0 ≤ x ∧ x < (N : Int)) : ∃ l : List Int, zBq ((N : Int), L) r = some l ∧ l.length = N ∧ ∀ i : Nat, l[i]? = some 1 ↔ (i : Int) ∈ r := by
 have hN := h.hN
 unfold zBq
 rw [zVJ 3 hN, zob]
 obtain ⟨l1, e1, n1, o1⟩ := uR (B := zCH ((N : Int), L) r) (fun k (s : List Int) => (s, (k : Int))) L (fun k s => s.length = N ∧ ∀ i : Nat, s[i]? ≠ some 1) (fun s => s.length = N ∧ ∀ i : Nat, s[i]? ≠ some 1)
  (fun k p s hp hI => by
   obtain ⟨g1, g2⟩ := hI
   left
   obtain ⟨a, b, ha, hbN, rfl⟩ := zJE (h.inr p (vK hp))
   unfold zCH
   dsimp only
   simp only [wZ hp, if_true, wV hp, zob, zPQ r _ (by omega), wY hp h.len']
   cases decide ((a : Int) ∈ r) with
   | false => exact ⟨s, rfl, g1, g2⟩
   | true =>
    obtain ⟨u, hu⟩ := zJH (l := s) (j := (b : Int)) (by omega) (by omega)
    refine ⟨s.set b 2, by simp only [if_true, hu, zob, Int.toNat_natCast], by rw [List.length_set, g1], fun i => ?_⟩
    rw [List.getElem?_set]
    split
    ·split
     ·simp
     ·simp
    ·exact g2 i)
  (fun s hI => ⟨s, by unfold zCH; simp [len], hI⟩) (qJ N fun _ => 3) ⟨zDN _ _, fun i => by rw [zIQ]; split <;> simp⟩
 rw [show ((0 : Int)) = ((0 : Nat) : Int) from rfl, e1, zob]
 obtain ⟨l2, e2, n2, o2⟩ := uR (B := zDb r ((N : Int), L)) (fun k (s : List Int) => (s, (k : Int))) r (fun k s => s.length = N ∧ ∀ i : Nat, s[i]? = some 1 ↔ (i : Int) ∈ r.take k) (fun s => s.length = N ∧ ∀ i : Nat, s[i]? = some 1 ↔ (i : Int) ∈ r)
  (fun k x s hx hI => by
   obtain ⟨g1, g2⟩ := hI
   left
   obtain ⟨x0, x1⟩ := hr x (vK hx)
   obtain ⟨b, rfl⟩ := Int.eq_ofNat_of_zero_le x0
   obtain ⟨u, hu⟩ := zJH (l := s) (j := (b : Int)) (by omega) (by omega)
   have hd : (decide (0 ≤ (b : Int)) && decide ((b : Int) < (N : Int))) = true := by simp; omega
   refine ⟨s.set b 1, ?_, by rw [List.length_set, g1], fun i => ?_⟩
   ·unfold zDb
    dsimp only
    simp only [wZ hx, if_true, wV hx, zob, hd, hu, wY hx (show r.length < 4294967296 by omega), Int.toNat_natCast]
   ·rw [List.getElem?_set, xF hx, List.mem_append, List.mem_singleton]
    split
    ·rename_i hib
     subst hib
     rw [if_pos (by omega)]
     simp
    ·rename_i hib
     rw [g2]
     constructor
     ·exact .inl
     ·rintro (q | q)
      ·exact q
      ·exact absurd q (by omega))
  (fun s hI => ⟨s, by unfold zDb; simp [len], hI.1, fun i => by rw [hI.2, List.take_length]⟩) l1 ⟨n1, fun i => by simp [o1 i]⟩
 exact ⟨l2, e2, n2, o2⟩
end
end
section
section
variable {N : Nat} {L : List qW}
def zTG (x y : List Int) : Bool := zXB (yI x 3) (yI y 3)
def zWM (x y : List Int) : Bool := decide (0 < (yI y 3).length)
theorem z3g (x y : List Int) (hx : x.length < 1000000) (hy : y.length < 1000000) : zBf x y = some (zTG x y) := by
 have h1 := zEm x 3
 have h2 := zEm y 3
 unfold zBf
 rw [zMo x hx, zob, zMo y hy, zob, zVN _ _ (by omega) (by omega)]
 rfl
theorem z3D (x y : List Int) (hx : x.length < 1000000) (hy : y.length < 1000000) : zC3 x y = some (zWM x y) := by
 unfold zC3
 rw [zMo y hy, zob]
 unfold zWM
 rw [show decide (0 < len (yI y 3)) = decide (0 < (yI y 3).length) from by rw [decide_eq_decide]; simp only [len]; omega]
def zPh (p : List Int → List Int → Bool) (l : List (List Int)) : List (List Int) := l.filter fun y => !l.any fun x => p x y
theorem zNp {p : List Int → List Int → Bool} {l : List (List Int)} : ∀ x ∈ zPh p l, x ∈ l := fun x hx => (List.mem_filter.1 hx).1
theorem zOb (p : List Int → List Int → Bool) (l : List (List Int)) : (zPh p l).length ≤ l.length := List.length_filter_le _ _
theorem zWX (hN : N ≤ 40) {l : List (List Int)} (e1 : zAd ((N : Int), L) = some (l, 0)) (e2 : l.length ≤ 200) (hlen : ∀ x ∈ l, x.length = N) : zBN ((N : Int), L) = some (zPh zSm l, 0) := by
 unfold zBN zAm
 rw [e1, zob, if_neg (by simp)]
 have hl : zV (zAB (l, 0)) ([], 0) = some (zPh zSm l, 0) := by
  refine zP9 (B := zAB (l, 0)) l (fun x => !l.any fun y => zSm y x) (fun s => (s, (0 : Int))) (by omega) (fun i x s hx => ?_) (fun s => by unfold zAB; simp [len])
  unfold zAB
  simp only [wZ hx, if_true, wV hx, zob, wY hx (show l.length < 4294967296 by omega), z3q (show l.length < 4294967296 by omega) (fun z hz => by have := hlen z hz; omega) (show x.length < 1000000 by have := hlen x (vK hx); omega)]
 rw [hl]
 rfl
theorem zY3 {l : List (List Int)} (hl : l.length < 4294967296) (hs : ∀ x ∈ l, x.length < 1000000) {y : List Int} (hy : y.length < 1000000) : zAE l y = some (l.any fun x => zWM x y) := by
 unfold zAE zA7
 refine zXX l (fun x => zWM x y) (fun i u hu => ?_) (by unfold zAT; simp [len])
 unfold zAT zAq
 simp only [wZ hu, if_true, wV hu, zob, wY hu hl, z3D u y (hs u (vK hu)) hy]
 cases zWM u y <;> rfl
theorem zZo (hN : N ≤ 40) {l : List (List Int)} (e1 : zAd ((N : Int), L) = some (l, 0)) (e2 : l.length ≤ 200) (hlen : ∀ x ∈ l, x.length = N) : zCY ((N : Int), L) = some (zPh zWM l, 0) := by
 unfold zCY zAz
 rw [e1, zob, if_neg (by simp)]
 have hl : zV (zAF (l, 0)) ([], 0) = some (zPh zWM l, 0) := by
  refine zP9 (B := zAF (l, 0)) l (fun x => !l.any fun y => zWM y x) (fun s => (s, (0 : Int))) (by omega) (fun i x s hx => ?_) (fun s => by unfold zAF; simp [len])
  unfold zAF
  simp only [wZ hx, if_true, wV hx, zob, wY hx (show l.length < 4294967296 by omega), zY3 (show l.length < 4294967296 by omega) (fun z hz => by have := hlen z hz; omega) (show x.length < 1000000 by have := hlen x (vK hx); omega)]
 rw [hl]
 rfl
theorem zU9 {l : List (List Int)} (hl : l.length < 4294967296) (hs : ∀ x ∈ l, x.length < 1000000) {y : List Int} (hy : y.length < 1000000) : zAD l y = some (l.any fun x => zTG x y) := by
 unfold zAD zA3
 refine zXX l (fun x => zTG x y) (fun i u hu => ?_) (by unfold zAV; simp [len])
 unfold zAV zA6
 simp only [wZ hu, if_true, wV hu, zob, wY hu hl, z3g u y (hs u (vK hu)) hy]
 cases zTG u y <;> rfl
theorem zUb (hN : N ≤ 40) {l : List (List Int)} (e1 : zAd ((N : Int), L) = some (l, 0)) (e2 : l.length ≤ 200) (hlen : ∀ x ∈ l, x.length = N) : zBF ((N : Int), L) = some (zPh zTG l, 0) := by
 unfold zBF zAh
 rw [e1, zob, if_neg (by simp)]
 have hl : zV (zAA (l, 0)) ([], 0) = some (zPh zTG l, 0) := by
  refine zP9 (B := zAA (l, 0)) l (fun x => !l.any fun y => zTG y x) (fun s => (s, (0 : Int))) (by omega) (fun i x s hx => ?_) (fun s => by unfold zAA; simp [len])
  unfold zAA
  simp only [wZ hx, if_true, wV hx, zob, wY hx (show l.length < 4294967296 by omega), zU9 (show l.length < 4294967296 by omega) (fun z hz => by have := hlen z hz; omega) (show x.length < 1000000 by have := hlen x (vK hx); omega)]
 rw [hl]
 rfl
theorem zWR (hN : N ≤ 40) {l : List (List Int)} (e1 : zAd ((N : Int), L) = some (l, 0)) (e2 : l.length ≤ 200) (hlen : ∀ x ∈ l, x.length = N) : zA8 ((N : Int), L) = some (l.map fun x => yI x 1, 0) := by
 unfold zA8
 rw [e1, zob, if_neg (by simp)]
 refine zSO (B := zAe (l, 0)) l (fun x => yI x 1) (by omega) (fun i x s hx => ?_) (fun s => by unfold zAe; simp [len])
 unfold zAe
 simp only [wZ hx, if_true, wV hx, zob, wY hx (show l.length < 4294967296 by omega), zLM x 1 (show x.length < 4294967000 by have := hlen x (vK hx); omega)]
theorem zUx (hN : N ≤ 40) {l : List (List Int)} (e1 : zBN ((N : Int), L) = some (l, 0)) (e2 : l.length ≤ 200) (hlen : ∀ x ∈ l, x.length = N) : zAO ((N : Int), L) = some (l.map fun x => yI x 1, 0) := by
 unfold zAO
 rw [e1, zob, if_neg (by simp)]
 refine zSO (B := zAS (l, 0)) l (fun x => yI x 1) (by omega) (fun i x s hx => ?_) (fun s => by unfold zAS; simp [len])
 unfold zAS
 simp only [wZ hx, if_true, wV hx, zob, wY hx (show l.length < 4294967296 by omega), zLM x 1 (show x.length < 4294967000 by have := hlen x (vK hx); omega)]
theorem zXu (hN : N ≤ 40) {l : List (List Int)} (e1 : zCY ((N : Int), L) = some (l, 0)) (e2 : l.length ≤ 200) (hlen : ∀ x ∈ l, x.length = N) : zAY ((N : Int), L) = some (l.map fun x => yI x 1, 0) := by
 unfold zAY
 rw [e1, zob, if_neg (by simp)]
 refine zSO (B := zA9 (l, 0)) l (fun x => yI x 1) (by omega) (fun i x s hx => ?_) (fun s => by unfold zA9; simp [len])
 unfold zA9
 simp only [wZ hx, if_true, wV hx, zob, wY hx (show l.length < 4294967296 by omega), zLM x 1 (show x.length < 4294967000 by have := hlen x (vK hx); omega)]
theorem zTd (hN : N ≤ 40) {l : List (List Int)} (e1 : zBF ((N : Int), L) = some (l, 0)) (e2 : l.length ≤ 200) (hlen : ∀ x ∈ l, x.length = N) : zAM ((N : Int), L) = some (l.map fun x => yI x 1, 0) := by
 unfold zAM
 rw [e1, zob, if_neg (by simp)]
 refine zSO (B := zAQ (l, 0)) l (fun x => yI x 1) (by omega) (fun i x s hx => ?_) (fun s => by unfold zAQ; simp [len])
 unfold zAQ
 simp only [wZ hx, if_true, wV hx, zob, wY hx (show l.length < 4294967296 by omega), zLM x 1 (show x.length < 4294967000 by have := hlen x (vK hx); omega)]
theorem z0d {x : List Int} (hx : x.length ≤ 40) (e1 : zHK ((N : Int), L) = some (x, 0)) : zAW ((N : Int), L) = some ([yI x 1], 0) := by
 have e2 : zBK ((N : Int), L) = some ([x], 0) := by
  unfold zBK
  rw [e1]
  rfl
 unfold zAW
 rw [e2, zob, if_neg (by simp)]
 refine zSO (B := zA1 ([x], 0)) [x] (fun x => yI x 1) (by simp) (fun i y s hy => ?_) (fun s => by unfold zA1; simp [len])
 have hyx : y = x := List.mem_singleton.1 (vK hy)
 unfold zA1
 simp only [wZ hy, if_true, wV hy, zob, wY hy (by simp), zLM y 1 (show y.length < 4294967000 by rw [hyx]; omega)]
theorem z0C {x : List Int} (hx : x.length ≤ 40) (e1 : zHM ((N : Int), L) = some (x, 0)) : zAX ((N : Int), L) = some ([yI x 1], 0) := by
 have e2 : zBJ ((N : Int), L) = some ([x], 0) := by
  unfold zBJ
  rw [e1]
  rfl
 unfold zAX
 rw [e2, zob, if_neg (by simp)]
 refine zSO (B := zA2 ([x], 0)) [x] (fun x => yI x 1) (by simp) (fun i y s hy => ?_) (fun s => by unfold zA2; simp [len])
 have hyx : y = x := List.mem_singleton.1 (vK hy)
 unfold zA2
 simp only [wZ hy, if_true, wV hy, zob, wY hy (by simp), zLM y 1 (show y.length < 4294967000 by rw [hyx]; omega)]
theorem ext_in (y : List Int) (k : Nat) (hy : y.length ≤ 100) : zKG y (k : Int) = some (decide (y[k]? = some 1)) := by
 unfold zKG
 rw [if_pos (decide_eq_true (by omega))]
 by_cases hk : k < y.length
 ·have hx : y[k]? = some y[k] := List.getElem?_eq_getElem hk
  rw [if_pos (decide_eq_true (by simp only [len]; omega)), wV hx, hx]
  simp only [zob, Option.some.injEq]
  exact Bool.eq_iff_iff.2 (by simp)
 ·rw [if_neg (by simp only [len, decide_eq_true_eq]; omega), List.getElem?_eq_none (by omega)]
  rfl
theorem z47 (l : List (List Int)) (k : Nat) (hl : l.length ≤ 200) (hs : ∀ x ∈ l, x.length ≤ 100) : zEy l (k : Int) = some (l.all fun x => decide (x[k]? = some 1)) := by
 have h1 : zAL l (k : Int) = some (l.any fun x => !decide (x[k]? = some 1)) := by
  unfold zAL zAj
  refine zXX l (fun x : List Int => !decide (x[k]? = some 1)) (fun i u hu => ?_) (by unfold zBc; simp [len])
  unfold zBc zKE
  simp only [wZ hu, if_true, wV hu, zob, wY hu (show l.length < 4294967296 by omega), ext_in u k (hs u (vK hu))]
  cases decide (u[k]? = some 1) <;> rfl
 unfold zEy
 rw [h1, zob, show (l.all fun x => decide (x[k]? = some 1)) = !(l.any fun x : List Int => !decide (x[k]? = some 1)) from List.all_eq_not_any_not]
def ComP (l : List (List Int)) (k : Nat) : Prop := ∀ x ∈ l, x[k]? = some 1
theorem zTl (h : vN N L) {l : List (List Int)} (hl : l.length ≤ 200) (hne : l ≠ []) (hc : ∀ x ∈ l, ∃ f, CL N L f ∧ x = yL N f) :
  ∃ r lb : List Int, zFY l = some ((vT N).filter fun k => l.all fun x => decide (x[k.toNat]? = some 1)) ∧ zBj ((N : Int), L) ((vT N).filter fun k => l.all fun x => decide (x[k.toNat]? = some 1)) = some (r, 0) ∧
   zBq ((N : Int), L) r = some lb ∧ lb.length = N ∧ zVv N L (ComP l) (fun i => lb[i]? = some 1) := by
 have hN := h.hN
 have hlen : ∀ x ∈ l, x.length = N := fun x hx => by
  obtain ⟨f, _, rfl⟩ := hc x hx
  exact zLN N f
 have hmem : ∀ i : Nat, (i : Int) ∈ ((vT N).filter fun k => l.all fun x => decide (x[k.toNat]? = some 1)) ↔ ComP l i := fun i => by
  rw [List.mem_filter, uL, List.all_eq_true]
  constructor
  ·rintro ⟨_, h2⟩ x hx
   simpa using h2 x hx
  ·intro hp
   obtain ⟨x, hx⟩ := List.exists_mem_of_ne_nil l hne
   have := (List.getElem?_eq_some_iff.1 (hp x hx)).1
   rw [hlen x hx] at this
   exact ⟨by omega, fun y hy => by simpa using hp y hy⟩
 obtain ⟨r, e2, hb, hr, g⟩ := zZp h (l := (vT N).filter fun k => l.all fun x => decide (x[k.toNat]? = some 1)) ((zPY N).filter _) (fun x hx => uL.1 (List.mem_filter.1 hx).1) (fun i j hi hj he => by
  obtain ⟨x, hx⟩ := List.exists_mem_of_ne_nil l hne
  have h1 := (hmem i).1 hi x hx
  have h2 := (hmem j).1 hj x hx
  obtain ⟨f, hf, rfl⟩ := hc x hx
  have hiN := (List.getElem?_eq_some_iff.1 h1).1
  have hjN := (List.getElem?_eq_some_iff.1 h2).1
  rw [zLN] at hiN hjN
  rw [zE3 hiN] at h1
  rw [zE3 hjN] at h2
  have h3 : f i = 1 := by
              have : ((f i : Nat) : Int) = 1 := by simpa using h1
              omega
  have h4 : f j = 1 := by
              have : ((f j : Nat) : Int) = 1 := by simpa using h2
              omega
  have := hf.i1 j hjN h4 i hiN he
  omega)
 obtain ⟨lb, e3, n3, o3⟩ := zYh h hb hr
 refine ⟨r, lb, ?_, e2, e3, n3, ⟨fun i hi => (hmem i).1 (g.sub i ((o3 i).1 hi)), fun i hi => zVx (fun k hk => (o3 k).2 hk) (g.own i ((o3 i).1 hi)), fun X h1 h2 i hi => (o3 i).2 (g.all X (fun k hk => (hmem k).2 (h1 k hk)) h2 i hi)⟩⟩
 unfold zFY
 have hpos : 0 < l.length := List.length_pos_iff.2 hne
 have h0 : l[0]? = some l[0] := List.getElem?_eq_getElem hpos
 rw [if_neg (by simp only [len, beq_iff_eq]; omega), show (0 : Int) = ((0 : Nat) : Int) from rfl, wV h0, zob]
 have hx1 := hlen _ (vK h0)
 refine (zP9 (B := zDo l[0] l) (vT N) (fun k => l.all fun x => decide (x[k.toNat]? = some 1)) id (by rw [xX]; omega) (fun i k s hk => ?_) (fun s => ?_))
 ·obtain ⟨rfl, hi⟩ := zQM hk
  unfold zDo
  dsimp only
  rw [if_pos (decide_eq_true (by simp only [len]; omega)), z47 l i hl (fun x hx => by have := hlen x hx; omega), zob, Int.toNat_natCast, uF i (by omega)]
 ·unfold zDo
  rw [if_neg (by simp only [len, xX, decide_eq_true_eq]; omega)]
  rfl
theorem zUi (h : vN N L) {l : List (List Int)} (e : zBN ((N : Int), L) = some (l, 0)) (hl : l.length ≤ 200) (hne : l ≠ []) (hc : ∀ x ∈ l, ∃ f, CL N L f ∧ x = yL N f) :
  ∃ lb : List Int, zHK ((N : Int), L) = some (lb, 0) ∧ lb.length = N ∧ zVv N L (ComP l) (fun i => lb[i]? = some 1) := by
 obtain ⟨r, lb, e1, e2, e3, n3, g⟩ := zTl h hl hne hc
 refine ⟨lb, ?_, n3, g⟩
 unfold zHK zAy
 rw [e, zob, if_neg (by simp), e1, zob, e2, zob, if_neg (by simp), e3]
 rfl
theorem zUZ (h : vN N L) {l : List (List Int)} (e : zBF ((N : Int), L) = some (l, 0)) (hl : l.length ≤ 200) (hne : l ≠ []) (hc : ∀ x ∈ l, ∃ f, CL N L f ∧ x = yL N f) :
  ∃ lb : List Int, zHM ((N : Int), L) = some (lb, 0) ∧ lb.length = N ∧ zVv N L (ComP l) (fun i => lb[i]? = some 1) := by
 obtain ⟨r, lb, e1, e2, e3, n3, g⟩ := zTl h hl hne hc
 refine ⟨lb, ?_, n3, g⟩
 unfold zHM zAs
 rw [e, zob, if_neg (by simp), e1, zob, e2, zob, if_neg (by simp), e3]
 rfl
theorem zVD (h : vN N L) {q : Int} {v : List (List Int) × Int} (hq : (q = 2 ∧ zA8 ((N : Int), L) = some v) ∨ (q = 3 ∧ zAO ((N : Int), L) = some v) ∨ (q = 4 ∧ zAY ((N : Int), L) = some v) ∨
  (q = 5 ∧ zAM ((N : Int), L) = some v) ∨ (q = 6 ∧ zAW ((N : Int), L) = some v) ∨ (q = 7 ∧ zAX ((N : Int), L) = some v)) : zA0 ((N : Int), L) q = some v := by
 unfold zA0
 rw [h.v1]
 simp only [zob, bne_self_eq_false, zbf, if_false, zVX]
 rcases hq with ⟨rfl, e⟩ | ⟨rfl, e⟩ | ⟨rfl, e⟩ | ⟨rfl, e⟩ | ⟨rfl, e⟩ | ⟨rfl, e⟩ <;>
 ·repeat rw [if_neg (by decide)]
  rw [if_pos (by decide), e]
  rfl
theorem z2F {l : List (List Int)} (hc : ∀ x ∈ l, ∃ f, CL N L f ∧ x = yL N f) : ∀ x ∈ zPh zTG l, x ∈ zPh zSm l := by
 intro y hy
 obtain ⟨h1, h2⟩ := List.mem_filter.1 hy
 refine List.mem_filter.2 ⟨h1, ?_⟩
 rw [Bool.not_eq_true', List.any_eq_false] at h2 ⊢
 intro x hx hp
 refine h2 x hx ?_
 obtain ⟨f, hf, rfl⟩ := hc x hx
 obtain ⟨g, hg, rfl⟩ := hc y h1
 unfold zSm zXB at hp
 simp only [Bool.and_eq_true, decide_eq_true_eq, List.all_eq_true] at hp
 obtain ⟨p1, p2⟩ := hp
 have hmem : ∀ (f : Nat → Nat) (k : Nat) (i : Nat), i < N → ((i : Int) ∈ yI (yL N f) (k : Int) ↔ f i = k) := fun f k i hi => by
  rw [zU5, zE3 hi, Option.some.injEq]; omega
 have hin : ∀ i, i < N → g i = 1 → f i = 1 := fun i hi q => (hmem f 1 i hi).1 (p2 _ ((hmem g 1 i hi).2 q))
 have hout : ∀ i, i < N → g i = 2 → f i = 2 := fun i hi q => by
  obtain ⟨j, hj, he, q1⟩ := hg.i2 i hi q
  exact hf.two hi hj he (hin j hj q1)
 have h3 : ∀ i, i < N → f i = 3 → g i = 3 := fun i hi q => by
  rcases hg.r i hi with q1 | q1 | q1
  ·have := hin i hi q1; omega
  ·have := hout i hi q1; omega
  ·exact q1
 have hex : ∃ i, i < N ∧ f i = 1 ∧ g i ≠ 1 := by
  apply Classical.byContradiction
  intro hno
  have hle : (yI (yL N f) 1).length ≤ (yI (yL N g) 1).length := by
   unfold yI
   rw [zLN, zLN, ← List.countP_eq_length_filter, ← List.countP_eq_length_filter]
   refine List.countP_mono_left fun k hk hq => ?_
   obtain ⟨i, rfl⟩ := Int.eq_ofNat_of_zero_le (uL.1 hk).1
   have hi : i < N := by have := (uL.1 hk).2; omega
   simp only [Int.toNat_natCast, zE3 hi, decide_eq_true_eq, Option.some.injEq] at hq ⊢
   have : f i = 1 := by omega
   have : g i = 1 := Classical.byContradiction fun hn => hno ⟨i, hi, this, hn⟩
   omega
  omega
 obtain ⟨i, hi, f1, g1⟩ := hex
 have gi : g i = 3 := by
  rcases hg.r i hi with q1 | q1 | q1
  ·exact absurd q1 g1
  ·have := hout i hi q1; omega
  ·exact q1
 unfold zTG zXB
 simp only [Bool.and_eq_true, decide_eq_true_eq, List.all_eq_true]
 refine ⟨?_, fun k hk => ?_⟩
 ·unfold yI
  rw [zLN, zLN]
  have hcl := zVs (p := fun k : Int => decide ((yL N f)[k.toNat]? = some 3) && decide (0 ≤ k ∧ k < (N : Int))) (q := fun k : Int => decide ((yL N g)[k.toNat]? = some 3) && decide (0 ≤ k ∧ k < (N : Int))) (vT N) (fun k hk => by
   simp only [Bool.and_eq_true, decide_eq_true_eq] at hk ⊢
   obtain ⟨a, b0, b1⟩ := hk
   obtain ⟨j, rfl⟩ := Int.eq_ofNat_of_zero_le b0
   have hj : j < N := by omega
   rw [Int.toNat_natCast, zE3 hj, Option.some.injEq] at a ⊢
   have := h3 j hj (by omega)
   exact ⟨by omega, by omega, by omega⟩) (i : Int) (uL.2 ⟨by omega, by omega⟩) (by
   simp only [Bool.and_eq_true, decide_eq_true_eq, Int.toNat_natCast, zE3 hi, Option.some.injEq]
   exact ⟨by omega, by omega, by omega⟩) (by
   simp only [Int.toNat_natCast, zE3 hi, Option.some.injEq]
   rw [decide_eq_false (by omega), Bool.false_and])
  have hcong : ∀ f : Nat → Nat, ((vT N).filter fun k : Int => decide ((yL N f)[k.toNat]? = some 3) && decide (0 ≤ k ∧ k < (N : Int))) = (vT N).filter fun k : Int => decide ((yL N f)[k.toNat]? = some 3) := fun f => List.filter_congr fun k hk => by
   rw [decide_eq_true (uL.1 hk), Bool.and_true]
  rw [hcong, hcong] at hcl
  exact hcl
 ·have hr := uL.1 (List.mem_filter.1 hk).1
  rw [zLN] at hr
  obtain ⟨j, rfl⟩ := Int.eq_ofNat_of_zero_le hr.1
  have hj : j < N := by omega
  exact (hmem g 3 j hj).2 (h3 j hj ((hmem f 3 j hj).1 hk))
theorem most {μ : List Int → Nat} : ∀ {l : List (List Int)}, l ≠ [] → ∃ y ∈ l, ∀ x ∈ l, μ x ≤ μ y
 | [], h => absurd rfl h
 | a :: l, _ => by
  by_cases h : l = []
  ·subst h; exact ⟨a, by simp, by simp⟩
  ·obtain ⟨y, h1, h2⟩ := most (μ := μ) h
   by_cases hc : μ a ≤ μ y
   ·exact ⟨y, List.mem_cons_of_mem _ h1, fun x hx => by
     rcases List.mem_cons.1 hx with rfl | hx
     ·exact hc
     ·exact h2 x hx⟩
   ·exact ⟨a, List.mem_cons_self, fun x hx => by
     rcases List.mem_cons.1 hx with rfl | hx
     ·exact Nat.le_refl _
     ·have := h2 x hx; omega⟩
theorem z4F {p : List Int → List Int → Bool} {μ : List Int → Nat} {l : List (List Int)} (hp : ∀ x ∈ l, ∀ y ∈ l, p x y = true → μ y < μ x) (hne : l ≠ []) : zPh p l ≠ [] := by
 obtain ⟨y, h1, h2⟩ := most (μ := μ) hne
 refine List.ne_nil_of_mem (a := y) (List.mem_filter.2 ⟨h1, ?_⟩)
 rw [Bool.not_eq_true', List.any_eq_false]
 intro x hx hpx
 have := h2 x hx
 have := hp x hx y h1 hpx
 omega
theorem gr_in {f : Nat → Nat} (hf : CL N L f) : ∀ (k i : Nat), uK N L k i → f i = 1
 | 0, _, h => h.elim
 | k + 1, i, h => hf.one h.1 fun j hj he => by
  obtain ⟨m, h1, h2⟩ := h.2 j he
  exact hf.two hj (zPN (D := (· < N)) h1) h2 (gr_in hf k m h1)
end
end
section
abbrev Nst10 : Type := Int × (List wC) × (List vG) × (List vU) × (List wC) × (List vG) × (List zK) × (List wA) × Int × (List qW)
theorem Ok.small {s : uQ} (h : uS s) : Ok (zLJ s) fun r => r.2.1 = true → ∃ b l o, r.1 = zRg b l o ∧ l.length ≤ 9 := by
 obtain ⟨b, k, e1, hk, hd⟩ := z29 h (n := 3) (p := 4) (q := 5) (by omega) (by omega) (by omega) (by omega) (by omega) (by omega)
 unfold zLJ
 rw [e1, zob, zUr, zob]
 obtain ⟨r4, e4, h4a, h4b, h4⟩ := Ok.N hk (n := 4) (by omega) (by omega)
 have e4' : xR (s.1, k) 4 = some r4 := e4
 dsimp only
 rw [e4', zob]
 obtain ⟨o, ho⟩ := zJH (l := ords) (j := r4.1) h4a (by show r4.1 < 4; exact h4b (by omega))
 rw [ho, zob]
 have hnp := hd.np
 have hnr := hd.nr
 have hnm := hd.nm
 have hcb := zPD hd.valid
 rw [zRI hcb (by omega), zob]
 refine Ok.bind (I := fun r : Int × (List vU) × (List wC) × (List vG) × (List zK) × (List wA) × Int × (List qW) => r.1 = 0 → ∃ b l o, ((r.2.1, r.2.2.1, r.2.2.2.1), r.2.2.2.2.1, r.2.2.2.2.2.1, (r.2.2.2.2.2.2.1, r.2.2.2.2.2.2.2)) = zRg b l o ∧ l.length ≤ 9) ?_ fun r hr => Ok.ret fun hb => hr (by simpa using hb)
 refine Ok.nat (B := zKh (b, k) o) (fun t => t.2.1.length) (fun t : Nst10 => t.2.1.length ≤ 5 ∧ (∀ r ∈ t.2.1, r ∈ b.2.1) ∧ ∃ ps : List vG, ps.length ≤ 2 ∧
  (((t.2.2.2.1, t.2.2.2.2.1, t.2.2.2.2.2.1), t.2.2.2.2.2.2.1, t.2.2.2.2.2.2.2.1, (t.2.2.2.2.2.2.2.2.1, t.2.2.2.2.2.2.2.2.2)), t.1) = z0A (b.1, t.2.1, ps) o) _ ?_ _ ⟨by show b.2.1.length ≤ 5; omega, fun r hr => hr, b.2.2, hnm, rfl⟩
 rintro t ⟨g1, g2, ps, g3, g4⟩
 have hok : t.1 = 0 → ∃ l, (((t.2.2.2.1, t.2.2.2.2.1, t.2.2.2.2.2.1), t.2.2.2.2.2.2.1, t.2.2.2.2.2.2.2.1, (t.2.2.2.2.2.2.2.2.1, t.2.2.2.2.2.2.2.2.2))) = zRg (b.1, t.2.1, ps) l o ∧ l = t.2.2.2.2.2.2.1 ∧ xI (b.1, t.2.1, ps) l := fun h0 => by
  obtain ⟨l, _, q1, _, _, _, q2⟩ := z52 (b := (b.1, t.2.1, ps)) (by show t.2.1.length ≤ 12; omega) (o := o) (c := ((t.2.2.2.1, t.2.2.2.2.1, t.2.2.2.2.2.1), t.2.2.2.2.2.2.1, t.2.2.2.2.2.2.2.1, (t.2.2.2.2.2.2.2.2.1, t.2.2.2.2.2.2.2.2.2))) (by rw [← g4, h0])
  refine ⟨l, q2, ?_, q1⟩
  have := congrArg (fun c : tZ => c.2.1) q2
  exact this.symm
 unfold zKh
 refine Ok.ite (fun hc => ?_) (fun hc => ?_)
 ·refine Ok.ite (fun hz => ?_) (fun hz => ?_)
  ·refine Ok.ret fun h0 => ?_
   obtain ⟨l, q1, q2, q3⟩ := hok h0
   have hr0 : t.2.1 = [] := List.eq_nil_of_length_eq_zero (by simp only [len, beq_iff_eq] at hz; omega)
   have := z4x q3.toFormC hr0
   exact ⟨_, l, o, q1, by have : l.length ≤ b.1.length := this; omega⟩
  ·have hpos : 0 < t.2.1.length := by
    rcases Nat.eq_zero_or_pos t.2.1.length with h' | h'
    ·have : ((len t.2.1) == 0) = true := by simp [len, h']
     rw [this] at hz; cases hz
    ·exact h'
   have hw : zR ((len t.2.1) - 1) = ((t.2.1.length - 1 : Nat) : Int) := by
    rw [show (len t.2.1) - 1 = ((t.2.1.length - 1 : Nat) : Int) from by simp only [len]; omega]
    exact zWS _ (by omega)
   rw [hw, zM7 (by omega) (by omega), zob]
   have hsub : ∀ r ∈ t.2.1.take ((t.2.1.length - 1 : Nat) : Int).toNat, r ∈ b.2.1 := fun r hr => g2 r (List.mem_of_mem_take hr)
   have hlt : (t.2.1.take ((t.2.1.length - 1 : Nat) : Int).toNat).length < t.2.1.length := by rw [List.length_take]; omega
   have hcnt : Cnt (b.1, t.2.1.take ((t.2.1.length - 1 : Nat) : Int).toNat, ([] : List vG)) := ⟨by show b.1.length < _; omega, by show (t.2.1.take _).length < _; omega, by show (0 : Nat) < _; omega, fun r hr => by have := hd.bd r (hsub r hr); omega⟩
   rw [show zD6 ((b, k).1.1, t.2.1.take ((t.2.1.length - 1 : Nat) : Int).toNat, ([] : List vG)) o = _ from zRI hcnt (by show (t.2.1.take _).length ≤ 12; omega) o, zob]
   exact Ok.ret ⟨⟨by show (t.2.1.take _).length ≤ 5; omega, hsub, [], by simp, rfl⟩, hlt⟩
 ·have hc' : t.1 = 0 ∧ t.2.2.2.2.2.2.1.length ≤ 9 := by
   simp only [Bool.or_eq_false_iff, bne_eq_false_iff_eq, decide_eq_false_iff_not, len] at hc
   exact ⟨hc.1, by omega⟩
  refine Ok.ret fun _ => ?_
  obtain ⟨l, q1, q2, _⟩ := hok hc'.1
  exact ⟨_, l, o, q1, by rw [q2]; exact hc'.2⟩
theorem z2b {l : List zK} {lb : List Int} {x : zO} : x ∈ zJb l (yI lb 1) ↔ ∃ (i : Nat) (a : zK), lb[i]? = some 1 ∧ l[i]? = some a ∧ a.2.2.2 = x := by
 rw [zJb, (zNd zTg _).2, List.mem_flatMap]
 constructor
 ·rintro ⟨i, hi, hx⟩
  have hr := uL.1 (List.mem_filter.1 hi).1
  obtain ⟨n, rfl⟩ := Int.eq_ofNat_of_zero_le hr.1
  unfold zNU at hx
  rw [xZ] at hx
  cases ha : l[n]? with
  | none => rw [ha] at hx; cases hx
  | some a =>
   rw [ha] at hx
   exact ⟨n, a, zU5.1 hi, ha, (List.mem_singleton.1 hx).symm⟩
 ·rintro ⟨n, a, h1, h2, rfl⟩
  refine ⟨(n : Int), zU5.2 h1, ?_⟩
  unfold zNU
  rw [xZ, h2]
  exact List.mem_singleton.2 rfl
theorem zW6 {l : List zK} {lb lb' : List Int} (h : ∀ i : Nat, lb[i]? = some 1 → lb'[i]? = some 1) : ∀ x ∈ zJb l (yI lb 1), x ∈ zJb l (yI lb' 1) := fun x hx => by
 obtain ⟨i, a, h1, h2, h3⟩ := z2b.1 hx
 exact z2b.2 ⟨i, a, h i h1, h2, h3⟩
theorem zW2 (l : List zK) {lb : List Int} (h : lb.length ≤ 40) : (zJb l (yI lb 1)).length ≤ 40 := by
 have h1 := zVI l (yI lb 1)
 have h2 := zEm lb 1
 omega
structure NstS (c : tZ) (x ideal eager : List zO) : Prop where
 g : zBB c 1 true = some (x, 0)
 i : zBB c 6 true = some (ideal, 0)
 e : zBB c 7 true = some (eager, 0)
 con : ∀ q : Int, 2 ≤ q → q ≤ 5 → ∃ ls : List (List zO), zBT c q = some (ls, 0) ∧ ls.length ≤ 200 ∧ ∀ y ∈ ls, y.length ≤ 40 ∧ ∀ z ∈ x, z ∈ y
 xi : ∀ z ∈ x, z ∈ ideal
 ie : ∀ z ∈ ideal, z ∈ eager
 lx : x.length ≤ 40
 li : ideal.length ≤ 40
 le : eager.length ≤ 40
theorem z34 (b : zT) (l : List zK) (o : yB) (hl : l.length ≤ 9) : ∃ x ideal eager, NstS (zRg b l o) x ideal eager := by
 have hG := (zPS (b := zSB b (z2f b l o)) (l := l) (by omega) o).2
 have hgr : (zRg b l o).2.2.2 = ((l.length : Int), z1S (zSB b (z2f b l o)) l o) := rfl
 generalize z1S (zSB b (z2f b l o)) l o = L at hG hgr
 obtain ⟨l0, s1, s2, _, s4, s5⟩ := zYq hG hl
 have hlen : ∀ x ∈ l0, x.length = l.length := fun x hx => by
  obtain ⟨f, _, rfl⟩ := s4 x hx
  exact zLN _ f
 have hne : l0 ≠ [] := List.ne_nil_of_mem (s5 _ (zZD hG))
 have tp := zWX (N := l.length) (L := L) (by omega) s1 (by omega) hlen
 have ts := zUb (N := l.length) (L := L) (by omega) s1 (by omega) hlen
 have tt := zZo (N := l.length) (L := L) (by omega) s1 (by omega) hlen
 have hpn : zPh zSm l0 ≠ [] := z4F (μ := fun x => (yI x 1).length) (fun x _ y _ h => by
  unfold zSm zXB at h
  simp only [Bool.and_eq_true, decide_eq_true_eq] at h
  exact h.1) hne
 have hsn : zPh zTG l0 ≠ [] := z4F (μ := fun x => 1000 - (yI x 3).length) (fun x hx y hy h => by
  unfold zTG zXB at h
  simp only [Bool.and_eq_true, decide_eq_true_eq] at h
  have h1 := h.1
  have h2 := zEm y 3
  rw [hlen y hy] at h2
  omega) hne
 obtain ⟨lb1, c1, n1, g1⟩ := zUi hG tp (Nat.le_trans (zOb _ _) (by omega)) hpn fun x hx => s4 x (zNp x hx)
 obtain ⟨lb2, c2, n2, g2⟩ := zUZ hG ts (Nat.le_trans (zOb _ _) (by omega)) hsn fun x hx => s4 x (zNp x hx)
 have e6 : zA0 (zRg b l o).2.2.2 6 = some ([yI lb1 1], 0) := by
  rw [hgr]
  exact zVD hG (.inr (.inr (.inr (.inr (.inl ⟨rfl, z0d (by omega) c1⟩)))))
 have e7 : zA0 (zRg b l o).2.2.2 7 = some ([yI lb2 1], 0) := by
  rw [hgr]
  exact zVD hG (.inr (.inr (.inr (.inr (.inr ⟨rfl, z0C (by omega) c2⟩)))))
 have hw1 := zEm lb1 1
 have hw2 := zEm lb2 1
 have hgl : (xT l.length L).length = l.length := zDN _ _
 have hgin : ∀ i : Nat, (xT l.length L)[i]? = some 1 ↔ i < l.length ∧ uK l.length L (l.length + 1) i := fun i => by
  show (qJ l.length (wU l.length L (l.length + 1)))[i]? = some 1 ↔ _
  rw [zIQ]
  split
  ·rename_i hi
   rw [Option.some.injEq, z3s]
   exact ⟨fun h => ⟨hi, h⟩, fun h => h.2⟩
  ·rename_i hi
   exact ⟨(fun h => nomatch h), (fun h => absurd h.1 hi)⟩
 have hgc : ∀ x ∈ l0, ∀ i : Nat, (xT l.length L)[i]? = some 1 → x[i]? = some 1 := fun x hx i hi => by
  obtain ⟨f, hf, rfl⟩ := s4 x hx
  obtain ⟨h1, h2⟩ := (hgin i).1 hi
  rw [zE3 h1, gr_in hf _ i h2]
  rfl
 have hset : ∀ (q : Int) (ls : List (List Int)), zA0 (zRg b l o).2.2.2 q = some (ls.map fun x => yI x 1, 0) → ls.length ≤ 200 → (∀ x ∈ ls, x ∈ l0) → ∃ ls : List (List zO), zBT (zRg b l o) q = some (ls, 0) ∧ ls.length ≤ 200 ∧ ∀ y ∈ ls, y.length ≤ 40 ∧ ∀ z ∈ zJb l (yI (xT l.length L) 1), z ∈ y := by
  intro q ls h1 h2 h3
  refine ⟨(ls.map fun x => yI x 1).map (zJb l), zLq (c := zRg b l o) h1 (by rw [List.length_map]; omega) fun s hs => ?_, by rw [List.length_map, List.length_map]; exact h2, fun y hy => ?_⟩
  ·obtain ⟨x, hx, rfl⟩ := List.mem_map.1 hs
   have := zEm x 1
   rw [hlen x (h3 x hx)] at this
   omega
  ·obtain ⟨s, hs, rfl⟩ := List.mem_map.1 hy
   obtain ⟨x, hx, rfl⟩ := List.mem_map.1 hs
   have := hlen x (h3 x hx)
   exact ⟨zW2 l (by omega), zW6 fun i hi => hgc x (h3 x hx) i hi⟩
 refine ⟨zJb l (yI (xT l.length L) 1), zJb l (yI lb1 1), zJb l (yI lb2 1), zWf hG hgr, ?_, ?_, fun q q1 q2 => ?_, zW6 fun i hi => ?_, zW6 fun i hi => ?_, zW2 l (by omega), zW2 l (by omega), zW2 l (by omega)⟩
 ·rw [zKm e6 (by simp) (fun s hs => by simp only [List.mem_singleton] at hs; subst hs; omega) true, List.map_singleton, zTx (zRw _ _)]
  rfl
 ·rw [zKm e7 (by simp) (fun s hs => by simp only [List.mem_singleton] at hs; subst hs; omega) true, List.map_singleton, zTx (zRw _ _)]
  rfl
 ·have hcase : q = 2 ∨ q = 3 ∨ q = 4 ∨ q = 5 := by omega
  rcases hcase with rfl | rfl | rfl | rfl
  ·exact hset 2 l0 (by rw [hgr]; exact zVD hG (.inl ⟨rfl, zWR (by omega) s1 (by omega) hlen⟩)) (by omega) fun x hx => hx
  ·exact hset 3 (zPh zSm l0) (by rw [hgr]; exact zVD hG (.inr (.inl ⟨rfl, zUx (by omega) tp (Nat.le_trans (zOb _ _) (by omega)) fun x hx => hlen x (zNp x hx)⟩))) (Nat.le_trans (zOb _ _) (by omega)) zNp
  ·exact hset 4 (zPh zWM l0) (by rw [hgr]; exact zVD hG (.inr (.inr (.inl ⟨rfl, zXu (by omega) tt (Nat.le_trans (zOb _ _) (by omega)) fun x hx => hlen x (zNp x hx)⟩)))) (Nat.le_trans (zOb _ _) (by omega)) zNp
  ·exact hset 5 (zPh zTG l0) (by rw [hgr]; exact zVD hG (.inr (.inr (.inr (.inl ⟨rfl, zTd (by omega) ts (Nat.le_trans (zOb _ _) (by omega)) fun x hx => hlen x (zNp x hx)⟩))))) (Nat.le_trans (zOb _ _) (by omega)) zNp
 ·refine g1.all (fun i => uK l.length L (l.length + 1) i) (fun i hi x hx => hgc x (zNp x hx) i ((hgin i).2 ⟨zPN (D := (· < l.length)) hi, hi⟩)) (fun i hi => ⟨zPN (D := (· < l.length)) hi, fun j _ he => ?_⟩) i ((hgin i).1 hi).2
  obtain ⟨m, h1, h2⟩ := hi.2 j he
  exact ⟨m, h2, zNq h1⟩
 ·exact g1.mono g2 (fun i hi x hx => hi x (z2F s4 x hx)) i hi
theorem zWL {x y : List zO} (hx : x.length ≤ 40) (hy : y.length ≤ 40) (h : ∀ z ∈ x, z ∈ y) (i : Nat) (z : zO) (hz : x[i]? = some z) : zHS y z = some true := by
 rw [zY0 z (by omega), decide_eq_true (h z (vK hz))]
theorem zUo (hw : zED = some true) (y0 : List Int) : zE4 y0 = some true := by
 unfold zE4
 rw [z3d, zob]
 obtain ⟨⟨c, ok, k⟩, e1, hg⟩ := Ok.small (z1y y0)
 rw [e1, zob]
 cases ok with
 | false => simp [hw]
 | true =>
  obtain ⟨b, l, o, rfl, hl⟩ := hg rfl
  obtain ⟨x, ideal, eager, hS⟩ := z34 b l o hl
  have hlx := hS.lx
  have hli := hS.li
  have hle := hS.le
  simp only [Bool.not_true, zbf, if_false]
  rw [hS.g, zob, hS.i, zob, hS.e, zob]
  rw [if_neg (by simp)]
  have h1 : zV (zC1 (zRg b l o, true, k) (x, 0)) 2 = some (.inl ()) := by
   have hstep : ∀ q : Nat, 2 ≤ q → q ≤ 5 → zC1 (zRg b l o, true, k) (x, 0) (q : Int) = some (.inl ((q + 1 : Nat) : Int)) := fun q q1 q2 => by
    obtain ⟨ls, f1, f2, f3⟩ := hS.con (q : Int) (by omega) (by omega)
    unfold zC1
    rw [if_pos (decide_eq_true (by omega)), f1, zob, if_neg (by simp)]
    refine zQp (l := ls) (fun i y hy => ?_) (by unfold zF5; simp [len, uF q (by omega)])
    obtain ⟨y1, y2⟩ := f3 y (vK hy)
    unfold zF5
    simp only [wZ hy, if_true, wV hy, zob]
    refine zQp (l := x) (fun j z hz => ?_) (by unfold zF0; simp [len, uF i (show i + 1 < 9223372036854775808 by have := vQ hy; omega)])
    unfold zF0
    simp only [wZ hz, if_true, wV hz, zob, zWL hlx y1 y2 j z hz, Bool.not_true, zbf, if_false, wY hz (show x.length < 4294967296 by omega)]
   rw [show (2 : Int) = ((2 : Nat) : Int) from rfl, zTn (hstep 2 (by omega) (by omega)), zTn (hstep 3 (by omega) (by omega)), zTn (hstep 4 (by omega) (by omega)), zTn (hstep 5 (by omega) (by omega))]
   refine z1N ?_
   unfold zC1
   rfl
  have h2 : zV (zDM (x, 0) (ideal, 0)) 0 = some (.inl ()) := by
   refine zQp (l := x) (fun j z hz => ?_) (by unfold zDM; simp [len])
   unfold zDM
   simp only [wZ hz, if_true, wV hz, zob, zWL hlx hli hS.xi j z hz, Bool.not_true, zbf, if_false, wY hz (show x.length < 4294967296 by omega)]
  have h3 : zV (zDP (ideal, 0) (eager, 0)) 0 = some (.inl ()) := by
   refine zQp (l := ideal) (fun j z hz => ?_) (by unfold zDP; simp [len])
   unfold zDP
   simp only [wZ hz, if_true, wV hz, zob, zWL hli hle hS.ie j z hz, Bool.not_true, zbf, if_false, wY hz (show ideal.length < 4294967296 by omega)]
  rw [h1]
  show yZ _ _ = _
  rw [h2]
  show yZ _ _ = _
  rw [h3]
  show zED.bind _ = _
  rw [hw]
  rfl
end
section
def zBb (_ : Nat) (l : List wA) : Option (List wA) := if l.length < 4294967296 then some (zTY lt4 l) else none
def zBw (_ : Nat) (l : List qW) : Option (List qW) := if l.length < 4294967296 then some (zTY xO l) else none
def zEa (_ : Nat) (l : List Int) : Option (List Int) := if l.length < 4294967296 then some (zTY yV l) else none
theorem zFN (n : Nat) (l : List wA) : Le (zBb n l) (zA4 l) := ⟨fun r h => by
 unfold zBb at h
 split at h
 ·rename_i hl; rw [zXF hl, zNr ord4]; exact h
 ·cases h⟩
theorem zHO (n : Nat) (l : List qW) : Le (zBw n l) (zAp l) := ⟨fun r h => by
 unfold zBw at h
 split at h
 ·rename_i hl; rw [zZu hl, zNr z2g]; exact h
 ·cases h⟩
theorem zJZ (n : Nat) (l : List Int) : Le (zEa n l) (zBY l) := ⟨fun r h => by
 unfold zEa at h
 split at h
 ·rename_i hl; unfold zBY; rw [zUW hl]; exact h
 ·cases h⟩
def zB9 (_ : Nat) (l : List zO) : Option (List zO) := if l.length < 4294967296 then some (zTY vV l) else none
theorem zFP (n : Nat) (l : List zO) : Le (zB9 n l) (zAJ l) := ⟨fun r h => by
 unfold zB9 at h
 split at h
 ·rename_i hl; rw [zZN hl, zNr zTg]; exact h
 ·cases h⟩
end
end Go.GD
